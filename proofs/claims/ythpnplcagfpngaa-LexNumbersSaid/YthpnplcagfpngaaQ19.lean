-- Written by this session's pm.py, out of the translation. Not trusted: Lean checks it.
import Derived.Test.YthpnplcagfpngaaQ0
import Derived.Test.YthpnplcagfpngaaQ1
import Derived.Test.YthpnplcagfpngaaQ8
import Derived.Test.YthpnplcagfpngaaQ18
namespace Go.Proofs.Ythpnplcagfpngaa.Q
open Go.RowKit Go.Proofs.YthpnplcagfpngaaW.PrintWords Go.Proofs.YthpnplcagfpngaaW.PrintLast Go.Proofs.YthpnplcagfpngaaW.PrintMore
attribute [local go_sem] max2_int min2_int max_two min_two max_three min_three max_four min_four   -- for this text's walks alone
set_option linter.unusedVariables false
set_option linter.unusedSimpArgs false

attribute [local go_sem high] eqA38
/-! ### warplaw9_LexNumbers: function 6 -/
def warplaw9_LexNumbers.j0 : Nat → Int → List (S38) → Int → Int → Int → Bool → Option (Bool)
  | 0, _, _, _, _, _, _ => none
  | k + 1, x5, x7, x8, x11, x12, x50 => if x50 = true then ((warplaw1_Num.f x11).bind fun t299 => (if t299 = 3 then (if x12 = 2 then ((warplaw9_awake.f k).bind fun t300 => (some t300)) else (some false)) else (some false))) else ((warplaw1_Num.f x8).bind fun t301 => (if t301 = 0 then (if (x7.length : Int) = 1 then (if 0 < (x7.length : Int) then (if (((rd_T38 x7 0).f0) == 3 && (((rd_T38 x7 0).f1) == 1 && ((((rd_T38 x7 0).f2).toList) == ([] : List UInt8) && (((rd_T38 x7 0).f3) == x5)))) = true then ((warplaw1_Num.f x11).bind fun t303 => (if t303 = 3 then (if x12 = 2 then ((warplaw9_awake.f k).bind fun t304 => (some t304)) else (some false)) else (some false))) else (some false)) else (none)) else (some false)) else (some false)))
def warplaw9_LexNumbers.f (k : Nat) (a0 : Int) (a1 : Int) : Option (Bool) := (warpref9_Digits.f k (Int.tmod (wrap64 (a0)) 2147483648)).bind fun t283 => (if 1 + t283.size ≤ 9223372036854775807 then (if ((⟨#[32]⟩ : ByteArray) ++ t283).size + 1 ≤ 9223372036854775807 then ((lex_Lex.f k (((⟨#[32]⟩ : ByteArray) ++ t283) ++ (⟨#[32]⟩ : ByteArray))).bind fun bt284 => ((warpref9_Digits.f k (wrap64 (2147483648 + (Int.tmod (wrap64 (a0)) 2147483648)))).bind fun t289 => (if t283.size + 11 ≤ 9223372036854775807 then ((some (([(⟨#[48]⟩ : ByteArray) ++ t283, t289, t283 ++ (⟨#[57, 57, 57, 57, 57, 57, 57, 57, 57, 57, 57]⟩ : ByteArray)] : List ByteArray) : List ByteArray)).bind fun y290 => (if 0 ≤ (Int.tmod a1 3) then (if (Int.tmod a1 3) < (y290.length : Int) then (if 2 + (rdOf ByteArray.empty y290 (Int.tmod a1 3)).size ≤ 9223372036854775807 then ((lex_Lex.f k ((⟨#[120, 32]⟩ : ByteArray) ++ (rdOf ByteArray.empty y290 (Int.tmod a1 3)))).bind fun bt294 => (if (Int.tmod a1 3) = 2 then (warplaw9_LexNumbers.j0 k (Int.tmod (wrap64 (a0)) 2147483648) bt284.1 bt284.2.1 bt294.2.1 bt294.2.2 ((Int.tmod (wrap64 (a0)) 2147483648) == 0)) else (warplaw9_LexNumbers.j0 k (Int.tmod (wrap64 (a0)) 2147483648) bt284.1 bt284.2.1 bt294.2.1 bt294.2.2 false))) else (none)) else (none)) else (none))) else (none)))) else (none)) else (none))
theorem warplaw9_LexNumbers.mono_l : ∀ k, (∀ y0 y1 y2 y3 y4 y5, LeO (warplaw9_LexNumbers.j0 k y0 y1 y2 y3 y4 y5) (warplaw9_LexNumbers.j0 (k + 1) y0 y1 y2 y3 y4 y5))
  | 0 => fun _ _ _ _ _ _ r h => by simp [warplaw9_LexNumbers.j0] at h
  | k + 1 => by
    have ih0 := warplaw9_LexNumbers.mono_l k
    · intro y0 y1 y2 y3 y4 y5
      unfold warplaw9_LexNumbers.j0
      repeat' first
      | (with_reducible exact ih0 _ _ _ _ _ _)
      | (with_reducible exact lex_Lex.mono _ _)
      | (with_reducible exact warplaw9_awake.mono _)
      | (with_reducible exact warpref9_Digits.mono _ _)
      | (with_reducible exact LeO.refl _)
      | (with_reducible exact LeO.none _)
      | (with_reducible refine LeO.ite ?_ ?_)
      | (with_reducible refine LeO.bind ?_ (fun _ => ?_))
      | exact ih0 _ _ _ _ _ _
      | exact lex_Lex.mono _ _
      | exact warplaw9_awake.mono _
      | exact warpref9_Digits.mono _ _
      | exact LeO.none _
      | refine LeO.ite ?_ ?_
      | refine LeO.bind ?_ (fun _ => ?_)
theorem warplaw9_LexNumbers.mono : ∀ a0 a1 k, LeO (warplaw9_LexNumbers.f k a0 a1) (warplaw9_LexNumbers.f (k + 1) a0 a1) := by
  intro a0 a1 k
  have ih0 := warplaw9_LexNumbers.mono_l k
  unfold warplaw9_LexNumbers.f
  repeat' first
      | (with_reducible exact ih0 _ _ _ _ _ _)
      | (with_reducible exact lex_Lex.mono _ _)
      | (with_reducible exact warplaw9_awake.mono _)
      | (with_reducible exact warpref9_Digits.mono _ _)
      | (with_reducible exact LeO.refl _)
      | (with_reducible exact LeO.none _)
      | (with_reducible refine LeO.ite ?_ ?_)
      | (with_reducible refine LeO.bind ?_ (fun _ => ?_))
      | exact ih0 _ _ _ _ _ _
      | exact lex_Lex.mono _ _
      | exact warplaw9_awake.mono _
      | exact warpref9_Digits.mono _ _
      | exact LeO.none _
      | refine LeO.ite ?_ ?_
      | refine LeO.bind ?_ (fun _ => ?_)
set_option maxHeartbeats 8000000 in
set_option maxRecDepth 100000 in
theorem warplaw9_LexNumbers.calls (k : Nat) (a0 : Int) (a1 : Int) (r : Bool) (w : World) (h : warplaw9_LexNumbers.f k a0 a1 = some r) :
    Calls Try.prog 6 #[.int .u32 a0, .int .u8 a1] w fun e w' => e = .returned (.bool r) ∧ Below w.heap.size w w' := by
  have hu38 := Try.underlying38
  have HB := Aside0.mk (Below.refl w.heap.size w)
  have H : ((warpref9_Digits.f k (Int.tmod (wrap64 (a0)) 2147483648)).bind fun t283 => (if 1 + t283.size ≤ 9223372036854775807 then (if ((⟨#[32]⟩ : ByteArray) ++ t283).size + 1 ≤ 9223372036854775807 then ((lex_Lex.f k (((⟨#[32]⟩ : ByteArray) ++ t283) ++ (⟨#[32]⟩ : ByteArray))).bind fun bt284 => ((warpref9_Digits.f k (wrap64 (2147483648 + (Int.tmod (wrap64 (a0)) 2147483648)))).bind fun t289 => (if t283.size + 11 ≤ 9223372036854775807 then ((some (([(⟨#[48]⟩ : ByteArray) ++ t283, t289, t283 ++ (⟨#[57, 57, 57, 57, 57, 57, 57, 57, 57, 57, 57]⟩ : ByteArray)] : List ByteArray) : List ByteArray)).bind fun y290 => (if 0 ≤ (Int.tmod a1 3) then (if (Int.tmod a1 3) < (y290.length : Int) then (if 2 + (rdOf ByteArray.empty y290 (Int.tmod a1 3)).size ≤ 9223372036854775807 then ((lex_Lex.f k ((⟨#[120, 32]⟩ : ByteArray) ++ (rdOf ByteArray.empty y290 (Int.tmod a1 3)))).bind fun bt294 => (if (Int.tmod a1 3) = 2 then (warplaw9_LexNumbers.j0 k (Int.tmod (wrap64 (a0)) 2147483648) bt284.1 bt284.2.1 bt294.2.1 bt294.2.2 ((Int.tmod (wrap64 (a0)) 2147483648) == 0)) else (warplaw9_LexNumbers.j0 k (Int.tmod (wrap64 (a0)) 2147483648) bt284.1 bt284.2.1 bt294.2.1 bt294.2.2 false))) else (none)) else (none)) else (none))) else (none)))) else (none)) else (none))) = some r := h
  clear h
  replace H := Option.bind_eq_some_iff.mp H
  obtain ⟨t283, A30, H⟩ := H
  replace H : (if 1 + t283.size ≤ 9223372036854775807 then (if ((⟨#[32]⟩ : ByteArray) ++ t283).size + 1 ≤ 9223372036854775807 then ((lex_Lex.f k (((⟨#[32]⟩ : ByteArray) ++ t283) ++ (⟨#[32]⟩ : ByteArray))).bind fun bt284 => ((warpref9_Digits.f k (wrap64 (2147483648 + (Int.tmod (wrap64 (a0)) 2147483648)))).bind fun t289 => (if t283.size + 11 ≤ 9223372036854775807 then ((some (([(⟨#[48]⟩ : ByteArray) ++ t283, t289, t283 ++ (⟨#[57, 57, 57, 57, 57, 57, 57, 57, 57, 57, 57]⟩ : ByteArray)] : List ByteArray) : List ByteArray)).bind fun y290 => (if 0 ≤ (Int.tmod a1 3) then (if (Int.tmod a1 3) < (y290.length : Int) then (if 2 + (rdOf ByteArray.empty y290 (Int.tmod a1 3)).size ≤ 9223372036854775807 then ((lex_Lex.f k ((⟨#[120, 32]⟩ : ByteArray) ++ (rdOf ByteArray.empty y290 (Int.tmod a1 3)))).bind fun bt294 => (if (Int.tmod a1 3) = 2 then (warplaw9_LexNumbers.j0 k (Int.tmod (wrap64 (a0)) 2147483648) bt284.1 bt284.2.1 bt294.2.1 bt294.2.2 ((Int.tmod (wrap64 (a0)) 2147483648) == 0)) else (warplaw9_LexNumbers.j0 k (Int.tmod (wrap64 (a0)) 2147483648) bt284.1 bt284.2.1 bt294.2.1 bt294.2.2 false))) else (none)) else (none)) else (none))) else (none)))) else (none)) else (none)) = some r := H
  have A3 := Aside0.mk A30
  clear A30
  by_cases c4 : 1 + t283.size ≤ 9223372036854775807
  · rw [if_pos c4] at H
    have c4b0 := eq_true c4
    have c4b1 : decide (1 + t283.size ≤ 9223372036854775807) = true := decide_eq_true c4
    try have c4b2 : (9223372036854775807 < 1 + t283.size) = False := eq_false (Nat.not_lt.2 c4)
    by_cases c5 : ((⟨#[32]⟩ : ByteArray) ++ t283).size + 1 ≤ 9223372036854775807
    · rw [if_pos c5] at H
      have c5b0 := eq_true c5
      have c5b1 : decide (((⟨#[32]⟩ : ByteArray) ++ t283).size + 1 ≤ 9223372036854775807) = true := decide_eq_true c5
      try have c5b2 : (9223372036854775807 < ((⟨#[32]⟩ : ByteArray) ++ t283).size + 1) = False := eq_false (Nat.not_lt.2 c5)
      replace H := Option.bind_eq_some_iff.mp H
      obtain ⟨⟨t284, t285, t286⟩, A60, H⟩ := H
      replace H : ((warpref9_Digits.f k (wrap64 (2147483648 + (Int.tmod (wrap64 (a0)) 2147483648)))).bind fun t289 => (if t283.size + 11 ≤ 9223372036854775807 then ((some (([(⟨#[48]⟩ : ByteArray) ++ t283, t289, t283 ++ (⟨#[57, 57, 57, 57, 57, 57, 57, 57, 57, 57, 57]⟩ : ByteArray)] : List ByteArray) : List ByteArray)).bind fun y290 => (if 0 ≤ (Int.tmod a1 3) then (if (Int.tmod a1 3) < (y290.length : Int) then (if 2 + (rdOf ByteArray.empty y290 (Int.tmod a1 3)).size ≤ 9223372036854775807 then ((lex_Lex.f k ((⟨#[120, 32]⟩ : ByteArray) ++ (rdOf ByteArray.empty y290 (Int.tmod a1 3)))).bind fun bt294 => (if (Int.tmod a1 3) = 2 then (warplaw9_LexNumbers.j0 k (Int.tmod (wrap64 (a0)) 2147483648) t284 t285 bt294.2.1 bt294.2.2 ((Int.tmod (wrap64 (a0)) 2147483648) == 0)) else (warplaw9_LexNumbers.j0 k (Int.tmod (wrap64 (a0)) 2147483648) t284 t285 bt294.2.1 bt294.2.2 false))) else (none)) else (none)) else (none))) else (none))) = some r := H
      have A6 := Aside0.mk A60
      clear A60
      replace H := Option.bind_eq_some_iff.mp H
      obtain ⟨t289, A70, H⟩ := H
      replace H : (if t283.size + 11 ≤ 9223372036854775807 then ((some (([(⟨#[48]⟩ : ByteArray) ++ t283, t289, t283 ++ (⟨#[57, 57, 57, 57, 57, 57, 57, 57, 57, 57, 57]⟩ : ByteArray)] : List ByteArray) : List ByteArray)).bind fun y290 => (if 0 ≤ (Int.tmod a1 3) then (if (Int.tmod a1 3) < (y290.length : Int) then (if 2 + (rdOf ByteArray.empty y290 (Int.tmod a1 3)).size ≤ 9223372036854775807 then ((lex_Lex.f k ((⟨#[120, 32]⟩ : ByteArray) ++ (rdOf ByteArray.empty y290 (Int.tmod a1 3)))).bind fun bt294 => (if (Int.tmod a1 3) = 2 then (warplaw9_LexNumbers.j0 k (Int.tmod (wrap64 (a0)) 2147483648) t284 t285 bt294.2.1 bt294.2.2 ((Int.tmod (wrap64 (a0)) 2147483648) == 0)) else (warplaw9_LexNumbers.j0 k (Int.tmod (wrap64 (a0)) 2147483648) t284 t285 bt294.2.1 bt294.2.2 false))) else (none)) else (none)) else (none))) else (none)) = some r := H
      have A7 := Aside0.mk A70
      clear A70
      by_cases c8 : t283.size + 11 ≤ 9223372036854775807
      · rw [if_pos c8] at H
        have c8b0 := eq_true c8
        have c8b1 : decide (t283.size + 11 ≤ 9223372036854775807) = true := decide_eq_true c8
        try have c8b2 : (9223372036854775807 < t283.size + 11) = False := eq_false (Nat.not_lt.2 c8)
        obtain ⟨y290, hy290⟩ : ∃ y_ : List ByteArray, y_ = (([(⟨#[48]⟩ : ByteArray) ++ t283, t289, t283 ++ (⟨#[57, 57, 57, 57, 57, 57, 57, 57, 57, 57, 57]⟩ : ByteArray)] : List ByteArray)) := ⟨_, rfl⟩
        replace H : (if 0 ≤ (Int.tmod a1 3) then (if (Int.tmod a1 3) < (y290.length : Int) then (if 2 + (rdOf ByteArray.empty y290 (Int.tmod a1 3)).size ≤ 9223372036854775807 then ((lex_Lex.f k ((⟨#[120, 32]⟩ : ByteArray) ++ (rdOf ByteArray.empty y290 (Int.tmod a1 3)))).bind fun bt294 => (if (Int.tmod a1 3) = 2 then (warplaw9_LexNumbers.j0 k (Int.tmod (wrap64 (a0)) 2147483648) t284 t285 bt294.2.1 bt294.2.2 ((Int.tmod (wrap64 (a0)) 2147483648) == 0)) else (warplaw9_LexNumbers.j0 k (Int.tmod (wrap64 (a0)) 2147483648) t284 t285 bt294.2.1 bt294.2.2 false))) else (none)) else (none)) else (none)) = some r := by first | (rw [hy290]; with_reducible exact H) | (have H2_ := (Option.bind_some _ _).symm.trans H; rw [hy290]; with_reducible exact H2_) | (have H2_ := (Option.bind_some _ _).symm.trans H; with_reducible exact H2_) | with_reducible exact H | (rw [hy290]; exact H) | exact H
        have Ny290 := Aside0.mk hy290
        clear hy290
        obtain ⟨ji9, hji9⟩ : ∃ j_ : Int, (Int.tmod a1 3) = j_ := ⟨_, rfl⟩
        replace H : (if 0 ≤ (ji9) then (if (ji9) < (y290.length : Int) then (if 2 + (rdOf ByteArray.empty y290 (ji9)).size ≤ 9223372036854775807 then ((lex_Lex.f k ((⟨#[120, 32]⟩ : ByteArray) ++ (rdOf ByteArray.empty y290 (ji9)))).bind fun bt294 => (if (ji9) = 2 then (warplaw9_LexNumbers.j0 k (Int.tmod (wrap64 (a0)) 2147483648) t284 t285 bt294.2.1 bt294.2.2 ((Int.tmod (wrap64 (a0)) 2147483648) == 0)) else (warplaw9_LexNumbers.j0 k (Int.tmod (wrap64 (a0)) 2147483648) t284 t285 bt294.2.1 bt294.2.2 false))) else (none)) else (none)) else (none)) = some r := by first | (rw [hji9] at H; exact H) | (simp only [hji9] at H ⊢; exact H)
        (try rw [hji9] at A3)
        (try rw [hji9] at A6)
        (try rw [hji9] at A7)
        by_cases c10 : 0 ≤ (ji9)
        · rw [if_pos c10] at H
          have c10b0 : decide (0 ≤ (ji9)) = true := decide_eq_true c10
          clear c10
          by_cases c11 : (ji9) < (y290.length : Int)
          · rw [if_pos c11] at H
            have c11b0 : decide ((ji9) < (y290.length : Int)) = true := decide_eq_true c11
            clear c11
            by_cases c12 : 2 + (rdOf ByteArray.empty y290 (ji9)).size ≤ 9223372036854775807
            · rw [if_pos c12] at H
              have c12b0 := eq_true c12
              have c12b1 : decide (2 + (rdOf ByteArray.empty y290 (ji9)).size ≤ 9223372036854775807) = true := decide_eq_true c12
              try have c12b2 : (9223372036854775807 < 2 + (rdOf ByteArray.empty y290 (ji9)).size) = False := eq_false (Nat.not_lt.2 c12)
              replace H := Option.bind_eq_some_iff.mp H
              obtain ⟨⟨t294, t295, t296⟩, A130, H⟩ := H
              replace H : (if (ji9) = 2 then (warplaw9_LexNumbers.j0 k (Int.tmod (wrap64 (a0)) 2147483648) t284 t285 t295 t296 ((Int.tmod (wrap64 (a0)) 2147483648) == 0)) else (warplaw9_LexNumbers.j0 k (Int.tmod (wrap64 (a0)) 2147483648) t284 t285 t295 t296 false)) = some r := H
              have A13 := Aside0.mk A130
              clear A130
              have HC14 := Aside0.mk H
              clear H
              go_enter Try.func6, Try.ntmps6
              go_upto_region 5 with (first | ((with_reducible refine gate_callee (f := 19) rfl ?_); refine goesL_ (some 17) rfl rfl Try.func19 (by kernel_rfl) rfl #[.int .i64 (Int.tmod (wrap64 (a0)) 2147483648)] rfl (by (try simp only [List.map_toArray, List.map_cons, List.map_nil]); first | done | rfl | (simp only [List.length_drop, List.length_take]; rfl)) ?_; (with_reducible refine (warpref9_Digits.calls k (Int.tmod (wrap64 (a0)) 2147483648) t283 _ A3.out).mono ?_); rintro e w15 ⟨rfl, hb⟩; refine ⟨_, rfl, ?_⟩; have n0_ := Aside0.mk (below_step (by repeat (first | (with_reducible first | exact HB.out | apply below_alloc | apply pw_below_drewN | apply below_drew1) | exact HB.out)) hb); clear HB; have HB := n0_; clear n0_; (try clear hb); (try clear hb2); (try clear hk); (try clear hi)) | ((with_reducible refine gate_callee (f := 10) rfl ?_); refine goesL_ (some 22) rfl rfl Try.func10 (by kernel_rfl) rfl #[.string (((⟨#[32]⟩ : ByteArray) ++ t283) ++ (⟨#[32]⟩ : ByteArray))] rfl (by (try simp only [List.map_toArray, List.map_cons, List.map_nil]); first | done | rfl | (simp only [List.length_drop, List.length_take]; rfl)) ?_; (with_reducible refine (lex_Lex.calls k (((⟨#[32]⟩ : ByteArray) ++ t283) ++ (⟨#[32]⟩ : ByteArray)) t284 t285 t286 _ A6.out).mono ?_); rintro e w16 ⟨v287, rfl, ho0, hb⟩; refine ⟨_, rfl, ?_⟩; have n0_ := Aside0.mk (Kd.R_lower ho0 (below_size (by repeat (first | (with_reducible first | exact HB.out | apply below_alloc | apply pw_below_drewN | apply below_drew1) | exact HB.out)))); have n1_ := Aside0.mk (below_step (by repeat (first | (with_reducible first | exact HB.out | apply below_alloc | apply pw_below_drewN | apply below_drew1) | exact HB.out)) hb); clear HB; have HO288 := n0_; have HB := n1_; clear n0_ n1_; (try clear hb); (try clear hb2); (try clear hk); (try clear hi); (try clear ho0)) | ((with_reducible refine gate_callee (f := 19) rfl ?_); refine goesL_ (some 31) rfl rfl Try.func19 (by kernel_rfl) rfl #[.int .i64 (wrap64 (2147483648 + (Int.tmod (wrap64 (a0)) 2147483648)))] rfl (by (try simp only [List.map_toArray, List.map_cons, List.map_nil]); first | done | rfl | (simp only [List.length_drop, List.length_take]; rfl)) ?_; (with_reducible refine (warpref9_Digits.calls k (wrap64 (2147483648 + (Int.tmod (wrap64 (a0)) 2147483648))) t289 _ A7.out).mono ?_); rintro e w17 ⟨rfl, hb⟩; refine ⟨_, rfl, ?_⟩; have n0_ := Aside0.mk (Kd.R_below (by (with_reducible repeat (first | apply Kd.R_alloc | apply Kd.R_drewN | apply Kd.R_drew)); exact HO288.out) hb); have n1_ := Aside0.mk (below_step (by repeat (first | (with_reducible first | exact HB.out | apply below_alloc | apply pw_below_drewN | apply below_drew1) | exact HB.out)) hb); clear HO288; clear HB; have HO288 := n0_; have HB := n1_; clear n0_ n1_; (try clear hb); (try clear hb2); (try clear hk); (try clear hi)) | ((with_reducible refine gate_dst (N := 34) rfl ?_); (try (refine gate_guard (by rfl) ?_; dsimp only)); refine Kd.R_lit Kd.string _ 9 ?hg (N := 34) ?hd (xs := ([(⟨#[48]⟩ : ByteArray) ++ t283, t289, t283 ++ (⟨#[57, 57, 57, 57, 57, 57, 57, 57, 57, 57, 57]⟩ : ByteArray)] : List ByteArray)) (inner := [.string ((⟨#[48]⟩ : ByteArray) ++ t283), .string t289, .string (t283 ++ (⟨#[57, 57, 57, 57, 57, 57, 57, 57, 57, 57, 57]⟩ : ByteArray))]) (ok := fun _ => True) (okp := fun _ => True) ?hr ?hp (fun _ hk => hk) trivial (Below.refl _ _) (Nat.le_refl _) (by simp) ?_; (case hd => rfl); (case hg => rfl); (case hr => first | (go_simp; done) | (go_simp; rfl)); (case hp => exact (Reps.one (show Kd.M Kd.string _ _ _ ((⟨#[48]⟩ : ByteArray) ++ t283) [.string ((⟨#[48]⟩ : ByteArray) ++ t283)] from rfl) (Reps.one (show Kd.M Kd.string _ _ _ t289 [.string t289] from rfl) (Reps.one (show Kd.M Kd.string _ _ _ (t283 ++ (⟨#[57, 57, 57, 57, 57, 57, 57, 57, 57, 57, 57]⟩ : ByteArray)) [.string (t283 ++ (⟨#[57, 57, 57, 57, 57, 57, 57, 57, 57, 57, 57]⟩ : ByteArray))] from rfl) (Reps.none _ _))))); intro v291 w18 ho19 hb hg_ hnew_; clear hg_ hnew_; (first | rw [← Ny290.out] at ho19 | (simp only [Int.reduceToNat] at ho19; rw [← Ny290.out] at ho19)); have n0_ := Aside0.mk (Kd.R_below (by (with_reducible repeat (first | apply Kd.R_alloc | apply Kd.R_drewN | apply Kd.R_drew)); exact HO288.out) hb); have n1_ := Aside0.mk (Kd.R_lower ho19 (below_size (by repeat (first | (with_reducible first | exact HB.out | apply below_alloc | apply pw_below_drewN | apply below_drew1) | exact HB.out)))); have n2_ := Aside0.mk (below_step (by repeat (first | (with_reducible first | exact HB.out | apply below_alloc | apply pw_below_drewN | apply below_drew1) | exact HB.out)) hb); clear HO288; clear HB; have HO288 := n0_; have HO292 := n1_; have HB := n2_; clear n0_ n1_ n2_; clear hb ho19; obtain ⟨Ao20, co20, eo20⟩ := Kd.R_slice HO292.out; subst eo20; have p293 : 0 ≤ ((ji9) : Int) := of_decide_eq_true (by first | (with_reducible assumption) | assumption); have q293 : (ji9) < (y290.length : Int) := of_decide_eq_true (by first | (with_reducible assumption) | assumption); obtain ⟨ad293, e293, hx293_0⟩ := Kd.at_string (Kd.R_reads' HO292.out).2.2 (ji9) p293 q293; cases e293; replace p293 := eq_true p293; replace q293 := eq_true q293) | ((with_reducible refine gate_callee (f := 10) rfl ?_); refine goesL_ (some 40) rfl rfl Try.func10 (by kernel_rfl) rfl #[.string ((⟨#[120, 32]⟩ : ByteArray) ++ (rdOf ByteArray.empty y290 (ji9)))] rfl (by (try simp only [List.map_toArray, List.map_cons, List.map_nil]); first | done | (simp only [hji9]; rfl) | rfl | (simp only [List.length_drop, List.length_take]; rfl)) ?_; (with_reducible refine (lex_Lex.calls k ((⟨#[120, 32]⟩ : ByteArray) ++ (rdOf ByteArray.empty y290 (ji9))) t294 t295 t296 _ A13.out).mono ?_); rintro e w21 ⟨v297, rfl, ho0, hb⟩; refine ⟨_, rfl, ?_⟩; have n0_ := Aside0.mk (Kd.R_elder' (by (with_reducible repeat (first | apply Kd.R_alloc | apply Kd.R_drewN | apply Kd.R_drew)); exact HO288.out) (Kd.R_base ho0) hb); have n1_ := Aside0.mk (Kd.R_below (by (with_reducible repeat (first | apply Kd.R_alloc | apply Kd.R_drewN | apply Kd.R_drew)); exact HO292.out) hb); have n2_ := Aside0.mk (Kd.R_lower (Kd.R_new' ho0 (Kd.R_lt (by (with_reducible repeat (first | apply Kd.R_alloc | apply Kd.R_drewN | apply Kd.R_drew)); exact HO288.out))) (below_size (by repeat (first | (with_reducible first | exact HB.out | apply below_alloc | apply pw_below_drewN | apply below_drew1) | exact HB.out)))); have n3_ := Aside0.mk (below_step (by repeat (first | (with_reducible first | exact HB.out | apply below_alloc | apply pw_below_drewN | apply below_drew1) | exact HB.out)) hb); clear HO288; clear HO292; clear HB; have HO288 := n0_; have HO292 := n1_; have HO298 := n2_; have HB := n3_; clear n0_ n1_ n2_ n3_; (try clear hb); (try clear hb2); (try clear hk); (try clear hi); (try clear ho0)))
              (try simp only [Act.put, List.setIfInBounds_toArray, List.set_cons_zero, List.set_cons_succ])
              go_cut [50] (fun v50 wc => ∃ (kq : Nat) (x50_13 : Bool), v50 = .bool x50_13 ∧ Aside0 (warplaw9_LexNumbers.j0 kq (Int.tmod (wrap64 (a0)) 2147483648) t284 t285 t295 t296 x50_13 = some r) ∧ Aside0 (kq ≤ k) ∧ Aside0 (Kd.R k38 38 wc w.heap.size (fun _ => True) v287 t284) ∧ Aside0 (Below w.heap.size w wc))
              case first =>
                have H := HC14.out
                clear HC14
                by_cases c22 : (ji9) = 2
                · rw [if_pos c22] at H
                  have c22b0 : ((ji9) == 2) = true := beq_iff_eq.mpr c22
                  have c22b1 : ((ji9) != 2) = false := bne_eq_false_iff_eq.mpr c22
                  clear c22
                  (first | rw [c22b0] | (simp only [i64_w, i32_w]; rw [c22b0]) | skip)
                  have H' := Aside0.mk H
                  clear H
                  go_wp2
                  go_meet
                  case rel => exact ⟨_, (((Int.tmod (wrap64 (a0)) 2147483648) == 0)), (by first | rfl | (simp; done) | (simp [*]; done)), H', ⟨by first | omega | exact Nat.le_refl _⟩, ⟨by (with_reducible repeat (first | apply Kd.R_alloc | apply Kd.R_drewN | apply Kd.R_drew)); exact Kd.R_mono HO288.out (fun _ hk => trivial)⟩, ⟨by repeat (first | (with_reducible first | exact HB.out | apply below_alloc | apply pw_below_drewN | apply below_drew1) | exact HB.out)⟩⟩
                · rw [if_neg c22] at H
                  have c22b0 : ((ji9) == 2) = false := beq_eq_false_iff_ne.mpr c22
                  have c22b1 : ((ji9) != 2) = true := bne_iff_ne.mpr c22
                  (first | rw [c22b0] | (simp only [i64_w, i32_w]; rw [c22b0]) | skip)
                  have H' := Aside0.mk H
                  clear H
                  go_wp2
                  go_meet
                  case rel => exact ⟨_, (false), (by first | rfl | (simp; done) | (simp [*]; done)), H', ⟨by first | omega | exact Nat.le_refl _⟩, ⟨by (with_reducible repeat (first | apply Kd.R_alloc | apply Kd.R_drewN | apply Kd.R_drew)); exact Kd.R_mono HO288.out (fun _ hk => trivial)⟩, ⟨by repeat (first | (with_reducible first | exact HB.out | apply below_alloc | apply pw_below_drewN | apply below_drew1) | exact HB.out)⟩⟩
              case rest =>
                clear HC14
                try clear c1
                try clear c2
                try clear p2
                try clear q2
                try clear hx2
                try clear c4
                try clear c4b0
                try clear c4b1
                try clear c4b2
                try clear c5
                try clear c5b0
                try clear c5b1
                try clear c5b2
                try clear c6
                try clear p6
                try clear c8
                try clear c8b0
                try clear c8b1
                try clear c8b2
                try clear c10
                try clear c10b0
                try clear c11
                try clear c11b0
                try clear c12
                try clear c12b0
                try clear c12b1
                try clear c12b2
                try clear c19
                try clear c22
                try clear c22b0
                try clear c22b1
                try clear hx293_0
                try clear p293
                try clear q293
                obtain ⟨kq, x50_13, rfl, HA, HJ13, HO_7, HB⟩ := hcut
                cases kq with
                | zero => exact absurd HA.out (by simp [warplaw9_LexNumbers.j0])
                | succ kj13 =>
                  have H := HA.out
                  clear HA
                  simp only [warplaw9_LexNumbers.j0] at H
                  by_cases c23 : x50_13 = true
                  · subst c23
                    have H1 : ((warplaw1_Num.f t295).bind fun t299 => (if t299 = 3 then (if t296 = 2 then ((warplaw9_awake.f kj13).bind fun t300 => (some t300)) else (some false)) else (some false))) = some r := by rw [if_pos rfl] at H; exact H
                    clear H
                    have H := H1
                    clear H1
                    replace H := Option.bind_eq_some_iff.mp H
                    obtain ⟨t299, A240, H⟩ := H
                    replace H : (if t299 = 3 then (if t296 = 2 then ((warplaw9_awake.f kj13).bind fun t300 => (some t300)) else (some false)) else (some false)) = some r := H
                    have A24 := Aside0.mk A240
                    clear A240
                    by_cases c25 : t299 = 3
                    · rw [if_pos c25] at H
                      have c25b0 : (t299 == 3) = true := beq_iff_eq.mpr c25
                      have c25b1 : (t299 != 3) = false := bne_eq_false_iff_eq.mpr c25
                      clear c25
                      by_cases c26 : t296 = 2
                      · rw [if_pos c26] at H
                        have c26b0 : (t296 == 2) = true := beq_iff_eq.mpr c26
                        have c26b1 : (t296 != 2) = false := bne_eq_false_iff_eq.mpr c26
                        clear c26
                        replace H := Option.bind_eq_some_iff.mp H
                        obtain ⟨t300, A270, H⟩ := H
                        replace H : (some t300) = some r := H
                        have A27 := Aside0.mk A270
                        clear A270
                        obtain rfl := Option.some.inj H
                        go_wp2_with (first | ((with_reducible refine gate_callee (f := 13) rfl ?_); refine goesL_ (some 52) rfl rfl Try.func13 (by kernel_rfl) rfl #[.int .i64 t295] rfl (by (try simp only [List.map_toArray, List.map_cons, List.map_nil]); first | done | rfl | (simp only [List.length_drop, List.length_take]; rfl)) ?_; (with_reducible refine (warplaw1_Num.calls t295 t299 _ A24.out).mono ?_); rintro e w' ⟨rfl, ⟨nd, rfl⟩⟩; refine ⟨_, rfl, ?_⟩) | (go_at_call 9; (with_reducible refine (warplaw9_awake.calls kj13  t300 _ A27.out).mono ?_); rintro e w28 ⟨rfl, hb⟩; have n0_ := Aside0.mk (Kd.R_below (by (with_reducible repeat (first | apply Kd.R_alloc | apply Kd.R_drewN | apply Kd.R_drew)); exact HO_7.out) hb); have n1_ := Aside0.mk (below_step (by repeat (first | (with_reducible first | exact HB.out | apply below_alloc | apply pw_below_drewN | apply below_drew1) | exact HB.out)) hb); clear HO_7; clear HB; have HO_7 := n0_; have HB := n1_; clear n0_ n1_; (try clear hb); (try clear hb2); (try clear hk); (try clear hi)))
                        go_ret
                        exact ⟨by first | rfl | (simp [errW_none, errW_some] <;> rfl) | (simp only [← hji9]; first | rfl | (simp [errW_none, errW_some] <;> rfl)) | (simp [*, errW_none, errW_some] <;> rfl), by repeat (first | (with_reducible first | exact HB.out | apply below_alloc | apply pw_below_drewN | apply below_drew1) | exact HB.out)⟩
                      · rw [if_neg c26] at H
                        have c26b0 : (t296 == 2) = false := beq_eq_false_iff_ne.mpr c26
                        have c26b1 : (t296 != 2) = true := bne_iff_ne.mpr c26
                        obtain rfl := Option.some.inj H
                        go_wp2_with (first | ((with_reducible refine gate_callee (f := 13) rfl ?_); refine goesL_ (some 52) rfl rfl Try.func13 (by kernel_rfl) rfl #[.int .i64 t295] rfl (by (try simp only [List.map_toArray, List.map_cons, List.map_nil]); first | done | rfl | (simp only [List.length_drop, List.length_take]; rfl)) ?_; (with_reducible refine (warplaw1_Num.calls t295 t299 _ A24.out).mono ?_); rintro e w' ⟨rfl, ⟨nd, rfl⟩⟩; refine ⟨_, rfl, ?_⟩))
                        go_ret
                        exact ⟨by first | rfl | (simp [errW_none, errW_some] <;> rfl) | (simp only [← hji9]; first | rfl | (simp [errW_none, errW_some] <;> rfl)) | (simp [*, errW_none, errW_some] <;> rfl), by repeat (first | (with_reducible first | exact HB.out | apply below_alloc | apply pw_below_drewN | apply below_drew1) | exact HB.out)⟩
                    · rw [if_neg c25] at H
                      have c25b0 : (t299 == 3) = false := beq_eq_false_iff_ne.mpr c25
                      have c25b1 : (t299 != 3) = true := bne_iff_ne.mpr c25
                      obtain rfl := Option.some.inj H
                      go_wp2_with (first | ((with_reducible refine gate_callee (f := 13) rfl ?_); refine goesL_ (some 52) rfl rfl Try.func13 (by kernel_rfl) rfl #[.int .i64 t295] rfl (by (try simp only [List.map_toArray, List.map_cons, List.map_nil]); first | done | rfl | (simp only [List.length_drop, List.length_take]; rfl)) ?_; (with_reducible refine (warplaw1_Num.calls t295 t299 _ A24.out).mono ?_); rintro e w' ⟨rfl, ⟨nd, rfl⟩⟩; refine ⟨_, rfl, ?_⟩))
                      go_ret
                      exact ⟨by first | rfl | (simp [errW_none, errW_some] <;> rfl) | (simp only [← hji9]; first | rfl | (simp [errW_none, errW_some] <;> rfl)) | (simp [*, errW_none, errW_some] <;> rfl), by repeat (first | (with_reducible first | exact HB.out | apply below_alloc | apply pw_below_drewN | apply below_drew1) | exact HB.out)⟩
                  · replace c23 := Bool.eq_false_iff.mpr c23
                    subst c23
                    have H1 : ((warplaw1_Num.f t285).bind fun t301 => (if t301 = 0 then (if (t284.length : Int) = 1 then (if 0 < (t284.length : Int) then (if (((rd_T38 t284 0).f0) == 3 && (((rd_T38 t284 0).f1) == 1 && ((((rd_T38 t284 0).f2).toList) == ([] : List UInt8) && (((rd_T38 t284 0).f3) == (Int.tmod (wrap64 (a0)) 2147483648))))) = true then ((warplaw1_Num.f t295).bind fun t303 => (if t303 = 3 then (if t296 = 2 then ((warplaw9_awake.f kj13).bind fun t304 => (some t304)) else (some false)) else (some false))) else (some false)) else (none)) else (some false)) else (some false))) = some r := by rw [if_neg (show ¬ (false = true) by decide)] at H; exact H
                    clear H
                    have H := H1
                    clear H1
                    replace H := Option.bind_eq_some_iff.mp H
                    obtain ⟨t301, A290, H⟩ := H
                    replace H : (if t301 = 0 then (if (t284.length : Int) = 1 then (if 0 < (t284.length : Int) then (if (((rd_T38 t284 0).f0) == 3 && (((rd_T38 t284 0).f1) == 1 && ((((rd_T38 t284 0).f2).toList) == ([] : List UInt8) && (((rd_T38 t284 0).f3) == (Int.tmod (wrap64 (a0)) 2147483648))))) = true then ((warplaw1_Num.f t295).bind fun t303 => (if t303 = 3 then (if t296 = 2 then ((warplaw9_awake.f kj13).bind fun t304 => (some t304)) else (some false)) else (some false))) else (some false)) else (none)) else (some false)) else (some false)) = some r := H
                    have A29 := Aside0.mk A290
                    clear A290
                    by_cases c30 : t301 = 0
                    · rw [if_pos c30] at H
                      have c30b0 : (t301 == 0) = true := beq_iff_eq.mpr c30
                      have c30b1 : (t301 != 0) = false := bne_eq_false_iff_eq.mpr c30
                      clear c30
                      by_cases c31 : (t284.length : Int) = 1
                      · rw [if_pos c31] at H
                        have c31b0 : ((t284.length : Int) == 1) = true := beq_iff_eq.mpr c31
                        have c31b1 : ((t284.length : Int) != 1) = false := bne_eq_false_iff_eq.mpr c31
                        clear c31
                        by_cases c32 : 0 < (t284.length : Int)
                        · rw [if_pos c32] at H
                          have c32b0 : decide (0 < (t284.length : Int)) = true := decide_eq_true c32
                          have c32b1 : decide (0 < t284.length) = true := decide_eq_true (by omega)
                          clear c32
                          by_cases c33 : (((rd_T38 t284 0).f0) == 3 && (((rd_T38 t284 0).f1) == 1 && ((((rd_T38 t284 0).f2).toList) == ([] : List UInt8) && (((rd_T38 t284 0).f3) == (Int.tmod (wrap64 (a0)) 2147483648))))) = true
                          · rw [if_pos c33] at H
                            (try (have c33b0 : (((rd_T38 t284 0).f0) = 3 ∧ (((rd_T38 t284 0).f1) = 1 ∧ ((((rd_T38 t284 0).f2).toList) = ([] : List UInt8) ∧ (((rd_T38 t284 0).f3) = (Int.tmod (wrap64 (a0)) 2147483648))))) := by simpa using c33))
                            have c33b1 : (((rd_T38 t284 0).f0) == 3 && (((rd_T38 t284 0).f1) == 1 && ((((rd_T38 t284 0).f2).toList) == ([] : List UInt8) && (((rd_T38 t284 0).f3) == (Int.tmod (wrap64 (a0)) 2147483648))))) = true := c33
                            (try (have c33b2 : decide (((rd_T38 t284 0).f0) = 3 && (((rd_T38 t284 0).f1) == 1 && ((((rd_T38 t284 0).f2).toList) == ([] : List UInt8) && (((rd_T38 t284 0).f3) == (Int.tmod (wrap64 (a0)) 2147483648))))) = true := by simpa using c33))
                            (try (have c33b3 : (((rd_T38 t284 0).f0) == 3 && (((rd_T38 t284 0).f1) == 1 && ((((rd_T38 t284 0).f2).toList) == ([] : List UInt8) && (((rd_T38 t284 0).f3) == (Int.tmod (wrap64 (a0)) 2147483648))))) = true := by simpa using c33))
                            clear c33
                            replace H := Option.bind_eq_some_iff.mp H
                            obtain ⟨t303, A340, H⟩ := H
                            replace H : (if t303 = 3 then (if t296 = 2 then ((warplaw9_awake.f kj13).bind fun t304 => (some t304)) else (some false)) else (some false)) = some r := H
                            have A34 := Aside0.mk A340
                            clear A340
                            by_cases c35 : t303 = 3
                            · rw [if_pos c35] at H
                              have c35b0 : (t303 == 3) = true := beq_iff_eq.mpr c35
                              have c35b1 : (t303 != 3) = false := bne_eq_false_iff_eq.mpr c35
                              clear c35
                              by_cases c36 : t296 = 2
                              · rw [if_pos c36] at H
                                have c36b0 : (t296 == 2) = true := beq_iff_eq.mpr c36
                                have c36b1 : (t296 != 2) = false := bne_eq_false_iff_eq.mpr c36
                                clear c36
                                replace H := Option.bind_eq_some_iff.mp H
                                obtain ⟨t304, A370, H⟩ := H
                                replace H : (some t304) = some r := H
                                have A37 := Aside0.mk A370
                                clear A370
                                obtain rfl := Option.some.inj H
                                go_wp2_with (first | ((with_reducible refine gate_callee (f := 13) rfl ?_); refine goesL_ (some 62) rfl rfl Try.func13 (by kernel_rfl) rfl #[.int .i64 t285] rfl (by (try simp only [List.map_toArray, List.map_cons, List.map_nil]); first | done | rfl | (simp only [List.length_drop, List.length_take]; rfl)) ?_; (with_reducible refine (warplaw1_Num.calls t285 t301 _ A29.out).mono ?_); rintro e w' ⟨rfl, ⟨nd, rfl⟩⟩; refine ⟨_, rfl, ?_⟩; obtain ⟨Ao38, co38, eo38⟩ := Kd.R_slice HO_7.out; subst eo38; have p302 : 0 ≤ (0 : Int) := (by omega); have q302 : 0 < (t284.length : Int) := of_decide_eq_true (by first | (with_reducible assumption) | assumption); obtain ⟨ad302, e302, hx302_0, hx302_1, hx302_2, hx302_3⟩ := at_T38 (Kd.R_reads' HO_7.out).2.2 0 p302 q302; cases e302; have qi302 : (0 < t284.length) = True := eq_true (by omega); (try rw [show ((0 : Int)).toNat = 0 from rfl] at hx302_0); (try rw [show 0 * 4 = 0 from rfl] at hx302_0); (try rw [Addr.add_zero'] at hx302_0); (try rw [show ((0 : Int)).toNat = 0 from rfl] at hx302_1); (try rw [show 0 * 4 = 0 from rfl] at hx302_1); (try rw [Addr.add_zero'] at hx302_1); (try rw [show ((0 : Int)).toNat = 0 from rfl] at hx302_2); (try rw [show 0 * 4 = 0 from rfl] at hx302_2); (try rw [Addr.add_zero'] at hx302_2); (try rw [show ((0 : Int)).toNat = 0 from rfl] at hx302_3); (try rw [show 0 * 4 = 0 from rfl] at hx302_3); (try rw [Addr.add_zero'] at hx302_3); replace p302 := eq_true p302; replace q302 := eq_true q302) | (go_at_call 13; (with_reducible refine (warplaw1_Num.calls t295 t303 _ A34.out).mono ?_); rintro e w' ⟨rfl, ⟨nd, rfl⟩⟩) | (go_at_call 9; (with_reducible refine (warplaw9_awake.calls kj13  t304 _ A37.out).mono ?_); rintro e w39 ⟨rfl, hb⟩; have n0_ := Aside0.mk (Kd.R_below (by (with_reducible repeat (first | apply Kd.R_alloc | apply Kd.R_drewN | apply Kd.R_drew)); exact HO_7.out) hb); have n1_ := Aside0.mk (below_step (by repeat (first | (with_reducible first | exact HB.out | apply below_alloc | apply pw_below_drewN | apply below_drew1) | exact HB.out)) hb); clear HO_7; clear HB; have HO_7 := n0_; have HB := n1_; clear n0_ n1_; (try clear hb); (try clear hb2); (try clear hk); (try clear hi)))
                                go_ret
                                exact ⟨by first | rfl | (simp [errW_none, errW_some] <;> rfl) | (simp only [← hji9]; first | rfl | (simp [errW_none, errW_some] <;> rfl)) | (simp [*, errW_none, errW_some] <;> rfl), by repeat (first | (with_reducible first | exact HB.out | apply below_alloc | apply pw_below_drewN | apply below_drew1) | exact HB.out)⟩
                              · rw [if_neg c36] at H
                                have c36b0 : (t296 == 2) = false := beq_eq_false_iff_ne.mpr c36
                                have c36b1 : (t296 != 2) = true := bne_iff_ne.mpr c36
                                obtain rfl := Option.some.inj H
                                go_wp2_with (first | ((with_reducible refine gate_callee (f := 13) rfl ?_); refine goesL_ (some 62) rfl rfl Try.func13 (by kernel_rfl) rfl #[.int .i64 t285] rfl (by (try simp only [List.map_toArray, List.map_cons, List.map_nil]); first | done | rfl | (simp only [List.length_drop, List.length_take]; rfl)) ?_; (with_reducible refine (warplaw1_Num.calls t285 t301 _ A29.out).mono ?_); rintro e w' ⟨rfl, ⟨nd, rfl⟩⟩; refine ⟨_, rfl, ?_⟩; obtain ⟨Ao40, co40, eo40⟩ := Kd.R_slice HO_7.out; subst eo40; have p302 : 0 ≤ (0 : Int) := (by omega); have q302 : 0 < (t284.length : Int) := of_decide_eq_true (by first | (with_reducible assumption) | assumption); obtain ⟨ad302, e302, hx302_0, hx302_1, hx302_2, hx302_3⟩ := at_T38 (Kd.R_reads' HO_7.out).2.2 0 p302 q302; cases e302; have qi302 : (0 < t284.length) = True := eq_true (by omega); (try rw [show ((0 : Int)).toNat = 0 from rfl] at hx302_0); (try rw [show 0 * 4 = 0 from rfl] at hx302_0); (try rw [Addr.add_zero'] at hx302_0); (try rw [show ((0 : Int)).toNat = 0 from rfl] at hx302_1); (try rw [show 0 * 4 = 0 from rfl] at hx302_1); (try rw [Addr.add_zero'] at hx302_1); (try rw [show ((0 : Int)).toNat = 0 from rfl] at hx302_2); (try rw [show 0 * 4 = 0 from rfl] at hx302_2); (try rw [Addr.add_zero'] at hx302_2); (try rw [show ((0 : Int)).toNat = 0 from rfl] at hx302_3); (try rw [show 0 * 4 = 0 from rfl] at hx302_3); (try rw [Addr.add_zero'] at hx302_3); replace p302 := eq_true p302; replace q302 := eq_true q302) | (go_at_call 13; (with_reducible refine (warplaw1_Num.calls t295 t303 _ A34.out).mono ?_); rintro e w' ⟨rfl, ⟨nd, rfl⟩⟩))
                                go_ret
                                exact ⟨by first | rfl | (simp [errW_none, errW_some] <;> rfl) | (simp only [← hji9]; first | rfl | (simp [errW_none, errW_some] <;> rfl)) | (simp [*, errW_none, errW_some] <;> rfl), by repeat (first | (with_reducible first | exact HB.out | apply below_alloc | apply pw_below_drewN | apply below_drew1) | exact HB.out)⟩
                            · rw [if_neg c35] at H
                              have c35b0 : (t303 == 3) = false := beq_eq_false_iff_ne.mpr c35
                              have c35b1 : (t303 != 3) = true := bne_iff_ne.mpr c35
                              obtain rfl := Option.some.inj H
                              go_wp2_with (first | ((with_reducible refine gate_callee (f := 13) rfl ?_); refine goesL_ (some 62) rfl rfl Try.func13 (by kernel_rfl) rfl #[.int .i64 t285] rfl (by (try simp only [List.map_toArray, List.map_cons, List.map_nil]); first | done | rfl | (simp only [List.length_drop, List.length_take]; rfl)) ?_; (with_reducible refine (warplaw1_Num.calls t285 t301 _ A29.out).mono ?_); rintro e w' ⟨rfl, ⟨nd, rfl⟩⟩; refine ⟨_, rfl, ?_⟩; obtain ⟨Ao41, co41, eo41⟩ := Kd.R_slice HO_7.out; subst eo41; have p302 : 0 ≤ (0 : Int) := (by omega); have q302 : 0 < (t284.length : Int) := of_decide_eq_true (by first | (with_reducible assumption) | assumption); obtain ⟨ad302, e302, hx302_0, hx302_1, hx302_2, hx302_3⟩ := at_T38 (Kd.R_reads' HO_7.out).2.2 0 p302 q302; cases e302; have qi302 : (0 < t284.length) = True := eq_true (by omega); (try rw [show ((0 : Int)).toNat = 0 from rfl] at hx302_0); (try rw [show 0 * 4 = 0 from rfl] at hx302_0); (try rw [Addr.add_zero'] at hx302_0); (try rw [show ((0 : Int)).toNat = 0 from rfl] at hx302_1); (try rw [show 0 * 4 = 0 from rfl] at hx302_1); (try rw [Addr.add_zero'] at hx302_1); (try rw [show ((0 : Int)).toNat = 0 from rfl] at hx302_2); (try rw [show 0 * 4 = 0 from rfl] at hx302_2); (try rw [Addr.add_zero'] at hx302_2); (try rw [show ((0 : Int)).toNat = 0 from rfl] at hx302_3); (try rw [show 0 * 4 = 0 from rfl] at hx302_3); (try rw [Addr.add_zero'] at hx302_3); replace p302 := eq_true p302; replace q302 := eq_true q302) | (go_at_call 13; (with_reducible refine (warplaw1_Num.calls t295 t303 _ A34.out).mono ?_); rintro e w' ⟨rfl, ⟨nd, rfl⟩⟩))
                              go_ret
                              exact ⟨by first | rfl | (simp [errW_none, errW_some] <;> rfl) | (simp only [← hji9]; first | rfl | (simp [errW_none, errW_some] <;> rfl)) | (simp [*, errW_none, errW_some] <;> rfl), by repeat (first | (with_reducible first | exact HB.out | apply below_alloc | apply pw_below_drewN | apply below_drew1) | exact HB.out)⟩
                          · rw [if_neg c33] at H
                            (try (have c33b0 : ¬ (((rd_T38 t284 0).f0) = 3 ∧ (((rd_T38 t284 0).f1) = 1 ∧ ((((rd_T38 t284 0).f2).toList) = ([] : List UInt8) ∧ (((rd_T38 t284 0).f3) = (Int.tmod (wrap64 (a0)) 2147483648))))) := by simpa using c33))
                            have c33b1 : (((rd_T38 t284 0).f0) == 3 && (((rd_T38 t284 0).f1) == 1 && ((((rd_T38 t284 0).f2).toList) == ([] : List UInt8) && (((rd_T38 t284 0).f3) == (Int.tmod (wrap64 (a0)) 2147483648))))) = false := by simpa using c33
                            (try (have c33b2 : decide (((rd_T38 t284 0).f0) = 3 && (((rd_T38 t284 0).f1) == 1 && ((((rd_T38 t284 0).f2).toList) == ([] : List UInt8) && (((rd_T38 t284 0).f3) == (Int.tmod (wrap64 (a0)) 2147483648))))) = false := by simpa using c33))
                            (try (have c33b3 : (((rd_T38 t284 0).f0) == 3 && (((rd_T38 t284 0).f1) == 1 && ((((rd_T38 t284 0).f2).toList) == ([] : List UInt8) && (((rd_T38 t284 0).f3) == (Int.tmod (wrap64 (a0)) 2147483648))))) = false := by simpa using c33))
                            (try (have c33b4 : ¬ (((rd_T38 t284 0).f0) = 3 && (((rd_T38 t284 0).f1) == 1 && ((((rd_T38 t284 0).f2).toList) == ([] : List UInt8) && (((rd_T38 t284 0).f3) == (Int.tmod (wrap64 (a0)) 2147483648))))) := by simpa using c33))
                            clear c33
                            obtain rfl := Option.some.inj H
                            go_wp2_with (first | ((with_reducible refine gate_callee (f := 13) rfl ?_); refine goesL_ (some 62) rfl rfl Try.func13 (by kernel_rfl) rfl #[.int .i64 t285] rfl (by (try simp only [List.map_toArray, List.map_cons, List.map_nil]); first | done | rfl | (simp only [List.length_drop, List.length_take]; rfl)) ?_; (with_reducible refine (warplaw1_Num.calls t285 t301 _ A29.out).mono ?_); rintro e w' ⟨rfl, ⟨nd, rfl⟩⟩; refine ⟨_, rfl, ?_⟩; obtain ⟨Ao42, co42, eo42⟩ := Kd.R_slice HO_7.out; subst eo42; have p302 : 0 ≤ (0 : Int) := (by omega); have q302 : 0 < (t284.length : Int) := of_decide_eq_true (by first | (with_reducible assumption) | assumption); obtain ⟨ad302, e302, hx302_0, hx302_1, hx302_2, hx302_3⟩ := at_T38 (Kd.R_reads' HO_7.out).2.2 0 p302 q302; cases e302; have qi302 : (0 < t284.length) = True := eq_true (by omega); (try rw [show ((0 : Int)).toNat = 0 from rfl] at hx302_0); (try rw [show 0 * 4 = 0 from rfl] at hx302_0); (try rw [Addr.add_zero'] at hx302_0); (try rw [show ((0 : Int)).toNat = 0 from rfl] at hx302_1); (try rw [show 0 * 4 = 0 from rfl] at hx302_1); (try rw [Addr.add_zero'] at hx302_1); (try rw [show ((0 : Int)).toNat = 0 from rfl] at hx302_2); (try rw [show 0 * 4 = 0 from rfl] at hx302_2); (try rw [Addr.add_zero'] at hx302_2); (try rw [show ((0 : Int)).toNat = 0 from rfl] at hx302_3); (try rw [show 0 * 4 = 0 from rfl] at hx302_3); (try rw [Addr.add_zero'] at hx302_3); replace p302 := eq_true p302; replace q302 := eq_true q302))
                            go_ret
                            exact ⟨by first | rfl | (simp [errW_none, errW_some] <;> rfl) | (simp only [← hji9]; first | rfl | (simp [errW_none, errW_some] <;> rfl)) | (simp [*, errW_none, errW_some] <;> rfl), by repeat (first | (with_reducible first | exact HB.out | apply below_alloc | apply pw_below_drewN | apply below_drew1) | exact HB.out)⟩
                        · rw [if_neg c32] at H
                          exact absurd H (by simp)
                      · rw [if_neg c31] at H
                        have c31b0 : ((t284.length : Int) == 1) = false := beq_eq_false_iff_ne.mpr c31
                        have c31b1 : ((t284.length : Int) != 1) = true := bne_iff_ne.mpr c31
                        obtain rfl := Option.some.inj H
                        go_wp2_with (first | ((with_reducible refine gate_callee (f := 13) rfl ?_); refine goesL_ (some 62) rfl rfl Try.func13 (by kernel_rfl) rfl #[.int .i64 t285] rfl (by (try simp only [List.map_toArray, List.map_cons, List.map_nil]); first | done | rfl | (simp only [List.length_drop, List.length_take]; rfl)) ?_; (with_reducible refine (warplaw1_Num.calls t285 t301 _ A29.out).mono ?_); rintro e w' ⟨rfl, ⟨nd, rfl⟩⟩; refine ⟨_, rfl, ?_⟩; obtain ⟨Ao43, co43, eo43⟩ := Kd.R_slice HO_7.out; subst eo43))
                        go_ret
                        exact ⟨by first | rfl | (simp [errW_none, errW_some] <;> rfl) | (simp only [← hji9]; first | rfl | (simp [errW_none, errW_some] <;> rfl)) | (simp [*, errW_none, errW_some] <;> rfl), by repeat (first | (with_reducible first | exact HB.out | apply below_alloc | apply pw_below_drewN | apply below_drew1) | exact HB.out)⟩
                    · rw [if_neg c30] at H
                      have c30b0 : (t301 == 0) = false := beq_eq_false_iff_ne.mpr c30
                      have c30b1 : (t301 != 0) = true := bne_iff_ne.mpr c30
                      obtain rfl := Option.some.inj H
                      go_wp2_with (first | ((with_reducible refine gate_callee (f := 13) rfl ?_); refine goesL_ (some 62) rfl rfl Try.func13 (by kernel_rfl) rfl #[.int .i64 t285] rfl (by (try simp only [List.map_toArray, List.map_cons, List.map_nil]); first | done | rfl | (simp only [List.length_drop, List.length_take]; rfl)) ?_; (with_reducible refine (warplaw1_Num.calls t285 t301 _ A29.out).mono ?_); rintro e w' ⟨rfl, ⟨nd, rfl⟩⟩; refine ⟨_, rfl, ?_⟩))
                      go_ret
                      exact ⟨by first | rfl | (simp [errW_none, errW_some] <;> rfl) | (simp only [← hji9]; first | rfl | (simp [errW_none, errW_some] <;> rfl)) | (simp [*, errW_none, errW_some] <;> rfl), by repeat (first | (with_reducible first | exact HB.out | apply below_alloc | apply pw_below_drewN | apply below_drew1) | exact HB.out)⟩
            · rw [if_neg c12] at H
              exact absurd H (by simp)
          · rw [if_neg c11] at H
            exact absurd H (by simp)
        · rw [if_neg c10] at H
          exact absurd H (by simp)
      · rw [if_neg c8] at H
        exact absurd H (by simp)
    · rw [if_neg c5] at H
      exact absurd H (by simp)
  · rw [if_neg c4] at H
    exact absurd H (by simp)

/-- THE ONE PURE STATEMENT of warplaw9_LexNumbers: yours. -/
def warplaw9_LexNumbers.Pure : Prop := ∀ (a0 : Int) (a1 : Int), (Lit.int .u32 a0).wf = true → (Lit.int .u8 a1).wf = true → ∃ k, warplaw9_LexNumbers.f k a0 a1 = some true
theorem warplaw9_LexNumbers.walk (P : warplaw9_LexNumbers.Pure) (a0 : Int) (a1 : Int) (w : World) (w0 : (Lit.int .u32 a0).wf = true) (w1 : (Lit.int .u8 a1).wf = true) :
    Calls Try.prog 6 #[.int .u32 a0, .int .u8 a1] w fun e w' => e = .returned (.bool true) ∧ Below w.heap.size w w' := by
  obtain ⟨k, h⟩ := P a0 a1 w0 w1
  refine (warplaw9_LexNumbers.calls k a0 a1 true w h).mono ?_
  rintro e w' ⟨rfl, hd⟩
  exact ⟨rfl, hd⟩

end Go.Proofs.Ythpnplcagfpngaa.Q
