-- Written by this session's pm.py, out of the translation. Not trusted: Lean checks it.
import Derived.Test.YthpnplcagfpngaaQ0
import Derived.Test.YthpnplcagfpngaaQ1
import Derived.Test.YthpnplcagfpngaaQ5
import Derived.Test.YthpnplcagfpngaaQ8
namespace Go.Proofs.Ythpnplcagfpngaa.Q
open Go.RowKit Go.Proofs.YthpnplcagfpngaaW.PrintWords Go.Proofs.YthpnplcagfpngaaW.PrintLast Go.Proofs.YthpnplcagfpngaaW.PrintMore
attribute [local go_sem] max2_int min2_int max_two min_two max_three min_three max_four min_four   -- for this text's walks alone
set_option linter.unusedVariables false
set_option linter.unusedSimpArgs false

attribute [local go_sem high] eqA38
/-! ### warplaw9_LexNames: function 7 -/
mutual
def warplaw9_LexNames.j0 : Nat → List Int → Bool → ByteArray → Option (Bool)
  | 0, _, _, _ => none
  | k + 1, x0, x1, x5 => warplaw9_LexNames.l0 k x0 x1 x5 0
def warplaw9_LexNames.l0 : Nat → List Int → Bool → ByteArray → Int → Option (Bool)
  | 0, _, _, _, _ => none
  | k + 1, x0, x1, x5, x6 => if x6 < (x0.length : Int) then ((some (([(⟨#[97]⟩ : ByteArray), (⟨#[90]⟩ : ByteArray), (⟨#[95]⟩ : ByteArray), (⟨#[55]⟩ : ByteArray), (⟨#[116]⟩ : ByteArray)] : List ByteArray) : List ByteArray)).bind fun y306 => (if 0 ≤ x6 then (if 0 ≤ (Int.tmod (rd x0 x6) 5) then (if (Int.tmod (rd x0 x6) 5) < (y306.length : Int) then (if x5.size + (rdOf ByteArray.empty y306 (Int.tmod (rd x0 x6) 5)).size ≤ 9223372036854775807 then (warplaw9_LexNames.l0 k x0 x1 (x5 ++ (rdOf ByteArray.empty y306 (Int.tmod (rd x0 x6) 5))) (wrap64 (x6 + 1))) else (none)) else (none)) else (none)) else (none))) else ((lex_Lex.f k x5).bind fun bt311 => (if (x5.size : Int) > 30 then ((warplaw1_Num.f bt311.2.1).bind fun t316 => (if t316 = 3 then (if bt311.2.2 = 0 then (if (bt311.1.length : Int) = 0 then ((lex_Name.f k x5).bind fun t317 => (if t317 = true then (some false) else ((lex_Con.f k x5).bind fun t318 => (if t318 = true then (some false) else ((warplaw9_awake.f k).bind fun t319 => (some t319)))))) else (some false)) else (some false)) else (some false))) else (if x1 = true then (warplaw9_LexNames.j2 k x1 x5 bt311.1 bt311.2.1 2) else (warplaw9_LexNames.j2 k x1 x5 bt311.1 bt311.2.1 1))))
def warplaw9_LexNames.j2 : Nat → Bool → ByteArray → List (S38) → Int → Int → Option (Bool)
  | 0, _, _, _, _, _ => none
  | k + 1, x1, x5, x7, x8, x10 => (lex_Lex.f k (⟨#[100, 97, 116, 97, 32, 108, 101, 116, 32, 105, 110, 32, 105, 102, 32, 116, 104, 101, 110, 32, 101, 108, 115, 101, 32, 99, 97, 115, 101, 32, 111, 102, 32, 116, 114, 117, 101, 32, 102, 97, 108, 115, 101]⟩ : ByteArray)).bind fun bt320 => (warplaw9_LexNames.l1 k x1 x5 x7 x8 x10 bt320.1 bt320.2.1 0)
def warplaw9_LexNames.l1 : Nat → Bool → ByteArray → List (S38) → Int → Int → List (S38) → Int → Int → Option (Bool)
  | 0, _, _, _, _, _, _, _, _ => none
  | k + 1, x1, x5, x7, x8, x10, x11, x12, x14 => if x14 < (x11.length : Int) then (if 0 ≤ x14 then (if ((rd_T38 x11 x14).f0) = 4 then ((lex_Name.f k ((rd_T38 x11 x14).f2)).bind fun t327 => (if t327 = true then (some false) else (warplaw9_LexNames.l1 k x1 x5 x7 x8 x10 x11 x12 (wrap64 (x14 + 1))))) else (some false)) else (none)) else ((warplaw1_Num.f x8).bind fun t328 => (if t328 = 0 then (if (x7.length : Int) = 1 then (if 0 < (x7.length : Int) then (if (((rd_T38 x7 0).f0) == x10 && (((rd_T38 x7 0).f1) == 0 && ((((rd_T38 x7 0).f2).toList) == x5.toList && (((rd_T38 x7 0).f3) == 0)))) = true then ((lex_Name.f k x5).bind fun t330 => (if (t330 != x1) = true then ((lex_Con.f k x5).bind fun t331 => (if (t331 == x1) = true then (if (x11.length : Int) = 10 then ((warplaw1_Num.f x12).bind fun t332 => (if t332 = 0 then ((warplaw9_awake.f k).bind fun t333 => (some t333)) else (some false))) else (some false)) else (some false))) else (some false))) else (some false)) else (none)) else (some false)) else (some false)))
end
def warplaw9_LexNames.f (k : Nat) (l0 : List Int) (a1 : Bool) : Option (Bool) := if (l0.length : Int) > 40 then ((warplaw9_awake.f k).bind fun t305 => (some t305)) else (if a1 = true then (warplaw9_LexNames.j0 k l0 a1 (⟨#[81]⟩ : ByteArray)) else (warplaw9_LexNames.j0 k l0 a1 (⟨#[113]⟩ : ByteArray)))
theorem warplaw9_LexNames.mono_l : ∀ k, (∀ y0 y1 y2, LeO (warplaw9_LexNames.j0 k y0 y1 y2) (warplaw9_LexNames.j0 (k + 1) y0 y1 y2)) ∧ (∀ y0 y1 y2 y3, LeO (warplaw9_LexNames.l0 k y0 y1 y2 y3) (warplaw9_LexNames.l0 (k + 1) y0 y1 y2 y3)) ∧ (∀ y0 y1 y2 y3 y4, LeO (warplaw9_LexNames.j2 k y0 y1 y2 y3 y4) (warplaw9_LexNames.j2 (k + 1) y0 y1 y2 y3 y4)) ∧ (∀ y0 y1 y2 y3 y4 y5 y6 y7, LeO (warplaw9_LexNames.l1 k y0 y1 y2 y3 y4 y5 y6 y7) (warplaw9_LexNames.l1 (k + 1) y0 y1 y2 y3 y4 y5 y6 y7))
  | 0 => ⟨fun _ _ _ r h => by simp [warplaw9_LexNames.j0] at h, fun _ _ _ _ r h => by simp [warplaw9_LexNames.l0] at h, fun _ _ _ _ _ r h => by simp [warplaw9_LexNames.j2] at h, fun _ _ _ _ _ _ _ _ r h => by simp [warplaw9_LexNames.l1] at h⟩
  | k + 1 => by
    obtain ⟨ih0, ih1, ih2, ih3⟩ := warplaw9_LexNames.mono_l k
    refine ⟨?_, ?_, ?_, ?_⟩
    · intro y0 y1 y2
      unfold warplaw9_LexNames.j0
      repeat' first
      | (with_reducible exact ih0 _ _ _)
      | (with_reducible exact ih1 _ _ _ _)
      | (with_reducible exact ih2 _ _ _ _ _)
      | (with_reducible exact ih3 _ _ _ _ _ _ _ _)
      | (with_reducible exact lex_Con.mono _ _)
      | (with_reducible exact lex_Lex.mono _ _)
      | (with_reducible exact lex_Name.mono _ _)
      | (with_reducible exact warplaw9_awake.mono _)
      | (with_reducible exact LeO.refl _)
      | (with_reducible exact LeO.none _)
      | (with_reducible refine LeO.ite ?_ ?_)
      | (with_reducible refine LeO.bind ?_ (fun _ => ?_))
      | exact ih0 _ _ _
      | exact ih1 _ _ _ _
      | exact ih2 _ _ _ _ _
      | exact ih3 _ _ _ _ _ _ _ _
      | exact lex_Con.mono _ _
      | exact lex_Lex.mono _ _
      | exact lex_Name.mono _ _
      | exact warplaw9_awake.mono _
      | exact LeO.none _
      | refine LeO.ite ?_ ?_
      | refine LeO.bind ?_ (fun _ => ?_)
    · intro y0 y1 y2 y3
      unfold warplaw9_LexNames.l0
      repeat' first
      | (with_reducible exact ih0 _ _ _)
      | (with_reducible exact ih1 _ _ _ _)
      | (with_reducible exact ih2 _ _ _ _ _)
      | (with_reducible exact ih3 _ _ _ _ _ _ _ _)
      | (with_reducible exact lex_Con.mono _ _)
      | (with_reducible exact lex_Lex.mono _ _)
      | (with_reducible exact lex_Name.mono _ _)
      | (with_reducible exact warplaw9_awake.mono _)
      | (with_reducible exact LeO.refl _)
      | (with_reducible exact LeO.none _)
      | (with_reducible refine LeO.ite ?_ ?_)
      | (with_reducible refine LeO.bind ?_ (fun _ => ?_))
      | exact ih0 _ _ _
      | exact ih1 _ _ _ _
      | exact ih2 _ _ _ _ _
      | exact ih3 _ _ _ _ _ _ _ _
      | exact lex_Con.mono _ _
      | exact lex_Lex.mono _ _
      | exact lex_Name.mono _ _
      | exact warplaw9_awake.mono _
      | exact LeO.none _
      | refine LeO.ite ?_ ?_
      | refine LeO.bind ?_ (fun _ => ?_)
    · intro y0 y1 y2 y3 y4
      unfold warplaw9_LexNames.j2
      repeat' first
      | (with_reducible exact ih0 _ _ _)
      | (with_reducible exact ih1 _ _ _ _)
      | (with_reducible exact ih2 _ _ _ _ _)
      | (with_reducible exact ih3 _ _ _ _ _ _ _ _)
      | (with_reducible exact lex_Con.mono _ _)
      | (with_reducible exact lex_Lex.mono _ _)
      | (with_reducible exact lex_Name.mono _ _)
      | (with_reducible exact warplaw9_awake.mono _)
      | (with_reducible exact LeO.refl _)
      | (with_reducible exact LeO.none _)
      | (with_reducible refine LeO.ite ?_ ?_)
      | (with_reducible refine LeO.bind ?_ (fun _ => ?_))
      | exact ih0 _ _ _
      | exact ih1 _ _ _ _
      | exact ih2 _ _ _ _ _
      | exact ih3 _ _ _ _ _ _ _ _
      | exact lex_Con.mono _ _
      | exact lex_Lex.mono _ _
      | exact lex_Name.mono _ _
      | exact warplaw9_awake.mono _
      | exact LeO.none _
      | refine LeO.ite ?_ ?_
      | refine LeO.bind ?_ (fun _ => ?_)
    · intro y0 y1 y2 y3 y4 y5 y6 y7
      unfold warplaw9_LexNames.l1
      repeat' first
      | (with_reducible exact ih0 _ _ _)
      | (with_reducible exact ih1 _ _ _ _)
      | (with_reducible exact ih2 _ _ _ _ _)
      | (with_reducible exact ih3 _ _ _ _ _ _ _ _)
      | (with_reducible exact lex_Con.mono _ _)
      | (with_reducible exact lex_Lex.mono _ _)
      | (with_reducible exact lex_Name.mono _ _)
      | (with_reducible exact warplaw9_awake.mono _)
      | (with_reducible exact LeO.refl _)
      | (with_reducible exact LeO.none _)
      | (with_reducible refine LeO.ite ?_ ?_)
      | (with_reducible refine LeO.bind ?_ (fun _ => ?_))
      | exact ih0 _ _ _
      | exact ih1 _ _ _ _
      | exact ih2 _ _ _ _ _
      | exact ih3 _ _ _ _ _ _ _ _
      | exact lex_Con.mono _ _
      | exact lex_Lex.mono _ _
      | exact lex_Name.mono _ _
      | exact warplaw9_awake.mono _
      | exact LeO.none _
      | refine LeO.ite ?_ ?_
      | refine LeO.bind ?_ (fun _ => ?_)
theorem warplaw9_LexNames.mono : ∀ a0 a1 k, LeO (warplaw9_LexNames.f k a0 a1) (warplaw9_LexNames.f (k + 1) a0 a1) := by
  intro a0 a1 k
  obtain ⟨ih0, ih1, ih2, ih3⟩ := warplaw9_LexNames.mono_l k
  unfold warplaw9_LexNames.f
  repeat' first
      | (with_reducible exact ih0 _ _ _)
      | (with_reducible exact ih1 _ _ _ _)
      | (with_reducible exact ih2 _ _ _ _ _)
      | (with_reducible exact ih3 _ _ _ _ _ _ _ _)
      | (with_reducible exact lex_Con.mono _ _)
      | (with_reducible exact lex_Lex.mono _ _)
      | (with_reducible exact lex_Name.mono _ _)
      | (with_reducible exact warplaw9_awake.mono _)
      | (with_reducible exact LeO.refl _)
      | (with_reducible exact LeO.none _)
      | (with_reducible refine LeO.ite ?_ ?_)
      | (with_reducible refine LeO.bind ?_ (fun _ => ?_))
      | exact ih0 _ _ _
      | exact ih1 _ _ _ _
      | exact ih2 _ _ _ _ _
      | exact ih3 _ _ _ _ _ _ _ _
      | exact lex_Con.mono _ _
      | exact lex_Lex.mono _ _
      | exact lex_Name.mono _ _
      | exact warplaw9_awake.mono _
      | exact LeO.none _
      | refine LeO.ite ?_ ?_
      | refine LeO.bind ?_ (fun _ => ?_)
set_option maxHeartbeats 8000000 in
set_option maxRecDepth 100000 in
theorem warplaw9_LexNames.calls (k : Nat) (A0 : Option Addr) (c0 : Nat) (l0 : List Int) (a1 : Bool) (r : Bool) (w : World) (hr0 : Kd.C (Kd.int .u8) w A0 l0.length l0) (hc0 : l0.length ≤ c0) (h : warplaw9_LexNames.f k l0 a1 = some r) :
    Calls Try.prog 7 #[.slice A0 l0.length c0, .bool a1] w fun e w' => e = .returned (.bool r) ∧ Below w.heap.size w w' := by
  have hu38 := Try.underlying38
  have HR0 := Aside0.mk hr0
  have HC0 := Aside0.mk hc0
  clear hr0 hc0
  have HB := Aside0.mk (Below.refl w.heap.size w)
  have H : (if (l0.length : Int) > 40 then ((warplaw9_awake.f k).bind fun t305 => (some t305)) else (if a1 = true then (warplaw9_LexNames.j0 k l0 a1 (⟨#[81]⟩ : ByteArray)) else (warplaw9_LexNames.j0 k l0 a1 (⟨#[113]⟩ : ByteArray)))) = some r := h
  clear h
  by_cases c3 : (l0.length : Int) > 40
  · rw [if_pos c3] at H
    have c3b0 : decide (40 < (l0.length : Int)) = true := decide_eq_true c3
    have c3b1 : decide (40 < l0.length) = true := decide_eq_true (by omega)
    clear c3
    replace H := Option.bind_eq_some_iff.mp H
    obtain ⟨t305, A40, H⟩ := H
    replace H : (some t305) = some r := H
    have A4 := Aside0.mk A40
    clear A40
    obtain rfl := Option.some.inj H
    go_enter Try.func7, Try.ntmps7
    go_wp2_with (first | ((with_reducible refine gate_callee (f := 9) rfl ?_); refine goesL_ (some 18) rfl rfl Try.func9 (by kernel_rfl) rfl #[] rfl (by (try simp only [List.map_toArray, List.map_cons, List.map_nil]); first | done | rfl | (simp only [List.length_drop, List.length_take]; rfl)) ?_; (with_reducible refine (warplaw9_awake.calls k  t305 _ A4.out).mono ?_); rintro e w5 ⟨rfl, hb⟩; refine ⟨_, rfl, ?_⟩; have n0_ := Aside0.mk (below_step (by repeat (first | (with_reducible first | exact HB.out | apply below_alloc | apply pw_below_drewN | apply below_drew1) | exact HB.out)) hb); clear HB; have HB := n0_; clear n0_; (try clear hb); (try clear hb2); (try clear hk); (try clear hi)))
    go_ret
    exact ⟨by first | rfl | (simp [errW_none, errW_some] <;> rfl) | (simp [*, errW_none, errW_some] <;> rfl), by repeat (first | (with_reducible first | exact HB.out | apply below_alloc | apply pw_below_drewN | apply below_drew1) | exact HB.out)⟩
  · rw [if_neg c3] at H
    have c3b0 : decide (40 < (l0.length : Int)) = false := decide_eq_false c3
    have c3b1 : decide (40 < l0.length) = false := decide_eq_false (by omega)
    clear c3
    have HC6 := Aside0.mk H
    clear H
    go_enter Try.func7, Try.ntmps7
    go_upto_if 19 with (fail)
    go_cut [5] (fun v5 wc => ∃ (kq : Nat) (x5_5 : ByteArray), v5 = .string x5_5 ∧ Aside0 (warplaw9_LexNames.j0 kq l0 a1 x5_5 = some r) ∧ Aside0 (kq ≤ k) ∧ Aside0 (Below w.heap.size w wc))
    case first =>
      have H := HC6.out
      clear HC6
      by_cases c7 : a1 = true
      · subst c7
        have H1 : (warplaw9_LexNames.j0 k l0 true (⟨#[81]⟩ : ByteArray)) = some r := by rw [if_pos rfl] at H; exact H
        clear H
        have H := H1
        clear H1
        have H' := Aside0.mk H
        clear H
        go_wp2
        go_meet
        case rel => exact ⟨_, ((⟨#[81]⟩ : ByteArray)), (by first | rfl | (simp; done) | (simp [*]; done)), H', ⟨by first | omega | exact Nat.le_refl _⟩, ⟨by repeat (first | (with_reducible first | exact HB.out | apply below_alloc | apply pw_below_drewN | apply below_drew1) | exact HB.out)⟩⟩
      · replace c7 := Bool.eq_false_iff.mpr c7
        subst c7
        have H1 : (warplaw9_LexNames.j0 k l0 false (⟨#[113]⟩ : ByteArray)) = some r := by rw [if_neg (show ¬ (false = true) by decide)] at H; exact H
        clear H
        have H := H1
        clear H1
        have H' := Aside0.mk H
        clear H
        go_wp2
        go_meet
        case rel => exact ⟨_, ((⟨#[113]⟩ : ByteArray)), (by first | rfl | (simp; done) | (simp [*]; done)), H', ⟨by first | omega | exact Nat.le_refl _⟩, ⟨by repeat (first | (with_reducible first | exact HB.out | apply below_alloc | apply pw_below_drewN | apply below_drew1) | exact HB.out)⟩⟩
    case rest =>
      clear HC6
      try clear p2
      try clear c3
      try clear c3b0
      try clear c3b1
      try clear c7
      obtain ⟨kq, x5_5, rfl, HA, HJ5, HB⟩ := hcut
      cases kq with
      | zero => exact absurd HA.out (by simp [warplaw9_LexNames.j0])
      | succ kj5 =>
        have H := HA.out
        clear HA
        simp only [warplaw9_LexNames.j0] at H
        have H' := Aside0.mk H
        clear H
        go_wp2
        go_loopg [5, 6] kj5 (fun kq v5 v6 w' => ∃ (x5_2 : ByteArray) (x6_2 : Int), v5 = .string x5_2 ∧ v6 = .int .i64 x6_2 ∧ Aside0 (warplaw9_LexNames.l0 kq l0 a1 x5_2 x6_2 = some r) ∧ Aside0 (kq ≤ kj5) ∧ Aside0 (Below w.heap.size w w'))
        case atStart => exact ⟨(x5_5), (0), (by first | rfl | (simp; done) | (simp [*]; done)), (by first | rfl | (simp; done) | (simp [*]; done)), H', ⟨Nat.le_refl _⟩, ⟨by repeat (first | (with_reducible first | exact HB.out | apply below_alloc | apply pw_below_drewN | apply below_drew1) | exact HB.out)⟩⟩
        case round =>
          clear H'
          try clear p2
          try clear c3
          try clear c3b0
          try clear c3b1
          try clear c7
          try clear p2
          obtain ⟨x5_2, x6_2, rfl, rfl, HA, HK2, HB⟩ := hrel
          cases gk with
          | zero => exact absurd HA.out (by simp [warplaw9_LexNames.l0])
          | succ k2 =>
            have H := HA.out
            clear HA
            simp only [warplaw9_LexNames.l0] at H
            by_cases c8 : x6_2 < (l0.length : Int)
            · rw [if_pos c8] at H
              have c8b0 : decide (x6_2 < (l0.length : Int)) = true := decide_eq_true c8
              clear c8
              obtain ⟨y306, hy306⟩ : ∃ y_ : List ByteArray, y_ = (([(⟨#[97]⟩ : ByteArray), (⟨#[90]⟩ : ByteArray), (⟨#[95]⟩ : ByteArray), (⟨#[55]⟩ : ByteArray), (⟨#[116]⟩ : ByteArray)] : List ByteArray)) := ⟨_, rfl⟩
              replace H : (if 0 ≤ x6_2 then (if 0 ≤ (Int.tmod (rd l0 x6_2) 5) then (if (Int.tmod (rd l0 x6_2) 5) < (y306.length : Int) then (if x5_2.size + (rdOf ByteArray.empty y306 (Int.tmod (rd l0 x6_2) 5)).size ≤ 9223372036854775807 then (warplaw9_LexNames.l0 k2 l0 a1 (x5_2 ++ (rdOf ByteArray.empty y306 (Int.tmod (rd l0 x6_2) 5))) (wrap64 (x6_2 + 1))) else (none)) else (none)) else (none)) else (none)) = some r := by first | (rw [hy306]; with_reducible exact H) | (have H2_ := (Option.bind_some _ _).symm.trans H; rw [hy306]; with_reducible exact H2_) | (have H2_ := (Option.bind_some _ _).symm.trans H; with_reducible exact H2_) | with_reducible exact H | (rw [hy306]; exact H) | exact H
              have Ny306 := Aside0.mk hy306
              clear hy306
              by_cases c9 : 0 ≤ x6_2
              · rw [if_pos c9] at H
                have c9b0 : decide (0 ≤ x6_2) = true := decide_eq_true c9
                clear c9
                obtain ⟨ji10, hji10⟩ : ∃ j_ : Int, (Int.tmod (rd l0 x6_2) 5) = j_ := ⟨_, rfl⟩
                replace H : (if 0 ≤ (ji10) then (if (ji10) < (y306.length : Int) then (if x5_2.size + (rdOf ByteArray.empty y306 (ji10)).size ≤ 9223372036854775807 then (warplaw9_LexNames.l0 k2 l0 a1 (x5_2 ++ (rdOf ByteArray.empty y306 (ji10))) (wrap64 (x6_2 + 1))) else (none)) else (none)) else (none)) = some r := by first | (rw [hji10] at H; exact H) | (simp only [hji10] at H ⊢; exact H)
                by_cases c11 : 0 ≤ (ji10)
                · rw [if_pos c11] at H
                  have c11b0 : decide (0 ≤ (ji10)) = true := decide_eq_true c11
                  clear c11
                  by_cases c12 : (ji10) < (y306.length : Int)
                  · rw [if_pos c12] at H
                    have c12b0 : decide ((ji10) < (y306.length : Int)) = true := decide_eq_true c12
                    clear c12
                    by_cases c13 : x5_2.size + (rdOf ByteArray.empty y306 (ji10)).size ≤ 9223372036854775807
                    · rw [if_pos c13] at H
                      have c13b0 := eq_true c13
                      have c13b1 : decide (x5_2.size + (rdOf ByteArray.empty y306 (ji10)).size ≤ 9223372036854775807) = true := decide_eq_true c13
                      try have c13b2 : (9223372036854775807 < x5_2.size + (rdOf ByteArray.empty y306 (ji10)).size) = False := eq_false (Nat.not_lt.2 c13)
                      have H' := Aside0.mk H
                      clear H
                      go_wp2_with (first | ((with_reducible refine gate_dst (N := 27) rfl ?_); (try (refine gate_guard (by rfl) ?_; dsimp only)); refine Kd.R_lit Kd.string _ 9 ?hg (N := 27) ?hd (xs := ([(⟨#[97]⟩ : ByteArray), (⟨#[90]⟩ : ByteArray), (⟨#[95]⟩ : ByteArray), (⟨#[55]⟩ : ByteArray), (⟨#[116]⟩ : ByteArray)] : List ByteArray)) (inner := [.string (⟨#[97]⟩ : ByteArray), .string (⟨#[90]⟩ : ByteArray), .string (⟨#[95]⟩ : ByteArray), .string (⟨#[55]⟩ : ByteArray), .string (⟨#[116]⟩ : ByteArray)]) (ok := fun _ => True) (okp := fun _ => True) ?hr ?hp (fun _ hk => hk) trivial (Below.refl _ _) (Nat.le_refl _) (by simp) ?_; (case hd => rfl); (case hg => rfl); (case hr => first | (go_simp; done) | (go_simp; rfl)); (case hp => exact (Reps.one (show Kd.M Kd.string _ _ _ (⟨#[97]⟩ : ByteArray) [.string (⟨#[97]⟩ : ByteArray)] from rfl) (Reps.one (show Kd.M Kd.string _ _ _ (⟨#[90]⟩ : ByteArray) [.string (⟨#[90]⟩ : ByteArray)] from rfl) (Reps.one (show Kd.M Kd.string _ _ _ (⟨#[95]⟩ : ByteArray) [.string (⟨#[95]⟩ : ByteArray)] from rfl) (Reps.one (show Kd.M Kd.string _ _ _ (⟨#[55]⟩ : ByteArray) [.string (⟨#[55]⟩ : ByteArray)] from rfl) (Reps.one (show Kd.M Kd.string _ _ _ (⟨#[116]⟩ : ByteArray) [.string (⟨#[116]⟩ : ByteArray)] from rfl) (Reps.none _ _))))))); intro v307 w14 ho15 hb hg_ hnew_; clear hg_ hnew_; (first | rw [← Ny306.out] at ho15 | (simp only [Int.reduceToNat] at ho15; rw [← Ny306.out] at ho15)); have n0_ := Aside0.mk (Kd.R_lower ho15 (below_size (by repeat (first | (with_reducible first | exact HB.out | apply below_alloc | apply pw_below_drewN | apply below_drew1) | exact HB.out)))); have n1_ := Aside0.mk (below_step (by repeat (first | (with_reducible first | exact HB.out | apply below_alloc | apply pw_below_drewN | apply below_drew1) | exact HB.out)) hb); clear HB; have HO308 := n0_; have HB := n1_; clear n0_ n1_; clear hb ho15; have p309 : 0 ≤ (x6_2 : Int) := of_decide_eq_true (by first | (with_reducible assumption) | assumption); have q309 : x6_2 < (l0.length : Int) := of_decide_eq_true (by first | (with_reducible assumption) | assumption); obtain ⟨ad309, e309, hx309_0⟩ := Kd.at_int HR0.out x6_2 p309 q309; cases e309; replace hx309_0 := (HB.out.cell (World.block_lt_of_cell? w _ hx309_0)).trans hx309_0; replace p309 := eq_true p309; replace q309 := eq_true q309; obtain ⟨Ao16, co16, eo16⟩ := Kd.R_slice HO308.out; subst eo16; have p310 : 0 ≤ ((ji10) : Int) := of_decide_eq_true (by first | (with_reducible assumption) | assumption); have q310 : (ji10) < (y306.length : Int) := of_decide_eq_true (by first | (with_reducible assumption) | assumption); obtain ⟨ad310, e310, hx310_0⟩ := Kd.at_string (Kd.R_reads' HO308.out).2.2 (ji10) p310 q310; cases e310; replace p310 := eq_true p310; replace q310 := eq_true q310))
                      go_roundg k2
                      case measure => have := HJ5.out; have := HK2.out; omega
                      case rel => exact ⟨(x5_2 ++ (rdOf ByteArray.empty y306 (ji10))), (wrap64 (x6_2 + 1)), (by first | rfl | (simp; done) | (simp only [← hji10] <;> (first | rfl | simp)) | (simp [*]; done)), (by first | rfl | (simp; done) | (simp [*]; done)), H', ⟨by have := HJ5.out; have := HK2.out; omega⟩, ⟨by repeat (first | (with_reducible first | exact HB.out | apply below_alloc | apply pw_below_drewN | apply below_drew1) | exact HB.out)⟩⟩
                    · rw [if_neg c13] at H
                      exact absurd H (by simp)
                  · rw [if_neg c12] at H
                    exact absurd H (by simp)
                · rw [if_neg c11] at H
                  exact absurd H (by simp)
              · rw [if_neg c9] at H
                exact absurd H (by simp)
            · rw [if_neg c8] at H
              have c8b0 : decide (x6_2 < (l0.length : Int)) = false := decide_eq_false c8
              clear c8
              replace H := Option.bind_eq_some_iff.mp H
              obtain ⟨⟨t311, t312, t313⟩, A170, H⟩ := H
              replace H : (if (x5_2.size : Int) > 30 then ((warplaw1_Num.f t312).bind fun t316 => (if t316 = 3 then (if t313 = 0 then (if (t311.length : Int) = 0 then ((lex_Name.f k2 x5_2).bind fun t317 => (if t317 = true then (some false) else ((lex_Con.f k2 x5_2).bind fun t318 => (if t318 = true then (some false) else ((warplaw9_awake.f k2).bind fun t319 => (some t319)))))) else (some false)) else (some false)) else (some false))) else (if a1 = true then (warplaw9_LexNames.j2 k2 a1 x5_2 t311 t312 2) else (warplaw9_LexNames.j2 k2 a1 x5_2 t311 t312 1))) = some r := H
              have A17 := Aside0.mk A170
              clear A170
              by_cases c18 : (x5_2.size : Int) > 30
              · rw [if_pos c18] at H
                have c18b0 : decide (30 < (x5_2.size : Int)) = true := decide_eq_true c18
                have c18b1 : decide (30 < x5_2.size) = true := decide_eq_true (by omega)
                clear c18
                replace H := Option.bind_eq_some_iff.mp H
                obtain ⟨t316, A190, H⟩ := H
                replace H : (if t316 = 3 then (if t313 = 0 then (if (t311.length : Int) = 0 then ((lex_Name.f k2 x5_2).bind fun t317 => (if t317 = true then (some false) else ((lex_Con.f k2 x5_2).bind fun t318 => (if t318 = true then (some false) else ((warplaw9_awake.f k2).bind fun t319 => (some t319)))))) else (some false)) else (some false)) else (some false)) = some r := H
                have A19 := Aside0.mk A190
                clear A190
                by_cases c20 : t316 = 3
                · rw [if_pos c20] at H
                  have c20b0 : (t316 == 3) = true := beq_iff_eq.mpr c20
                  have c20b1 : (t316 != 3) = false := bne_eq_false_iff_eq.mpr c20
                  clear c20
                  by_cases c21 : t313 = 0
                  · rw [if_pos c21] at H
                    have c21b0 : (t313 == 0) = true := beq_iff_eq.mpr c21
                    have c21b1 : (t313 != 0) = false := bne_eq_false_iff_eq.mpr c21
                    clear c21
                    by_cases c22 : (t311.length : Int) = 0
                    · rw [if_pos c22] at H
                      have c22b0 : ((t311.length : Int) == 0) = true := beq_iff_eq.mpr c22
                      have c22b1 : ((t311.length : Int) != 0) = false := bne_eq_false_iff_eq.mpr c22
                      clear c22
                      replace H := Option.bind_eq_some_iff.mp H
                      obtain ⟨t317, A230, H⟩ := H
                      replace H : (if t317 = true then (some false) else ((lex_Con.f k2 x5_2).bind fun t318 => (if t318 = true then (some false) else ((warplaw9_awake.f k2).bind fun t319 => (some t319))))) = some r := H
                      have A23 := Aside0.mk A230
                      clear A230
                      by_cases c24 : t317 = true
                      · subst c24
                        have H1 : (some false) = some r := by rw [if_pos rfl] at H; exact H
                        clear H
                        have H := H1
                        clear H1
                        obtain rfl := Option.some.inj H
                        go_wp2_with (first | ((with_reducible refine gate_callee (f := 10) rfl ?_); refine goesL_ (some 38) rfl rfl Try.func10 (by kernel_rfl) rfl #[.string x5_2] rfl (by (try simp only [List.map_toArray, List.map_cons, List.map_nil]); first | done | rfl | (simp only [List.length_drop, List.length_take]; rfl)) ?_; (with_reducible refine (lex_Lex.calls k2 x5_2 t311 t312 t313 _ A17.out).mono ?_); rintro e w25 ⟨v314, rfl, ho0, hb⟩; refine ⟨_, rfl, ?_⟩; have n0_ := Aside0.mk (Kd.R_lower ho0 (below_size (by repeat (first | (with_reducible first | exact HB.out | apply below_alloc | apply pw_below_drewN | apply below_drew1) | exact HB.out)))); have n1_ := Aside0.mk (below_step (by repeat (first | (with_reducible first | exact HB.out | apply below_alloc | apply pw_below_drewN | apply below_drew1) | exact HB.out)) hb); clear HB; have HO315 := n0_; have HB := n1_; clear n0_ n1_; (try clear hb); (try clear hb2); (try clear hk); (try clear hi); (try clear ho0)) | ((with_reducible refine gate_callee (f := 13) rfl ?_); refine goesL_ (some 46) rfl rfl Try.func13 (by kernel_rfl) rfl #[.int .i64 t312] rfl (by (try simp only [List.map_toArray, List.map_cons, List.map_nil]); first | done | rfl | (simp only [List.length_drop, List.length_take]; rfl)) ?_; (with_reducible refine (warplaw1_Num.calls t312 t316 _ A19.out).mono ?_); rintro e w' ⟨rfl, ⟨nd, rfl⟩⟩; refine ⟨_, rfl, ?_⟩; obtain ⟨Ao26, co26, eo26⟩ := Kd.R_slice HO315.out; subst eo26) | (go_at_call 14; (with_reducible refine (lex_Name.calls k2 x5_2 true _ A23.out).mono ?_); rintro e w' ⟨rfl, ⟨nd, rfl⟩⟩))
                        go_ret
                        exact ⟨by first | rfl | (simp [errW_none, errW_some] <;> rfl) | (simp [*, errW_none, errW_some] <;> rfl), by repeat (first | (with_reducible first | exact HB.out | apply below_alloc | apply pw_below_drewN | apply below_drew1) | exact HB.out)⟩
                      · replace c24 := Bool.eq_false_iff.mpr c24
                        subst c24
                        have H1 : ((lex_Con.f k2 x5_2).bind fun t318 => (if t318 = true then (some false) else ((warplaw9_awake.f k2).bind fun t319 => (some t319)))) = some r := by rw [if_neg (show ¬ (false = true) by decide)] at H; exact H
                        clear H
                        have H := H1
                        clear H1
                        replace H := Option.bind_eq_some_iff.mp H
                        obtain ⟨t318, A270, H⟩ := H
                        replace H : (if t318 = true then (some false) else ((warplaw9_awake.f k2).bind fun t319 => (some t319))) = some r := H
                        have A27 := Aside0.mk A270
                        clear A270
                        by_cases c28 : t318 = true
                        · subst c28
                          have H1 : (some false) = some r := by rw [if_pos rfl] at H; exact H
                          clear H
                          have H := H1
                          clear H1
                          obtain rfl := Option.some.inj H
                          go_wp2_with (first | ((with_reducible refine gate_callee (f := 10) rfl ?_); refine goesL_ (some 38) rfl rfl Try.func10 (by kernel_rfl) rfl #[.string x5_2] rfl (by (try simp only [List.map_toArray, List.map_cons, List.map_nil]); first | done | rfl | (simp only [List.length_drop, List.length_take]; rfl)) ?_; (with_reducible refine (lex_Lex.calls k2 x5_2 t311 t312 t313 _ A17.out).mono ?_); rintro e w29 ⟨v314, rfl, ho0, hb⟩; refine ⟨_, rfl, ?_⟩; have n0_ := Aside0.mk (Kd.R_lower ho0 (below_size (by repeat (first | (with_reducible first | exact HB.out | apply below_alloc | apply pw_below_drewN | apply below_drew1) | exact HB.out)))); have n1_ := Aside0.mk (below_step (by repeat (first | (with_reducible first | exact HB.out | apply below_alloc | apply pw_below_drewN | apply below_drew1) | exact HB.out)) hb); clear HB; have HO315 := n0_; have HB := n1_; clear n0_ n1_; (try clear hb); (try clear hb2); (try clear hk); (try clear hi); (try clear ho0)) | ((with_reducible refine gate_callee (f := 13) rfl ?_); refine goesL_ (some 46) rfl rfl Try.func13 (by kernel_rfl) rfl #[.int .i64 t312] rfl (by (try simp only [List.map_toArray, List.map_cons, List.map_nil]); first | done | rfl | (simp only [List.length_drop, List.length_take]; rfl)) ?_; (with_reducible refine (warplaw1_Num.calls t312 t316 _ A19.out).mono ?_); rintro e w' ⟨rfl, ⟨nd, rfl⟩⟩; refine ⟨_, rfl, ?_⟩; obtain ⟨Ao30, co30, eo30⟩ := Kd.R_slice HO315.out; subst eo30) | (go_at_call 14; (with_reducible refine (lex_Name.calls k2 x5_2 false _ A23.out).mono ?_); rintro e w' ⟨rfl, ⟨nd, rfl⟩⟩) | (go_at_call 16; (with_reducible refine (lex_Con.calls k2 x5_2 true _ A27.out).mono ?_); rintro e w' ⟨rfl, ⟨nd, rfl⟩⟩))
                          go_ret
                          exact ⟨by first | rfl | (simp [errW_none, errW_some] <;> rfl) | (simp [*, errW_none, errW_some] <;> rfl), by repeat (first | (with_reducible first | exact HB.out | apply below_alloc | apply pw_below_drewN | apply below_drew1) | exact HB.out)⟩
                        · replace c28 := Bool.eq_false_iff.mpr c28
                          subst c28
                          have H1 : ((warplaw9_awake.f k2).bind fun t319 => (some t319)) = some r := by rw [if_neg (show ¬ (false = true) by decide)] at H; exact H
                          clear H
                          have H := H1
                          clear H1
                          replace H := Option.bind_eq_some_iff.mp H
                          obtain ⟨t319, A310, H⟩ := H
                          replace H : (some t319) = some r := H
                          have A31 := Aside0.mk A310
                          clear A310
                          obtain rfl := Option.some.inj H
                          go_wp2_with (first | ((with_reducible refine gate_callee (f := 10) rfl ?_); refine goesL_ (some 38) rfl rfl Try.func10 (by kernel_rfl) rfl #[.string x5_2] rfl (by (try simp only [List.map_toArray, List.map_cons, List.map_nil]); first | done | rfl | (simp only [List.length_drop, List.length_take]; rfl)) ?_; (with_reducible refine (lex_Lex.calls k2 x5_2 t311 t312 t313 _ A17.out).mono ?_); rintro e w32 ⟨v314, rfl, ho0, hb⟩; refine ⟨_, rfl, ?_⟩; have n0_ := Aside0.mk (Kd.R_lower ho0 (below_size (by repeat (first | (with_reducible first | exact HB.out | apply below_alloc | apply pw_below_drewN | apply below_drew1) | exact HB.out)))); have n1_ := Aside0.mk (below_step (by repeat (first | (with_reducible first | exact HB.out | apply below_alloc | apply pw_below_drewN | apply below_drew1) | exact HB.out)) hb); clear HB; have HO315 := n0_; have HB := n1_; clear n0_ n1_; (try clear hb); (try clear hb2); (try clear hk); (try clear hi); (try clear ho0)) | ((with_reducible refine gate_callee (f := 13) rfl ?_); refine goesL_ (some 46) rfl rfl Try.func13 (by kernel_rfl) rfl #[.int .i64 t312] rfl (by (try simp only [List.map_toArray, List.map_cons, List.map_nil]); first | done | rfl | (simp only [List.length_drop, List.length_take]; rfl)) ?_; (with_reducible refine (warplaw1_Num.calls t312 t316 _ A19.out).mono ?_); rintro e w' ⟨rfl, ⟨nd, rfl⟩⟩; refine ⟨_, rfl, ?_⟩; obtain ⟨Ao33, co33, eo33⟩ := Kd.R_slice HO315.out; subst eo33) | (go_at_call 14; (with_reducible refine (lex_Name.calls k2 x5_2 false _ A23.out).mono ?_); rintro e w' ⟨rfl, ⟨nd, rfl⟩⟩) | (go_at_call 16; (with_reducible refine (lex_Con.calls k2 x5_2 false _ A27.out).mono ?_); rintro e w' ⟨rfl, ⟨nd, rfl⟩⟩) | (go_at_call 9; (with_reducible refine (warplaw9_awake.calls k2  t319 _ A31.out).mono ?_); rintro e w34 ⟨rfl, hb⟩; have n0_ := Aside0.mk (Kd.R_below (by (with_reducible repeat (first | apply Kd.R_alloc | apply Kd.R_drewN | apply Kd.R_drew)); exact HO315.out) hb); have n1_ := Aside0.mk (below_step (by repeat (first | (with_reducible first | exact HB.out | apply below_alloc | apply pw_below_drewN | apply below_drew1) | exact HB.out)) hb); clear HO315; clear HB; have HO315 := n0_; have HB := n1_; clear n0_ n1_; (try clear hb); (try clear hb2); (try clear hk); (try clear hi)))
                          go_ret
                          exact ⟨by first | rfl | (simp [errW_none, errW_some] <;> rfl) | (simp [*, errW_none, errW_some] <;> rfl), by repeat (first | (with_reducible first | exact HB.out | apply below_alloc | apply pw_below_drewN | apply below_drew1) | exact HB.out)⟩
                    · rw [if_neg c22] at H
                      have c22b0 : ((t311.length : Int) == 0) = false := beq_eq_false_iff_ne.mpr c22
                      have c22b1 : ((t311.length : Int) != 0) = true := bne_iff_ne.mpr c22
                      have c22b2 : ¬ (t311 = []) := fun h_ => c22 (by rw [h_]; rfl)
                      obtain rfl := Option.some.inj H
                      go_wp2_with (first | ((with_reducible refine gate_callee (f := 10) rfl ?_); refine goesL_ (some 38) rfl rfl Try.func10 (by kernel_rfl) rfl #[.string x5_2] rfl (by (try simp only [List.map_toArray, List.map_cons, List.map_nil]); first | done | rfl | (simp only [List.length_drop, List.length_take]; rfl)) ?_; (with_reducible refine (lex_Lex.calls k2 x5_2 t311 t312 t313 _ A17.out).mono ?_); rintro e w35 ⟨v314, rfl, ho0, hb⟩; refine ⟨_, rfl, ?_⟩; have n0_ := Aside0.mk (Kd.R_lower ho0 (below_size (by repeat (first | (with_reducible first | exact HB.out | apply below_alloc | apply pw_below_drewN | apply below_drew1) | exact HB.out)))); have n1_ := Aside0.mk (below_step (by repeat (first | (with_reducible first | exact HB.out | apply below_alloc | apply pw_below_drewN | apply below_drew1) | exact HB.out)) hb); clear HB; have HO315 := n0_; have HB := n1_; clear n0_ n1_; (try clear hb); (try clear hb2); (try clear hk); (try clear hi); (try clear ho0)) | ((with_reducible refine gate_callee (f := 13) rfl ?_); refine goesL_ (some 46) rfl rfl Try.func13 (by kernel_rfl) rfl #[.int .i64 t312] rfl (by (try simp only [List.map_toArray, List.map_cons, List.map_nil]); first | done | rfl | (simp only [List.length_drop, List.length_take]; rfl)) ?_; (with_reducible refine (warplaw1_Num.calls t312 t316 _ A19.out).mono ?_); rintro e w' ⟨rfl, ⟨nd, rfl⟩⟩; refine ⟨_, rfl, ?_⟩; obtain ⟨Ao36, co36, eo36⟩ := Kd.R_slice HO315.out; subst eo36))
                      go_ret
                      exact ⟨by first | rfl | (simp [errW_none, errW_some] <;> rfl) | (simp [*, errW_none, errW_some] <;> rfl), by repeat (first | (with_reducible first | exact HB.out | apply below_alloc | apply pw_below_drewN | apply below_drew1) | exact HB.out)⟩
                  · rw [if_neg c21] at H
                    have c21b0 : (t313 == 0) = false := beq_eq_false_iff_ne.mpr c21
                    have c21b1 : (t313 != 0) = true := bne_iff_ne.mpr c21
                    obtain rfl := Option.some.inj H
                    go_wp2_with (first | ((with_reducible refine gate_callee (f := 10) rfl ?_); refine goesL_ (some 38) rfl rfl Try.func10 (by kernel_rfl) rfl #[.string x5_2] rfl (by (try simp only [List.map_toArray, List.map_cons, List.map_nil]); first | done | rfl | (simp only [List.length_drop, List.length_take]; rfl)) ?_; (with_reducible refine (lex_Lex.calls k2 x5_2 t311 t312 t313 _ A17.out).mono ?_); rintro e w37 ⟨v314, rfl, ho0, hb⟩; refine ⟨_, rfl, ?_⟩; have n0_ := Aside0.mk (Kd.R_lower ho0 (below_size (by repeat (first | (with_reducible first | exact HB.out | apply below_alloc | apply pw_below_drewN | apply below_drew1) | exact HB.out)))); have n1_ := Aside0.mk (below_step (by repeat (first | (with_reducible first | exact HB.out | apply below_alloc | apply pw_below_drewN | apply below_drew1) | exact HB.out)) hb); clear HB; have HO315 := n0_; have HB := n1_; clear n0_ n1_; (try clear hb); (try clear hb2); (try clear hk); (try clear hi); (try clear ho0)) | ((with_reducible refine gate_callee (f := 13) rfl ?_); refine goesL_ (some 46) rfl rfl Try.func13 (by kernel_rfl) rfl #[.int .i64 t312] rfl (by (try simp only [List.map_toArray, List.map_cons, List.map_nil]); first | done | rfl | (simp only [List.length_drop, List.length_take]; rfl)) ?_; (with_reducible refine (warplaw1_Num.calls t312 t316 _ A19.out).mono ?_); rintro e w' ⟨rfl, ⟨nd, rfl⟩⟩; refine ⟨_, rfl, ?_⟩))
                    go_ret
                    exact ⟨by first | rfl | (simp [errW_none, errW_some] <;> rfl) | (simp [*, errW_none, errW_some] <;> rfl), by repeat (first | (with_reducible first | exact HB.out | apply below_alloc | apply pw_below_drewN | apply below_drew1) | exact HB.out)⟩
                · rw [if_neg c20] at H
                  have c20b0 : (t316 == 3) = false := beq_eq_false_iff_ne.mpr c20
                  have c20b1 : (t316 != 3) = true := bne_iff_ne.mpr c20
                  obtain rfl := Option.some.inj H
                  go_wp2_with (first | ((with_reducible refine gate_callee (f := 10) rfl ?_); refine goesL_ (some 38) rfl rfl Try.func10 (by kernel_rfl) rfl #[.string x5_2] rfl (by (try simp only [List.map_toArray, List.map_cons, List.map_nil]); first | done | rfl | (simp only [List.length_drop, List.length_take]; rfl)) ?_; (with_reducible refine (lex_Lex.calls k2 x5_2 t311 t312 t313 _ A17.out).mono ?_); rintro e w38 ⟨v314, rfl, ho0, hb⟩; refine ⟨_, rfl, ?_⟩; have n0_ := Aside0.mk (Kd.R_lower ho0 (below_size (by repeat (first | (with_reducible first | exact HB.out | apply below_alloc | apply pw_below_drewN | apply below_drew1) | exact HB.out)))); have n1_ := Aside0.mk (below_step (by repeat (first | (with_reducible first | exact HB.out | apply below_alloc | apply pw_below_drewN | apply below_drew1) | exact HB.out)) hb); clear HB; have HO315 := n0_; have HB := n1_; clear n0_ n1_; (try clear hb); (try clear hb2); (try clear hk); (try clear hi); (try clear ho0)) | ((with_reducible refine gate_callee (f := 13) rfl ?_); refine goesL_ (some 46) rfl rfl Try.func13 (by kernel_rfl) rfl #[.int .i64 t312] rfl (by (try simp only [List.map_toArray, List.map_cons, List.map_nil]); first | done | rfl | (simp only [List.length_drop, List.length_take]; rfl)) ?_; (with_reducible refine (warplaw1_Num.calls t312 t316 _ A19.out).mono ?_); rintro e w' ⟨rfl, ⟨nd, rfl⟩⟩; refine ⟨_, rfl, ?_⟩))
                  go_ret
                  exact ⟨by first | rfl | (simp [errW_none, errW_some] <;> rfl) | (simp [*, errW_none, errW_some] <;> rfl), by repeat (first | (with_reducible first | exact HB.out | apply below_alloc | apply pw_below_drewN | apply below_drew1) | exact HB.out)⟩
              · rw [if_neg c18] at H
                have c18b0 : decide (30 < (x5_2.size : Int)) = false := decide_eq_false c18
                have c18b1 : decide (30 < x5_2.size) = false := decide_eq_false (by omega)
                clear c18
                have HC39 := Aside0.mk H
                clear H
                go_upto_if 70 with (first | ((with_reducible refine gate_callee (f := 10) rfl ?_); refine goesL_ (some 38) rfl rfl Try.func10 (by kernel_rfl) rfl #[.string x5_2] rfl (by (try simp only [List.map_toArray, List.map_cons, List.map_nil]); first | done | rfl | (simp only [List.length_drop, List.length_take]; rfl)) ?_; (with_reducible refine (lex_Lex.calls k2 x5_2 t311 t312 t313 _ A17.out).mono ?_); rintro e w40 ⟨v314, rfl, ho0, hb⟩; refine ⟨_, rfl, ?_⟩; have n0_ := Aside0.mk (Kd.R_lower ho0 (below_size (by repeat (first | (with_reducible first | exact HB.out | apply below_alloc | apply pw_below_drewN | apply below_drew1) | exact HB.out)))); have n1_ := Aside0.mk (below_step (by repeat (first | (with_reducible first | exact HB.out | apply below_alloc | apply pw_below_drewN | apply below_drew1) | exact HB.out)) hb); clear HB; have HO315 := n0_; have HB := n1_; clear n0_ n1_; (try clear hb); (try clear hb2); (try clear hk); (try clear hi); (try clear ho0)))
                (try simp only [Act.put, List.setIfInBounds_toArray, List.set_cons_zero, List.set_cons_succ])
                go_cut [10] (fun v10 wc => ∃ (kq : Nat) (x10_38 : Int), v10 = .int .i64 x10_38 ∧ Aside0 (warplaw9_LexNames.j2 kq a1 x5_2 t311 t312 x10_38 = some r) ∧ Aside0 (kq ≤ k2) ∧ Aside0 (Kd.R k38 38 wc w.heap.size (fun _ => True) v314 t311) ∧ Aside0 (Below w.heap.size w wc))
                case first =>
                  have H := HC39.out
                  clear HC39
                  by_cases c41 : a1 = true
                  · subst c41
                    have H1 : (warplaw9_LexNames.j2 k2 true x5_2 t311 t312 2) = some r := by rw [if_pos rfl] at H; exact H
                    clear H
                    have H := H1
                    clear H1
                    have H' := Aside0.mk H
                    clear H
                    go_wp2
                    go_meet
                    case rel => exact ⟨_, (2), (by first | rfl | (simp; done) | (simp [*]; done)), H', ⟨by have := HJ5.out; have := HK2.out; first | omega | exact Nat.le_refl _⟩, ⟨by (with_reducible repeat (first | apply Kd.R_alloc | apply Kd.R_drewN | apply Kd.R_drew)); exact HO315.out⟩, ⟨by repeat (first | (with_reducible first | exact HB.out | apply below_alloc | apply pw_below_drewN | apply below_drew1) | exact HB.out)⟩⟩
                  · replace c41 := Bool.eq_false_iff.mpr c41
                    subst c41
                    have H1 : (warplaw9_LexNames.j2 k2 false x5_2 t311 t312 1) = some r := by rw [if_neg (show ¬ (false = true) by decide)] at H; exact H
                    clear H
                    have H := H1
                    clear H1
                    have H' := Aside0.mk H
                    clear H
                    go_wp2
                    go_meet
                    case rel => exact ⟨_, (1), (by first | rfl | (simp; done) | (simp [*]; done)), H', ⟨by have := HJ5.out; have := HK2.out; first | omega | exact Nat.le_refl _⟩, ⟨by (with_reducible repeat (first | apply Kd.R_alloc | apply Kd.R_drewN | apply Kd.R_drew)); exact HO315.out⟩, ⟨by repeat (first | (with_reducible first | exact HB.out | apply below_alloc | apply pw_below_drewN | apply below_drew1) | exact HB.out)⟩⟩
                case rest =>
                  clear HC39
                  try clear c1
                  try clear c2
                  try clear p2
                  try clear c3
                  try clear c3b0
                  try clear c3b1
                  try clear p3
                  try clear q3
                  try clear hx3
                  try clear c4
                  try clear p6
                  try clear c7
                  try clear c8
                  try clear c8b0
                  try clear c9
                  try clear c9b0
                  try clear c10
                  try clear c11
                  try clear c11b0
                  try clear c12
                  try clear c12b0
                  try clear c13
                  try clear c13b0
                  try clear c13b1
                  try clear c13b2
                  try clear c18
                  try clear c18b0
                  try clear c18b1
                  try clear c20
                  try clear c20b0
                  try clear c20b1
                  try clear c21
                  try clear c21b0
                  try clear c21b1
                  try clear c22
                  try clear c22b0
                  try clear c22b1
                  try clear c22b2
                  try clear c24
                  try clear c28
                  try clear p30
                  try clear q30
                  try clear hx30
                  try clear p31
                  try clear q31
                  try clear hx31
                  try clear c41
                  try clear hx309_0
                  try clear hx310_0
                  try clear p2
                  try clear p309
                  try clear p310
                  try clear q309
                  try clear q310
                  obtain ⟨kq, x10_38, rfl, HA, HJ38, HO_7, HB⟩ := hcut
                  cases kq with
                  | zero => exact absurd HA.out (by simp [warplaw9_LexNames.j2])
                  | succ kj38 =>
                    have H := HA.out
                    clear HA
                    simp only [warplaw9_LexNames.j2] at H
                    replace H := Option.bind_eq_some_iff.mp H
                    obtain ⟨⟨t320, t321, t322⟩, A420, H⟩ := H
                    replace H : (warplaw9_LexNames.l1 kj38 a1 x5_2 t311 t312 x10_38 t320 t321 0) = some r := H
                    have A42 := Aside0.mk A420
                    clear A420
                    have H' := Aside0.mk H
                    clear H
                    go_wp2_with (first | ((with_reducible refine gate_callee (f := 10) rfl ?_); refine goesL_ (some 72) rfl rfl Try.func10 (by kernel_rfl) rfl #[.string (⟨#[100, 97, 116, 97, 32, 108, 101, 116, 32, 105, 110, 32, 105, 102, 32, 116, 104, 101, 110, 32, 101, 108, 115, 101, 32, 99, 97, 115, 101, 32, 111, 102, 32, 116, 114, 117, 101, 32, 102, 97, 108, 115, 101]⟩ : ByteArray)] rfl (by (try simp only [List.map_toArray, List.map_cons, List.map_nil]); first | done | rfl | (simp only [List.length_drop, List.length_take]; rfl)) ?_; (with_reducible refine (lex_Lex.calls kj38 (⟨#[100, 97, 116, 97, 32, 108, 101, 116, 32, 105, 110, 32, 105, 102, 32, 116, 104, 101, 110, 32, 101, 108, 115, 101, 32, 99, 97, 115, 101, 32, 111, 102, 32, 116, 114, 117, 101, 32, 102, 97, 108, 115, 101]⟩ : ByteArray) t320 t321 t322 _ A42.out).mono ?_); rintro e w43 ⟨v323, rfl, ho0, hb⟩; refine ⟨_, rfl, ?_⟩; have n0_ := Aside0.mk (Kd.R_elder' (by (with_reducible repeat (first | apply Kd.R_alloc | apply Kd.R_drewN | apply Kd.R_drew)); exact HO_7.out) (Kd.R_base ho0) hb); have n1_ := Aside0.mk (Kd.R_lower (Kd.R_new' ho0 (Kd.R_lt (by (with_reducible repeat (first | apply Kd.R_alloc | apply Kd.R_drewN | apply Kd.R_drew)); exact HO_7.out))) (below_size (by repeat (first | (with_reducible first | exact HB.out | apply below_alloc | apply pw_below_drewN | apply below_drew1) | exact HB.out)))); have n2_ := Aside0.mk (below_step (by repeat (first | (with_reducible first | exact HB.out | apply below_alloc | apply pw_below_drewN | apply below_drew1) | exact HB.out)) hb); clear HO_7; clear HB; have HO_7 := n0_; have HO324 := n1_; have HB := n2_; clear n0_ n1_ n2_; (try clear hb); (try clear hb2); (try clear hk); (try clear hi); (try clear ho0)))
                    go_loopg [14] kj38 (fun kq v14 w' => ∃ (x14_4 : Int), v14 = .int .i64 x14_4 ∧ Aside0 (warplaw9_LexNames.l1 kq a1 x5_2 t311 t312 x10_38 t320 t321 x14_4 = some r) ∧ Aside0 (kq ≤ kj38) ∧ Aside0 (Kd.R k38 38 w' w.heap.size (fun k_ => some k_ ≠ (v323 : Value).ownBlock) v314 t311) ∧ Aside0 (Kd.R k38 38 w' w.heap.size (fun k_ => some k_ ≠ (v314 : Value).ownBlock) v323 t320) ∧ Aside0 (Below w.heap.size w w'))
                    case atStart => exact ⟨(0), (by first | rfl | (simp; done) | (simp [*]; done)), H', ⟨Nat.le_refl _⟩, ⟨by (with_reducible repeat (first | apply Kd.R_alloc | apply Kd.R_drewN | apply Kd.R_drew)); exact Kd.R_mono HO_7.out (fun _ hk => hk.2)⟩, ⟨by (with_reducible repeat (first | apply Kd.R_alloc | apply Kd.R_drewN | apply Kd.R_drew)); exact Kd.R_mono HO324.out (fun _ hk => hk.2)⟩, ⟨by repeat (first | (with_reducible first | exact HB.out | apply below_alloc | apply pw_below_drewN | apply below_drew1) | exact HB.out)⟩⟩
                    case round =>
                      clear H'
                      try clear c1
                      try clear c2
                      try clear p2
                      try clear c3
                      try clear c3b0
                      try clear c3b1
                      try clear p3
                      try clear q3
                      try clear hx3
                      try clear c4
                      try clear p6
                      try clear c7
                      try clear c8
                      try clear c8b0
                      try clear c9
                      try clear c9b0
                      try clear c10
                      try clear c11
                      try clear c11b0
                      try clear c12
                      try clear c12b0
                      try clear c13
                      try clear c13b0
                      try clear c13b1
                      try clear c13b2
                      try clear c18
                      try clear c18b0
                      try clear c18b1
                      try clear c20
                      try clear c20b0
                      try clear c20b1
                      try clear c21
                      try clear c21b0
                      try clear c21b1
                      try clear c22
                      try clear c22b0
                      try clear c22b1
                      try clear c22b2
                      try clear c24
                      try clear c28
                      try clear p30
                      try clear q30
                      try clear hx30
                      try clear p31
                      try clear q31
                      try clear hx31
                      try clear c41
                      try clear hx309_0
                      try clear hx310_0
                      try clear p2
                      try clear p3
                      try clear p30
                      try clear p309
                      try clear p31
                      try clear p310
                      try clear p6
                      try clear q3
                      try clear q30
                      try clear q309
                      try clear q31
                      try clear q310
                      obtain ⟨x14_4, rfl, HA, HK4, HO_7, HO_11, HB⟩ := hrel
                      cases gk with
                      | zero => exact absurd HA.out (by simp [warplaw9_LexNames.l1])
                      | succ k4 =>
                        have H := HA.out
                        clear HA
                        simp only [warplaw9_LexNames.l1] at H
                        by_cases c44 : x14_4 < (t320.length : Int)
                        · rw [if_pos c44] at H
                          have c44b0 : decide (x14_4 < (t320.length : Int)) = true := decide_eq_true c44
                          clear c44
                          by_cases c45 : 0 ≤ x14_4
                          · rw [if_pos c45] at H
                            have c45b0 : decide (0 ≤ x14_4) = true := decide_eq_true c45
                            clear c45
                            by_cases c46 : ((rd_T38 t320 x14_4).f0) = 4
                            · rw [if_pos c46] at H
                              have c46b0 : (((rd_T38 t320 x14_4).f0) == 4) = true := beq_iff_eq.mpr c46
                              have c46b1 : (((rd_T38 t320 x14_4).f0) != 4) = false := bne_eq_false_iff_eq.mpr c46
                              clear c46
                              replace H := Option.bind_eq_some_iff.mp H
                              obtain ⟨t327, A470, H⟩ := H
                              replace H : (if t327 = true then (some false) else (warplaw9_LexNames.l1 k4 a1 x5_2 t311 t312 x10_38 t320 t321 (wrap64 (x14_4 + 1)))) = some r := H
                              have A47 := Aside0.mk A470
                              clear A470
                              by_cases c48 : t327 = true
                              · subst c48
                                have H1 : (some false) = some r := by rw [if_pos rfl] at H; exact H
                                clear H
                                have H := H1
                                clear H1
                                obtain rfl := Option.some.inj H
                                obtain ⟨Ao49, co49, eo49⟩ := Kd.R_slice HO_11.out
                                subst eo49
                                have p325 : 0 ≤ (x14_4 : Int) := of_decide_eq_true (by first | (with_reducible assumption) | assumption)
                                have q325 : x14_4 < (t320.length : Int) := of_decide_eq_true (by first | (with_reducible assumption) | assumption)
                                obtain ⟨ad325, e325, hx325_0, hx325_1, hx325_2, hx325_3⟩ := at_T38 (Kd.R_reads' HO_11.out).2.2 x14_4 p325 q325
                                cases e325
                                replace p325 := eq_true p325
                                replace q325 := eq_true q325
                                have p326 : 0 ≤ (x14_4 : Int) := of_decide_eq_true (by first | (with_reducible assumption) | assumption)
                                have q326 : x14_4 < (t320.length : Int) := of_decide_eq_true (by first | (with_reducible assumption) | assumption)
                                obtain ⟨ad326, e326, hx326_0, hx326_1, hx326_2, hx326_3⟩ := at_T38 (Kd.R_reads' HO_11.out).2.2 x14_4 p326 q326
                                obtain rfl : ad325 = ad326 := (by injection e326)
                                replace p326 := eq_true p326
                                replace q326 := eq_true q326
                                go_wp2_with (first | (go_at_call 14; (with_reducible refine (lex_Name.calls k4 ((rd_T38 t320 x14_4).f2) true _ A47.out).mono ?_); rintro e w' ⟨rfl, ⟨nd, rfl⟩⟩))
                                go_ret
                                exact ⟨by first | rfl | (simp [errW_none, errW_some] <;> rfl) | (simp [*, errW_none, errW_some] <;> rfl), by repeat (first | (with_reducible first | exact HB.out | apply below_alloc | apply pw_below_drewN | apply below_drew1) | exact HB.out)⟩
                              · replace c48 := Bool.eq_false_iff.mpr c48
                                subst c48
                                have H1 : (warplaw9_LexNames.l1 k4 a1 x5_2 t311 t312 x10_38 t320 t321 (wrap64 (x14_4 + 1))) = some r := by rw [if_neg (show ¬ (false = true) by decide)] at H; exact H
                                clear H
                                have H := H1
                                clear H1
                                have H' := Aside0.mk H
                                clear H
                                obtain ⟨Ao50, co50, eo50⟩ := Kd.R_slice HO_11.out
                                subst eo50
                                have p325 : 0 ≤ (x14_4 : Int) := of_decide_eq_true (by first | (with_reducible assumption) | assumption)
                                have q325 : x14_4 < (t320.length : Int) := of_decide_eq_true (by first | (with_reducible assumption) | assumption)
                                obtain ⟨ad325, e325, hx325_0, hx325_1, hx325_2, hx325_3⟩ := at_T38 (Kd.R_reads' HO_11.out).2.2 x14_4 p325 q325
                                cases e325
                                replace p325 := eq_true p325
                                replace q325 := eq_true q325
                                have p326 : 0 ≤ (x14_4 : Int) := of_decide_eq_true (by first | (with_reducible assumption) | assumption)
                                have q326 : x14_4 < (t320.length : Int) := of_decide_eq_true (by first | (with_reducible assumption) | assumption)
                                obtain ⟨ad326, e326, hx326_0, hx326_1, hx326_2, hx326_3⟩ := at_T38 (Kd.R_reads' HO_11.out).2.2 x14_4 p326 q326
                                obtain rfl : ad325 = ad326 := (by injection e326)
                                replace p326 := eq_true p326
                                replace q326 := eq_true q326
                                go_wp2_with (first | (go_at_call 14; (with_reducible refine (lex_Name.calls k4 ((rd_T38 t320 x14_4).f2) false _ A47.out).mono ?_); rintro e w' ⟨rfl, ⟨nd, rfl⟩⟩))
                                go_roundg k4
                                case measure => have := HJ5.out; have := HK2.out; have := HJ38.out; have := HK4.out; omega
                                case rel => exact ⟨(wrap64 (x14_4 + 1)), (by first | rfl | (simp; done) | (simp [*]; done)), H', ⟨by have := HJ5.out; have := HK2.out; have := HJ38.out; have := HK4.out; omega⟩, ⟨by (with_reducible repeat (first | apply Kd.R_alloc | apply Kd.R_drewN | apply Kd.R_drew)); exact HO_7.out⟩, ⟨by (with_reducible repeat (first | apply Kd.R_alloc | apply Kd.R_drewN | apply Kd.R_drew)); exact HO_11.out⟩, ⟨by repeat (first | (with_reducible first | exact HB.out | apply below_alloc | apply pw_below_drewN | apply below_drew1) | exact HB.out)⟩⟩
                            · rw [if_neg c46] at H
                              have c46b0 : (((rd_T38 t320 x14_4).f0) == 4) = false := beq_eq_false_iff_ne.mpr c46
                              have c46b1 : (((rd_T38 t320 x14_4).f0) != 4) = true := bne_iff_ne.mpr c46
                              obtain rfl := Option.some.inj H
                              obtain ⟨Ao51, co51, eo51⟩ := Kd.R_slice HO_11.out
                              subst eo51
                              have p325 : 0 ≤ (x14_4 : Int) := of_decide_eq_true (by first | (with_reducible assumption) | assumption)
                              have q325 : x14_4 < (t320.length : Int) := of_decide_eq_true (by first | (with_reducible assumption) | assumption)
                              obtain ⟨ad325, e325, hx325_0, hx325_1, hx325_2, hx325_3⟩ := at_T38 (Kd.R_reads' HO_11.out).2.2 x14_4 p325 q325
                              cases e325
                              replace p325 := eq_true p325
                              replace q325 := eq_true q325
                              go_wp2
                              go_ret
                              exact ⟨by first | rfl | (simp [errW_none, errW_some] <;> rfl) | (simp [*, errW_none, errW_some] <;> rfl), by repeat (first | (with_reducible first | exact HB.out | apply below_alloc | apply pw_below_drewN | apply below_drew1) | exact HB.out)⟩
                          · rw [if_neg c45] at H
                            exact absurd H (by simp)
                        · rw [if_neg c44] at H
                          have c44b0 : decide (x14_4 < (t320.length : Int)) = false := decide_eq_false c44
                          clear c44
                          replace H := Option.bind_eq_some_iff.mp H
                          obtain ⟨t328, A520, H⟩ := H
                          replace H : (if t328 = 0 then (if (t311.length : Int) = 1 then (if 0 < (t311.length : Int) then (if (((rd_T38 t311 0).f0) == x10_38 && (((rd_T38 t311 0).f1) == 0 && ((((rd_T38 t311 0).f2).toList) == x5_2.toList && (((rd_T38 t311 0).f3) == 0)))) = true then ((lex_Name.f k4 x5_2).bind fun t330 => (if (t330 != a1) = true then ((lex_Con.f k4 x5_2).bind fun t331 => (if (t331 == a1) = true then (if (t320.length : Int) = 10 then ((warplaw1_Num.f t321).bind fun t332 => (if t332 = 0 then ((warplaw9_awake.f k4).bind fun t333 => (some t333)) else (some false))) else (some false)) else (some false))) else (some false))) else (some false)) else (none)) else (some false)) else (some false)) = some r := H
                          have A52 := Aside0.mk A520
                          clear A520
                          by_cases c53 : t328 = 0
                          · rw [if_pos c53] at H
                            have c53b0 : (t328 == 0) = true := beq_iff_eq.mpr c53
                            have c53b1 : (t328 != 0) = false := bne_eq_false_iff_eq.mpr c53
                            clear c53
                            by_cases c54 : (t311.length : Int) = 1
                            · rw [if_pos c54] at H
                              have c54b0 : ((t311.length : Int) == 1) = true := beq_iff_eq.mpr c54
                              have c54b1 : ((t311.length : Int) != 1) = false := bne_eq_false_iff_eq.mpr c54
                              clear c54
                              by_cases c55 : 0 < (t311.length : Int)
                              · rw [if_pos c55] at H
                                have c55b0 : decide (0 < (t311.length : Int)) = true := decide_eq_true c55
                                have c55b1 : decide (0 < t311.length) = true := decide_eq_true (by omega)
                                clear c55
                                by_cases c56 : (((rd_T38 t311 0).f0) == x10_38 && (((rd_T38 t311 0).f1) == 0 && ((((rd_T38 t311 0).f2).toList) == x5_2.toList && (((rd_T38 t311 0).f3) == 0)))) = true
                                · rw [if_pos c56] at H
                                  (try (have c56b0 : (((rd_T38 t311 0).f0) = x10_38 ∧ (((rd_T38 t311 0).f1) = 0 ∧ ((((rd_T38 t311 0).f2).toList) = x5_2.toList ∧ (((rd_T38 t311 0).f3) = 0)))) := by simpa using c56))
                                  have c56b1 : (((rd_T38 t311 0).f0) == x10_38 && (((rd_T38 t311 0).f1) == 0 && ((((rd_T38 t311 0).f2).toList) == x5_2.toList && (((rd_T38 t311 0).f3) == 0)))) = true := c56
                                  (try (have c56b2 : decide (((rd_T38 t311 0).f0) = x10_38 && (((rd_T38 t311 0).f1) == 0 && ((((rd_T38 t311 0).f2).toList) == x5_2.toList && (((rd_T38 t311 0).f3) == 0)))) = true := by simpa using c56))
                                  (try (have c56b3 : (((rd_T38 t311 0).f0) == x10_38 && (((rd_T38 t311 0).f1) == 0 && ((((rd_T38 t311 0).f2).toList) == x5_2.toList && (((rd_T38 t311 0).f3) == 0)))) = true := by simpa using c56))
                                  clear c56
                                  replace H := Option.bind_eq_some_iff.mp H
                                  obtain ⟨t330, A570, H⟩ := H
                                  replace H : (if (t330 != a1) = true then ((lex_Con.f k4 x5_2).bind fun t331 => (if (t331 == a1) = true then (if (t320.length : Int) = 10 then ((warplaw1_Num.f t321).bind fun t332 => (if t332 = 0 then ((warplaw9_awake.f k4).bind fun t333 => (some t333)) else (some false))) else (some false)) else (some false))) else (some false)) = some r := H
                                  have A57 := Aside0.mk A570
                                  clear A570
                                  by_cases c58 : (t330 != a1) = true
                                  · rw [if_pos c58] at H
                                    have c58b0 : (t330 != a1) = true := c58
                                    (try (have c58b1 : decide (t330 = a1) = false := by simpa using c58))
                                    (try (have c58b2 : (t330 == a1) = false := by simpa using c58))
                                    (try (have c58b3 : ¬ (t330 = a1) := by simpa using c58))
                                    clear c58
                                    replace H := Option.bind_eq_some_iff.mp H
                                    obtain ⟨t331, A590, H⟩ := H
                                    replace H : (if (t331 == a1) = true then (if (t320.length : Int) = 10 then ((warplaw1_Num.f t321).bind fun t332 => (if t332 = 0 then ((warplaw9_awake.f k4).bind fun t333 => (some t333)) else (some false))) else (some false)) else (some false)) = some r := H
                                    have A59 := Aside0.mk A590
                                    clear A590
                                    by_cases c60 : (t331 == a1) = true
                                    · rw [if_pos c60] at H
                                      have c60b0 : (t331 == a1) = true := c60
                                      (try (have c60b1 : decide (t331 = a1) = true := by simpa using c60))
                                      (try (have c60b2 : (t331 == a1) = true := by simpa using c60))
                                      clear c60
                                      by_cases c61 : (t320.length : Int) = 10
                                      · rw [if_pos c61] at H
                                        have c61b0 : ((t320.length : Int) == 10) = true := beq_iff_eq.mpr c61
                                        have c61b1 : ((t320.length : Int) != 10) = false := bne_eq_false_iff_eq.mpr c61
                                        clear c61
                                        replace H := Option.bind_eq_some_iff.mp H
                                        obtain ⟨t332, A620, H⟩ := H
                                        replace H : (if t332 = 0 then ((warplaw9_awake.f k4).bind fun t333 => (some t333)) else (some false)) = some r := H
                                        have A62 := Aside0.mk A620
                                        clear A620
                                        by_cases c63 : t332 = 0
                                        · rw [if_pos c63] at H
                                          have c63b0 : (t332 == 0) = true := beq_iff_eq.mpr c63
                                          have c63b1 : (t332 != 0) = false := bne_eq_false_iff_eq.mpr c63
                                          clear c63
                                          replace H := Option.bind_eq_some_iff.mp H
                                          obtain ⟨t333, A640, H⟩ := H
                                          replace H : (some t333) = some r := H
                                          have A64 := Aside0.mk A640
                                          clear A640
                                          obtain rfl := Option.some.inj H
                                          obtain ⟨Ao65, co65, eo65⟩ := Kd.R_slice HO_11.out
                                          subst eo65
                                          go_wp2_with (first | ((with_reducible refine gate_callee (f := 13) rfl ?_); refine goesL_ (some 97) rfl rfl Try.func13 (by kernel_rfl) rfl #[.int .i64 t312] rfl (by (try simp only [List.map_toArray, List.map_cons, List.map_nil]); first | done | rfl | (simp only [List.length_drop, List.length_take]; rfl)) ?_; (with_reducible refine (warplaw1_Num.calls t312 t328 _ A52.out).mono ?_); rintro e w' ⟨rfl, ⟨nd, rfl⟩⟩; refine ⟨_, rfl, ?_⟩; obtain ⟨Ao66, co66, eo66⟩ := Kd.R_slice HO_7.out; subst eo66; have p329 : 0 ≤ (0 : Int) := (by omega); have q329 : 0 < (t311.length : Int) := of_decide_eq_true (by first | (with_reducible assumption) | assumption); obtain ⟨ad329, e329, hx329_0, hx329_1, hx329_2, hx329_3⟩ := at_T38 (Kd.R_reads' HO_7.out).2.2 0 p329 q329; cases e329; have qi329 : (0 < t311.length) = True := eq_true (by omega); (try rw [show ((0 : Int)).toNat = 0 from rfl] at hx329_0); (try rw [show 0 * 4 = 0 from rfl] at hx329_0); (try rw [Addr.add_zero'] at hx329_0); (try rw [show ((0 : Int)).toNat = 0 from rfl] at hx329_1); (try rw [show 0 * 4 = 0 from rfl] at hx329_1); (try rw [Addr.add_zero'] at hx329_1); (try rw [show ((0 : Int)).toNat = 0 from rfl] at hx329_2); (try rw [show 0 * 4 = 0 from rfl] at hx329_2); (try rw [Addr.add_zero'] at hx329_2); (try rw [show ((0 : Int)).toNat = 0 from rfl] at hx329_3); (try rw [show 0 * 4 = 0 from rfl] at hx329_3); (try rw [Addr.add_zero'] at hx329_3); replace p329 := eq_true p329; replace q329 := eq_true q329) | (go_at_call 14; (with_reducible refine (lex_Name.calls k4 x5_2 t330 _ A57.out).mono ?_); rintro e w' ⟨rfl, ⟨nd, rfl⟩⟩) | (go_at_call 16; (with_reducible refine (lex_Con.calls k4 x5_2 t331 _ A59.out).mono ?_); rintro e w' ⟨rfl, ⟨nd, rfl⟩⟩) | (go_at_call 13; (with_reducible refine (warplaw1_Num.calls t321 t332 _ A62.out).mono ?_); rintro e w' ⟨rfl, ⟨nd, rfl⟩⟩) | (go_at_call 9; (with_reducible refine (warplaw9_awake.calls k4  t333 _ A64.out).mono ?_); rintro e w67 ⟨rfl, hb⟩; have n0_ := Aside0.mk (Kd.R_below (by (with_reducible repeat (first | apply Kd.R_alloc | apply Kd.R_drewN | apply Kd.R_drew)); exact HO_7.out) hb); have n1_ := Aside0.mk (Kd.R_below (by (with_reducible repeat (first | apply Kd.R_alloc | apply Kd.R_drewN | apply Kd.R_drew)); exact HO_11.out) hb); have n2_ := Aside0.mk (below_step (by repeat (first | (with_reducible first | exact HB.out | apply below_alloc | apply pw_below_drewN | apply below_drew1) | exact HB.out)) hb); clear HO_7; clear HO_11; clear HB; have HO_7 := n0_; have HO_11 := n1_; have HB := n2_; clear n0_ n1_ n2_; (try clear hb); (try clear hb2); (try clear hk); (try clear hi)))
                                          go_ret
                                          exact ⟨by first | rfl | (simp [errW_none, errW_some] <;> rfl) | (simp [*, errW_none, errW_some] <;> rfl), by repeat (first | (with_reducible first | exact HB.out | apply below_alloc | apply pw_below_drewN | apply below_drew1) | exact HB.out)⟩
                                        · rw [if_neg c63] at H
                                          have c63b0 : (t332 == 0) = false := beq_eq_false_iff_ne.mpr c63
                                          have c63b1 : (t332 != 0) = true := bne_iff_ne.mpr c63
                                          obtain rfl := Option.some.inj H
                                          obtain ⟨Ao68, co68, eo68⟩ := Kd.R_slice HO_11.out
                                          subst eo68
                                          go_wp2_with (first | ((with_reducible refine gate_callee (f := 13) rfl ?_); refine goesL_ (some 97) rfl rfl Try.func13 (by kernel_rfl) rfl #[.int .i64 t312] rfl (by (try simp only [List.map_toArray, List.map_cons, List.map_nil]); first | done | rfl | (simp only [List.length_drop, List.length_take]; rfl)) ?_; (with_reducible refine (warplaw1_Num.calls t312 t328 _ A52.out).mono ?_); rintro e w' ⟨rfl, ⟨nd, rfl⟩⟩; refine ⟨_, rfl, ?_⟩; obtain ⟨Ao69, co69, eo69⟩ := Kd.R_slice HO_7.out; subst eo69; have p329 : 0 ≤ (0 : Int) := (by omega); have q329 : 0 < (t311.length : Int) := of_decide_eq_true (by first | (with_reducible assumption) | assumption); obtain ⟨ad329, e329, hx329_0, hx329_1, hx329_2, hx329_3⟩ := at_T38 (Kd.R_reads' HO_7.out).2.2 0 p329 q329; cases e329; have qi329 : (0 < t311.length) = True := eq_true (by omega); (try rw [show ((0 : Int)).toNat = 0 from rfl] at hx329_0); (try rw [show 0 * 4 = 0 from rfl] at hx329_0); (try rw [Addr.add_zero'] at hx329_0); (try rw [show ((0 : Int)).toNat = 0 from rfl] at hx329_1); (try rw [show 0 * 4 = 0 from rfl] at hx329_1); (try rw [Addr.add_zero'] at hx329_1); (try rw [show ((0 : Int)).toNat = 0 from rfl] at hx329_2); (try rw [show 0 * 4 = 0 from rfl] at hx329_2); (try rw [Addr.add_zero'] at hx329_2); (try rw [show ((0 : Int)).toNat = 0 from rfl] at hx329_3); (try rw [show 0 * 4 = 0 from rfl] at hx329_3); (try rw [Addr.add_zero'] at hx329_3); replace p329 := eq_true p329; replace q329 := eq_true q329) | (go_at_call 14; (with_reducible refine (lex_Name.calls k4 x5_2 t330 _ A57.out).mono ?_); rintro e w' ⟨rfl, ⟨nd, rfl⟩⟩) | (go_at_call 16; (with_reducible refine (lex_Con.calls k4 x5_2 t331 _ A59.out).mono ?_); rintro e w' ⟨rfl, ⟨nd, rfl⟩⟩) | (go_at_call 13; (with_reducible refine (warplaw1_Num.calls t321 t332 _ A62.out).mono ?_); rintro e w' ⟨rfl, ⟨nd, rfl⟩⟩))
                                          go_ret
                                          exact ⟨by first | rfl | (simp [errW_none, errW_some] <;> rfl) | (simp [*, errW_none, errW_some] <;> rfl), by repeat (first | (with_reducible first | exact HB.out | apply below_alloc | apply pw_below_drewN | apply below_drew1) | exact HB.out)⟩
                                      · rw [if_neg c61] at H
                                        have c61b0 : ((t320.length : Int) == 10) = false := beq_eq_false_iff_ne.mpr c61
                                        have c61b1 : ((t320.length : Int) != 10) = true := bne_iff_ne.mpr c61
                                        obtain rfl := Option.some.inj H
                                        obtain ⟨Ao70, co70, eo70⟩ := Kd.R_slice HO_11.out
                                        subst eo70
                                        go_wp2_with (first | ((with_reducible refine gate_callee (f := 13) rfl ?_); refine goesL_ (some 97) rfl rfl Try.func13 (by kernel_rfl) rfl #[.int .i64 t312] rfl (by (try simp only [List.map_toArray, List.map_cons, List.map_nil]); first | done | rfl | (simp only [List.length_drop, List.length_take]; rfl)) ?_; (with_reducible refine (warplaw1_Num.calls t312 t328 _ A52.out).mono ?_); rintro e w' ⟨rfl, ⟨nd, rfl⟩⟩; refine ⟨_, rfl, ?_⟩; obtain ⟨Ao71, co71, eo71⟩ := Kd.R_slice HO_7.out; subst eo71; have p329 : 0 ≤ (0 : Int) := (by omega); have q329 : 0 < (t311.length : Int) := of_decide_eq_true (by first | (with_reducible assumption) | assumption); obtain ⟨ad329, e329, hx329_0, hx329_1, hx329_2, hx329_3⟩ := at_T38 (Kd.R_reads' HO_7.out).2.2 0 p329 q329; cases e329; have qi329 : (0 < t311.length) = True := eq_true (by omega); (try rw [show ((0 : Int)).toNat = 0 from rfl] at hx329_0); (try rw [show 0 * 4 = 0 from rfl] at hx329_0); (try rw [Addr.add_zero'] at hx329_0); (try rw [show ((0 : Int)).toNat = 0 from rfl] at hx329_1); (try rw [show 0 * 4 = 0 from rfl] at hx329_1); (try rw [Addr.add_zero'] at hx329_1); (try rw [show ((0 : Int)).toNat = 0 from rfl] at hx329_2); (try rw [show 0 * 4 = 0 from rfl] at hx329_2); (try rw [Addr.add_zero'] at hx329_2); (try rw [show ((0 : Int)).toNat = 0 from rfl] at hx329_3); (try rw [show 0 * 4 = 0 from rfl] at hx329_3); (try rw [Addr.add_zero'] at hx329_3); replace p329 := eq_true p329; replace q329 := eq_true q329) | (go_at_call 14; (with_reducible refine (lex_Name.calls k4 x5_2 t330 _ A57.out).mono ?_); rintro e w' ⟨rfl, ⟨nd, rfl⟩⟩) | (go_at_call 16; (with_reducible refine (lex_Con.calls k4 x5_2 t331 _ A59.out).mono ?_); rintro e w' ⟨rfl, ⟨nd, rfl⟩⟩))
                                        go_ret
                                        exact ⟨by first | rfl | (simp [errW_none, errW_some] <;> rfl) | (simp [*, errW_none, errW_some] <;> rfl), by repeat (first | (with_reducible first | exact HB.out | apply below_alloc | apply pw_below_drewN | apply below_drew1) | exact HB.out)⟩
                                    · rw [if_neg c60] at H
                                      have c60b0 : (t331 == a1) = false := by simpa using c60
                                      (try (have c60b1 : decide (t331 = a1) = false := by simpa using c60))
                                      (try (have c60b2 : (t331 == a1) = false := by simpa using c60))
                                      (try (have c60b3 : ¬ (t331 = a1) := by simpa using c60))
                                      clear c60
                                      obtain rfl := Option.some.inj H
                                      obtain ⟨Ao72, co72, eo72⟩ := Kd.R_slice HO_11.out
                                      subst eo72
                                      go_wp2_with (first | ((with_reducible refine gate_callee (f := 13) rfl ?_); refine goesL_ (some 97) rfl rfl Try.func13 (by kernel_rfl) rfl #[.int .i64 t312] rfl (by (try simp only [List.map_toArray, List.map_cons, List.map_nil]); first | done | rfl | (simp only [List.length_drop, List.length_take]; rfl)) ?_; (with_reducible refine (warplaw1_Num.calls t312 t328 _ A52.out).mono ?_); rintro e w' ⟨rfl, ⟨nd, rfl⟩⟩; refine ⟨_, rfl, ?_⟩; obtain ⟨Ao73, co73, eo73⟩ := Kd.R_slice HO_7.out; subst eo73; have p329 : 0 ≤ (0 : Int) := (by omega); have q329 : 0 < (t311.length : Int) := of_decide_eq_true (by first | (with_reducible assumption) | assumption); obtain ⟨ad329, e329, hx329_0, hx329_1, hx329_2, hx329_3⟩ := at_T38 (Kd.R_reads' HO_7.out).2.2 0 p329 q329; cases e329; have qi329 : (0 < t311.length) = True := eq_true (by omega); (try rw [show ((0 : Int)).toNat = 0 from rfl] at hx329_0); (try rw [show 0 * 4 = 0 from rfl] at hx329_0); (try rw [Addr.add_zero'] at hx329_0); (try rw [show ((0 : Int)).toNat = 0 from rfl] at hx329_1); (try rw [show 0 * 4 = 0 from rfl] at hx329_1); (try rw [Addr.add_zero'] at hx329_1); (try rw [show ((0 : Int)).toNat = 0 from rfl] at hx329_2); (try rw [show 0 * 4 = 0 from rfl] at hx329_2); (try rw [Addr.add_zero'] at hx329_2); (try rw [show ((0 : Int)).toNat = 0 from rfl] at hx329_3); (try rw [show 0 * 4 = 0 from rfl] at hx329_3); (try rw [Addr.add_zero'] at hx329_3); replace p329 := eq_true p329; replace q329 := eq_true q329) | (go_at_call 14; (with_reducible refine (lex_Name.calls k4 x5_2 t330 _ A57.out).mono ?_); rintro e w' ⟨rfl, ⟨nd, rfl⟩⟩) | (go_at_call 16; (with_reducible refine (lex_Con.calls k4 x5_2 t331 _ A59.out).mono ?_); rintro e w' ⟨rfl, ⟨nd, rfl⟩⟩))
                                      go_ret
                                      exact ⟨by first | rfl | (simp [errW_none, errW_some] <;> rfl) | (simp [*, errW_none, errW_some] <;> rfl), by repeat (first | (with_reducible first | exact HB.out | apply below_alloc | apply pw_below_drewN | apply below_drew1) | exact HB.out)⟩
                                  · rw [if_neg c58] at H
                                    have c58b0 : (t330 != a1) = false := by simpa using c58
                                    (try (have c58b1 : decide (t330 = a1) = true := by simpa using c58))
                                    (try (have c58b2 : (t330 == a1) = true := by simpa using c58))
                                    clear c58
                                    obtain rfl := Option.some.inj H
                                    obtain ⟨Ao74, co74, eo74⟩ := Kd.R_slice HO_11.out
                                    subst eo74
                                    go_wp2_with (first | ((with_reducible refine gate_callee (f := 13) rfl ?_); refine goesL_ (some 97) rfl rfl Try.func13 (by kernel_rfl) rfl #[.int .i64 t312] rfl (by (try simp only [List.map_toArray, List.map_cons, List.map_nil]); first | done | rfl | (simp only [List.length_drop, List.length_take]; rfl)) ?_; (with_reducible refine (warplaw1_Num.calls t312 t328 _ A52.out).mono ?_); rintro e w' ⟨rfl, ⟨nd, rfl⟩⟩; refine ⟨_, rfl, ?_⟩; obtain ⟨Ao75, co75, eo75⟩ := Kd.R_slice HO_7.out; subst eo75; have p329 : 0 ≤ (0 : Int) := (by omega); have q329 : 0 < (t311.length : Int) := of_decide_eq_true (by first | (with_reducible assumption) | assumption); obtain ⟨ad329, e329, hx329_0, hx329_1, hx329_2, hx329_3⟩ := at_T38 (Kd.R_reads' HO_7.out).2.2 0 p329 q329; cases e329; have qi329 : (0 < t311.length) = True := eq_true (by omega); (try rw [show ((0 : Int)).toNat = 0 from rfl] at hx329_0); (try rw [show 0 * 4 = 0 from rfl] at hx329_0); (try rw [Addr.add_zero'] at hx329_0); (try rw [show ((0 : Int)).toNat = 0 from rfl] at hx329_1); (try rw [show 0 * 4 = 0 from rfl] at hx329_1); (try rw [Addr.add_zero'] at hx329_1); (try rw [show ((0 : Int)).toNat = 0 from rfl] at hx329_2); (try rw [show 0 * 4 = 0 from rfl] at hx329_2); (try rw [Addr.add_zero'] at hx329_2); (try rw [show ((0 : Int)).toNat = 0 from rfl] at hx329_3); (try rw [show 0 * 4 = 0 from rfl] at hx329_3); (try rw [Addr.add_zero'] at hx329_3); replace p329 := eq_true p329; replace q329 := eq_true q329) | (go_at_call 14; (with_reducible refine (lex_Name.calls k4 x5_2 t330 _ A57.out).mono ?_); rintro e w' ⟨rfl, ⟨nd, rfl⟩⟩))
                                    go_ret
                                    exact ⟨by first | rfl | (simp [errW_none, errW_some] <;> rfl) | (simp [*, errW_none, errW_some] <;> rfl), by repeat (first | (with_reducible first | exact HB.out | apply below_alloc | apply pw_below_drewN | apply below_drew1) | exact HB.out)⟩
                                · rw [if_neg c56] at H
                                  (try (have c56b0 : ¬ (((rd_T38 t311 0).f0) = x10_38 ∧ (((rd_T38 t311 0).f1) = 0 ∧ ((((rd_T38 t311 0).f2).toList) = x5_2.toList ∧ (((rd_T38 t311 0).f3) = 0)))) := by simpa using c56))
                                  have c56b1 : (((rd_T38 t311 0).f0) == x10_38 && (((rd_T38 t311 0).f1) == 0 && ((((rd_T38 t311 0).f2).toList) == x5_2.toList && (((rd_T38 t311 0).f3) == 0)))) = false := by simpa using c56
                                  (try (have c56b2 : decide (((rd_T38 t311 0).f0) = x10_38 && (((rd_T38 t311 0).f1) == 0 && ((((rd_T38 t311 0).f2).toList) == x5_2.toList && (((rd_T38 t311 0).f3) == 0)))) = false := by simpa using c56))
                                  (try (have c56b3 : (((rd_T38 t311 0).f0) == x10_38 && (((rd_T38 t311 0).f1) == 0 && ((((rd_T38 t311 0).f2).toList) == x5_2.toList && (((rd_T38 t311 0).f3) == 0)))) = false := by simpa using c56))
                                  (try (have c56b4 : ¬ (((rd_T38 t311 0).f0) = x10_38 && (((rd_T38 t311 0).f1) == 0 && ((((rd_T38 t311 0).f2).toList) == x5_2.toList && (((rd_T38 t311 0).f3) == 0)))) := by simpa using c56))
                                  clear c56
                                  obtain rfl := Option.some.inj H
                                  obtain ⟨Ao76, co76, eo76⟩ := Kd.R_slice HO_11.out
                                  subst eo76
                                  go_wp2_with (first | ((with_reducible refine gate_callee (f := 13) rfl ?_); refine goesL_ (some 97) rfl rfl Try.func13 (by kernel_rfl) rfl #[.int .i64 t312] rfl (by (try simp only [List.map_toArray, List.map_cons, List.map_nil]); first | done | rfl | (simp only [List.length_drop, List.length_take]; rfl)) ?_; (with_reducible refine (warplaw1_Num.calls t312 t328 _ A52.out).mono ?_); rintro e w' ⟨rfl, ⟨nd, rfl⟩⟩; refine ⟨_, rfl, ?_⟩; obtain ⟨Ao77, co77, eo77⟩ := Kd.R_slice HO_7.out; subst eo77; have p329 : 0 ≤ (0 : Int) := (by omega); have q329 : 0 < (t311.length : Int) := of_decide_eq_true (by first | (with_reducible assumption) | assumption); obtain ⟨ad329, e329, hx329_0, hx329_1, hx329_2, hx329_3⟩ := at_T38 (Kd.R_reads' HO_7.out).2.2 0 p329 q329; cases e329; have qi329 : (0 < t311.length) = True := eq_true (by omega); (try rw [show ((0 : Int)).toNat = 0 from rfl] at hx329_0); (try rw [show 0 * 4 = 0 from rfl] at hx329_0); (try rw [Addr.add_zero'] at hx329_0); (try rw [show ((0 : Int)).toNat = 0 from rfl] at hx329_1); (try rw [show 0 * 4 = 0 from rfl] at hx329_1); (try rw [Addr.add_zero'] at hx329_1); (try rw [show ((0 : Int)).toNat = 0 from rfl] at hx329_2); (try rw [show 0 * 4 = 0 from rfl] at hx329_2); (try rw [Addr.add_zero'] at hx329_2); (try rw [show ((0 : Int)).toNat = 0 from rfl] at hx329_3); (try rw [show 0 * 4 = 0 from rfl] at hx329_3); (try rw [Addr.add_zero'] at hx329_3); replace p329 := eq_true p329; replace q329 := eq_true q329))
                                  go_ret
                                  exact ⟨by first | rfl | (simp [errW_none, errW_some] <;> rfl) | (simp [*, errW_none, errW_some] <;> rfl), by repeat (first | (with_reducible first | exact HB.out | apply below_alloc | apply pw_below_drewN | apply below_drew1) | exact HB.out)⟩
                              · rw [if_neg c55] at H
                                exact absurd H (by simp)
                            · rw [if_neg c54] at H
                              have c54b0 : ((t311.length : Int) == 1) = false := beq_eq_false_iff_ne.mpr c54
                              have c54b1 : ((t311.length : Int) != 1) = true := bne_iff_ne.mpr c54
                              obtain rfl := Option.some.inj H
                              obtain ⟨Ao78, co78, eo78⟩ := Kd.R_slice HO_11.out
                              subst eo78
                              go_wp2_with (first | ((with_reducible refine gate_callee (f := 13) rfl ?_); refine goesL_ (some 97) rfl rfl Try.func13 (by kernel_rfl) rfl #[.int .i64 t312] rfl (by (try simp only [List.map_toArray, List.map_cons, List.map_nil]); first | done | rfl | (simp only [List.length_drop, List.length_take]; rfl)) ?_; (with_reducible refine (warplaw1_Num.calls t312 t328 _ A52.out).mono ?_); rintro e w' ⟨rfl, ⟨nd, rfl⟩⟩; refine ⟨_, rfl, ?_⟩; obtain ⟨Ao79, co79, eo79⟩ := Kd.R_slice HO_7.out; subst eo79))
                              go_ret
                              exact ⟨by first | rfl | (simp [errW_none, errW_some] <;> rfl) | (simp [*, errW_none, errW_some] <;> rfl), by repeat (first | (with_reducible first | exact HB.out | apply below_alloc | apply pw_below_drewN | apply below_drew1) | exact HB.out)⟩
                          · rw [if_neg c53] at H
                            have c53b0 : (t328 == 0) = false := beq_eq_false_iff_ne.mpr c53
                            have c53b1 : (t328 != 0) = true := bne_iff_ne.mpr c53
                            obtain rfl := Option.some.inj H
                            obtain ⟨Ao80, co80, eo80⟩ := Kd.R_slice HO_11.out
                            subst eo80
                            go_wp2_with (first | ((with_reducible refine gate_callee (f := 13) rfl ?_); refine goesL_ (some 97) rfl rfl Try.func13 (by kernel_rfl) rfl #[.int .i64 t312] rfl (by (try simp only [List.map_toArray, List.map_cons, List.map_nil]); first | done | rfl | (simp only [List.length_drop, List.length_take]; rfl)) ?_; (with_reducible refine (warplaw1_Num.calls t312 t328 _ A52.out).mono ?_); rintro e w' ⟨rfl, ⟨nd, rfl⟩⟩; refine ⟨_, rfl, ?_⟩))
                            go_ret
                            exact ⟨by first | rfl | (simp [errW_none, errW_some] <;> rfl) | (simp [*, errW_none, errW_some] <;> rfl), by repeat (first | (with_reducible first | exact HB.out | apply below_alloc | apply pw_below_drewN | apply below_drew1) | exact HB.out)⟩

/-- THE ONE PURE STATEMENT of warplaw9_LexNames: yours. -/
def warplaw9_LexNames.Pure : Prop := ∀ (l0 : List Int) (a1 : Bool), l0.length ≤ maxLen → l0.length * 1 ≤ 140737488351232 → (∀ x ∈ l0, (Lit.int .u8 x).wf = true) → ∃ k, warplaw9_LexNames.f k l0 a1 = some true
theorem warplaw9_LexNames.walk (P : warplaw9_LexNames.Pure) (a0 : Option Addr) (len0 cap0 : Nat) (z0 : List Int) (a1 : Bool) (w : World) (w0 : (a0 = none ∧ len0 = 0 ∧ cap0 = 0 ∧ z0 = []) ∨ ∃ x, a0 = some x ∧ len0 ≤ cap0 ∧ cap0 ≤ maxLen ∧ z0.length = cap0 ∧ (∀ i, i < z0.length → w.cell? (x.add i) = some (.int .u8 (z0.getD i 0))) ∧ ∀ n ∈ z0, (Lit.int .u8 n).wf = true) (y0 : len0 * 1 ≤ 140737488351232) :
    Calls Try.prog 7 #[.slice a0 len0 cap0, .bool a1] w fun e w' => e = .returned (.bool true) ∧ Below w.heap.size w w' := by
  obtain ⟨l0, rfl, hr0, hm0, hw0, hc0⟩ := ReadsInt.ofRowC w0
  obtain ⟨k, h⟩ := P l0 a1 hm0 y0 hw0
  refine (warplaw9_LexNames.calls k _ _ l0 a1 true w (Kd.C_of_reads (d := (0 : Int)) (h1 := fun _ => rfl) hr0) hc0 h).mono ?_
  rintro e w' ⟨rfl, hd⟩
  exact ⟨rfl, hd⟩

end Go.Proofs.Ythpnplcagfpngaa.Q
