-- Written by this session's pm.py, out of the translation. Not trusted: Lean checks it.
import Derived.Test.YthpnplcagfpngaaQ0
import Derived.Test.YthpnplcagfpngaaQ2
import Derived.Test.YthpnplcagfpngaaQ3
namespace Go.Proofs.Ythpnplcagfpngaa.Q
open Go.RowKit Go.Proofs.YthpnplcagfpngaaW.PrintWords Go.Proofs.YthpnplcagfpngaaW.PrintLast Go.Proofs.YthpnplcagfpngaaW.PrintMore
attribute [local go_sem] max2_int min2_int max_two min_two max_three min_three max_four min_four   -- for this text's walks alone
set_option linter.unusedVariables false
set_option linter.unusedSimpArgs false

/-! ### lex_skipped: function 20 -/
def lex_skipped.l0 : Nat → ByteArray → Int → Option (Int)
  | 0, _, _ => none
  | k + 1, x0, x3 => if 0 ≤ x3 then (if x3 ≤ (x0.size : Int) then ((lex_row.f k (x0.extract (x3 : Int).toNat x0.size) 16).bind fun t103 => (if 0 ≤ (wrap64 (x3 + t103)) then (if (wrap64 (x3 + t103)) ≤ (x0.size : Int) then ((strings_HasPrefix.f (x0.extract ((wrap64 (x3 + t103)) : Int).toNat x0.size) (⟨#[45, 45]⟩ : ByteArray)).bind fun t104 => (if t104 = true then ((strings_IndexByte.f (x0.extract ((wrap64 (x3 + t103)) : Int).toNat x0.size) 10).bind fun t105 => (if t105 ≥ 0 then (lex_skipped.l0 k x0 (wrap64 ((wrap64 (x3 + t103)) + t105))) else (lex_skipped.l0 k x0 (x0.size : Int)))) else (some (wrap64 (x3 + t103))))) else (none)) else (none))) else (none)) else (none)
def lex_skipped.f (k : Nat) (a0 : ByteArray) : Option (Int) := lex_skipped.l0 k a0 0
theorem lex_skipped.mono_l : ∀ k, (∀ y0 y1, LeO (lex_skipped.l0 k y0 y1) (lex_skipped.l0 (k + 1) y0 y1))
  | 0 => fun _ _ r h => by simp [lex_skipped.l0] at h
  | k + 1 => by
    have ih0 := lex_skipped.mono_l k
    · intro y0 y1
      unfold lex_skipped.l0
      repeat' first
      | (with_reducible exact ih0 _ _)
      | (with_reducible exact lex_row.mono _ _ _)
      | (with_reducible exact LeO.refl _)
      | (with_reducible exact LeO.none _)
      | (with_reducible refine LeO.ite ?_ ?_)
      | (with_reducible refine LeO.bind ?_ (fun _ => ?_))
      | exact ih0 _ _
      | exact lex_row.mono _ _ _
      | exact LeO.none _
      | refine LeO.ite ?_ ?_
      | refine LeO.bind ?_ (fun _ => ?_)
theorem lex_skipped.mono : ∀ a0 k, LeO (lex_skipped.f k a0) (lex_skipped.f (k + 1) a0) := by
  intro a0 k
  have ih0 := lex_skipped.mono_l k
  unfold lex_skipped.f
  repeat' first
      | (with_reducible exact ih0 _ _)
      | (with_reducible exact lex_row.mono _ _ _)
      | (with_reducible exact LeO.refl _)
      | (with_reducible exact LeO.none _)
      | (with_reducible refine LeO.ite ?_ ?_)
      | (with_reducible refine LeO.bind ?_ (fun _ => ?_))
      | exact ih0 _ _
      | exact lex_row.mono _ _ _
      | exact LeO.none _
      | refine LeO.ite ?_ ?_
      | refine LeO.bind ?_ (fun _ => ?_)
set_option maxHeartbeats 8000000 in
set_option maxRecDepth 100000 in
theorem lex_skipped.calls (k : Nat) (a0 : ByteArray) (r : Int) (w : World) (h : lex_skipped.f k a0 = some r) :
    Calls Try.prog 20 #[.string a0] w fun e w' => e = .returned (.int .i64 r) ∧ Drawn0 w w' := by
  have H : (lex_skipped.l0 k a0 0) = some r := h
  clear h
  have H' := Aside0.mk H
  clear H
  go_enter Try.func20, Try.ntmps20
  go_wp2
  go_loopg [3] k (fun kq v3 w' => ∃ (x3_1 : Int), v3 = .int .i64 x3_1 ∧ Aside0 (lex_skipped.l0 kq a0 x3_1 = some r) ∧ Aside0 (kq ≤ k) ∧ Drawn0 w w')
  case atStart => exact ⟨(0), (by first | rfl | (simp; done) | (simp [*]; done)), H', ⟨Nat.le_refl _⟩, by repeat (first | exact Drawn0.refl _ | apply Drawn0.step)⟩
  case round =>
    clear H'
    obtain ⟨x3_1, rfl, HA, HK1, ⟨m1, rfl⟩⟩ := hrel
    cases gk with
    | zero => exact absurd HA.out (by simp [lex_skipped.l0])
    | succ k1 =>
      have H := HA.out
      clear HA
      simp only [lex_skipped.l0] at H
      by_cases c2 : 0 ≤ x3_1
      · rw [if_pos c2] at H
        have c2b0 := eq_true c2
        have c2b1 : decide (0 ≤ x3_1) = true := decide_eq_true c2
        clear c2
        by_cases c3 : x3_1 ≤ (a0.size : Int)
        · rw [if_pos c3] at H
          have c3b0 := eq_true c3
          have c3b1 : decide (x3_1 ≤ (a0.size : Int)) = true := decide_eq_true c3
          clear c3
          replace H := Option.bind_eq_some_iff.mp H
          obtain ⟨t103, A40, H⟩ := H
          replace H : (if 0 ≤ (wrap64 (x3_1 + t103)) then (if (wrap64 (x3_1 + t103)) ≤ (a0.size : Int) then ((strings_HasPrefix.f (a0.extract ((wrap64 (x3_1 + t103)) : Int).toNat a0.size) (⟨#[45, 45]⟩ : ByteArray)).bind fun t104 => (if t104 = true then ((strings_IndexByte.f (a0.extract ((wrap64 (x3_1 + t103)) : Int).toNat a0.size) 10).bind fun t105 => (if t105 ≥ 0 then (lex_skipped.l0 k1 a0 (wrap64 ((wrap64 (x3_1 + t103)) + t105))) else (lex_skipped.l0 k1 a0 (a0.size : Int)))) else (some (wrap64 (x3_1 + t103))))) else (none)) else (none)) = some r := H
          have A4 := Aside0.mk A40
          clear A40
          obtain ⟨ji5, hji5⟩ : ∃ j_ : Int, (wrap64 (x3_1 + t103)) = j_ := ⟨_, rfl⟩
          replace H : (if 0 ≤ (ji5) then (if (ji5) ≤ (a0.size : Int) then ((strings_HasPrefix.f (a0.extract ((ji5) : Int).toNat a0.size) (⟨#[45, 45]⟩ : ByteArray)).bind fun t104 => (if t104 = true then ((strings_IndexByte.f (a0.extract ((ji5) : Int).toNat a0.size) 10).bind fun t105 => (if t105 ≥ 0 then (lex_skipped.l0 k1 a0 (wrap64 ((ji5) + t105))) else (lex_skipped.l0 k1 a0 (a0.size : Int)))) else (some ji5))) else (none)) else (none)) = some r := by first | (rw [hji5] at H; exact H) | (simp only [hji5] at H ⊢; exact H)
          (try rw [hji5] at A4)
          have hji5w : (IntKind.i64.wrap (x3_1 + t103)) = ji5 := (i64_w _).trans hji5
          by_cases c6 : 0 ≤ (ji5)
          · rw [if_pos c6] at H
            have c6b0 := eq_true c6
            have c6b1 : decide (0 ≤ (ji5)) = true := decide_eq_true c6
            clear c6
            by_cases c7 : (ji5) ≤ (a0.size : Int)
            · rw [if_pos c7] at H
              have c7b0 := eq_true c7
              have c7b1 : decide ((ji5) ≤ (a0.size : Int)) = true := decide_eq_true c7
              clear c7
              replace H := Option.bind_eq_some_iff.mp H
              obtain ⟨t104, A80, H⟩ := H
              replace H : (if t104 = true then ((strings_IndexByte.f (a0.extract ((ji5) : Int).toNat a0.size) 10).bind fun t105 => (if t105 ≥ 0 then (lex_skipped.l0 k1 a0 (wrap64 ((ji5) + t105))) else (lex_skipped.l0 k1 a0 (a0.size : Int)))) else (some ji5)) = some r := H
              have A8 := Aside0.mk A80
              clear A80
              by_cases c9 : t104 = true
              · subst c9
                have H1 : ((strings_IndexByte.f (a0.extract ((ji5) : Int).toNat a0.size) 10).bind fun t105 => (if t105 ≥ 0 then (lex_skipped.l0 k1 a0 (wrap64 ((ji5) + t105))) else (lex_skipped.l0 k1 a0 (a0.size : Int)))) = some r := by rw [if_pos rfl] at H; exact H
                clear H
                have H := H1
                clear H1
                have c10b0 := eq_true (of_decide_eq_true (by first | (with_reducible assumption) | assumption) : 0 ≤ (ji5))
                have c11b0 := eq_true (of_decide_eq_true (by first | (with_reducible assumption) | assumption) : (ji5) ≤ (a0.size : Int))
                replace H := Option.bind_eq_some_iff.mp H
                obtain ⟨t105, A120, H⟩ := H
                replace H : (if t105 ≥ 0 then (lex_skipped.l0 k1 a0 (wrap64 ((ji5) + t105))) else (lex_skipped.l0 k1 a0 (a0.size : Int))) = some r := H
                have A12 := Aside0.mk A120
                clear A120
                by_cases c13 : t105 ≥ 0
                · rw [if_pos c13] at H
                  have c13b0 : decide (0 ≤ t105) = true := decide_eq_true c13
                  clear c13
                  have H' := Aside0.mk H
                  clear H
                  go_wp2_with (first | ((with_reducible refine gate_callee (f := 31) rfl ?_); refine goesL_ (some 9) rfl rfl Try.func31 (by kernel_rfl) rfl #[.string (a0.extract (x3_1 : Int).toNat a0.size), .int .i64 16] rfl (by (try simp only [List.map_toArray, List.map_cons, List.map_nil]); first | done | rfl | (simp only [List.length_drop, List.length_take]; rfl)) ?_; (with_reducible refine (lex_row.calls k1 (a0.extract (x3_1 : Int).toNat a0.size) 16 t103 _ A4.out).mono ?_); rintro e w' ⟨rfl, ⟨nd, rfl⟩⟩; refine ⟨_, rfl, ?_⟩) | ((with_reducible refine gate_callee (f := 32) rfl ?_); refine goesL_ (some 14) rfl rfl Try.func32 (by kernel_rfl) rfl #[.string (a0.extract ((ji5) : Int).toNat a0.size), .string (⟨#[45, 45]⟩ : ByteArray)] rfl (by (try simp only [List.map_toArray, List.map_cons, List.map_nil]); first | done | (simp only [hji5]; rfl) | rfl | (simp only [List.length_drop, List.length_take]; rfl)) ?_; (with_reducible refine (strings_HasPrefix.calls (a0.extract ((ji5) : Int).toNat a0.size) (⟨#[45, 45]⟩ : ByteArray) true _ A8.out).mono ?_); rintro e w' ⟨rfl, ⟨nd, rfl⟩⟩; refine ⟨_, rfl, ?_⟩) | ((with_reducible refine gate_callee (f := 33) rfl ?_); refine goesL_ (some 20) rfl rfl Try.func33 (by kernel_rfl) rfl #[.string (a0.extract ((ji5) : Int).toNat a0.size), .int .u8 10] rfl (by (try simp only [List.map_toArray, List.map_cons, List.map_nil]); first | done | (simp only [hji5]; rfl) | rfl | (simp only [List.length_drop, List.length_take]; rfl)) ?_; (with_reducible refine (strings_IndexByte.calls (a0.extract ((ji5) : Int).toNat a0.size) 10 t105 _ A12.out).mono ?_); rintro e w' ⟨rfl, ⟨nd, rfl⟩⟩; refine ⟨_, rfl, ?_⟩))
                  go_roundg k1
                  case measure => have := HK1.out; omega
                  case rel => exact ⟨(wrap64 ((ji5) + t105)), (by first | rfl | (simp; done) | (simp only [← hji5] <;> (first | rfl | simp)) | (simp [*]; done)), H', ⟨by have := HK1.out; omega⟩, by repeat (first | exact Drawn0.refl _ | apply Drawn0.step)⟩
                · rw [if_neg c13] at H
                  have c13b0 : decide (0 ≤ t105) = false := decide_eq_false c13
                  clear c13
                  have H' := Aside0.mk H
                  clear H
                  go_wp2_with (first | ((with_reducible refine gate_callee (f := 31) rfl ?_); refine goesL_ (some 9) rfl rfl Try.func31 (by kernel_rfl) rfl #[.string (a0.extract (x3_1 : Int).toNat a0.size), .int .i64 16] rfl (by (try simp only [List.map_toArray, List.map_cons, List.map_nil]); first | done | rfl | (simp only [List.length_drop, List.length_take]; rfl)) ?_; (with_reducible refine (lex_row.calls k1 (a0.extract (x3_1 : Int).toNat a0.size) 16 t103 _ A4.out).mono ?_); rintro e w' ⟨rfl, ⟨nd, rfl⟩⟩; refine ⟨_, rfl, ?_⟩) | ((with_reducible refine gate_callee (f := 32) rfl ?_); refine goesL_ (some 14) rfl rfl Try.func32 (by kernel_rfl) rfl #[.string (a0.extract ((ji5) : Int).toNat a0.size), .string (⟨#[45, 45]⟩ : ByteArray)] rfl (by (try simp only [List.map_toArray, List.map_cons, List.map_nil]); first | done | (simp only [hji5]; rfl) | rfl | (simp only [List.length_drop, List.length_take]; rfl)) ?_; (with_reducible refine (strings_HasPrefix.calls (a0.extract ((ji5) : Int).toNat a0.size) (⟨#[45, 45]⟩ : ByteArray) true _ A8.out).mono ?_); rintro e w' ⟨rfl, ⟨nd, rfl⟩⟩; refine ⟨_, rfl, ?_⟩) | ((with_reducible refine gate_callee (f := 33) rfl ?_); refine goesL_ (some 20) rfl rfl Try.func33 (by kernel_rfl) rfl #[.string (a0.extract ((ji5) : Int).toNat a0.size), .int .u8 10] rfl (by (try simp only [List.map_toArray, List.map_cons, List.map_nil]); first | done | (simp only [hji5]; rfl) | rfl | (simp only [List.length_drop, List.length_take]; rfl)) ?_; (with_reducible refine (strings_IndexByte.calls (a0.extract ((ji5) : Int).toNat a0.size) 10 t105 _ A12.out).mono ?_); rintro e w' ⟨rfl, ⟨nd, rfl⟩⟩; refine ⟨_, rfl, ?_⟩))
                  go_roundg k1
                  case measure => have := HK1.out; omega
                  case rel => exact ⟨((a0.size : Int)), (by first | rfl | (simp; done) | (simp [*]; done)), H', ⟨by have := HK1.out; omega⟩, by repeat (first | exact Drawn0.refl _ | apply Drawn0.step)⟩
              · replace c9 := Bool.eq_false_iff.mpr c9
                subst c9
                have H1 : (some ji5) = some r := by rw [if_neg (show ¬ (false = true) by decide)] at H; exact H
                clear H
                have H := H1
                clear H1
                obtain rfl := Option.some.inj H
                go_wp2_with (first | ((with_reducible refine gate_callee (f := 31) rfl ?_); refine goesL_ (some 9) rfl rfl Try.func31 (by kernel_rfl) rfl #[.string (a0.extract (x3_1 : Int).toNat a0.size), .int .i64 16] rfl (by (try simp only [List.map_toArray, List.map_cons, List.map_nil]); first | done | rfl | (simp only [List.length_drop, List.length_take]; rfl)) ?_; (with_reducible refine (lex_row.calls k1 (a0.extract (x3_1 : Int).toNat a0.size) 16 t103 _ A4.out).mono ?_); rintro e w' ⟨rfl, ⟨nd, rfl⟩⟩; refine ⟨_, rfl, ?_⟩) | ((with_reducible refine gate_callee (f := 32) rfl ?_); refine goesL_ (some 14) rfl rfl Try.func32 (by kernel_rfl) rfl #[.string (a0.extract ((ji5) : Int).toNat a0.size), .string (⟨#[45, 45]⟩ : ByteArray)] rfl (by (try simp only [List.map_toArray, List.map_cons, List.map_nil]); first | done | (simp only [hji5]; rfl) | rfl | (simp only [List.length_drop, List.length_take]; rfl)) ?_; (with_reducible refine (strings_HasPrefix.calls (a0.extract ((ji5) : Int).toNat a0.size) (⟨#[45, 45]⟩ : ByteArray) false _ A8.out).mono ?_); rintro e w' ⟨rfl, ⟨nd, rfl⟩⟩; refine ⟨_, rfl, ?_⟩))
                go_ret
                exact ⟨by first | rfl | (simp; done) | (simp only [← hji5] <;> (first | rfl | simp)) | (simp [*]; done), by repeat (first | exact Drawn0.refl _ | apply Drawn0.step)⟩
            · rw [if_neg c7] at H
              exact absurd H (by simp)
          · rw [if_neg c6] at H
            exact absurd H (by simp)
        · rw [if_neg c3] at H
          exact absurd H (by simp)
      · rw [if_neg c2] at H
        exact absurd H (by simp)

/-! ### lex_named: function 28 -/
def lex_named.f (k : Nat) (a0 : ByteArray) (a1 : Int) : Option (Bool) := if a0.toList = ([] : List UInt8) then (some false) else (if (a0.size : Int) ≤ 30 then (if 0 < (a0.size : Int) then ((lex_class.f k (bt a0 0)).bind fun t106 => (if t106 = a1 then ((lex_row.f k a0 15).bind fun t107 => (some (t107 == (a0.size : Int)))) else (some false))) else (none)) else (some false))
theorem lex_named.mono : ∀ a0 a1 k, LeO (lex_named.f k a0 a1) (lex_named.f (k + 1) a0 a1) := by
  intro a0 a1 k
  unfold lex_named.f
  repeat' first
      | (with_reducible exact lex_class.mono _ _)
      | (with_reducible exact lex_row.mono _ _ _)
      | (with_reducible exact LeO.refl _)
      | (with_reducible exact LeO.none _)
      | (with_reducible refine LeO.ite ?_ ?_)
      | (with_reducible refine LeO.bind ?_ (fun _ => ?_))
      | exact lex_class.mono _ _
      | exact lex_row.mono _ _ _
      | exact LeO.none _
      | refine LeO.ite ?_ ?_
      | refine LeO.bind ?_ (fun _ => ?_)
set_option maxHeartbeats 8000000 in
set_option maxRecDepth 100000 in
theorem lex_named.calls (k : Nat) (a0 : ByteArray) (a1 : Int) (r : Bool) (w : World) (h : lex_named.f k a0 a1 = some r) :
    Calls Try.prog 28 #[.string a0, .int .i64 a1] w fun e w' => e = .returned (.bool r) ∧ Drawn0 w w' := by
  have H : (if a0.toList = ([] : List UInt8) then (some false) else (if (a0.size : Int) ≤ 30 then (if 0 < (a0.size : Int) then ((lex_class.f k (bt a0 0)).bind fun t106 => (if t106 = a1 then ((lex_row.f k a0 15).bind fun t107 => (some (t107 == (a0.size : Int)))) else (some false))) else (none)) else (some false))) = some r := h
  clear h
  by_cases c3 : a0.toList = ([] : List UInt8)
  · rw [if_pos c3] at H
    have c3b0 : (a0.toList == ([] : List UInt8)) = true := beq_iff_eq.mpr c3
    have c3b1 : (a0.toList != ([] : List UInt8)) = false := bne_eq_false_iff_eq.mpr c3
    clear c3
    obtain rfl := Option.some.inj H
    go_enter Try.func28, Try.ntmps28
    go_wp2
    go_ret
    exact ⟨by first | rfl | (simp; done) | (simp [*]; done), by repeat (first | exact Drawn0.refl _ | apply Drawn0.step)⟩
  · rw [if_neg c3] at H
    have c3b0 : (a0.toList == ([] : List UInt8)) = false := beq_eq_false_iff_ne.mpr c3
    have c3b1 : (a0.toList != ([] : List UInt8)) = true := bne_iff_ne.mpr c3
    by_cases c4 : (a0.size : Int) ≤ 30
    · rw [if_pos c4] at H
      have c4b0 : decide ((a0.size : Int) ≤ 30) = true := decide_eq_true c4
      have c4b1 : decide (a0.size ≤ 30) = true := decide_eq_true (by omega)
      clear c4
      by_cases c5 : 0 < (a0.size : Int)
      · rw [if_pos c5] at H
        have c5b0 : decide (0 < (a0.size : Int)) = true := decide_eq_true c5
        have c5b1 : decide (0 < a0.size) = true := decide_eq_true (by omega)
        clear c5
        replace H := Option.bind_eq_some_iff.mp H
        obtain ⟨t106, A70, H⟩ := H
        replace H : (if t106 = a1 then ((lex_row.f k a0 15).bind fun t107 => (some (t107 == (a0.size : Int)))) else (some false)) = some r := H
        have A7 := Aside0.mk A70
        clear A70
        by_cases c8 : t106 = a1
        · rw [if_pos c8] at H
          have c8b0 : (t106 == a1) = true := beq_iff_eq.mpr c8
          have c8b1 : (t106 != a1) = false := bne_eq_false_iff_eq.mpr c8
          clear c8
          replace H := Option.bind_eq_some_iff.mp H
          obtain ⟨t107, A90, H⟩ := H
          replace H : (some (t107 == (a0.size : Int))) = some r := H
          have A9 := Aside0.mk A90
          clear A90
          obtain rfl := Option.some.inj H
          have p6 : 0 ≤ (0 : Int) := (by omega)
          have q6 : 0 < a0.size := (by have : (0 : Int) < (a0.size : Int) := of_decide_eq_true (by first | (with_reducible assumption) | assumption); omega)
          have hx6 : ∀ h : 0 < a0.size, ((a0[0]'h).toNat : Int) = bt a0 0 := bt_at a0 0
          clear p6
          have qi6 : (0 < (a0.size : Int)) = True := eq_true (of_decide_eq_true (by first | (with_reducible assumption) | assumption))
          replace q6 := eq_true q6
          go_enter Try.func28, Try.ntmps28
          go_wp2_with (first | (go_at_call 34; (with_reducible refine (lex_class.calls k (bt a0 0) t106 _ A7.out).mono ?_); rintro e w' ⟨rfl, ⟨nd, rfl⟩⟩) | (go_at_call 31; (with_reducible refine (lex_row.calls k a0 15 t107 _ A9.out).mono ?_); rintro e w' ⟨rfl, ⟨nd, rfl⟩⟩))
          go_ret
          exact ⟨by first | rfl | (simp; done) | (simp [*]; done), by repeat (first | exact Drawn0.refl _ | apply Drawn0.step)⟩
        · rw [if_neg c8] at H
          have c8b0 : (t106 == a1) = false := beq_eq_false_iff_ne.mpr c8
          have c8b1 : (t106 != a1) = true := bne_iff_ne.mpr c8
          obtain rfl := Option.some.inj H
          have p6 : 0 ≤ (0 : Int) := (by omega)
          have q6 : 0 < a0.size := (by have : (0 : Int) < (a0.size : Int) := of_decide_eq_true (by first | (with_reducible assumption) | assumption); omega)
          have hx6 : ∀ h : 0 < a0.size, ((a0[0]'h).toNat : Int) = bt a0 0 := bt_at a0 0
          clear p6
          have qi6 : (0 < (a0.size : Int)) = True := eq_true (of_decide_eq_true (by first | (with_reducible assumption) | assumption))
          replace q6 := eq_true q6
          go_enter Try.func28, Try.ntmps28
          go_wp2_with (first | (go_at_call 34; (with_reducible refine (lex_class.calls k (bt a0 0) t106 _ A7.out).mono ?_); rintro e w' ⟨rfl, ⟨nd, rfl⟩⟩))
          go_ret
          exact ⟨by first | rfl | (simp; done) | (simp [*]; done), by repeat (first | exact Drawn0.refl _ | apply Drawn0.step)⟩
      · rw [if_neg c5] at H
        exact absurd H (by simp)
    · rw [if_neg c4] at H
      have c4b0 : decide ((a0.size : Int) ≤ 30) = false := decide_eq_false c4
      have c4b1 : decide (a0.size ≤ 30) = false := decide_eq_false (by omega)
      clear c4
      obtain rfl := Option.some.inj H
      go_enter Try.func28, Try.ntmps28
      go_wp2
      go_ret
      exact ⟨by first | rfl | (simp; done) | (simp [*]; done), by repeat (first | exact Drawn0.refl _ | apply Drawn0.step)⟩

end Go.Proofs.Ythpnplcagfpngaa.Q
