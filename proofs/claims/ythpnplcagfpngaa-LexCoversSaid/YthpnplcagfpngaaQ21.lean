-- Written by this session's pm.py, out of the translation. Not trusted: Lean checks it.
import Derived.Test.YthpnplcagfpngaaQ0
import Derived.Test.YthpnplcagfpngaaQ8
import Derived.Test.YthpnplcagfpngaaQ15
namespace Go.Proofs.Ythpnplcagfpngaa.Q
open Go.RowKit Go.Proofs.YthpnplcagfpngaaW.PrintWords Go.Proofs.YthpnplcagfpngaaW.PrintLast Go.Proofs.YthpnplcagfpngaaW.PrintMore
attribute [local go_sem] max2_int min2_int max_two min_two max_three min_three max_four min_four   -- for this text's walks alone
set_option linter.unusedVariables false
set_option linter.unusedSimpArgs false

/-! ### warplaw9_LexCovers: function 8 -/
mutual
def warplaw9_LexCovers.l0 : Nat → ByteArray → List (S38) → Int → Int → Option (Bool)
  | 0, _, _, _, _ => none
  | k + 1, x3, x4, x7, x8 => if x8 < (x4.length : Int) then (if 0 ≤ x8 then (if ((rd_T38 x4 x8).f1) < x7 then (warplaw9_LexCovers.j1 k x3 x4 x7 x8 true ((rd_T38 x4 x8).f0) ((rd_T38 x4 x8).f1) ((rd_T38 x4 x8).f2) ((rd_T38 x4 x8).f3)) else (warplaw9_LexCovers.j1 k x3 x4 x7 x8 (decide (((rd_T38 x4 x8).f1) ≥ (x3.size : Int))) ((rd_T38 x4 x8).f0) ((rd_T38 x4 x8).f1) ((rd_T38 x4 x8).f2) ((rd_T38 x4 x8).f3))) else (none)) else (if 0 ≤ x7 then (if x7 ≤ (x3.size : Int) then ((lex_Lex.f k (x3.extract (x7 : Int).toNat x3.size)).bind fun bt342 => ((warplaw1_Num.f bt342.2.1).bind fun t347 => (if t347 = 0 then (if (bt342.1.length : Int) = 0 then ((warplaw9_awake.f k).bind fun t348 => (some t348)) else (some false)) else (some false)))) else (none)) else (none))
def warplaw9_LexCovers.j1 : Nat → ByteArray → List (S38) → Int → Int → Bool → Int → Int → ByteArray → Int → Option (Bool)
  | 0, _, _, _, _, _, _, _, _, _ => none
  | k + 1, x3, x4, x7, x8, x64, x351000, x351001, x351002, x351003 => if x64 = true then (some false) else (warplaw9_LexCovers.l1 k x3 x4 x7 x8 (x351002.size : Int) x351000 x351001 x351002 x351003)
def warplaw9_LexCovers.j3 : Nat → ByteArray → List (S38) → Int → Int → Int → Int → Int → ByteArray → Int → Option (Bool)
  | 0, _, _, _, _, _, _, _, _, _ => none
  | k + 1, x3, x4, x7, x8, x10, x351000, x351001, x351002, x351003 => if (wrap64 (x351001 + x10)) > (x3.size : Int) then (warplaw9_LexCovers.j4 k x3 x4 x7 x8 x10 true x351000 x351001 x351002 x351003) else (if x351002.toList = ([] : List UInt8) then (warplaw9_LexCovers.j4 k x3 x4 x7 x8 x10 false x351000 x351001 x351002 x351003) else (if 0 ≤ x351001 then (if x351001 ≤ (wrap64 (x351001 + x10)) then (if (wrap64 (x351001 + x10)) ≤ (x3.size : Int) then (warplaw9_LexCovers.j4 k x3 x4 x7 x8 x10 ((x3.extract (x351001 : Int).toNat ((wrap64 (x351001 + x10)) : Int).toNat).toList != x351002.toList) x351000 x351001 x351002 x351003) else (none)) else (none)) else (none)))
def warplaw9_LexCovers.j4 : Nat → ByteArray → List (S38) → Int → Int → Int → Bool → Int → Int → ByteArray → Int → Option (Bool)
  | 0, _, _, _, _, _, _, _, _, _, _ => none
  | k + 1, x3, x4, x7, x8, x10, x128, x351000, x351001, x351002, x351003 => if x128 = true then (some false) else (if 0 ≤ x7 then (if x7 ≤ x351001 then (if x351001 ≤ (x3.size : Int) then ((lex_Lex.f k (x3.extract (x7 : Int).toNat (x351001 : Int).toNat)).bind fun bt351 => ((warplaw1_Num.f bt351.2.1).bind fun t356 => (if t356 = 0 then (if (bt351.1.length : Int) = 0 then (warplaw9_LexCovers.l0 k x3 x4 (wrap64 (x351001 + x10)) (wrap64 (x8 + 1))) else (some false)) else (some false)))) else (none)) else (none)) else (none))
def warplaw9_LexCovers.l1 : Nat → ByteArray → List (S38) → Int → Int → Int → Int → Int → ByteArray → Int → Option (Bool)
  | 0, _, _, _, _, _, _, _, _, _ => none
  | k + 1, x3, x4, x7, x8, x10, x351000, x351001, x351002, x351003 => if x10 = 0 then (warplaw9_LexCovers.l1 k x3 x4 x7 x8 (wrap64 (x10 + 1)) x351000 x351001 x351002 x351003) else (if x351002.toList = ([] : List UInt8) then (if (wrap64 (x351001 + x10)) < (x3.size : Int) then (if 0 ≤ (wrap64 (x351001 + x10)) then (if (bt x3 (wrap64 (x351001 + x10))) ≥ 48 then (if (bt x3 (wrap64 (x351001 + x10))) ≤ 57 then (warplaw9_LexCovers.l1 k x3 x4 x7 x8 (wrap64 (x10 + 1)) x351000 x351001 x351002 x351003) else (warplaw9_LexCovers.j3 k x3 x4 x7 x8 x10 x351000 x351001 x351002 x351003)) else (warplaw9_LexCovers.j3 k x3 x4 x7 x8 x10 x351000 x351001 x351002 x351003)) else (none)) else (warplaw9_LexCovers.j3 k x3 x4 x7 x8 x10 x351000 x351001 x351002 x351003)) else (warplaw9_LexCovers.j3 k x3 x4 x7 x8 x10 x351000 x351001 x351002 x351003))
end
def warplaw9_LexCovers.f (k : Nat) (l0 : List Int) : Option (Bool) := (warplaw9_Words.f k l0).bind fun t334 => ((lex_Lex.f k t334).bind fun bt335 => ((warplaw1_Num.f bt335.2.1).bind fun t340 => (if t340 = 0 then (warplaw9_LexCovers.l0 k t334 bt335.1 0 0) else (if bt335.2.2 ≥ 0 then (if bt335.2.2 < (t334.size : Int) then (if (bt335.1.length : Int) = 0 then ((warplaw9_awake.f k).bind fun t341 => (some t341)) else (some false)) else (some false)) else (some false)))))
theorem warplaw9_LexCovers.mono_l : ∀ k, (∀ y0 y1 y2 y3, LeO (warplaw9_LexCovers.l0 k y0 y1 y2 y3) (warplaw9_LexCovers.l0 (k + 1) y0 y1 y2 y3)) ∧ (∀ y0 y1 y2 y3 y4 y5 y6 y7 y8, LeO (warplaw9_LexCovers.j1 k y0 y1 y2 y3 y4 y5 y6 y7 y8) (warplaw9_LexCovers.j1 (k + 1) y0 y1 y2 y3 y4 y5 y6 y7 y8)) ∧ (∀ y0 y1 y2 y3 y4 y5 y6 y7 y8, LeO (warplaw9_LexCovers.j3 k y0 y1 y2 y3 y4 y5 y6 y7 y8) (warplaw9_LexCovers.j3 (k + 1) y0 y1 y2 y3 y4 y5 y6 y7 y8)) ∧ (∀ y0 y1 y2 y3 y4 y5 y6 y7 y8 y9, LeO (warplaw9_LexCovers.j4 k y0 y1 y2 y3 y4 y5 y6 y7 y8 y9) (warplaw9_LexCovers.j4 (k + 1) y0 y1 y2 y3 y4 y5 y6 y7 y8 y9)) ∧ (∀ y0 y1 y2 y3 y4 y5 y6 y7 y8, LeO (warplaw9_LexCovers.l1 k y0 y1 y2 y3 y4 y5 y6 y7 y8) (warplaw9_LexCovers.l1 (k + 1) y0 y1 y2 y3 y4 y5 y6 y7 y8))
  | 0 => ⟨fun _ _ _ _ r h => by simp [warplaw9_LexCovers.l0] at h, fun _ _ _ _ _ _ _ _ _ r h => by simp [warplaw9_LexCovers.j1] at h, fun _ _ _ _ _ _ _ _ _ r h => by simp [warplaw9_LexCovers.j3] at h, fun _ _ _ _ _ _ _ _ _ _ r h => by simp [warplaw9_LexCovers.j4] at h, fun _ _ _ _ _ _ _ _ _ r h => by simp [warplaw9_LexCovers.l1] at h⟩
  | k + 1 => by
    obtain ⟨ih0, ih1, ih2, ih3, ih4⟩ := warplaw9_LexCovers.mono_l k
    refine ⟨?_, ?_, ?_, ?_, ?_⟩
    · intro y0 y1 y2 y3
      unfold warplaw9_LexCovers.l0
      repeat' first
      | (with_reducible exact ih0 _ _ _ _)
      | (with_reducible exact ih1 _ _ _ _ _ _ _ _ _)
      | (with_reducible exact ih2 _ _ _ _ _ _ _ _ _)
      | (with_reducible exact ih3 _ _ _ _ _ _ _ _ _ _)
      | (with_reducible exact ih4 _ _ _ _ _ _ _ _ _)
      | (with_reducible exact lex_Lex.mono _ _)
      | (with_reducible exact warplaw9_Words.mono _ _)
      | (with_reducible exact warplaw9_awake.mono _)
      | (with_reducible exact LeO.refl _)
      | (with_reducible exact LeO.none _)
      | (with_reducible refine LeO.ite ?_ ?_)
      | (with_reducible refine LeO.bind ?_ (fun _ => ?_))
      | exact ih0 _ _ _ _
      | exact ih1 _ _ _ _ _ _ _ _ _
      | exact ih2 _ _ _ _ _ _ _ _ _
      | exact ih3 _ _ _ _ _ _ _ _ _ _
      | exact ih4 _ _ _ _ _ _ _ _ _
      | exact lex_Lex.mono _ _
      | exact warplaw9_Words.mono _ _
      | exact warplaw9_awake.mono _
      | exact LeO.none _
      | refine LeO.ite ?_ ?_
      | refine LeO.bind ?_ (fun _ => ?_)
    · intro y0 y1 y2 y3 y4 y5 y6 y7 y8
      unfold warplaw9_LexCovers.j1
      repeat' first
      | (with_reducible exact ih0 _ _ _ _)
      | (with_reducible exact ih1 _ _ _ _ _ _ _ _ _)
      | (with_reducible exact ih2 _ _ _ _ _ _ _ _ _)
      | (with_reducible exact ih3 _ _ _ _ _ _ _ _ _ _)
      | (with_reducible exact ih4 _ _ _ _ _ _ _ _ _)
      | (with_reducible exact lex_Lex.mono _ _)
      | (with_reducible exact warplaw9_Words.mono _ _)
      | (with_reducible exact warplaw9_awake.mono _)
      | (with_reducible exact LeO.refl _)
      | (with_reducible exact LeO.none _)
      | (with_reducible refine LeO.ite ?_ ?_)
      | (with_reducible refine LeO.bind ?_ (fun _ => ?_))
      | exact ih0 _ _ _ _
      | exact ih1 _ _ _ _ _ _ _ _ _
      | exact ih2 _ _ _ _ _ _ _ _ _
      | exact ih3 _ _ _ _ _ _ _ _ _ _
      | exact ih4 _ _ _ _ _ _ _ _ _
      | exact lex_Lex.mono _ _
      | exact warplaw9_Words.mono _ _
      | exact warplaw9_awake.mono _
      | exact LeO.none _
      | refine LeO.ite ?_ ?_
      | refine LeO.bind ?_ (fun _ => ?_)
    · intro y0 y1 y2 y3 y4 y5 y6 y7 y8
      unfold warplaw9_LexCovers.j3
      repeat' first
      | (with_reducible exact ih0 _ _ _ _)
      | (with_reducible exact ih1 _ _ _ _ _ _ _ _ _)
      | (with_reducible exact ih2 _ _ _ _ _ _ _ _ _)
      | (with_reducible exact ih3 _ _ _ _ _ _ _ _ _ _)
      | (with_reducible exact ih4 _ _ _ _ _ _ _ _ _)
      | (with_reducible exact lex_Lex.mono _ _)
      | (with_reducible exact warplaw9_Words.mono _ _)
      | (with_reducible exact warplaw9_awake.mono _)
      | (with_reducible exact LeO.refl _)
      | (with_reducible exact LeO.none _)
      | (with_reducible refine LeO.ite ?_ ?_)
      | (with_reducible refine LeO.bind ?_ (fun _ => ?_))
      | exact ih0 _ _ _ _
      | exact ih1 _ _ _ _ _ _ _ _ _
      | exact ih2 _ _ _ _ _ _ _ _ _
      | exact ih3 _ _ _ _ _ _ _ _ _ _
      | exact ih4 _ _ _ _ _ _ _ _ _
      | exact lex_Lex.mono _ _
      | exact warplaw9_Words.mono _ _
      | exact warplaw9_awake.mono _
      | exact LeO.none _
      | refine LeO.ite ?_ ?_
      | refine LeO.bind ?_ (fun _ => ?_)
    · intro y0 y1 y2 y3 y4 y5 y6 y7 y8 y9
      unfold warplaw9_LexCovers.j4
      repeat' first
      | (with_reducible exact ih0 _ _ _ _)
      | (with_reducible exact ih1 _ _ _ _ _ _ _ _ _)
      | (with_reducible exact ih2 _ _ _ _ _ _ _ _ _)
      | (with_reducible exact ih3 _ _ _ _ _ _ _ _ _ _)
      | (with_reducible exact ih4 _ _ _ _ _ _ _ _ _)
      | (with_reducible exact lex_Lex.mono _ _)
      | (with_reducible exact warplaw9_Words.mono _ _)
      | (with_reducible exact warplaw9_awake.mono _)
      | (with_reducible exact LeO.refl _)
      | (with_reducible exact LeO.none _)
      | (with_reducible refine LeO.ite ?_ ?_)
      | (with_reducible refine LeO.bind ?_ (fun _ => ?_))
      | exact ih0 _ _ _ _
      | exact ih1 _ _ _ _ _ _ _ _ _
      | exact ih2 _ _ _ _ _ _ _ _ _
      | exact ih3 _ _ _ _ _ _ _ _ _ _
      | exact ih4 _ _ _ _ _ _ _ _ _
      | exact lex_Lex.mono _ _
      | exact warplaw9_Words.mono _ _
      | exact warplaw9_awake.mono _
      | exact LeO.none _
      | refine LeO.ite ?_ ?_
      | refine LeO.bind ?_ (fun _ => ?_)
    · intro y0 y1 y2 y3 y4 y5 y6 y7 y8
      unfold warplaw9_LexCovers.l1
      repeat' first
      | (with_reducible exact ih0 _ _ _ _)
      | (with_reducible exact ih1 _ _ _ _ _ _ _ _ _)
      | (with_reducible exact ih2 _ _ _ _ _ _ _ _ _)
      | (with_reducible exact ih3 _ _ _ _ _ _ _ _ _ _)
      | (with_reducible exact ih4 _ _ _ _ _ _ _ _ _)
      | (with_reducible exact lex_Lex.mono _ _)
      | (with_reducible exact warplaw9_Words.mono _ _)
      | (with_reducible exact warplaw9_awake.mono _)
      | (with_reducible exact LeO.refl _)
      | (with_reducible exact LeO.none _)
      | (with_reducible refine LeO.ite ?_ ?_)
      | (with_reducible refine LeO.bind ?_ (fun _ => ?_))
      | exact ih0 _ _ _ _
      | exact ih1 _ _ _ _ _ _ _ _ _
      | exact ih2 _ _ _ _ _ _ _ _ _
      | exact ih3 _ _ _ _ _ _ _ _ _ _
      | exact ih4 _ _ _ _ _ _ _ _ _
      | exact lex_Lex.mono _ _
      | exact warplaw9_Words.mono _ _
      | exact warplaw9_awake.mono _
      | exact LeO.none _
      | refine LeO.ite ?_ ?_
      | refine LeO.bind ?_ (fun _ => ?_)
theorem warplaw9_LexCovers.mono : ∀ a0 k, LeO (warplaw9_LexCovers.f k a0) (warplaw9_LexCovers.f (k + 1) a0) := by
  intro a0 k
  obtain ⟨ih0, ih1, ih2, ih3, ih4⟩ := warplaw9_LexCovers.mono_l k
  unfold warplaw9_LexCovers.f
  repeat' first
      | (with_reducible exact ih0 _ _ _ _)
      | (with_reducible exact ih1 _ _ _ _ _ _ _ _ _)
      | (with_reducible exact ih2 _ _ _ _ _ _ _ _ _)
      | (with_reducible exact ih3 _ _ _ _ _ _ _ _ _ _)
      | (with_reducible exact ih4 _ _ _ _ _ _ _ _ _)
      | (with_reducible exact lex_Lex.mono _ _)
      | (with_reducible exact warplaw9_Words.mono _ _)
      | (with_reducible exact warplaw9_awake.mono _)
      | (with_reducible exact LeO.refl _)
      | (with_reducible exact LeO.none _)
      | (with_reducible refine LeO.ite ?_ ?_)
      | (with_reducible refine LeO.bind ?_ (fun _ => ?_))
      | exact ih0 _ _ _ _
      | exact ih1 _ _ _ _ _ _ _ _ _
      | exact ih2 _ _ _ _ _ _ _ _ _
      | exact ih3 _ _ _ _ _ _ _ _ _ _
      | exact ih4 _ _ _ _ _ _ _ _ _
      | exact lex_Lex.mono _ _
      | exact warplaw9_Words.mono _ _
      | exact warplaw9_awake.mono _
      | exact LeO.none _
      | refine LeO.ite ?_ ?_
      | refine LeO.bind ?_ (fun _ => ?_)
set_option maxHeartbeats 8000000 in
set_option maxRecDepth 100000 in
theorem warplaw9_LexCovers.calls (k : Nat) (A0 : Option Addr) (c0 : Nat) (l0 : List Int) (r : Bool) (w : World) (hr0 : Kd.C (Kd.int .u8) w A0 l0.length l0) (hc0 : l0.length ≤ c0) (h : warplaw9_LexCovers.f k l0 = some r) :
    Calls Try.prog 8 #[.slice A0 l0.length c0] w fun e w' => e = .returned (.bool r) ∧ Below w.heap.size w w' := by
  have hu38 := Try.underlying38
  have HR0 := Aside0.mk hr0
  have HC0 := Aside0.mk hc0
  clear hr0 hc0
  have HB := Aside0.mk (Below.refl w.heap.size w)
  have H : ((warplaw9_Words.f k l0).bind fun t334 => ((lex_Lex.f k t334).bind fun bt335 => ((warplaw1_Num.f bt335.2.1).bind fun t340 => (if t340 = 0 then (warplaw9_LexCovers.l0 k t334 bt335.1 0 0) else (if bt335.2.2 ≥ 0 then (if bt335.2.2 < (t334.size : Int) then (if (bt335.1.length : Int) = 0 then ((warplaw9_awake.f k).bind fun t341 => (some t341)) else (some false)) else (some false)) else (some false)))))) = some r := h
  clear h
  replace H := Option.bind_eq_some_iff.mp H
  obtain ⟨t334, A20, H⟩ := H
  replace H : ((lex_Lex.f k t334).bind fun bt335 => ((warplaw1_Num.f bt335.2.1).bind fun t340 => (if t340 = 0 then (warplaw9_LexCovers.l0 k t334 bt335.1 0 0) else (if bt335.2.2 ≥ 0 then (if bt335.2.2 < (t334.size : Int) then (if (bt335.1.length : Int) = 0 then ((warplaw9_awake.f k).bind fun t341 => (some t341)) else (some false)) else (some false)) else (some false))))) = some r := H
  have A2 := Aside0.mk A20
  clear A20
  replace H := Option.bind_eq_some_iff.mp H
  obtain ⟨⟨t335, t336, t337⟩, A30, H⟩ := H
  replace H : ((warplaw1_Num.f t336).bind fun t340 => (if t340 = 0 then (warplaw9_LexCovers.l0 k t334 t335 0 0) else (if t337 ≥ 0 then (if t337 < (t334.size : Int) then (if (t335.length : Int) = 0 then ((warplaw9_awake.f k).bind fun t341 => (some t341)) else (some false)) else (some false)) else (some false)))) = some r := H
  have A3 := Aside0.mk A30
  clear A30
  replace H := Option.bind_eq_some_iff.mp H
  obtain ⟨t340, A40, H⟩ := H
  replace H : (if t340 = 0 then (warplaw9_LexCovers.l0 k t334 t335 0 0) else (if t337 ≥ 0 then (if t337 < (t334.size : Int) then (if (t335.length : Int) = 0 then ((warplaw9_awake.f k).bind fun t341 => (some t341)) else (some false)) else (some false)) else (some false))) = some r := H
  have A4 := Aside0.mk A40
  clear A40
  by_cases c5 : t340 = 0
  · rw [if_pos c5] at H
    have c5b0 : (t340 == 0) = true := beq_iff_eq.mpr c5
    have c5b1 : (t340 != 0) = false := bne_eq_false_iff_eq.mpr c5
    clear c5
    have H' := Aside0.mk H
    clear H
    go_enter Try.func8, Try.ntmps8
    go_wp2_with (first | (go_at_call 18; (with_reducible refine (warplaw9_Words.calls k _ _ l0 t334 _ ?side1 ?side2 A2.out).mono ?_); (case side1 => repeat (first | exact HR0.out | (with_reducible refine Kd.C_alloc ?_ _) | (with_reducible refine Kd.C_drewN ?_ _) | (with_reducible refine Kd.C_drew ?_))); (case side2 => exact HC0.out); rintro e w6 ⟨rfl, hb⟩; have n0_ := Aside0.mk (below_step (by repeat (first | (with_reducible first | exact HB.out | apply below_alloc | apply pw_below_drewN | apply below_drew1) | exact HB.out)) hb); clear HB; have HB := n0_; clear n0_; (try clear hb); (try clear hb2); (try clear hk); (try clear hi)) | (go_at_call 10; (with_reducible refine (lex_Lex.calls k t334 t335 t336 t337 _ A3.out).mono ?_); rintro e w7 ⟨v338, rfl, ho0, hb⟩; have n0_ := Aside0.mk (Kd.R_lower ho0 (below_size (by repeat (first | (with_reducible first | exact HB.out | apply below_alloc | apply pw_below_drewN | apply below_drew1) | exact HB.out)))); have n1_ := Aside0.mk (below_step (by repeat (first | (with_reducible first | exact HB.out | apply below_alloc | apply pw_below_drewN | apply below_drew1) | exact HB.out)) hb); clear HB; have HO339 := n0_; have HB := n1_; clear n0_ n1_; (try clear hb); (try clear hb2); (try clear hk); (try clear hi); (try clear ho0)) | (go_at_call 13; (with_reducible refine (warplaw1_Num.calls t336 t340 _ A4.out).mono ?_); rintro e w' ⟨rfl, ⟨nd, rfl⟩⟩; (try first | exact ⟨rfl, _, World.drewN_drewN _ _ _⟩ | exact ⟨rfl, _, Eq.trans (World.drewN_drewN _ _ _) (congrArg (World.drewN _) (Nat.add_assoc _ _ _))⟩)))
    repeat (go_quiet (first | (go_at_call 18; (with_reducible refine (warplaw9_Words.calls k _ _ l0 t334 _ ?side1 ?side2 A2.out).mono ?_); (case side1 => repeat (first | exact HR0.out | (with_reducible refine Kd.C_alloc ?_ _) | (with_reducible refine Kd.C_drewN ?_ _) | (with_reducible refine Kd.C_drew ?_))); (case side2 => exact HC0.out); rintro e w6 ⟨rfl, hb⟩; have n0_ := Aside0.mk (below_step (by repeat (first | (with_reducible first | exact HB.out | apply below_alloc | apply pw_below_drewN | apply below_drew1) | exact HB.out)) hb); clear HB; have HB := n0_; clear n0_; (try clear hb); (try clear hb2); (try clear hk); (try clear hi)) | (go_at_call 10; (with_reducible refine (lex_Lex.calls k t334 t335 t336 t337 _ A3.out).mono ?_); rintro e w7 ⟨v338, rfl, ho0, hb⟩; have n0_ := Aside0.mk (Kd.R_lower ho0 (below_size (by repeat (first | (with_reducible first | exact HB.out | apply below_alloc | apply pw_below_drewN | apply below_drew1) | exact HB.out)))); have n1_ := Aside0.mk (below_step (by repeat (first | (with_reducible first | exact HB.out | apply below_alloc | apply pw_below_drewN | apply below_drew1) | exact HB.out)) hb); clear HB; have HO339 := n0_; have HB := n1_; clear n0_ n1_; (try clear hb); (try clear hb2); (try clear hk); (try clear hi); (try clear ho0)) | (go_at_call 13; (with_reducible refine (warplaw1_Num.calls t336 t340 _ A4.out).mono ?_); rintro e w' ⟨rfl, ⟨nd, rfl⟩⟩; (try first | exact ⟨rfl, _, World.drewN_drewN _ _ _⟩ | exact ⟨rfl, _, Eq.trans (World.drewN_drewN _ _ _) (congrArg (World.drewN _) (Nat.add_assoc _ _ _))⟩))); try go_wp2_with (first | (go_at_call 18; (with_reducible refine (warplaw9_Words.calls k _ _ l0 t334 _ ?side1 ?side2 A2.out).mono ?_); (case side1 => repeat (first | exact HR0.out | (with_reducible refine Kd.C_alloc ?_ _) | (with_reducible refine Kd.C_drewN ?_ _) | (with_reducible refine Kd.C_drew ?_))); (case side2 => exact HC0.out); rintro e w6 ⟨rfl, hb⟩; have n0_ := Aside0.mk (below_step (by repeat (first | (with_reducible first | exact HB.out | apply below_alloc | apply pw_below_drewN | apply below_drew1) | exact HB.out)) hb); clear HB; have HB := n0_; clear n0_; (try clear hb); (try clear hb2); (try clear hk); (try clear hi)) | (go_at_call 10; (with_reducible refine (lex_Lex.calls k t334 t335 t336 t337 _ A3.out).mono ?_); rintro e w7 ⟨v338, rfl, ho0, hb⟩; have n0_ := Aside0.mk (Kd.R_lower ho0 (below_size (by repeat (first | (with_reducible first | exact HB.out | apply below_alloc | apply pw_below_drewN | apply below_drew1) | exact HB.out)))); have n1_ := Aside0.mk (below_step (by repeat (first | (with_reducible first | exact HB.out | apply below_alloc | apply pw_below_drewN | apply below_drew1) | exact HB.out)) hb); clear HB; have HO339 := n0_; have HB := n1_; clear n0_ n1_; (try clear hb); (try clear hb2); (try clear hk); (try clear hi); (try clear ho0)) | (go_at_call 13; (with_reducible refine (warplaw1_Num.calls t336 t340 _ A4.out).mono ?_); rintro e w' ⟨rfl, ⟨nd, rfl⟩⟩; (try first | exact ⟨rfl, _, World.drewN_drewN _ _ _⟩ | exact ⟨rfl, _, Eq.trans (World.drewN_drewN _ _ _) (congrArg (World.drewN _) (Nat.add_assoc _ _ _))⟩))))
    go_loopg [7, 8] k (fun kq v7 v8 w' => ∃ (x7_1 : Int) (x8_1 : Int), v7 = .int .i64 x7_1 ∧ v8 = .int .i64 x8_1 ∧ Aside0 (warplaw9_LexCovers.l0 kq t334 t335 x7_1 x8_1 = some r) ∧ Aside0 (kq ≤ k) ∧ Aside0 (Kd.R k38 38 w' w.heap.size (fun _ => True) v338 t335) ∧ Aside0 (Below w.heap.size w w'))
    case atStart => exact ⟨(0), (0), (by first | rfl | (simp; done) | (simp [*]; done)), (by first | rfl | (simp; done) | (simp [*]; done)), H', ⟨Nat.le_refl _⟩, ⟨by (with_reducible repeat (first | apply Kd.R_alloc | apply Kd.R_drewN | apply Kd.R_drew)); exact HO339.out⟩, ⟨by repeat (first | (with_reducible first | exact HB.out | apply below_alloc | apply pw_below_drewN | apply below_drew1) | exact HB.out)⟩⟩
    case round =>
      clear H'
      try clear p2
      try clear c5
      try clear c5b0
      try clear c5b1
      obtain ⟨x7_1, x8_1, rfl, rfl, HA, HK1, HO_4, HB⟩ := hrel
      cases gk with
      | zero => exact absurd HA.out (by simp [warplaw9_LexCovers.l0])
      | succ k1 =>
        have H := HA.out
        clear HA
        simp only [warplaw9_LexCovers.l0] at H
        by_cases c8 : x8_1 < (t335.length : Int)
        · rw [if_pos c8] at H
          have c8b0 : decide (x8_1 < (t335.length : Int)) = true := decide_eq_true c8
          clear c8
          by_cases c9 : 0 ≤ x8_1
          · rw [if_pos c9] at H
            have c9b0 : decide (0 ≤ x8_1) = true := decide_eq_true c9
            clear c9
            have HC10 := Aside0.mk H
            clear H
            obtain ⟨Ao11, co11, eo11⟩ := Kd.R_slice HO_4.out
            subst eo11
            have p349 : 0 ≤ (x8_1 : Int) := of_decide_eq_true (by first | (with_reducible assumption) | assumption)
            have q349 : x8_1 < (t335.length : Int) := of_decide_eq_true (by first | (with_reducible assumption) | assumption)
            obtain ⟨ad349, e349, hx349_0, hx349_1, hx349_2, hx349_3⟩ := at_T38 (Kd.R_reads' HO_4.out).2.2 x8_1 p349 q349
            cases e349
            replace p349 := eq_true p349
            replace q349 := eq_true q349
            go_upto_region 10 with (first | ((with_reducible refine gate_dst (N := 9) rfl ?_); (try (refine gate_guard (by rfl) ?_; dsimp only)); refine box_event ?hg (N := 9) ?hd (cs := #[.int .i64 0, .int .i64 0, .string (⟨#[]⟩ : ByteArray), .int .i64 0]) (t := 38) ?hr ?_; (case hd => rfl); (case hg => rfl); (case hr => first | (go_simp; done) | (go_simp; rfl)); intro gb350 hg w12 hbox hb; have n0_ := Aside0.mk (Kd.R_below (Kd.R_elderB (by (with_reducible repeat (first | apply Kd.R_alloc | apply Kd.R_drewN | apply Kd.R_drew)); exact HO_4.out) gb350 (Nat.le_of_eq hg.symm)) hb); have n1_ := Aside0.mk (below_step (by repeat (first | (with_reducible first | exact HB.out | apply below_alloc | apply pw_below_drewN | apply below_drew1) | exact HB.out)) hb); have n2_ := Aside0.mk (hbox); have n3_ := Aside0.mk ((by rw [hg]; exact (below_size (by repeat (first | (with_reducible first | exact HB.out | apply below_alloc | apply pw_below_drewN | apply below_drew1) | exact HB.out))) : w.heap.size ≤ gb350)); have n4_ := Aside0.mk ((by rw [hg]; exact (below_size (by repeat (first | (with_reducible first | exact HB.out | apply below_alloc | apply pw_below_drewN | apply below_drew1) | exact HB.out))) : w.heap.size ≤ gb350)); clear HO_4; clear HB; have HO_4 := n0_; have HB := n1_; have BK350 := n2_; have GW350 := n3_; have GE350 := n4_; clear n0_ n1_ n2_ n3_ n4_; clear hb hbox hg; have hcz13_0 : w12.cell? ⟨gb350, 0, none⟩ = some (.int .i64 0) := (blk_cell BK350.out 0).trans rfl; have hcz13_1 : w12.cell? ⟨gb350, 1, none⟩ = some (.int .i64 0) := (blk_cell BK350.out 1).trans rfl; have hcz13_2 : w12.cell? ⟨gb350, 2, none⟩ = some (.string (⟨#[]⟩ : ByteArray)) := (blk_cell BK350.out 2).trans rfl; have hcz13_3 : w12.cell? ⟨gb350, 3, none⟩ = some (.int .i64 0) := (blk_cell BK350.out 3).trans rfl; have hfz13_0 := blk_frozen BK350.out 0; have hfz13_1 := blk_frozen BK350.out 1; have hfz13_2 := blk_frozen BK350.out 2; have hfz13_3 := blk_frozen BK350.out 3))
            repeat (go_quiet (first | ((with_reducible refine gate_dst (N := 9) rfl ?_); (try (refine gate_guard (by rfl) ?_; dsimp only)); refine box_event ?hg (N := 9) ?hd (cs := #[.int .i64 0, .int .i64 0, .string (⟨#[]⟩ : ByteArray), .int .i64 0]) (t := 38) ?hr ?_; (case hd => rfl); (case hg => rfl); (case hr => first | (go_simp; done) | (go_simp; rfl)); intro gb350 hg w12 hbox hb; have n0_ := Aside0.mk (Kd.R_below (Kd.R_elderB (by (with_reducible repeat (first | apply Kd.R_alloc | apply Kd.R_drewN | apply Kd.R_drew)); exact HO_4.out) gb350 (Nat.le_of_eq hg.symm)) hb); have n1_ := Aside0.mk (below_step (by repeat (first | (with_reducible first | exact HB.out | apply below_alloc | apply pw_below_drewN | apply below_drew1) | exact HB.out)) hb); have n2_ := Aside0.mk (hbox); have n3_ := Aside0.mk ((by rw [hg]; exact (below_size (by repeat (first | (with_reducible first | exact HB.out | apply below_alloc | apply pw_below_drewN | apply below_drew1) | exact HB.out))) : w.heap.size ≤ gb350)); have n4_ := Aside0.mk ((by rw [hg]; exact (below_size (by repeat (first | (with_reducible first | exact HB.out | apply below_alloc | apply pw_below_drewN | apply below_drew1) | exact HB.out))) : w.heap.size ≤ gb350)); clear HO_4; clear HB; have HO_4 := n0_; have HB := n1_; have BK350 := n2_; have GW350 := n3_; have GE350 := n4_; clear n0_ n1_ n2_ n3_ n4_; clear hb hbox hg; have hcz13_0 : w12.cell? ⟨gb350, 0, none⟩ = some (.int .i64 0) := (blk_cell BK350.out 0).trans rfl; have hcz13_1 : w12.cell? ⟨gb350, 1, none⟩ = some (.int .i64 0) := (blk_cell BK350.out 1).trans rfl; have hcz13_2 : w12.cell? ⟨gb350, 2, none⟩ = some (.string (⟨#[]⟩ : ByteArray)) := (blk_cell BK350.out 2).trans rfl; have hcz13_3 : w12.cell? ⟨gb350, 3, none⟩ = some (.int .i64 0) := (blk_cell BK350.out 3).trans rfl; have hfz13_0 := blk_frozen BK350.out 0; have hfz13_1 := blk_frozen BK350.out 1; have hfz13_2 := blk_frozen BK350.out 2; have hfz13_3 := blk_frozen BK350.out 3)); go_upto_region 10 with (first | ((with_reducible refine gate_dst (N := 9) rfl ?_); (try (refine gate_guard (by rfl) ?_; dsimp only)); refine box_event ?hg (N := 9) ?hd (cs := #[.int .i64 0, .int .i64 0, .string (⟨#[]⟩ : ByteArray), .int .i64 0]) (t := 38) ?hr ?_; (case hd => rfl); (case hg => rfl); (case hr => first | (go_simp; done) | (go_simp; rfl)); intro gb350 hg w12 hbox hb; have n0_ := Aside0.mk (Kd.R_below (Kd.R_elderB (by (with_reducible repeat (first | apply Kd.R_alloc | apply Kd.R_drewN | apply Kd.R_drew)); exact HO_4.out) gb350 (Nat.le_of_eq hg.symm)) hb); have n1_ := Aside0.mk (below_step (by repeat (first | (with_reducible first | exact HB.out | apply below_alloc | apply pw_below_drewN | apply below_drew1) | exact HB.out)) hb); have n2_ := Aside0.mk (hbox); have n3_ := Aside0.mk ((by rw [hg]; exact (below_size (by repeat (first | (with_reducible first | exact HB.out | apply below_alloc | apply pw_below_drewN | apply below_drew1) | exact HB.out))) : w.heap.size ≤ gb350)); have n4_ := Aside0.mk ((by rw [hg]; exact (below_size (by repeat (first | (with_reducible first | exact HB.out | apply below_alloc | apply pw_below_drewN | apply below_drew1) | exact HB.out))) : w.heap.size ≤ gb350)); clear HO_4; clear HB; have HO_4 := n0_; have HB := n1_; have BK350 := n2_; have GW350 := n3_; have GE350 := n4_; clear n0_ n1_ n2_ n3_ n4_; clear hb hbox hg; have hcz13_0 : w12.cell? ⟨gb350, 0, none⟩ = some (.int .i64 0) := (blk_cell BK350.out 0).trans rfl; have hcz13_1 : w12.cell? ⟨gb350, 1, none⟩ = some (.int .i64 0) := (blk_cell BK350.out 1).trans rfl; have hcz13_2 : w12.cell? ⟨gb350, 2, none⟩ = some (.string (⟨#[]⟩ : ByteArray)) := (blk_cell BK350.out 2).trans rfl; have hcz13_3 : w12.cell? ⟨gb350, 3, none⟩ = some (.int .i64 0) := (blk_cell BK350.out 3).trans rfl; have hfz13_0 := blk_frozen BK350.out 0; have hfz13_1 := blk_frozen BK350.out 1; have hfz13_2 := blk_frozen BK350.out 2; have hfz13_3 := blk_frozen BK350.out 3)))
            (try simp only [Act.put, List.setIfInBounds_toArray, List.set_cons_zero, List.set_cons_succ])
            go_cut [64] (fun v64 wc => ∃ (kq : Nat) (x64_9 : Bool), v64 = .bool x64_9 ∧ Aside0 (warplaw9_LexCovers.j1 kq t334 t335 x7_1 x8_1 x64_9 ((rd_T38 t335 x8_1).f0) ((rd_T38 t335 x8_1).f1) ((rd_T38 t335 x8_1).f2) ((rd_T38 t335 x8_1).f3) = some r) ∧ Aside0 (kq ≤ k1) ∧ Aside0 (Kd.R k38 38 wc w.heap.size (fun k_ => k_ ≠ gb350) (.slice (some ad349) t335.length co11) t335) ∧ Aside0 (wc.heap[gb350]? = some (.cells #[.int .i64 ((rd_T38 t335 x8_1).f0), .int .i64 ((rd_T38 t335 x8_1).f1), .string ((rd_T38 t335 x8_1).f2), .int .i64 ((rd_T38 t335 x8_1).f3)] 38 (0, 0))) ∧ Aside0 (Below w.heap.size w wc))
            case first =>
              have H := HC10.out
              clear HC10
              by_cases c14 : ((rd_T38 t335 x8_1).f1) < x7_1
              · rw [if_pos c14] at H
                have c14b0 : decide (((rd_T38 t335 x8_1).f1) < x7_1) = true := decide_eq_true c14
                clear c14
                (first | rw [c14b0] | (simp only [i64_w, i32_w]; rw [c14b0]) | skip)
                have H' := Aside0.mk H
                clear H
                have hcz15_0 : w12.cell? ⟨gb350, 0, none⟩ = some (.int .i64 0) := (blk_cell BK350.out 0).trans rfl
                have hcz15_1 : w12.cell? ⟨gb350, 1, none⟩ = some (.int .i64 0) := (blk_cell BK350.out 1).trans rfl
                have hcz15_2 : w12.cell? ⟨gb350, 2, none⟩ = some (.string (⟨#[]⟩ : ByteArray)) := (blk_cell BK350.out 2).trans rfl
                have hcz15_3 : w12.cell? ⟨gb350, 3, none⟩ = some (.int .i64 0) := (blk_cell BK350.out 3).trans rfl
                have hfz15_0 := blk_frozen BK350.out 0
                have hfz15_1 := blk_frozen BK350.out 1
                have hfz15_2 := blk_frozen BK350.out 2
                have hfz15_3 := blk_frozen BK350.out 3
                go_wp2
                repeat (go_quiet (fail); try go_wp2)
                go_meet
                case rel => exact ⟨_, (true), (by first | rfl | (simp; done) | (simp [*]; done)), H', ⟨by have := HK1.out; first | omega | exact Nat.le_refl _⟩, ⟨by (with_reducible repeat (first | apply Kd.R_alloc | apply Kd.R_drewN | apply Kd.R_drew)); exact Kd.R_mono (Kd.R_far (p := ⟨gb350, 3, none⟩) (Kd.R_far (p := ⟨gb350, 2, none⟩) (Kd.R_far (p := ⟨gb350, 1, none⟩) (Kd.R_far (p := ⟨gb350, 0, none⟩) (Kd.R_mono HO_4.out (fun k_ hk => (⟨hk, hk.2⟩ : _ ∧ k_ ≠ gb350))) (fun _ hk => hk.2) (.int .i64 ((rd_T38 t335 x8_1).f0))) (fun _ hk => hk.2) (.int .i64 ((rd_T38 t335 x8_1).f1))) (fun _ hk => hk.2) (.string ((rd_T38 t335 x8_1).f2))) (fun _ hk => hk.2) (.int .i64 ((rd_T38 t335 x8_1).f3))) (fun _ hk => hk.1.2)⟩, ⟨by (with_reducible repeat (first | refine blk_drewN ?_ _ | refine blk_drew ?_ | refine blk_alloc ?_ _)); refine blk_put (cs := #[.int .i64 ((rd_T38 t335 x8_1).f0), .int .i64 ((rd_T38 t335 x8_1).f1), .string ((rd_T38 t335 x8_1).f2), .int .i64 0]) ?_ 3 _ rfl; (with_reducible repeat (first | refine blk_drewN ?_ _ | refine blk_drew ?_ | refine blk_alloc ?_ _)); refine blk_put (cs := #[.int .i64 ((rd_T38 t335 x8_1).f0), .int .i64 ((rd_T38 t335 x8_1).f1), .string (⟨#[]⟩ : ByteArray), .int .i64 0]) ?_ 2 _ rfl; (with_reducible repeat (first | refine blk_drewN ?_ _ | refine blk_drew ?_ | refine blk_alloc ?_ _)); refine blk_put (cs := #[.int .i64 ((rd_T38 t335 x8_1).f0), .int .i64 0, .string (⟨#[]⟩ : ByteArray), .int .i64 0]) ?_ 1 _ rfl; (with_reducible repeat (first | refine blk_drewN ?_ _ | refine blk_drew ?_ | refine blk_alloc ?_ _)); refine blk_put (cs := #[.int .i64 0, .int .i64 0, .string (⟨#[]⟩ : ByteArray), .int .i64 0]) ?_ 0 _ rfl; (with_reducible repeat (first | refine blk_drewN ?_ _ | refine blk_drew ?_ | refine blk_alloc ?_ _)); exact BK350.out⟩, ⟨by repeat (first | (with_reducible first | exact HB.out | apply below_alloc | apply pw_below_drewN | apply below_drew1 | refine below_set ?_ GE350.out) | exact HB.out)⟩⟩
              · rw [if_neg c14] at H
                have c14b0 : decide (((rd_T38 t335 x8_1).f1) < x7_1) = false := decide_eq_false c14
                clear c14
                (first | rw [c14b0] | (simp only [i64_w, i32_w]; rw [c14b0]) | skip)
                have H' := Aside0.mk H
                clear H
                have hcz16_0 : w12.cell? ⟨gb350, 0, none⟩ = some (.int .i64 0) := (blk_cell BK350.out 0).trans rfl
                have hcz16_1 : w12.cell? ⟨gb350, 1, none⟩ = some (.int .i64 0) := (blk_cell BK350.out 1).trans rfl
                have hcz16_2 : w12.cell? ⟨gb350, 2, none⟩ = some (.string (⟨#[]⟩ : ByteArray)) := (blk_cell BK350.out 2).trans rfl
                have hcz16_3 : w12.cell? ⟨gb350, 3, none⟩ = some (.int .i64 0) := (blk_cell BK350.out 3).trans rfl
                have hfz16_0 := blk_frozen BK350.out 0
                have hfz16_1 := blk_frozen BK350.out 1
                have hfz16_2 := blk_frozen BK350.out 2
                have hfz16_3 := blk_frozen BK350.out 3
                go_wp2
                repeat (go_quiet (fail); try go_wp2)
                go_meet
                case rel => exact ⟨_, (decide (((rd_T38 t335 x8_1).f1) ≥ (t334.size : Int))), (by first | rfl | (simp; done) | (simp [*]; done)), H', ⟨by have := HK1.out; first | omega | exact Nat.le_refl _⟩, ⟨by (with_reducible repeat (first | apply Kd.R_alloc | apply Kd.R_drewN | apply Kd.R_drew)); exact Kd.R_mono (Kd.R_far (p := ⟨gb350, 3, none⟩) (Kd.R_far (p := ⟨gb350, 2, none⟩) (Kd.R_far (p := ⟨gb350, 1, none⟩) (Kd.R_far (p := ⟨gb350, 0, none⟩) (Kd.R_mono HO_4.out (fun k_ hk => (⟨hk, hk.2⟩ : _ ∧ k_ ≠ gb350))) (fun _ hk => hk.2) (.int .i64 ((rd_T38 t335 x8_1).f0))) (fun _ hk => hk.2) (.int .i64 ((rd_T38 t335 x8_1).f1))) (fun _ hk => hk.2) (.string ((rd_T38 t335 x8_1).f2))) (fun _ hk => hk.2) (.int .i64 ((rd_T38 t335 x8_1).f3))) (fun _ hk => hk.1.2)⟩, ⟨by (with_reducible repeat (first | refine blk_drewN ?_ _ | refine blk_drew ?_ | refine blk_alloc ?_ _)); refine blk_put (cs := #[.int .i64 ((rd_T38 t335 x8_1).f0), .int .i64 ((rd_T38 t335 x8_1).f1), .string ((rd_T38 t335 x8_1).f2), .int .i64 0]) ?_ 3 _ rfl; (with_reducible repeat (first | refine blk_drewN ?_ _ | refine blk_drew ?_ | refine blk_alloc ?_ _)); refine blk_put (cs := #[.int .i64 ((rd_T38 t335 x8_1).f0), .int .i64 ((rd_T38 t335 x8_1).f1), .string (⟨#[]⟩ : ByteArray), .int .i64 0]) ?_ 2 _ rfl; (with_reducible repeat (first | refine blk_drewN ?_ _ | refine blk_drew ?_ | refine blk_alloc ?_ _)); refine blk_put (cs := #[.int .i64 ((rd_T38 t335 x8_1).f0), .int .i64 0, .string (⟨#[]⟩ : ByteArray), .int .i64 0]) ?_ 1 _ rfl; (with_reducible repeat (first | refine blk_drewN ?_ _ | refine blk_drew ?_ | refine blk_alloc ?_ _)); refine blk_put (cs := #[.int .i64 0, .int .i64 0, .string (⟨#[]⟩ : ByteArray), .int .i64 0]) ?_ 0 _ rfl; (with_reducible repeat (first | refine blk_drewN ?_ _ | refine blk_drew ?_ | refine blk_alloc ?_ _)); exact BK350.out⟩, ⟨by repeat (first | (with_reducible first | exact HB.out | apply below_alloc | apply pw_below_drewN | apply below_drew1 | refine below_set ?_ GE350.out) | exact HB.out)⟩⟩
            case rest =>
              clear HC10
              try clear c1
              try clear p2
              try clear p3
              try clear q3
              try clear hx3
              try clear c5
              try clear c5b0
              try clear c5b1
              try clear c8
              try clear c8b0
              try clear c9
              try clear c9b0
              try clear c14
              try clear c14b0
              try clear hcz13_0
              try clear hcz13_1
              try clear hcz13_2
              try clear hcz13_3
              try clear hcz15_0
              try clear hcz15_1
              try clear hcz15_2
              try clear hcz15_3
              try clear hcz16_0
              try clear hcz16_1
              try clear hcz16_2
              try clear hcz16_3
              try clear hfz13_0
              try clear hfz13_1
              try clear hfz13_2
              try clear hfz13_3
              try clear hfz15_0
              try clear hfz15_1
              try clear hfz15_2
              try clear hfz15_3
              try clear hfz16_0
              try clear hfz16_1
              try clear hfz16_2
              try clear hfz16_3
              try clear hx349_0
              try clear hx349_1
              try clear hx349_2
              try clear hx349_3
              try clear p2
              try clear p349
              try clear q349
              obtain ⟨kq, x64_9, rfl, HA, HJ9, HO_4, BK350, HB⟩ := hcut
              cases kq with
              | zero => exact absurd HA.out (by simp [warplaw9_LexCovers.j1])
              | succ kj9 =>
                have H := HA.out
                clear HA
                simp only [warplaw9_LexCovers.j1] at H
                by_cases c17 : x64_9 = true
                · subst c17
                  have H1 : (some false) = some r := by rw [if_pos rfl] at H; exact H
                  clear H
                  have H := H1
                  clear H1
                  obtain rfl := Option.some.inj H
                  go_wp2
                  repeat (go_quiet (fail); try go_wp2)
                  go_ret
                  exact ⟨by first | rfl | (simp [errW_none, errW_some] <;> rfl) | (simp [*, errW_none, errW_some] <;> rfl), by repeat (first | (with_reducible first | exact HB.out | apply below_alloc | apply pw_below_drewN | apply below_drew1 | refine below_set ?_ GE350.out) | exact HB.out)⟩
                · replace c17 := Bool.eq_false_iff.mpr c17
                  subst c17
                  have H1 : (warplaw9_LexCovers.l1 kj9 t334 t335 x7_1 x8_1 (((rd_T38 t335 x8_1).f2).size : Int) ((rd_T38 t335 x8_1).f0) ((rd_T38 t335 x8_1).f1) ((rd_T38 t335 x8_1).f2) ((rd_T38 t335 x8_1).f3)) = some r := by rw [if_neg (show ¬ (false = true) by decide)] at H; exact H
                  clear H
                  have H := H1
                  clear H1
                  have HC18 := Aside0.mk H
                  clear H
                  have hcz19_0 : wc.cell? ⟨gb350, 0, none⟩ = some (.int .i64 ((rd_T38 t335 x8_1).f0)) := (blk_cell BK350.out 0).trans rfl
                  have hcz19_1 : wc.cell? ⟨gb350, 1, none⟩ = some (.int .i64 ((rd_T38 t335 x8_1).f1)) := (blk_cell BK350.out 1).trans rfl
                  have hcz19_2 : wc.cell? ⟨gb350, 2, none⟩ = some (.string ((rd_T38 t335 x8_1).f2)) := (blk_cell BK350.out 2).trans rfl
                  have hcz19_3 : wc.cell? ⟨gb350, 3, none⟩ = some (.int .i64 ((rd_T38 t335 x8_1).f3)) := (blk_cell BK350.out 3).trans rfl
                  have hfz19_0 := blk_frozen BK350.out 0
                  have hfz19_1 := blk_frozen BK350.out 1
                  have hfz19_2 := blk_frozen BK350.out 2
                  have hfz19_3 := blk_frozen BK350.out 3
                  go_upto_block 2 with (fail)
                  repeat (go_quiet (fail); go_upto_block 2 with (fail))
                  go_cut [10] (fun v10 wc => ∃ (kq : Nat) (x10_17 : Int), v10 = .int .i64 x10_17 ∧ Aside0 (warplaw9_LexCovers.j3 kq t334 t335 x7_1 x8_1 x10_17 ((rd_T38 t335 x8_1).f0) ((rd_T38 t335 x8_1).f1) ((rd_T38 t335 x8_1).f2) ((rd_T38 t335 x8_1).f3) = some r) ∧ Aside0 (kq ≤ kj9) ∧ Aside0 (Kd.R k38 38 wc w.heap.size (fun k_ => k_ ≠ gb350) (.slice (some ad349) t335.length co11) t335) ∧ Aside0 (wc.heap[gb350]? = some (.cells #[.int .i64 ((rd_T38 t335 x8_1).f0), .int .i64 ((rd_T38 t335 x8_1).f1), .string ((rd_T38 t335 x8_1).f2), .int .i64 ((rd_T38 t335 x8_1).f3)] 38 (0, 0))) ∧ Aside0 (Below w.heap.size w wc))
                  case first =>
                    have H := HC18.out
                    clear HC18
                    have H' := Aside0.mk H
                    clear H
                    go_wp2
                    repeat (go_quiet (fail); try go_wp2)
                    go_loopg [10] kj9 (fun kq v10 w' => ∃ (x10_3 : Int), v10 = .int .i64 x10_3 ∧ Aside0 (warplaw9_LexCovers.l1 kq t334 t335 x7_1 x8_1 x10_3 ((rd_T38 t335 x8_1).f0) ((rd_T38 t335 x8_1).f1) ((rd_T38 t335 x8_1).f2) ((rd_T38 t335 x8_1).f3) = some r) ∧ Aside0 (kq ≤ kj9) ∧ Aside0 (Kd.R k38 38 w' w.heap.size (fun k_ => k_ ≠ gb350) (.slice (some ad349) t335.length co11) t335) ∧ Aside0 (w'.heap[gb350]? = some (.cells #[.int .i64 ((rd_T38 t335 x8_1).f0), .int .i64 ((rd_T38 t335 x8_1).f1), .string ((rd_T38 t335 x8_1).f2), .int .i64 ((rd_T38 t335 x8_1).f3)] 38 (0, 0))) ∧ Aside0 (Below w.heap.size w w'))
                    case atStart => exact ⟨((((rd_T38 t335 x8_1).f2).size : Int)), (by first | rfl | (simp; done) | (simp [*]; done)), H', ⟨Nat.le_refl _⟩, ⟨by (with_reducible repeat (first | apply Kd.R_alloc | apply Kd.R_drewN | apply Kd.R_drew)); exact HO_4.out⟩, ⟨by (with_reducible repeat (first | refine blk_drewN ?_ _ | refine blk_drew ?_ | refine blk_alloc ?_ _)); exact BK350.out⟩, ⟨by repeat (first | (with_reducible first | exact HB.out | apply below_alloc | apply pw_below_drewN | apply below_drew1 | refine below_set ?_ GE350.out) | exact HB.out)⟩⟩
                    case round =>
                      clear H'
                      try clear c1
                      try clear p2
                      try clear p3
                      try clear q3
                      try clear hx3
                      try clear c5
                      try clear c5b0
                      try clear c5b1
                      try clear c8
                      try clear c8b0
                      try clear c9
                      try clear c9b0
                      try clear c14
                      try clear c14b0
                      try clear c17
                      try clear hcz13_0
                      try clear hcz13_1
                      try clear hcz13_2
                      try clear hcz13_3
                      try clear hcz15_0
                      try clear hcz15_1
                      try clear hcz15_2
                      try clear hcz15_3
                      try clear hcz16_0
                      try clear hcz16_1
                      try clear hcz16_2
                      try clear hcz16_3
                      try clear hcz19_0
                      try clear hcz19_1
                      try clear hcz19_2
                      try clear hcz19_3
                      try clear hfz13_0
                      try clear hfz13_1
                      try clear hfz13_2
                      try clear hfz13_3
                      try clear hfz15_0
                      try clear hfz15_1
                      try clear hfz15_2
                      try clear hfz15_3
                      try clear hfz16_0
                      try clear hfz16_1
                      try clear hfz16_2
                      try clear hfz16_3
                      try clear hfz19_0
                      try clear hfz19_1
                      try clear hfz19_2
                      try clear hfz19_3
                      try clear hx349_0
                      try clear hx349_1
                      try clear hx349_2
                      try clear hx349_3
                      try clear p2
                      try clear p3
                      try clear p349
                      try clear q3
                      try clear q349
                      obtain ⟨x10_3, rfl, HA, HK3, HO_4, BK350, HB⟩ := hrel
                      cases gk with
                      | zero => exact absurd HA.out (by simp [warplaw9_LexCovers.l1])
                      | succ k3 =>
                        have H := HA.out
                        clear HA
                        simp only [warplaw9_LexCovers.l1] at H
                        by_cases c20 : x10_3 = 0
                        · rw [if_pos c20] at H
                          have c20b0 : (x10_3 == 0) = true := beq_iff_eq.mpr c20
                          have c20b1 : (x10_3 != 0) = false := bne_eq_false_iff_eq.mpr c20
                          clear c20
                          (first | rw [c20b0] | (simp only [i64_w, i32_w]; rw [c20b0]) | skip)
                          have H' := Aside0.mk H
                          clear H
                          go_wp2
                          repeat (go_quiet (fail); try go_wp2)
                          go_roundg k3
                          case measure => have := HK1.out; have := HJ9.out; have := HK3.out; omega
                          case rel => exact ⟨(wrap64 (x10_3 + 1)), (by first | rfl | (simp; done) | (simp [*]; done)), H', ⟨by have := HK1.out; have := HJ9.out; have := HK3.out; omega⟩, ⟨by (with_reducible repeat (first | apply Kd.R_alloc | apply Kd.R_drewN | apply Kd.R_drew)); exact HO_4.out⟩, ⟨by (with_reducible repeat (first | refine blk_drewN ?_ _ | refine blk_drew ?_ | refine blk_alloc ?_ _)); exact BK350.out⟩, ⟨by repeat (first | (with_reducible first | exact HB.out | apply below_alloc | apply pw_below_drewN | apply below_drew1 | refine below_set ?_ GE350.out) | exact HB.out)⟩⟩
                        · rw [if_neg c20] at H
                          have c20b0 : (x10_3 == 0) = false := beq_eq_false_iff_ne.mpr c20
                          have c20b1 : (x10_3 != 0) = true := bne_iff_ne.mpr c20
                          (first | rw [c20b0] | (simp only [i64_w, i32_w]; rw [c20b0]) | skip)
                          by_cases c21 : ((rd_T38 t335 x8_1).f2).toList = ([] : List UInt8)
                          · rw [if_pos c21] at H
                            have c21b0 : (((rd_T38 t335 x8_1).f2).toList == ([] : List UInt8)) = true := beq_iff_eq.mpr c21
                            have c21b1 : (((rd_T38 t335 x8_1).f2).toList != ([] : List UInt8)) = false := bne_eq_false_iff_eq.mpr c21
                            clear c21
                            by_cases c22 : (wrap64 (((rd_T38 t335 x8_1).f1) + x10_3)) < (t334.size : Int)
                            · rw [if_pos c22] at H
                              have c22b0 : decide ((wrap64 (((rd_T38 t335 x8_1).f1) + x10_3)) < (t334.size : Int)) = true := decide_eq_true c22
                              clear c22
                              obtain ⟨ji23, hji23⟩ : ∃ j_ : Int, (wrap64 (((rd_T38 t335 x8_1).f1) + x10_3)) = j_ := ⟨_, rfl⟩
                              replace H : (if 0 ≤ (ji23) then (if (bt t334 (ji23)) ≥ 48 then (if (bt t334 (ji23)) ≤ 57 then (warplaw9_LexCovers.l1 k3 t334 t335 x7_1 x8_1 (wrap64 (x10_3 + 1)) ((rd_T38 t335 x8_1).f0) ((rd_T38 t335 x8_1).f1) ((rd_T38 t335 x8_1).f2) ((rd_T38 t335 x8_1).f3)) else (warplaw9_LexCovers.j3 k3 t334 t335 x7_1 x8_1 x10_3 ((rd_T38 t335 x8_1).f0) ((rd_T38 t335 x8_1).f1) ((rd_T38 t335 x8_1).f2) ((rd_T38 t335 x8_1).f3))) else (warplaw9_LexCovers.j3 k3 t334 t335 x7_1 x8_1 x10_3 ((rd_T38 t335 x8_1).f0) ((rd_T38 t335 x8_1).f1) ((rd_T38 t335 x8_1).f2) ((rd_T38 t335 x8_1).f3))) else (none)) = some r := by first | (rw [hji23] at H; exact H) | (simp only [hji23] at H ⊢; exact H)
                              (try rw [hji23] at c22b0)
                              have hji23w : (IntKind.i64.wrap (((rd_T38 t335 x8_1).f1) + x10_3)) = ji23 := (i64_w _).trans hji23
                              by_cases c24 : 0 ≤ (ji23)
                              · rw [if_pos c24] at H
                                have c24b0 : decide (0 ≤ (ji23)) = true := decide_eq_true c24
                                clear c24
                                by_cases c26 : (bt t334 (ji23)) ≥ 48
                                · rw [if_pos c26] at H
                                  have c26b0 : decide (48 ≤ (bt t334 (ji23))) = true := decide_eq_true c26
                                  clear c26
                                  by_cases c28 : (bt t334 (ji23)) ≤ 57
                                  · rw [if_pos c28] at H
                                    have c28b0 : decide ((bt t334 (ji23)) ≤ 57) = true := decide_eq_true c28
                                    clear c28
                                    have H' := Aside0.mk H
                                    clear H
                                    have hcz29_0 : wr.cell? ⟨gb350, 0, none⟩ = some (.int .i64 ((rd_T38 t335 x8_1).f0)) := (blk_cell BK350.out 0).trans rfl
                                    have hcz29_1 : wr.cell? ⟨gb350, 1, none⟩ = some (.int .i64 ((rd_T38 t335 x8_1).f1)) := (blk_cell BK350.out 1).trans rfl
                                    have hcz29_2 : wr.cell? ⟨gb350, 2, none⟩ = some (.string ((rd_T38 t335 x8_1).f2)) := (blk_cell BK350.out 2).trans rfl
                                    have hcz29_3 : wr.cell? ⟨gb350, 3, none⟩ = some (.int .i64 ((rd_T38 t335 x8_1).f3)) := (blk_cell BK350.out 3).trans rfl
                                    have hfz29_0 := blk_frozen BK350.out 0
                                    have hfz29_1 := blk_frozen BK350.out 1
                                    have hfz29_2 := blk_frozen BK350.out 2
                                    have hfz29_3 := blk_frozen BK350.out 3
                                    have p25 : 0 ≤ ((ji23) : Int) := of_decide_eq_true (by first | (with_reducible assumption) | assumption)
                                    have q25 : (ji23) < (t334.size : Int) := of_decide_eq_true (by first | (with_reducible assumption) | assumption)
                                    have hx25 := bt_at t334 (ji23)
                                    replace p25 := eq_true p25
                                    replace q25 := eq_true q25
                                    have p27 : 0 ≤ ((ji23) : Int) := of_decide_eq_true (by first | (with_reducible assumption) | assumption)
                                    have q27 : (ji23) < (t334.size : Int) := of_decide_eq_true (by first | (with_reducible assumption) | assumption)
                                    have hx27 := bt_at t334 (ji23)
                                    replace p27 := eq_true p27
                                    replace q27 := eq_true q27
                                    go_wp2
                                    repeat (go_quiet (fail); try go_wp2)
                                    go_roundg k3
                                    case measure => have := HK1.out; have := HJ9.out; have := HK3.out; omega
                                    case rel => exact ⟨(wrap64 (x10_3 + 1)), (by first | rfl | (simp; done) | (simp [*]; done)), H', ⟨by have := HK1.out; have := HJ9.out; have := HK3.out; omega⟩, ⟨by (with_reducible repeat (first | apply Kd.R_alloc | apply Kd.R_drewN | apply Kd.R_drew)); exact HO_4.out⟩, ⟨by (with_reducible repeat (first | refine blk_drewN ?_ _ | refine blk_drew ?_ | refine blk_alloc ?_ _)); exact BK350.out⟩, ⟨by repeat (first | (with_reducible first | exact HB.out | apply below_alloc | apply pw_below_drewN | apply below_drew1 | refine below_set ?_ GE350.out) | exact HB.out)⟩⟩
                                  · rw [if_neg c28] at H
                                    have c28b0 : decide ((bt t334 (ji23)) ≤ 57) = false := decide_eq_false c28
                                    clear c28
                                    have H' := Aside0.mk H
                                    clear H
                                    have hcz30_0 : wr.cell? ⟨gb350, 0, none⟩ = some (.int .i64 ((rd_T38 t335 x8_1).f0)) := (blk_cell BK350.out 0).trans rfl
                                    have hcz30_1 : wr.cell? ⟨gb350, 1, none⟩ = some (.int .i64 ((rd_T38 t335 x8_1).f1)) := (blk_cell BK350.out 1).trans rfl
                                    have hcz30_2 : wr.cell? ⟨gb350, 2, none⟩ = some (.string ((rd_T38 t335 x8_1).f2)) := (blk_cell BK350.out 2).trans rfl
                                    have hcz30_3 : wr.cell? ⟨gb350, 3, none⟩ = some (.int .i64 ((rd_T38 t335 x8_1).f3)) := (blk_cell BK350.out 3).trans rfl
                                    have hfz30_0 := blk_frozen BK350.out 0
                                    have hfz30_1 := blk_frozen BK350.out 1
                                    have hfz30_2 := blk_frozen BK350.out 2
                                    have hfz30_3 := blk_frozen BK350.out 3
                                    have p25 : 0 ≤ ((ji23) : Int) := of_decide_eq_true (by first | (with_reducible assumption) | assumption)
                                    have q25 : (ji23) < (t334.size : Int) := of_decide_eq_true (by first | (with_reducible assumption) | assumption)
                                    have hx25 := bt_at t334 (ji23)
                                    replace p25 := eq_true p25
                                    replace q25 := eq_true q25
                                    have p27 : 0 ≤ ((ji23) : Int) := of_decide_eq_true (by first | (with_reducible assumption) | assumption)
                                    have q27 : (ji23) < (t334.size : Int) := of_decide_eq_true (by first | (with_reducible assumption) | assumption)
                                    have hx27 := bt_at t334 (ji23)
                                    replace p27 := eq_true p27
                                    replace q27 := eq_true q27
                                    go_wp2
                                    repeat (go_quiet (fail); try go_wp2)
                                    go_meet
                                    case rel => exact ⟨_, (x10_3), (by first | rfl | (simp; done) | (simp [*]; done)), H', ⟨by have := HK1.out; have := HJ9.out; have := HK3.out; first | omega | exact Nat.le_refl _⟩, ⟨by (with_reducible repeat (first | apply Kd.R_alloc | apply Kd.R_drewN | apply Kd.R_drew)); exact HO_4.out⟩, ⟨by (with_reducible repeat (first | refine blk_drewN ?_ _ | refine blk_drew ?_ | refine blk_alloc ?_ _)); exact BK350.out⟩, ⟨by repeat (first | (with_reducible first | exact HB.out | apply below_alloc | apply pw_below_drewN | apply below_drew1 | refine below_set ?_ GE350.out) | exact HB.out)⟩⟩
                                · rw [if_neg c26] at H
                                  have c26b0 : decide (48 ≤ (bt t334 (ji23))) = false := decide_eq_false c26
                                  clear c26
                                  have H' := Aside0.mk H
                                  clear H
                                  have hcz31_0 : wr.cell? ⟨gb350, 0, none⟩ = some (.int .i64 ((rd_T38 t335 x8_1).f0)) := (blk_cell BK350.out 0).trans rfl
                                  have hcz31_1 : wr.cell? ⟨gb350, 1, none⟩ = some (.int .i64 ((rd_T38 t335 x8_1).f1)) := (blk_cell BK350.out 1).trans rfl
                                  have hcz31_2 : wr.cell? ⟨gb350, 2, none⟩ = some (.string ((rd_T38 t335 x8_1).f2)) := (blk_cell BK350.out 2).trans rfl
                                  have hcz31_3 : wr.cell? ⟨gb350, 3, none⟩ = some (.int .i64 ((rd_T38 t335 x8_1).f3)) := (blk_cell BK350.out 3).trans rfl
                                  have hfz31_0 := blk_frozen BK350.out 0
                                  have hfz31_1 := blk_frozen BK350.out 1
                                  have hfz31_2 := blk_frozen BK350.out 2
                                  have hfz31_3 := blk_frozen BK350.out 3
                                  have p25 : 0 ≤ ((ji23) : Int) := of_decide_eq_true (by first | (with_reducible assumption) | assumption)
                                  have q25 : (ji23) < (t334.size : Int) := of_decide_eq_true (by first | (with_reducible assumption) | assumption)
                                  have hx25 := bt_at t334 (ji23)
                                  replace p25 := eq_true p25
                                  replace q25 := eq_true q25
                                  go_wp2
                                  repeat (go_quiet (fail); try go_wp2)
                                  go_meet
                                  case rel => exact ⟨_, (x10_3), (by first | rfl | (simp; done) | (simp [*]; done)), H', ⟨by have := HK1.out; have := HJ9.out; have := HK3.out; first | omega | exact Nat.le_refl _⟩, ⟨by (with_reducible repeat (first | apply Kd.R_alloc | apply Kd.R_drewN | apply Kd.R_drew)); exact HO_4.out⟩, ⟨by (with_reducible repeat (first | refine blk_drewN ?_ _ | refine blk_drew ?_ | refine blk_alloc ?_ _)); exact BK350.out⟩, ⟨by repeat (first | (with_reducible first | exact HB.out | apply below_alloc | apply pw_below_drewN | apply below_drew1 | refine below_set ?_ GE350.out) | exact HB.out)⟩⟩
                              · rw [if_neg c24] at H
                                exact absurd H (by simp)
                            · rw [if_neg c22] at H
                              have c22b0 : decide ((wrap64 (((rd_T38 t335 x8_1).f1) + x10_3)) < (t334.size : Int)) = false := decide_eq_false c22
                              clear c22
                              have H' := Aside0.mk H
                              clear H
                              have hcz32_0 : wr.cell? ⟨gb350, 0, none⟩ = some (.int .i64 ((rd_T38 t335 x8_1).f0)) := (blk_cell BK350.out 0).trans rfl
                              have hcz32_1 : wr.cell? ⟨gb350, 1, none⟩ = some (.int .i64 ((rd_T38 t335 x8_1).f1)) := (blk_cell BK350.out 1).trans rfl
                              have hcz32_2 : wr.cell? ⟨gb350, 2, none⟩ = some (.string ((rd_T38 t335 x8_1).f2)) := (blk_cell BK350.out 2).trans rfl
                              have hcz32_3 : wr.cell? ⟨gb350, 3, none⟩ = some (.int .i64 ((rd_T38 t335 x8_1).f3)) := (blk_cell BK350.out 3).trans rfl
                              have hfz32_0 := blk_frozen BK350.out 0
                              have hfz32_1 := blk_frozen BK350.out 1
                              have hfz32_2 := blk_frozen BK350.out 2
                              have hfz32_3 := blk_frozen BK350.out 3
                              go_wp2
                              repeat (go_quiet (fail); try go_wp2)
                              go_meet
                              case rel => exact ⟨_, (x10_3), (by first | rfl | (simp; done) | (simp [*]; done)), H', ⟨by have := HK1.out; have := HJ9.out; have := HK3.out; first | omega | exact Nat.le_refl _⟩, ⟨by (with_reducible repeat (first | apply Kd.R_alloc | apply Kd.R_drewN | apply Kd.R_drew)); exact HO_4.out⟩, ⟨by (with_reducible repeat (first | refine blk_drewN ?_ _ | refine blk_drew ?_ | refine blk_alloc ?_ _)); exact BK350.out⟩, ⟨by repeat (first | (with_reducible first | exact HB.out | apply below_alloc | apply pw_below_drewN | apply below_drew1 | refine below_set ?_ GE350.out) | exact HB.out)⟩⟩
                          · rw [if_neg c21] at H
                            have c21b0 : (((rd_T38 t335 x8_1).f2).toList == ([] : List UInt8)) = false := beq_eq_false_iff_ne.mpr c21
                            have c21b1 : (((rd_T38 t335 x8_1).f2).toList != ([] : List UInt8)) = true := bne_iff_ne.mpr c21
                            have H' := Aside0.mk H
                            clear H
                            have hcz33_0 : wr.cell? ⟨gb350, 0, none⟩ = some (.int .i64 ((rd_T38 t335 x8_1).f0)) := (blk_cell BK350.out 0).trans rfl
                            have hcz33_1 : wr.cell? ⟨gb350, 1, none⟩ = some (.int .i64 ((rd_T38 t335 x8_1).f1)) := (blk_cell BK350.out 1).trans rfl
                            have hcz33_2 : wr.cell? ⟨gb350, 2, none⟩ = some (.string ((rd_T38 t335 x8_1).f2)) := (blk_cell BK350.out 2).trans rfl
                            have hcz33_3 : wr.cell? ⟨gb350, 3, none⟩ = some (.int .i64 ((rd_T38 t335 x8_1).f3)) := (blk_cell BK350.out 3).trans rfl
                            have hfz33_0 := blk_frozen BK350.out 0
                            have hfz33_1 := blk_frozen BK350.out 1
                            have hfz33_2 := blk_frozen BK350.out 2
                            have hfz33_3 := blk_frozen BK350.out 3
                            go_wp2
                            repeat (go_quiet (fail); try go_wp2)
                            go_meet
                            case rel => exact ⟨_, (x10_3), (by first | rfl | (simp; done) | (simp [*]; done)), H', ⟨by have := HK1.out; have := HJ9.out; have := HK3.out; first | omega | exact Nat.le_refl _⟩, ⟨by (with_reducible repeat (first | apply Kd.R_alloc | apply Kd.R_drewN | apply Kd.R_drew)); exact HO_4.out⟩, ⟨by (with_reducible repeat (first | refine blk_drewN ?_ _ | refine blk_drew ?_ | refine blk_alloc ?_ _)); exact BK350.out⟩, ⟨by repeat (first | (with_reducible first | exact HB.out | apply below_alloc | apply pw_below_drewN | apply below_drew1 | refine below_set ?_ GE350.out) | exact HB.out)⟩⟩
                  case rest =>
                    clear HC18
                    try clear c1
                    try clear c2
                    try clear p2
                    try clear q2
                    try clear hx2
                    try clear p3
                    try clear q3
                    try clear hx3
                    try clear c5
                    try clear c5b0
                    try clear c5b1
                    try clear p6
                    try clear c8
                    try clear c8b0
                    try clear c9
                    try clear c9b0
                    try clear c14
                    try clear c14b0
                    try clear c17
                    try clear c20
                    try clear c20b0
                    try clear c20b1
                    try clear c21
                    try clear c21b0
                    try clear c21b1
                    try clear c22
                    try clear c22b0
                    try clear c24
                    try clear c24b0
                    try clear p25
                    try clear q25
                    try clear hx25
                    try clear c26
                    try clear c26b0
                    try clear p27
                    try clear q27
                    try clear hx27
                    try clear c28
                    try clear c28b0
                    try clear hcz13_0
                    try clear hcz13_1
                    try clear hcz13_2
                    try clear hcz13_3
                    try clear hcz15_0
                    try clear hcz15_1
                    try clear hcz15_2
                    try clear hcz15_3
                    try clear hcz16_0
                    try clear hcz16_1
                    try clear hcz16_2
                    try clear hcz16_3
                    try clear hcz19_0
                    try clear hcz19_1
                    try clear hcz19_2
                    try clear hcz19_3
                    try clear hcz29_0
                    try clear hcz29_1
                    try clear hcz29_2
                    try clear hcz29_3
                    try clear hcz30_0
                    try clear hcz30_1
                    try clear hcz30_2
                    try clear hcz30_3
                    try clear hcz31_0
                    try clear hcz31_1
                    try clear hcz31_2
                    try clear hcz31_3
                    try clear hcz32_0
                    try clear hcz32_1
                    try clear hcz32_2
                    try clear hcz32_3
                    try clear hcz33_0
                    try clear hcz33_1
                    try clear hcz33_2
                    try clear hcz33_3
                    try clear hfz13_0
                    try clear hfz13_1
                    try clear hfz13_2
                    try clear hfz13_3
                    try clear hfz15_0
                    try clear hfz15_1
                    try clear hfz15_2
                    try clear hfz15_3
                    try clear hfz16_0
                    try clear hfz16_1
                    try clear hfz16_2
                    try clear hfz16_3
                    try clear hfz19_0
                    try clear hfz19_1
                    try clear hfz19_2
                    try clear hfz19_3
                    try clear hfz29_0
                    try clear hfz29_1
                    try clear hfz29_2
                    try clear hfz29_3
                    try clear hfz30_0
                    try clear hfz30_1
                    try clear hfz30_2
                    try clear hfz30_3
                    try clear hfz31_0
                    try clear hfz31_1
                    try clear hfz31_2
                    try clear hfz31_3
                    try clear hfz32_0
                    try clear hfz32_1
                    try clear hfz32_2
                    try clear hfz32_3
                    try clear hfz33_0
                    try clear hfz33_1
                    try clear hfz33_2
                    try clear hfz33_3
                    try clear hx349_0
                    try clear hx349_1
                    try clear hx349_2
                    try clear hx349_3
                    try clear p2
                    try clear p25
                    try clear p27
                    try clear p3
                    try clear p349
                    try clear q25
                    try clear q27
                    try clear q3
                    try clear q349
                    obtain ⟨kq, x10_17, rfl, HA, HJ17, HO_4, BK350, HB⟩ := hcut
                    cases kq with
                    | zero => exact absurd HA.out (by simp [warplaw9_LexCovers.j3])
                    | succ kj17 =>
                      have H := HA.out
                      clear HA
                      simp only [warplaw9_LexCovers.j3] at H
                      have HC34 := Aside0.mk H
                      clear H
                      go_upto_region 15 with (fail)
                      repeat (go_quiet (fail); go_upto_region 15 with (fail))
                      go_cut [128] (fun v128 wc => ∃ (kq : Nat) (x128_33 : Bool), v128 = .bool x128_33 ∧ Aside0 (warplaw9_LexCovers.j4 kq t334 t335 x7_1 x8_1 x10_17 x128_33 ((rd_T38 t335 x8_1).f0) ((rd_T38 t335 x8_1).f1) ((rd_T38 t335 x8_1).f2) ((rd_T38 t335 x8_1).f3) = some r) ∧ Aside0 (kq ≤ kj17) ∧ Aside0 (Kd.R k38 38 wc w.heap.size (fun k_ => k_ ≠ gb350) (.slice (some ad349) t335.length co11) t335) ∧ Aside0 (wc.heap[gb350]? = some (.cells #[.int .i64 ((rd_T38 t335 x8_1).f0), .int .i64 ((rd_T38 t335 x8_1).f1), .string ((rd_T38 t335 x8_1).f2), .int .i64 ((rd_T38 t335 x8_1).f3)] 38 (0, 0))) ∧ Aside0 (Below w.heap.size w wc))
                      case first =>
                        have H := HC34.out
                        clear HC34
                        by_cases c35 : (wrap64 (((rd_T38 t335 x8_1).f1) + x10_17)) > (t334.size : Int)
                        · rw [if_pos c35] at H
                          have c35b0 : decide ((t334.size : Int) < (wrap64 (((rd_T38 t335 x8_1).f1) + x10_17))) = true := decide_eq_true c35
                          clear c35
                          (first | rw [c35b0] | (simp only [i64_w, i32_w]; rw [c35b0]) | skip)
                          have H' := Aside0.mk H
                          clear H
                          have hcz36_0 : wc.cell? ⟨gb350, 0, none⟩ = some (.int .i64 ((rd_T38 t335 x8_1).f0)) := (blk_cell BK350.out 0).trans rfl
                          have hcz36_1 : wc.cell? ⟨gb350, 1, none⟩ = some (.int .i64 ((rd_T38 t335 x8_1).f1)) := (blk_cell BK350.out 1).trans rfl
                          have hcz36_2 : wc.cell? ⟨gb350, 2, none⟩ = some (.string ((rd_T38 t335 x8_1).f2)) := (blk_cell BK350.out 2).trans rfl
                          have hcz36_3 : wc.cell? ⟨gb350, 3, none⟩ = some (.int .i64 ((rd_T38 t335 x8_1).f3)) := (blk_cell BK350.out 3).trans rfl
                          have hfz36_0 := blk_frozen BK350.out 0
                          have hfz36_1 := blk_frozen BK350.out 1
                          have hfz36_2 := blk_frozen BK350.out 2
                          have hfz36_3 := blk_frozen BK350.out 3
                          go_wp2
                          repeat (go_quiet (fail); try go_wp2)
                          go_meet
                          case rel => exact ⟨_, (true), (by first | rfl | (simp; done) | (simp [*]; done)), H', ⟨by have := HK1.out; have := HJ9.out; have := HJ17.out; first | omega | exact Nat.le_refl _⟩, ⟨by (with_reducible repeat (first | apply Kd.R_alloc | apply Kd.R_drewN | apply Kd.R_drew)); exact HO_4.out⟩, ⟨by (with_reducible repeat (first | refine blk_drewN ?_ _ | refine blk_drew ?_ | refine blk_alloc ?_ _)); exact BK350.out⟩, ⟨by repeat (first | (with_reducible first | exact HB.out | apply below_alloc | apply pw_below_drewN | apply below_drew1 | refine below_set ?_ GE350.out) | exact HB.out)⟩⟩
                        · rw [if_neg c35] at H
                          have c35b0 : decide ((t334.size : Int) < (wrap64 (((rd_T38 t335 x8_1).f1) + x10_17))) = false := decide_eq_false c35
                          clear c35
                          (first | rw [c35b0] | (simp only [i64_w, i32_w]; rw [c35b0]) | skip)
                          by_cases c37 : ((rd_T38 t335 x8_1).f2).toList = ([] : List UInt8)
                          · rw [if_pos c37] at H
                            have c37b0 : (((rd_T38 t335 x8_1).f2).toList == ([] : List UInt8)) = true := beq_iff_eq.mpr c37
                            have c37b1 : (((rd_T38 t335 x8_1).f2).toList != ([] : List UInt8)) = false := bne_eq_false_iff_eq.mpr c37
                            clear c37
                            have H' := Aside0.mk H
                            clear H
                            have hcz38_0 : wc.cell? ⟨gb350, 0, none⟩ = some (.int .i64 ((rd_T38 t335 x8_1).f0)) := (blk_cell BK350.out 0).trans rfl
                            have hcz38_1 : wc.cell? ⟨gb350, 1, none⟩ = some (.int .i64 ((rd_T38 t335 x8_1).f1)) := (blk_cell BK350.out 1).trans rfl
                            have hcz38_2 : wc.cell? ⟨gb350, 2, none⟩ = some (.string ((rd_T38 t335 x8_1).f2)) := (blk_cell BK350.out 2).trans rfl
                            have hcz38_3 : wc.cell? ⟨gb350, 3, none⟩ = some (.int .i64 ((rd_T38 t335 x8_1).f3)) := (blk_cell BK350.out 3).trans rfl
                            have hfz38_0 := blk_frozen BK350.out 0
                            have hfz38_1 := blk_frozen BK350.out 1
                            have hfz38_2 := blk_frozen BK350.out 2
                            have hfz38_3 := blk_frozen BK350.out 3
                            go_wp2
                            repeat (go_quiet (fail); try go_wp2)
                            go_meet
                            case rel => exact ⟨_, (false), (by first | rfl | (simp; done) | (simp [*]; done)), H', ⟨by have := HK1.out; have := HJ9.out; have := HJ17.out; first | omega | exact Nat.le_refl _⟩, ⟨by (with_reducible repeat (first | apply Kd.R_alloc | apply Kd.R_drewN | apply Kd.R_drew)); exact HO_4.out⟩, ⟨by (with_reducible repeat (first | refine blk_drewN ?_ _ | refine blk_drew ?_ | refine blk_alloc ?_ _)); exact BK350.out⟩, ⟨by repeat (first | (with_reducible first | exact HB.out | apply below_alloc | apply pw_below_drewN | apply below_drew1 | refine below_set ?_ GE350.out) | exact HB.out)⟩⟩
                          · rw [if_neg c37] at H
                            have c37b0 : (((rd_T38 t335 x8_1).f2).toList == ([] : List UInt8)) = false := beq_eq_false_iff_ne.mpr c37
                            have c37b1 : (((rd_T38 t335 x8_1).f2).toList != ([] : List UInt8)) = true := bne_iff_ne.mpr c37
                            by_cases c39 : 0 ≤ ((rd_T38 t335 x8_1).f1)
                            · rw [if_pos c39] at H
                              have c39b0 := eq_true c39
                              have c39b1 : decide (0 ≤ ((rd_T38 t335 x8_1).f1)) = true := decide_eq_true c39
                              clear c39
                              by_cases c40 : ((rd_T38 t335 x8_1).f1) ≤ (wrap64 (((rd_T38 t335 x8_1).f1) + x10_17))
                              · rw [if_pos c40] at H
                                have c40b0 := eq_true c40
                                have c40b1 : decide (((rd_T38 t335 x8_1).f1) ≤ (wrap64 (((rd_T38 t335 x8_1).f1) + x10_17))) = true := decide_eq_true c40
                                by_cases c41 : (wrap64 (((rd_T38 t335 x8_1).f1) + x10_17)) ≤ (t334.size : Int)
                                · rw [if_pos c41] at H
                                  have c41b0 := eq_true c41
                                  have c41b1 : decide ((wrap64 (((rd_T38 t335 x8_1).f1) + x10_17)) ≤ (t334.size : Int)) = true := decide_eq_true c41
                                  have H' := Aside0.mk H
                                  clear H
                                  have hcz42_0 : wc.cell? ⟨gb350, 0, none⟩ = some (.int .i64 ((rd_T38 t335 x8_1).f0)) := (blk_cell BK350.out 0).trans rfl
                                  have hcz42_1 : wc.cell? ⟨gb350, 1, none⟩ = some (.int .i64 ((rd_T38 t335 x8_1).f1)) := (blk_cell BK350.out 1).trans rfl
                                  have hcz42_2 : wc.cell? ⟨gb350, 2, none⟩ = some (.string ((rd_T38 t335 x8_1).f2)) := (blk_cell BK350.out 2).trans rfl
                                  have hcz42_3 : wc.cell? ⟨gb350, 3, none⟩ = some (.int .i64 ((rd_T38 t335 x8_1).f3)) := (blk_cell BK350.out 3).trans rfl
                                  have hfz42_0 := blk_frozen BK350.out 0
                                  have hfz42_1 := blk_frozen BK350.out 1
                                  have hfz42_2 := blk_frozen BK350.out 2
                                  have hfz42_3 := blk_frozen BK350.out 3
                                  go_wp2
                                  repeat (go_quiet (fail); try go_wp2)
                                  go_meet
                                  case rel => exact ⟨_, (((t334.extract (((rd_T38 t335 x8_1).f1) : Int).toNat ((wrap64 (((rd_T38 t335 x8_1).f1) + x10_17)) : Int).toNat).toList != ((rd_T38 t335 x8_1).f2).toList)), (by first | rfl | (simp; done) | (simp [*]; done)), H', ⟨by have := HK1.out; have := HJ9.out; have := HJ17.out; first | omega | exact Nat.le_refl _⟩, ⟨by (with_reducible repeat (first | apply Kd.R_alloc | apply Kd.R_drewN | apply Kd.R_drew)); exact HO_4.out⟩, ⟨by (with_reducible repeat (first | refine blk_drewN ?_ _ | refine blk_drew ?_ | refine blk_alloc ?_ _)); exact BK350.out⟩, ⟨by repeat (first | (with_reducible first | exact HB.out | apply below_alloc | apply pw_below_drewN | apply below_drew1 | refine below_set ?_ GE350.out) | exact HB.out)⟩⟩
                                · rw [if_neg c41] at H
                                  exact absurd H (by simp)
                              · rw [if_neg c40] at H
                                exact absurd H (by simp)
                            · rw [if_neg c39] at H
                              exact absurd H (by simp)
                      case rest =>
                        clear HC34
                        try clear c1
                        try clear c2
                        try clear p2
                        try clear q2
                        try clear hx2
                        try clear c3
                        try clear p3
                        try clear q3
                        try clear hx3
                        try clear c4
                        try clear c5
                        try clear c5b0
                        try clear c5b1
                        try clear p6
                        try clear c8
                        try clear c8b0
                        try clear c9
                        try clear c9b0
                        try clear c14
                        try clear c14b0
                        try clear c17
                        try clear c20
                        try clear c20b0
                        try clear c20b1
                        try clear c21
                        try clear c21b0
                        try clear c21b1
                        try clear c22
                        try clear c22b0
                        try clear c24
                        try clear c24b0
                        try clear p25
                        try clear q25
                        try clear hx25
                        try clear c26
                        try clear c26b0
                        try clear p27
                        try clear q27
                        try clear hx27
                        try clear c28
                        try clear c28b0
                        try clear p34
                        try clear q34
                        try clear hx34
                        try clear c35
                        try clear c35b0
                        try clear c37
                        try clear c37b0
                        try clear c37b1
                        try clear c39
                        try clear c39b0
                        try clear c39b1
                        try clear c40
                        try clear c40b0
                        try clear c40b1
                        try clear c41
                        try clear c41b0
                        try clear c41b1
                        try clear hcz13_0
                        try clear hcz13_1
                        try clear hcz13_2
                        try clear hcz13_3
                        try clear hcz15_0
                        try clear hcz15_1
                        try clear hcz15_2
                        try clear hcz15_3
                        try clear hcz16_0
                        try clear hcz16_1
                        try clear hcz16_2
                        try clear hcz16_3
                        try clear hcz19_0
                        try clear hcz19_1
                        try clear hcz19_2
                        try clear hcz19_3
                        try clear hcz29_0
                        try clear hcz29_1
                        try clear hcz29_2
                        try clear hcz29_3
                        try clear hcz30_0
                        try clear hcz30_1
                        try clear hcz30_2
                        try clear hcz30_3
                        try clear hcz31_0
                        try clear hcz31_1
                        try clear hcz31_2
                        try clear hcz31_3
                        try clear hcz32_0
                        try clear hcz32_1
                        try clear hcz32_2
                        try clear hcz32_3
                        try clear hcz33_0
                        try clear hcz33_1
                        try clear hcz33_2
                        try clear hcz33_3
                        try clear hcz36_0
                        try clear hcz36_1
                        try clear hcz36_2
                        try clear hcz36_3
                        try clear hcz38_0
                        try clear hcz38_1
                        try clear hcz38_2
                        try clear hcz38_3
                        try clear hcz42_0
                        try clear hcz42_1
                        try clear hcz42_2
                        try clear hcz42_3
                        try clear hfz13_0
                        try clear hfz13_1
                        try clear hfz13_2
                        try clear hfz13_3
                        try clear hfz15_0
                        try clear hfz15_1
                        try clear hfz15_2
                        try clear hfz15_3
                        try clear hfz16_0
                        try clear hfz16_1
                        try clear hfz16_2
                        try clear hfz16_3
                        try clear hfz19_0
                        try clear hfz19_1
                        try clear hfz19_2
                        try clear hfz19_3
                        try clear hfz29_0
                        try clear hfz29_1
                        try clear hfz29_2
                        try clear hfz29_3
                        try clear hfz30_0
                        try clear hfz30_1
                        try clear hfz30_2
                        try clear hfz30_3
                        try clear hfz31_0
                        try clear hfz31_1
                        try clear hfz31_2
                        try clear hfz31_3
                        try clear hfz32_0
                        try clear hfz32_1
                        try clear hfz32_2
                        try clear hfz32_3
                        try clear hfz33_0
                        try clear hfz33_1
                        try clear hfz33_2
                        try clear hfz33_3
                        try clear hfz36_0
                        try clear hfz36_1
                        try clear hfz36_2
                        try clear hfz36_3
                        try clear hfz38_0
                        try clear hfz38_1
                        try clear hfz38_2
                        try clear hfz38_3
                        try clear hfz42_0
                        try clear hfz42_1
                        try clear hfz42_2
                        try clear hfz42_3
                        try clear hx349_0
                        try clear hx349_1
                        try clear hx349_2
                        try clear hx349_3
                        try clear p2
                        try clear p25
                        try clear p27
                        try clear p3
                        try clear p349
                        try clear p6
                        try clear q2
                        try clear q25
                        try clear q27
                        try clear q3
                        try clear q349
                        obtain ⟨kq, x128_33, rfl, HA, HJ33, HO_4, BK350, HB⟩ := hcut
                        cases kq with
                        | zero => exact absurd HA.out (by simp [warplaw9_LexCovers.j4])
                        | succ kj33 =>
                          have H := HA.out
                          clear HA
                          simp only [warplaw9_LexCovers.j4] at H
                          by_cases c43 : x128_33 = true
                          · subst c43
                            have H1 : (some false) = some r := by rw [if_pos rfl] at H; exact H
                            clear H
                            have H := H1
                            clear H1
                            obtain rfl := Option.some.inj H
                            go_wp2
                            repeat (go_quiet (fail); try go_wp2)
                            go_ret
                            exact ⟨by first | rfl | (simp [errW_none, errW_some] <;> rfl) | (simp [*, errW_none, errW_some] <;> rfl), by repeat (first | (with_reducible first | exact HB.out | apply below_alloc | apply pw_below_drewN | apply below_drew1 | refine below_set ?_ GE350.out) | exact HB.out)⟩
                          · replace c43 := Bool.eq_false_iff.mpr c43
                            subst c43
                            have H1 : (if 0 ≤ x7_1 then (if x7_1 ≤ ((rd_T38 t335 x8_1).f1) then (if ((rd_T38 t335 x8_1).f1) ≤ (t334.size : Int) then ((lex_Lex.f kj33 (t334.extract (x7_1 : Int).toNat (((rd_T38 t335 x8_1).f1) : Int).toNat)).bind fun bt351 => ((warplaw1_Num.f bt351.2.1).bind fun t356 => (if t356 = 0 then (if (bt351.1.length : Int) = 0 then (warplaw9_LexCovers.l0 kj33 t334 t335 (wrap64 (((rd_T38 t335 x8_1).f1) + x10_17)) (wrap64 (x8_1 + 1))) else (some false)) else (some false)))) else (none)) else (none)) else (none)) = some r := by rw [if_neg (show ¬ (false = true) by decide)] at H; exact H
                            clear H
                            have H := H1
                            clear H1
                            by_cases c44 : 0 ≤ x7_1
                            · rw [if_pos c44] at H
                              have c44b0 := eq_true c44
                              have c44b1 : decide (0 ≤ x7_1) = true := decide_eq_true c44
                              clear c44
                              by_cases c45 : x7_1 ≤ ((rd_T38 t335 x8_1).f1)
                              · rw [if_pos c45] at H
                                have c45b0 := eq_true c45
                                have c45b1 : decide (x7_1 ≤ ((rd_T38 t335 x8_1).f1)) = true := decide_eq_true c45
                                clear c45
                                by_cases c46 : ((rd_T38 t335 x8_1).f1) ≤ (t334.size : Int)
                                · rw [if_pos c46] at H
                                  have c46b0 := eq_true c46
                                  have c46b1 : decide (((rd_T38 t335 x8_1).f1) ≤ (t334.size : Int)) = true := decide_eq_true c46
                                  clear c46
                                  replace H := Option.bind_eq_some_iff.mp H
                                  obtain ⟨⟨t351, t352, t353⟩, A470, H⟩ := H
                                  replace H : ((warplaw1_Num.f t352).bind fun t356 => (if t356 = 0 then (if (t351.length : Int) = 0 then (warplaw9_LexCovers.l0 kj33 t334 t335 (wrap64 (((rd_T38 t335 x8_1).f1) + x10_17)) (wrap64 (x8_1 + 1))) else (some false)) else (some false))) = some r := H
                                  have A47 := Aside0.mk A470
                                  clear A470
                                  replace H := Option.bind_eq_some_iff.mp H
                                  obtain ⟨t356, A480, H⟩ := H
                                  replace H : (if t356 = 0 then (if (t351.length : Int) = 0 then (warplaw9_LexCovers.l0 kj33 t334 t335 (wrap64 (((rd_T38 t335 x8_1).f1) + x10_17)) (wrap64 (x8_1 + 1))) else (some false)) else (some false)) = some r := H
                                  have A48 := Aside0.mk A480
                                  clear A480
                                  by_cases c49 : t356 = 0
                                  · rw [if_pos c49] at H
                                    have c49b0 : (t356 == 0) = true := beq_iff_eq.mpr c49
                                    have c49b1 : (t356 != 0) = false := bne_eq_false_iff_eq.mpr c49
                                    clear c49
                                    by_cases c50 : (t351.length : Int) = 0
                                    · rw [if_pos c50] at H
                                      have c50b0 : ((t351.length : Int) == 0) = true := beq_iff_eq.mpr c50
                                      have c50b1 : ((t351.length : Int) != 0) = false := bne_eq_false_iff_eq.mpr c50
                                      clear c50
                                      have H' := Aside0.mk H
                                      clear H
                                      have hcz51_0 : wc.cell? ⟨gb350, 0, none⟩ = some (.int .i64 ((rd_T38 t335 x8_1).f0)) := (blk_cell BK350.out 0).trans rfl
                                      have hcz51_1 : wc.cell? ⟨gb350, 1, none⟩ = some (.int .i64 ((rd_T38 t335 x8_1).f1)) := (blk_cell BK350.out 1).trans rfl
                                      have hcz51_2 : wc.cell? ⟨gb350, 2, none⟩ = some (.string ((rd_T38 t335 x8_1).f2)) := (blk_cell BK350.out 2).trans rfl
                                      have hcz51_3 : wc.cell? ⟨gb350, 3, none⟩ = some (.int .i64 ((rd_T38 t335 x8_1).f3)) := (blk_cell BK350.out 3).trans rfl
                                      have hfz51_0 := blk_frozen BK350.out 0
                                      have hfz51_1 := blk_frozen BK350.out 1
                                      have hfz51_2 := blk_frozen BK350.out 2
                                      have hfz51_3 := blk_frozen BK350.out 3
                                      go_wp2_with (first | (go_at_call 10; (with_reducible refine (lex_Lex.calls kj33 (t334.extract (x7_1 : Int).toNat (((rd_T38 t335 x8_1).f1) : Int).toNat) t351 t352 t353 _ A47.out).mono ?_); rintro e w52 ⟨v354, rfl, ho0, hb⟩; have n0_ := Aside0.mk (Kd.R_elder' (by (with_reducible repeat (first | apply Kd.R_alloc | apply Kd.R_drewN | apply Kd.R_drew)); exact HO_4.out) (Kd.R_base ho0) hb); have n1_ := Aside0.mk (Kd.R_lower (Kd.R_newB (Kd.R_new' ho0 (Kd.R_lt (by (with_reducible repeat (first | apply Kd.R_alloc | apply Kd.R_drewN | apply Kd.R_drew)); exact HO_4.out))) (g := gb350) (o := .cells #[.int .i64 ((rd_T38 t335 x8_1).f0), .int .i64 ((rd_T38 t335 x8_1).f1), .string ((rd_T38 t335 x8_1).f2), .int .i64 ((rd_T38 t335 x8_1).f3)] 38 (0, 0)) (by (with_reducible repeat (first | refine blk_drewN ?_ _ | refine blk_drew ?_ | refine blk_alloc ?_ _)); exact BK350.out)) (below_size (by repeat (first | (with_reducible first | exact HB.out | apply below_alloc | apply pw_below_drewN | apply below_drew1 | refine below_set ?_ GE350.out) | exact HB.out)))); have n2_ := Aside0.mk (blk_below (g := gb350) (o := .cells #[.int .i64 ((rd_T38 t335 x8_1).f0), .int .i64 ((rd_T38 t335 x8_1).f1), .string ((rd_T38 t335 x8_1).f2), .int .i64 ((rd_T38 t335 x8_1).f3)] 38 (0, 0)) (by (with_reducible repeat (first | refine blk_drewN ?_ _ | refine blk_drew ?_ | refine blk_alloc ?_ _)); exact BK350.out) hb); have n3_ := Aside0.mk (below_step (by repeat (first | (with_reducible first | exact HB.out | apply below_alloc | apply pw_below_drewN | apply below_drew1 | refine below_set ?_ GE350.out) | exact HB.out)) hb); clear HO_4; clear BK350; clear HB; have HO_4 := n0_; have HO355 := n1_; have BK350 := n2_; have HB := n3_; clear n0_ n1_ n2_ n3_; (try clear hb); (try clear hb2); (try clear hk); (try clear hi); (try clear ho0)) | (go_at_call 13; (with_reducible refine (warplaw1_Num.calls t352 t356 _ A48.out).mono ?_); rintro e w' ⟨rfl, ⟨nd, rfl⟩⟩; (try first | exact ⟨rfl, _, World.drewN_drewN _ _ _⟩ | exact ⟨rfl, _, Eq.trans (World.drewN_drewN _ _ _) (congrArg (World.drewN _) (Nat.add_assoc _ _ _))⟩); obtain ⟨Ao53, co53, eo53⟩ := Kd.R_slice HO355.out; subst eo53; have hcz54_0 : w52.cell? ⟨gb350, 0, none⟩ = some (.int .i64 ((rd_T38 t335 x8_1).f0)) := (blk_cell BK350.out 0).trans rfl; have hcz54_1 : w52.cell? ⟨gb350, 1, none⟩ = some (.int .i64 ((rd_T38 t335 x8_1).f1)) := (blk_cell BK350.out 1).trans rfl; have hcz54_2 : w52.cell? ⟨gb350, 2, none⟩ = some (.string ((rd_T38 t335 x8_1).f2)) := (blk_cell BK350.out 2).trans rfl; have hcz54_3 : w52.cell? ⟨gb350, 3, none⟩ = some (.int .i64 ((rd_T38 t335 x8_1).f3)) := (blk_cell BK350.out 3).trans rfl; have hfz54_0 := blk_frozen BK350.out 0; have hfz54_1 := blk_frozen BK350.out 1; have hfz54_2 := blk_frozen BK350.out 2; have hfz54_3 := blk_frozen BK350.out 3))
                                      repeat (go_quiet (first | (go_at_call 10; (with_reducible refine (lex_Lex.calls kj33 (t334.extract (x7_1 : Int).toNat (((rd_T38 t335 x8_1).f1) : Int).toNat) t351 t352 t353 _ A47.out).mono ?_); rintro e w52 ⟨v354, rfl, ho0, hb⟩; have n0_ := Aside0.mk (Kd.R_elder' (by (with_reducible repeat (first | apply Kd.R_alloc | apply Kd.R_drewN | apply Kd.R_drew)); exact HO_4.out) (Kd.R_base ho0) hb); have n1_ := Aside0.mk (Kd.R_lower (Kd.R_newB (Kd.R_new' ho0 (Kd.R_lt (by (with_reducible repeat (first | apply Kd.R_alloc | apply Kd.R_drewN | apply Kd.R_drew)); exact HO_4.out))) (g := gb350) (o := .cells #[.int .i64 ((rd_T38 t335 x8_1).f0), .int .i64 ((rd_T38 t335 x8_1).f1), .string ((rd_T38 t335 x8_1).f2), .int .i64 ((rd_T38 t335 x8_1).f3)] 38 (0, 0)) (by (with_reducible repeat (first | refine blk_drewN ?_ _ | refine blk_drew ?_ | refine blk_alloc ?_ _)); exact BK350.out)) (below_size (by repeat (first | (with_reducible first | exact HB.out | apply below_alloc | apply pw_below_drewN | apply below_drew1 | refine below_set ?_ GE350.out) | exact HB.out)))); have n2_ := Aside0.mk (blk_below (g := gb350) (o := .cells #[.int .i64 ((rd_T38 t335 x8_1).f0), .int .i64 ((rd_T38 t335 x8_1).f1), .string ((rd_T38 t335 x8_1).f2), .int .i64 ((rd_T38 t335 x8_1).f3)] 38 (0, 0)) (by (with_reducible repeat (first | refine blk_drewN ?_ _ | refine blk_drew ?_ | refine blk_alloc ?_ _)); exact BK350.out) hb); have n3_ := Aside0.mk (below_step (by repeat (first | (with_reducible first | exact HB.out | apply below_alloc | apply pw_below_drewN | apply below_drew1 | refine below_set ?_ GE350.out) | exact HB.out)) hb); clear HO_4; clear BK350; clear HB; have HO_4 := n0_; have HO355 := n1_; have BK350 := n2_; have HB := n3_; clear n0_ n1_ n2_ n3_; (try clear hb); (try clear hb2); (try clear hk); (try clear hi); (try clear ho0)) | (go_at_call 13; (with_reducible refine (warplaw1_Num.calls t352 t356 _ A48.out).mono ?_); rintro e w' ⟨rfl, ⟨nd, rfl⟩⟩; (try first | exact ⟨rfl, _, World.drewN_drewN _ _ _⟩ | exact ⟨rfl, _, Eq.trans (World.drewN_drewN _ _ _) (congrArg (World.drewN _) (Nat.add_assoc _ _ _))⟩); obtain ⟨Ao53, co53, eo53⟩ := Kd.R_slice HO355.out; subst eo53; have hcz54_0 : w52.cell? ⟨gb350, 0, none⟩ = some (.int .i64 ((rd_T38 t335 x8_1).f0)) := (blk_cell BK350.out 0).trans rfl; have hcz54_1 : w52.cell? ⟨gb350, 1, none⟩ = some (.int .i64 ((rd_T38 t335 x8_1).f1)) := (blk_cell BK350.out 1).trans rfl; have hcz54_2 : w52.cell? ⟨gb350, 2, none⟩ = some (.string ((rd_T38 t335 x8_1).f2)) := (blk_cell BK350.out 2).trans rfl; have hcz54_3 : w52.cell? ⟨gb350, 3, none⟩ = some (.int .i64 ((rd_T38 t335 x8_1).f3)) := (blk_cell BK350.out 3).trans rfl; have hfz54_0 := blk_frozen BK350.out 0; have hfz54_1 := blk_frozen BK350.out 1; have hfz54_2 := blk_frozen BK350.out 2; have hfz54_3 := blk_frozen BK350.out 3)); try go_wp2_with (first | (go_at_call 10; (with_reducible refine (lex_Lex.calls kj33 (t334.extract (x7_1 : Int).toNat (((rd_T38 t335 x8_1).f1) : Int).toNat) t351 t352 t353 _ A47.out).mono ?_); rintro e w52 ⟨v354, rfl, ho0, hb⟩; have n0_ := Aside0.mk (Kd.R_elder' (by (with_reducible repeat (first | apply Kd.R_alloc | apply Kd.R_drewN | apply Kd.R_drew)); exact HO_4.out) (Kd.R_base ho0) hb); have n1_ := Aside0.mk (Kd.R_lower (Kd.R_newB (Kd.R_new' ho0 (Kd.R_lt (by (with_reducible repeat (first | apply Kd.R_alloc | apply Kd.R_drewN | apply Kd.R_drew)); exact HO_4.out))) (g := gb350) (o := .cells #[.int .i64 ((rd_T38 t335 x8_1).f0), .int .i64 ((rd_T38 t335 x8_1).f1), .string ((rd_T38 t335 x8_1).f2), .int .i64 ((rd_T38 t335 x8_1).f3)] 38 (0, 0)) (by (with_reducible repeat (first | refine blk_drewN ?_ _ | refine blk_drew ?_ | refine blk_alloc ?_ _)); exact BK350.out)) (below_size (by repeat (first | (with_reducible first | exact HB.out | apply below_alloc | apply pw_below_drewN | apply below_drew1 | refine below_set ?_ GE350.out) | exact HB.out)))); have n2_ := Aside0.mk (blk_below (g := gb350) (o := .cells #[.int .i64 ((rd_T38 t335 x8_1).f0), .int .i64 ((rd_T38 t335 x8_1).f1), .string ((rd_T38 t335 x8_1).f2), .int .i64 ((rd_T38 t335 x8_1).f3)] 38 (0, 0)) (by (with_reducible repeat (first | refine blk_drewN ?_ _ | refine blk_drew ?_ | refine blk_alloc ?_ _)); exact BK350.out) hb); have n3_ := Aside0.mk (below_step (by repeat (first | (with_reducible first | exact HB.out | apply below_alloc | apply pw_below_drewN | apply below_drew1 | refine below_set ?_ GE350.out) | exact HB.out)) hb); clear HO_4; clear BK350; clear HB; have HO_4 := n0_; have HO355 := n1_; have BK350 := n2_; have HB := n3_; clear n0_ n1_ n2_ n3_; (try clear hb); (try clear hb2); (try clear hk); (try clear hi); (try clear ho0)) | (go_at_call 13; (with_reducible refine (warplaw1_Num.calls t352 t356 _ A48.out).mono ?_); rintro e w' ⟨rfl, ⟨nd, rfl⟩⟩; (try first | exact ⟨rfl, _, World.drewN_drewN _ _ _⟩ | exact ⟨rfl, _, Eq.trans (World.drewN_drewN _ _ _) (congrArg (World.drewN _) (Nat.add_assoc _ _ _))⟩); obtain ⟨Ao53, co53, eo53⟩ := Kd.R_slice HO355.out; subst eo53; have hcz54_0 : w52.cell? ⟨gb350, 0, none⟩ = some (.int .i64 ((rd_T38 t335 x8_1).f0)) := (blk_cell BK350.out 0).trans rfl; have hcz54_1 : w52.cell? ⟨gb350, 1, none⟩ = some (.int .i64 ((rd_T38 t335 x8_1).f1)) := (blk_cell BK350.out 1).trans rfl; have hcz54_2 : w52.cell? ⟨gb350, 2, none⟩ = some (.string ((rd_T38 t335 x8_1).f2)) := (blk_cell BK350.out 2).trans rfl; have hcz54_3 : w52.cell? ⟨gb350, 3, none⟩ = some (.int .i64 ((rd_T38 t335 x8_1).f3)) := (blk_cell BK350.out 3).trans rfl; have hfz54_0 := blk_frozen BK350.out 0; have hfz54_1 := blk_frozen BK350.out 1; have hfz54_2 := blk_frozen BK350.out 2; have hfz54_3 := blk_frozen BK350.out 3)))
                                      go_roundg kj33
                                      case measure => have := HK1.out; have := HJ9.out; have := HJ17.out; have := HJ33.out; omega
                                      case rel => exact ⟨(wrap64 (((rd_T38 t335 x8_1).f1) + x10_17)), (wrap64 (x8_1 + 1)), (by first | rfl | (simp; done) | (simp [*]; done)), (by first | rfl | (simp; done) | (simp [*]; done)), H', ⟨by have := HK1.out; have := HJ9.out; have := HJ17.out; have := HJ33.out; omega⟩, ⟨by (with_reducible repeat (first | apply Kd.R_alloc | apply Kd.R_drewN | apply Kd.R_drew)); exact Kd.R_mono HO_4.out (fun _ hk => trivial)⟩, ⟨by repeat (first | (with_reducible first | exact HB.out | apply below_alloc | apply pw_below_drewN | apply below_drew1 | refine below_set ?_ GE350.out) | exact HB.out)⟩⟩
                                    · rw [if_neg c50] at H
                                      have c50b0 : ((t351.length : Int) == 0) = false := beq_eq_false_iff_ne.mpr c50
                                      have c50b1 : ((t351.length : Int) != 0) = true := bne_iff_ne.mpr c50
                                      have c50b2 : ¬ (t351 = []) := fun h_ => c50 (by rw [h_]; rfl)
                                      obtain rfl := Option.some.inj H
                                      have hcz55_0 : wc.cell? ⟨gb350, 0, none⟩ = some (.int .i64 ((rd_T38 t335 x8_1).f0)) := (blk_cell BK350.out 0).trans rfl
                                      have hcz55_1 : wc.cell? ⟨gb350, 1, none⟩ = some (.int .i64 ((rd_T38 t335 x8_1).f1)) := (blk_cell BK350.out 1).trans rfl
                                      have hcz55_2 : wc.cell? ⟨gb350, 2, none⟩ = some (.string ((rd_T38 t335 x8_1).f2)) := (blk_cell BK350.out 2).trans rfl
                                      have hcz55_3 : wc.cell? ⟨gb350, 3, none⟩ = some (.int .i64 ((rd_T38 t335 x8_1).f3)) := (blk_cell BK350.out 3).trans rfl
                                      have hfz55_0 := blk_frozen BK350.out 0
                                      have hfz55_1 := blk_frozen BK350.out 1
                                      have hfz55_2 := blk_frozen BK350.out 2
                                      have hfz55_3 := blk_frozen BK350.out 3
                                      go_wp2_with (first | (go_at_call 10; (with_reducible refine (lex_Lex.calls kj33 (t334.extract (x7_1 : Int).toNat (((rd_T38 t335 x8_1).f1) : Int).toNat) t351 t352 t353 _ A47.out).mono ?_); rintro e w56 ⟨v354, rfl, ho0, hb⟩; have n0_ := Aside0.mk (Kd.R_elder' (by (with_reducible repeat (first | apply Kd.R_alloc | apply Kd.R_drewN | apply Kd.R_drew)); exact HO_4.out) (Kd.R_base ho0) hb); have n1_ := Aside0.mk (Kd.R_lower (Kd.R_newB (Kd.R_new' ho0 (Kd.R_lt (by (with_reducible repeat (first | apply Kd.R_alloc | apply Kd.R_drewN | apply Kd.R_drew)); exact HO_4.out))) (g := gb350) (o := .cells #[.int .i64 ((rd_T38 t335 x8_1).f0), .int .i64 ((rd_T38 t335 x8_1).f1), .string ((rd_T38 t335 x8_1).f2), .int .i64 ((rd_T38 t335 x8_1).f3)] 38 (0, 0)) (by (with_reducible repeat (first | refine blk_drewN ?_ _ | refine blk_drew ?_ | refine blk_alloc ?_ _)); exact BK350.out)) (below_size (by repeat (first | (with_reducible first | exact HB.out | apply below_alloc | apply pw_below_drewN | apply below_drew1 | refine below_set ?_ GE350.out) | exact HB.out)))); have n2_ := Aside0.mk (blk_below (g := gb350) (o := .cells #[.int .i64 ((rd_T38 t335 x8_1).f0), .int .i64 ((rd_T38 t335 x8_1).f1), .string ((rd_T38 t335 x8_1).f2), .int .i64 ((rd_T38 t335 x8_1).f3)] 38 (0, 0)) (by (with_reducible repeat (first | refine blk_drewN ?_ _ | refine blk_drew ?_ | refine blk_alloc ?_ _)); exact BK350.out) hb); have n3_ := Aside0.mk (below_step (by repeat (first | (with_reducible first | exact HB.out | apply below_alloc | apply pw_below_drewN | apply below_drew1 | refine below_set ?_ GE350.out) | exact HB.out)) hb); clear HO_4; clear BK350; clear HB; have HO_4 := n0_; have HO355 := n1_; have BK350 := n2_; have HB := n3_; clear n0_ n1_ n2_ n3_; (try clear hb); (try clear hb2); (try clear hk); (try clear hi); (try clear ho0)) | (go_at_call 13; (with_reducible refine (warplaw1_Num.calls t352 t356 _ A48.out).mono ?_); rintro e w' ⟨rfl, ⟨nd, rfl⟩⟩; (try first | exact ⟨rfl, _, World.drewN_drewN _ _ _⟩ | exact ⟨rfl, _, Eq.trans (World.drewN_drewN _ _ _) (congrArg (World.drewN _) (Nat.add_assoc _ _ _))⟩); obtain ⟨Ao57, co57, eo57⟩ := Kd.R_slice HO355.out; subst eo57))
                                      repeat (go_quiet (first | (go_at_call 10; (with_reducible refine (lex_Lex.calls kj33 (t334.extract (x7_1 : Int).toNat (((rd_T38 t335 x8_1).f1) : Int).toNat) t351 t352 t353 _ A47.out).mono ?_); rintro e w56 ⟨v354, rfl, ho0, hb⟩; have n0_ := Aside0.mk (Kd.R_elder' (by (with_reducible repeat (first | apply Kd.R_alloc | apply Kd.R_drewN | apply Kd.R_drew)); exact HO_4.out) (Kd.R_base ho0) hb); have n1_ := Aside0.mk (Kd.R_lower (Kd.R_newB (Kd.R_new' ho0 (Kd.R_lt (by (with_reducible repeat (first | apply Kd.R_alloc | apply Kd.R_drewN | apply Kd.R_drew)); exact HO_4.out))) (g := gb350) (o := .cells #[.int .i64 ((rd_T38 t335 x8_1).f0), .int .i64 ((rd_T38 t335 x8_1).f1), .string ((rd_T38 t335 x8_1).f2), .int .i64 ((rd_T38 t335 x8_1).f3)] 38 (0, 0)) (by (with_reducible repeat (first | refine blk_drewN ?_ _ | refine blk_drew ?_ | refine blk_alloc ?_ _)); exact BK350.out)) (below_size (by repeat (first | (with_reducible first | exact HB.out | apply below_alloc | apply pw_below_drewN | apply below_drew1 | refine below_set ?_ GE350.out) | exact HB.out)))); have n2_ := Aside0.mk (blk_below (g := gb350) (o := .cells #[.int .i64 ((rd_T38 t335 x8_1).f0), .int .i64 ((rd_T38 t335 x8_1).f1), .string ((rd_T38 t335 x8_1).f2), .int .i64 ((rd_T38 t335 x8_1).f3)] 38 (0, 0)) (by (with_reducible repeat (first | refine blk_drewN ?_ _ | refine blk_drew ?_ | refine blk_alloc ?_ _)); exact BK350.out) hb); have n3_ := Aside0.mk (below_step (by repeat (first | (with_reducible first | exact HB.out | apply below_alloc | apply pw_below_drewN | apply below_drew1 | refine below_set ?_ GE350.out) | exact HB.out)) hb); clear HO_4; clear BK350; clear HB; have HO_4 := n0_; have HO355 := n1_; have BK350 := n2_; have HB := n3_; clear n0_ n1_ n2_ n3_; (try clear hb); (try clear hb2); (try clear hk); (try clear hi); (try clear ho0)) | (go_at_call 13; (with_reducible refine (warplaw1_Num.calls t352 t356 _ A48.out).mono ?_); rintro e w' ⟨rfl, ⟨nd, rfl⟩⟩; (try first | exact ⟨rfl, _, World.drewN_drewN _ _ _⟩ | exact ⟨rfl, _, Eq.trans (World.drewN_drewN _ _ _) (congrArg (World.drewN _) (Nat.add_assoc _ _ _))⟩); obtain ⟨Ao57, co57, eo57⟩ := Kd.R_slice HO355.out; subst eo57)); try go_wp2_with (first | (go_at_call 10; (with_reducible refine (lex_Lex.calls kj33 (t334.extract (x7_1 : Int).toNat (((rd_T38 t335 x8_1).f1) : Int).toNat) t351 t352 t353 _ A47.out).mono ?_); rintro e w56 ⟨v354, rfl, ho0, hb⟩; have n0_ := Aside0.mk (Kd.R_elder' (by (with_reducible repeat (first | apply Kd.R_alloc | apply Kd.R_drewN | apply Kd.R_drew)); exact HO_4.out) (Kd.R_base ho0) hb); have n1_ := Aside0.mk (Kd.R_lower (Kd.R_newB (Kd.R_new' ho0 (Kd.R_lt (by (with_reducible repeat (first | apply Kd.R_alloc | apply Kd.R_drewN | apply Kd.R_drew)); exact HO_4.out))) (g := gb350) (o := .cells #[.int .i64 ((rd_T38 t335 x8_1).f0), .int .i64 ((rd_T38 t335 x8_1).f1), .string ((rd_T38 t335 x8_1).f2), .int .i64 ((rd_T38 t335 x8_1).f3)] 38 (0, 0)) (by (with_reducible repeat (first | refine blk_drewN ?_ _ | refine blk_drew ?_ | refine blk_alloc ?_ _)); exact BK350.out)) (below_size (by repeat (first | (with_reducible first | exact HB.out | apply below_alloc | apply pw_below_drewN | apply below_drew1 | refine below_set ?_ GE350.out) | exact HB.out)))); have n2_ := Aside0.mk (blk_below (g := gb350) (o := .cells #[.int .i64 ((rd_T38 t335 x8_1).f0), .int .i64 ((rd_T38 t335 x8_1).f1), .string ((rd_T38 t335 x8_1).f2), .int .i64 ((rd_T38 t335 x8_1).f3)] 38 (0, 0)) (by (with_reducible repeat (first | refine blk_drewN ?_ _ | refine blk_drew ?_ | refine blk_alloc ?_ _)); exact BK350.out) hb); have n3_ := Aside0.mk (below_step (by repeat (first | (with_reducible first | exact HB.out | apply below_alloc | apply pw_below_drewN | apply below_drew1 | refine below_set ?_ GE350.out) | exact HB.out)) hb); clear HO_4; clear BK350; clear HB; have HO_4 := n0_; have HO355 := n1_; have BK350 := n2_; have HB := n3_; clear n0_ n1_ n2_ n3_; (try clear hb); (try clear hb2); (try clear hk); (try clear hi); (try clear ho0)) | (go_at_call 13; (with_reducible refine (warplaw1_Num.calls t352 t356 _ A48.out).mono ?_); rintro e w' ⟨rfl, ⟨nd, rfl⟩⟩; (try first | exact ⟨rfl, _, World.drewN_drewN _ _ _⟩ | exact ⟨rfl, _, Eq.trans (World.drewN_drewN _ _ _) (congrArg (World.drewN _) (Nat.add_assoc _ _ _))⟩); obtain ⟨Ao57, co57, eo57⟩ := Kd.R_slice HO355.out; subst eo57)))
                                      go_ret
                                      exact ⟨by first | rfl | (simp [errW_none, errW_some] <;> rfl) | (simp [*, errW_none, errW_some] <;> rfl), by repeat (first | (with_reducible first | exact HB.out | apply below_alloc | apply pw_below_drewN | apply below_drew1 | refine below_set ?_ GE350.out) | exact HB.out)⟩
                                  · rw [if_neg c49] at H
                                    have c49b0 : (t356 == 0) = false := beq_eq_false_iff_ne.mpr c49
                                    have c49b1 : (t356 != 0) = true := bne_iff_ne.mpr c49
                                    obtain rfl := Option.some.inj H
                                    have hcz58_0 : wc.cell? ⟨gb350, 0, none⟩ = some (.int .i64 ((rd_T38 t335 x8_1).f0)) := (blk_cell BK350.out 0).trans rfl
                                    have hcz58_1 : wc.cell? ⟨gb350, 1, none⟩ = some (.int .i64 ((rd_T38 t335 x8_1).f1)) := (blk_cell BK350.out 1).trans rfl
                                    have hcz58_2 : wc.cell? ⟨gb350, 2, none⟩ = some (.string ((rd_T38 t335 x8_1).f2)) := (blk_cell BK350.out 2).trans rfl
                                    have hcz58_3 : wc.cell? ⟨gb350, 3, none⟩ = some (.int .i64 ((rd_T38 t335 x8_1).f3)) := (blk_cell BK350.out 3).trans rfl
                                    have hfz58_0 := blk_frozen BK350.out 0
                                    have hfz58_1 := blk_frozen BK350.out 1
                                    have hfz58_2 := blk_frozen BK350.out 2
                                    have hfz58_3 := blk_frozen BK350.out 3
                                    go_wp2_with (first | (go_at_call 10; (with_reducible refine (lex_Lex.calls kj33 (t334.extract (x7_1 : Int).toNat (((rd_T38 t335 x8_1).f1) : Int).toNat) t351 t352 t353 _ A47.out).mono ?_); rintro e w59 ⟨v354, rfl, ho0, hb⟩; have n0_ := Aside0.mk (Kd.R_elder' (by (with_reducible repeat (first | apply Kd.R_alloc | apply Kd.R_drewN | apply Kd.R_drew)); exact HO_4.out) (Kd.R_base ho0) hb); have n1_ := Aside0.mk (Kd.R_lower (Kd.R_newB (Kd.R_new' ho0 (Kd.R_lt (by (with_reducible repeat (first | apply Kd.R_alloc | apply Kd.R_drewN | apply Kd.R_drew)); exact HO_4.out))) (g := gb350) (o := .cells #[.int .i64 ((rd_T38 t335 x8_1).f0), .int .i64 ((rd_T38 t335 x8_1).f1), .string ((rd_T38 t335 x8_1).f2), .int .i64 ((rd_T38 t335 x8_1).f3)] 38 (0, 0)) (by (with_reducible repeat (first | refine blk_drewN ?_ _ | refine blk_drew ?_ | refine blk_alloc ?_ _)); exact BK350.out)) (below_size (by repeat (first | (with_reducible first | exact HB.out | apply below_alloc | apply pw_below_drewN | apply below_drew1 | refine below_set ?_ GE350.out) | exact HB.out)))); have n2_ := Aside0.mk (blk_below (g := gb350) (o := .cells #[.int .i64 ((rd_T38 t335 x8_1).f0), .int .i64 ((rd_T38 t335 x8_1).f1), .string ((rd_T38 t335 x8_1).f2), .int .i64 ((rd_T38 t335 x8_1).f3)] 38 (0, 0)) (by (with_reducible repeat (first | refine blk_drewN ?_ _ | refine blk_drew ?_ | refine blk_alloc ?_ _)); exact BK350.out) hb); have n3_ := Aside0.mk (below_step (by repeat (first | (with_reducible first | exact HB.out | apply below_alloc | apply pw_below_drewN | apply below_drew1 | refine below_set ?_ GE350.out) | exact HB.out)) hb); clear HO_4; clear BK350; clear HB; have HO_4 := n0_; have HO355 := n1_; have BK350 := n2_; have HB := n3_; clear n0_ n1_ n2_ n3_; (try clear hb); (try clear hb2); (try clear hk); (try clear hi); (try clear ho0)) | (go_at_call 13; (with_reducible refine (warplaw1_Num.calls t352 t356 _ A48.out).mono ?_); rintro e w' ⟨rfl, ⟨nd, rfl⟩⟩; (try first | exact ⟨rfl, _, World.drewN_drewN _ _ _⟩ | exact ⟨rfl, _, Eq.trans (World.drewN_drewN _ _ _) (congrArg (World.drewN _) (Nat.add_assoc _ _ _))⟩)))
                                    repeat (go_quiet (first | (go_at_call 10; (with_reducible refine (lex_Lex.calls kj33 (t334.extract (x7_1 : Int).toNat (((rd_T38 t335 x8_1).f1) : Int).toNat) t351 t352 t353 _ A47.out).mono ?_); rintro e w59 ⟨v354, rfl, ho0, hb⟩; have n0_ := Aside0.mk (Kd.R_elder' (by (with_reducible repeat (first | apply Kd.R_alloc | apply Kd.R_drewN | apply Kd.R_drew)); exact HO_4.out) (Kd.R_base ho0) hb); have n1_ := Aside0.mk (Kd.R_lower (Kd.R_newB (Kd.R_new' ho0 (Kd.R_lt (by (with_reducible repeat (first | apply Kd.R_alloc | apply Kd.R_drewN | apply Kd.R_drew)); exact HO_4.out))) (g := gb350) (o := .cells #[.int .i64 ((rd_T38 t335 x8_1).f0), .int .i64 ((rd_T38 t335 x8_1).f1), .string ((rd_T38 t335 x8_1).f2), .int .i64 ((rd_T38 t335 x8_1).f3)] 38 (0, 0)) (by (with_reducible repeat (first | refine blk_drewN ?_ _ | refine blk_drew ?_ | refine blk_alloc ?_ _)); exact BK350.out)) (below_size (by repeat (first | (with_reducible first | exact HB.out | apply below_alloc | apply pw_below_drewN | apply below_drew1 | refine below_set ?_ GE350.out) | exact HB.out)))); have n2_ := Aside0.mk (blk_below (g := gb350) (o := .cells #[.int .i64 ((rd_T38 t335 x8_1).f0), .int .i64 ((rd_T38 t335 x8_1).f1), .string ((rd_T38 t335 x8_1).f2), .int .i64 ((rd_T38 t335 x8_1).f3)] 38 (0, 0)) (by (with_reducible repeat (first | refine blk_drewN ?_ _ | refine blk_drew ?_ | refine blk_alloc ?_ _)); exact BK350.out) hb); have n3_ := Aside0.mk (below_step (by repeat (first | (with_reducible first | exact HB.out | apply below_alloc | apply pw_below_drewN | apply below_drew1 | refine below_set ?_ GE350.out) | exact HB.out)) hb); clear HO_4; clear BK350; clear HB; have HO_4 := n0_; have HO355 := n1_; have BK350 := n2_; have HB := n3_; clear n0_ n1_ n2_ n3_; (try clear hb); (try clear hb2); (try clear hk); (try clear hi); (try clear ho0)) | (go_at_call 13; (with_reducible refine (warplaw1_Num.calls t352 t356 _ A48.out).mono ?_); rintro e w' ⟨rfl, ⟨nd, rfl⟩⟩; (try first | exact ⟨rfl, _, World.drewN_drewN _ _ _⟩ | exact ⟨rfl, _, Eq.trans (World.drewN_drewN _ _ _) (congrArg (World.drewN _) (Nat.add_assoc _ _ _))⟩))); try go_wp2_with (first | (go_at_call 10; (with_reducible refine (lex_Lex.calls kj33 (t334.extract (x7_1 : Int).toNat (((rd_T38 t335 x8_1).f1) : Int).toNat) t351 t352 t353 _ A47.out).mono ?_); rintro e w59 ⟨v354, rfl, ho0, hb⟩; have n0_ := Aside0.mk (Kd.R_elder' (by (with_reducible repeat (first | apply Kd.R_alloc | apply Kd.R_drewN | apply Kd.R_drew)); exact HO_4.out) (Kd.R_base ho0) hb); have n1_ := Aside0.mk (Kd.R_lower (Kd.R_newB (Kd.R_new' ho0 (Kd.R_lt (by (with_reducible repeat (first | apply Kd.R_alloc | apply Kd.R_drewN | apply Kd.R_drew)); exact HO_4.out))) (g := gb350) (o := .cells #[.int .i64 ((rd_T38 t335 x8_1).f0), .int .i64 ((rd_T38 t335 x8_1).f1), .string ((rd_T38 t335 x8_1).f2), .int .i64 ((rd_T38 t335 x8_1).f3)] 38 (0, 0)) (by (with_reducible repeat (first | refine blk_drewN ?_ _ | refine blk_drew ?_ | refine blk_alloc ?_ _)); exact BK350.out)) (below_size (by repeat (first | (with_reducible first | exact HB.out | apply below_alloc | apply pw_below_drewN | apply below_drew1 | refine below_set ?_ GE350.out) | exact HB.out)))); have n2_ := Aside0.mk (blk_below (g := gb350) (o := .cells #[.int .i64 ((rd_T38 t335 x8_1).f0), .int .i64 ((rd_T38 t335 x8_1).f1), .string ((rd_T38 t335 x8_1).f2), .int .i64 ((rd_T38 t335 x8_1).f3)] 38 (0, 0)) (by (with_reducible repeat (first | refine blk_drewN ?_ _ | refine blk_drew ?_ | refine blk_alloc ?_ _)); exact BK350.out) hb); have n3_ := Aside0.mk (below_step (by repeat (first | (with_reducible first | exact HB.out | apply below_alloc | apply pw_below_drewN | apply below_drew1 | refine below_set ?_ GE350.out) | exact HB.out)) hb); clear HO_4; clear BK350; clear HB; have HO_4 := n0_; have HO355 := n1_; have BK350 := n2_; have HB := n3_; clear n0_ n1_ n2_ n3_; (try clear hb); (try clear hb2); (try clear hk); (try clear hi); (try clear ho0)) | (go_at_call 13; (with_reducible refine (warplaw1_Num.calls t352 t356 _ A48.out).mono ?_); rintro e w' ⟨rfl, ⟨nd, rfl⟩⟩; (try first | exact ⟨rfl, _, World.drewN_drewN _ _ _⟩ | exact ⟨rfl, _, Eq.trans (World.drewN_drewN _ _ _) (congrArg (World.drewN _) (Nat.add_assoc _ _ _))⟩))))
                                    go_ret
                                    exact ⟨by first | rfl | (simp [errW_none, errW_some] <;> rfl) | (simp [*, errW_none, errW_some] <;> rfl), by repeat (first | (with_reducible first | exact HB.out | apply below_alloc | apply pw_below_drewN | apply below_drew1 | refine below_set ?_ GE350.out) | exact HB.out)⟩
                                · rw [if_neg c46] at H
                                  exact absurd H (by simp)
                              · rw [if_neg c45] at H
                                exact absurd H (by simp)
                            · rw [if_neg c44] at H
                              exact absurd H (by simp)
          · rw [if_neg c9] at H
            exact absurd H (by simp)
        · rw [if_neg c8] at H
          have c8b0 : decide (x8_1 < (t335.length : Int)) = false := decide_eq_false c8
          clear c8
          by_cases c60 : 0 ≤ x7_1
          · rw [if_pos c60] at H
            have c60b0 := eq_true c60
            have c60b1 : decide (0 ≤ x7_1) = true := decide_eq_true c60
            clear c60
            by_cases c61 : x7_1 ≤ (t334.size : Int)
            · rw [if_pos c61] at H
              have c61b0 := eq_true c61
              have c61b1 : decide (x7_1 ≤ (t334.size : Int)) = true := decide_eq_true c61
              clear c61
              replace H := Option.bind_eq_some_iff.mp H
              obtain ⟨⟨t342, t343, t344⟩, A620, H⟩ := H
              replace H : ((warplaw1_Num.f t343).bind fun t347 => (if t347 = 0 then (if (t342.length : Int) = 0 then ((warplaw9_awake.f k1).bind fun t348 => (some t348)) else (some false)) else (some false))) = some r := H
              have A62 := Aside0.mk A620
              clear A620
              replace H := Option.bind_eq_some_iff.mp H
              obtain ⟨t347, A630, H⟩ := H
              replace H : (if t347 = 0 then (if (t342.length : Int) = 0 then ((warplaw9_awake.f k1).bind fun t348 => (some t348)) else (some false)) else (some false)) = some r := H
              have A63 := Aside0.mk A630
              clear A630
              by_cases c64 : t347 = 0
              · rw [if_pos c64] at H
                have c64b0 : (t347 == 0) = true := beq_iff_eq.mpr c64
                have c64b1 : (t347 != 0) = false := bne_eq_false_iff_eq.mpr c64
                clear c64
                by_cases c65 : (t342.length : Int) = 0
                · rw [if_pos c65] at H
                  have c65b0 : ((t342.length : Int) == 0) = true := beq_iff_eq.mpr c65
                  have c65b1 : ((t342.length : Int) != 0) = false := bne_eq_false_iff_eq.mpr c65
                  clear c65
                  replace H := Option.bind_eq_some_iff.mp H
                  obtain ⟨t348, A660, H⟩ := H
                  replace H : (some t348) = some r := H
                  have A66 := Aside0.mk A660
                  clear A660
                  obtain rfl := Option.some.inj H
                  obtain ⟨Ao67, co67, eo67⟩ := Kd.R_slice HO_4.out
                  subst eo67
                  go_wp2_with (first | (go_at_call 10; (with_reducible refine (lex_Lex.calls k1 (t334.extract (x7_1 : Int).toNat t334.size) t342 t343 t344 _ A62.out).mono ?_); rintro e w68 ⟨v345, rfl, ho0, hb⟩; have n0_ := Aside0.mk (Kd.R_elder' (by (with_reducible repeat (first | apply Kd.R_alloc | apply Kd.R_drewN | apply Kd.R_drew)); exact HO_4.out) (Kd.R_base ho0) hb); have n1_ := Aside0.mk (Kd.R_lower (Kd.R_new' ho0 (Kd.R_lt (by (with_reducible repeat (first | apply Kd.R_alloc | apply Kd.R_drewN | apply Kd.R_drew)); exact HO_4.out))) (below_size (by repeat (first | (with_reducible first | exact HB.out | apply below_alloc | apply pw_below_drewN | apply below_drew1) | exact HB.out)))); have n2_ := Aside0.mk (below_step (by repeat (first | (with_reducible first | exact HB.out | apply below_alloc | apply pw_below_drewN | apply below_drew1) | exact HB.out)) hb); clear HO_4; clear HB; have HO_4 := n0_; have HO346 := n1_; have HB := n2_; clear n0_ n1_ n2_; (try clear hb); (try clear hb2); (try clear hk); (try clear hi); (try clear ho0)) | (go_at_call 13; (with_reducible refine (warplaw1_Num.calls t343 t347 _ A63.out).mono ?_); rintro e w' ⟨rfl, ⟨nd, rfl⟩⟩; (try first | exact ⟨rfl, _, World.drewN_drewN _ _ _⟩ | exact ⟨rfl, _, Eq.trans (World.drewN_drewN _ _ _) (congrArg (World.drewN _) (Nat.add_assoc _ _ _))⟩); obtain ⟨Ao69, co69, eo69⟩ := Kd.R_slice HO346.out; subst eo69) | (go_at_call 9; (with_reducible refine (warplaw9_awake.calls k1  t348 _ A66.out).mono ?_); rintro e w70 ⟨rfl, hb⟩; have n0_ := Aside0.mk (Kd.R_below (by (with_reducible repeat (first | apply Kd.R_alloc | apply Kd.R_drewN | apply Kd.R_drew)); exact HO_4.out) hb); have n1_ := Aside0.mk (Kd.R_below (by (with_reducible repeat (first | apply Kd.R_alloc | apply Kd.R_drewN | apply Kd.R_drew)); exact HO346.out) hb); have n2_ := Aside0.mk (below_step (by repeat (first | (with_reducible first | exact HB.out | apply below_alloc | apply pw_below_drewN | apply below_drew1) | exact HB.out)) hb); clear HO_4; clear HO346; clear HB; have HO_4 := n0_; have HO346 := n1_; have HB := n2_; clear n0_ n1_ n2_; (try clear hb); (try clear hb2); (try clear hk); (try clear hi)))
                  repeat (go_quiet (first | (go_at_call 10; (with_reducible refine (lex_Lex.calls k1 (t334.extract (x7_1 : Int).toNat t334.size) t342 t343 t344 _ A62.out).mono ?_); rintro e w68 ⟨v345, rfl, ho0, hb⟩; have n0_ := Aside0.mk (Kd.R_elder' (by (with_reducible repeat (first | apply Kd.R_alloc | apply Kd.R_drewN | apply Kd.R_drew)); exact HO_4.out) (Kd.R_base ho0) hb); have n1_ := Aside0.mk (Kd.R_lower (Kd.R_new' ho0 (Kd.R_lt (by (with_reducible repeat (first | apply Kd.R_alloc | apply Kd.R_drewN | apply Kd.R_drew)); exact HO_4.out))) (below_size (by repeat (first | (with_reducible first | exact HB.out | apply below_alloc | apply pw_below_drewN | apply below_drew1) | exact HB.out)))); have n2_ := Aside0.mk (below_step (by repeat (first | (with_reducible first | exact HB.out | apply below_alloc | apply pw_below_drewN | apply below_drew1) | exact HB.out)) hb); clear HO_4; clear HB; have HO_4 := n0_; have HO346 := n1_; have HB := n2_; clear n0_ n1_ n2_; (try clear hb); (try clear hb2); (try clear hk); (try clear hi); (try clear ho0)) | (go_at_call 13; (with_reducible refine (warplaw1_Num.calls t343 t347 _ A63.out).mono ?_); rintro e w' ⟨rfl, ⟨nd, rfl⟩⟩; (try first | exact ⟨rfl, _, World.drewN_drewN _ _ _⟩ | exact ⟨rfl, _, Eq.trans (World.drewN_drewN _ _ _) (congrArg (World.drewN _) (Nat.add_assoc _ _ _))⟩); obtain ⟨Ao69, co69, eo69⟩ := Kd.R_slice HO346.out; subst eo69) | (go_at_call 9; (with_reducible refine (warplaw9_awake.calls k1  t348 _ A66.out).mono ?_); rintro e w70 ⟨rfl, hb⟩; have n0_ := Aside0.mk (Kd.R_below (by (with_reducible repeat (first | apply Kd.R_alloc | apply Kd.R_drewN | apply Kd.R_drew)); exact HO_4.out) hb); have n1_ := Aside0.mk (Kd.R_below (by (with_reducible repeat (first | apply Kd.R_alloc | apply Kd.R_drewN | apply Kd.R_drew)); exact HO346.out) hb); have n2_ := Aside0.mk (below_step (by repeat (first | (with_reducible first | exact HB.out | apply below_alloc | apply pw_below_drewN | apply below_drew1) | exact HB.out)) hb); clear HO_4; clear HO346; clear HB; have HO_4 := n0_; have HO346 := n1_; have HB := n2_; clear n0_ n1_ n2_; (try clear hb); (try clear hb2); (try clear hk); (try clear hi))); try go_wp2_with (first | (go_at_call 10; (with_reducible refine (lex_Lex.calls k1 (t334.extract (x7_1 : Int).toNat t334.size) t342 t343 t344 _ A62.out).mono ?_); rintro e w68 ⟨v345, rfl, ho0, hb⟩; have n0_ := Aside0.mk (Kd.R_elder' (by (with_reducible repeat (first | apply Kd.R_alloc | apply Kd.R_drewN | apply Kd.R_drew)); exact HO_4.out) (Kd.R_base ho0) hb); have n1_ := Aside0.mk (Kd.R_lower (Kd.R_new' ho0 (Kd.R_lt (by (with_reducible repeat (first | apply Kd.R_alloc | apply Kd.R_drewN | apply Kd.R_drew)); exact HO_4.out))) (below_size (by repeat (first | (with_reducible first | exact HB.out | apply below_alloc | apply pw_below_drewN | apply below_drew1) | exact HB.out)))); have n2_ := Aside0.mk (below_step (by repeat (first | (with_reducible first | exact HB.out | apply below_alloc | apply pw_below_drewN | apply below_drew1) | exact HB.out)) hb); clear HO_4; clear HB; have HO_4 := n0_; have HO346 := n1_; have HB := n2_; clear n0_ n1_ n2_; (try clear hb); (try clear hb2); (try clear hk); (try clear hi); (try clear ho0)) | (go_at_call 13; (with_reducible refine (warplaw1_Num.calls t343 t347 _ A63.out).mono ?_); rintro e w' ⟨rfl, ⟨nd, rfl⟩⟩; (try first | exact ⟨rfl, _, World.drewN_drewN _ _ _⟩ | exact ⟨rfl, _, Eq.trans (World.drewN_drewN _ _ _) (congrArg (World.drewN _) (Nat.add_assoc _ _ _))⟩); obtain ⟨Ao69, co69, eo69⟩ := Kd.R_slice HO346.out; subst eo69) | (go_at_call 9; (with_reducible refine (warplaw9_awake.calls k1  t348 _ A66.out).mono ?_); rintro e w70 ⟨rfl, hb⟩; have n0_ := Aside0.mk (Kd.R_below (by (with_reducible repeat (first | apply Kd.R_alloc | apply Kd.R_drewN | apply Kd.R_drew)); exact HO_4.out) hb); have n1_ := Aside0.mk (Kd.R_below (by (with_reducible repeat (first | apply Kd.R_alloc | apply Kd.R_drewN | apply Kd.R_drew)); exact HO346.out) hb); have n2_ := Aside0.mk (below_step (by repeat (first | (with_reducible first | exact HB.out | apply below_alloc | apply pw_below_drewN | apply below_drew1) | exact HB.out)) hb); clear HO_4; clear HO346; clear HB; have HO_4 := n0_; have HO346 := n1_; have HB := n2_; clear n0_ n1_ n2_; (try clear hb); (try clear hb2); (try clear hk); (try clear hi))))
                  go_ret
                  exact ⟨by first | rfl | (simp [errW_none, errW_some] <;> rfl) | (simp [*, errW_none, errW_some] <;> rfl), by repeat (first | (with_reducible first | exact HB.out | apply below_alloc | apply pw_below_drewN | apply below_drew1) | exact HB.out)⟩
                · rw [if_neg c65] at H
                  have c65b0 : ((t342.length : Int) == 0) = false := beq_eq_false_iff_ne.mpr c65
                  have c65b1 : ((t342.length : Int) != 0) = true := bne_iff_ne.mpr c65
                  have c65b2 : ¬ (t342 = []) := fun h_ => c65 (by rw [h_]; rfl)
                  obtain rfl := Option.some.inj H
                  obtain ⟨Ao71, co71, eo71⟩ := Kd.R_slice HO_4.out
                  subst eo71
                  go_wp2_with (first | (go_at_call 10; (with_reducible refine (lex_Lex.calls k1 (t334.extract (x7_1 : Int).toNat t334.size) t342 t343 t344 _ A62.out).mono ?_); rintro e w72 ⟨v345, rfl, ho0, hb⟩; have n0_ := Aside0.mk (Kd.R_elder' (by (with_reducible repeat (first | apply Kd.R_alloc | apply Kd.R_drewN | apply Kd.R_drew)); exact HO_4.out) (Kd.R_base ho0) hb); have n1_ := Aside0.mk (Kd.R_lower (Kd.R_new' ho0 (Kd.R_lt (by (with_reducible repeat (first | apply Kd.R_alloc | apply Kd.R_drewN | apply Kd.R_drew)); exact HO_4.out))) (below_size (by repeat (first | (with_reducible first | exact HB.out | apply below_alloc | apply pw_below_drewN | apply below_drew1) | exact HB.out)))); have n2_ := Aside0.mk (below_step (by repeat (first | (with_reducible first | exact HB.out | apply below_alloc | apply pw_below_drewN | apply below_drew1) | exact HB.out)) hb); clear HO_4; clear HB; have HO_4 := n0_; have HO346 := n1_; have HB := n2_; clear n0_ n1_ n2_; (try clear hb); (try clear hb2); (try clear hk); (try clear hi); (try clear ho0)) | (go_at_call 13; (with_reducible refine (warplaw1_Num.calls t343 t347 _ A63.out).mono ?_); rintro e w' ⟨rfl, ⟨nd, rfl⟩⟩; (try first | exact ⟨rfl, _, World.drewN_drewN _ _ _⟩ | exact ⟨rfl, _, Eq.trans (World.drewN_drewN _ _ _) (congrArg (World.drewN _) (Nat.add_assoc _ _ _))⟩); obtain ⟨Ao73, co73, eo73⟩ := Kd.R_slice HO346.out; subst eo73))
                  repeat (go_quiet (first | (go_at_call 10; (with_reducible refine (lex_Lex.calls k1 (t334.extract (x7_1 : Int).toNat t334.size) t342 t343 t344 _ A62.out).mono ?_); rintro e w72 ⟨v345, rfl, ho0, hb⟩; have n0_ := Aside0.mk (Kd.R_elder' (by (with_reducible repeat (first | apply Kd.R_alloc | apply Kd.R_drewN | apply Kd.R_drew)); exact HO_4.out) (Kd.R_base ho0) hb); have n1_ := Aside0.mk (Kd.R_lower (Kd.R_new' ho0 (Kd.R_lt (by (with_reducible repeat (first | apply Kd.R_alloc | apply Kd.R_drewN | apply Kd.R_drew)); exact HO_4.out))) (below_size (by repeat (first | (with_reducible first | exact HB.out | apply below_alloc | apply pw_below_drewN | apply below_drew1) | exact HB.out)))); have n2_ := Aside0.mk (below_step (by repeat (first | (with_reducible first | exact HB.out | apply below_alloc | apply pw_below_drewN | apply below_drew1) | exact HB.out)) hb); clear HO_4; clear HB; have HO_4 := n0_; have HO346 := n1_; have HB := n2_; clear n0_ n1_ n2_; (try clear hb); (try clear hb2); (try clear hk); (try clear hi); (try clear ho0)) | (go_at_call 13; (with_reducible refine (warplaw1_Num.calls t343 t347 _ A63.out).mono ?_); rintro e w' ⟨rfl, ⟨nd, rfl⟩⟩; (try first | exact ⟨rfl, _, World.drewN_drewN _ _ _⟩ | exact ⟨rfl, _, Eq.trans (World.drewN_drewN _ _ _) (congrArg (World.drewN _) (Nat.add_assoc _ _ _))⟩); obtain ⟨Ao73, co73, eo73⟩ := Kd.R_slice HO346.out; subst eo73)); try go_wp2_with (first | (go_at_call 10; (with_reducible refine (lex_Lex.calls k1 (t334.extract (x7_1 : Int).toNat t334.size) t342 t343 t344 _ A62.out).mono ?_); rintro e w72 ⟨v345, rfl, ho0, hb⟩; have n0_ := Aside0.mk (Kd.R_elder' (by (with_reducible repeat (first | apply Kd.R_alloc | apply Kd.R_drewN | apply Kd.R_drew)); exact HO_4.out) (Kd.R_base ho0) hb); have n1_ := Aside0.mk (Kd.R_lower (Kd.R_new' ho0 (Kd.R_lt (by (with_reducible repeat (first | apply Kd.R_alloc | apply Kd.R_drewN | apply Kd.R_drew)); exact HO_4.out))) (below_size (by repeat (first | (with_reducible first | exact HB.out | apply below_alloc | apply pw_below_drewN | apply below_drew1) | exact HB.out)))); have n2_ := Aside0.mk (below_step (by repeat (first | (with_reducible first | exact HB.out | apply below_alloc | apply pw_below_drewN | apply below_drew1) | exact HB.out)) hb); clear HO_4; clear HB; have HO_4 := n0_; have HO346 := n1_; have HB := n2_; clear n0_ n1_ n2_; (try clear hb); (try clear hb2); (try clear hk); (try clear hi); (try clear ho0)) | (go_at_call 13; (with_reducible refine (warplaw1_Num.calls t343 t347 _ A63.out).mono ?_); rintro e w' ⟨rfl, ⟨nd, rfl⟩⟩; (try first | exact ⟨rfl, _, World.drewN_drewN _ _ _⟩ | exact ⟨rfl, _, Eq.trans (World.drewN_drewN _ _ _) (congrArg (World.drewN _) (Nat.add_assoc _ _ _))⟩); obtain ⟨Ao73, co73, eo73⟩ := Kd.R_slice HO346.out; subst eo73)))
                  go_ret
                  exact ⟨by first | rfl | (simp [errW_none, errW_some] <;> rfl) | (simp [*, errW_none, errW_some] <;> rfl), by repeat (first | (with_reducible first | exact HB.out | apply below_alloc | apply pw_below_drewN | apply below_drew1) | exact HB.out)⟩
              · rw [if_neg c64] at H
                have c64b0 : (t347 == 0) = false := beq_eq_false_iff_ne.mpr c64
                have c64b1 : (t347 != 0) = true := bne_iff_ne.mpr c64
                obtain rfl := Option.some.inj H
                obtain ⟨Ao74, co74, eo74⟩ := Kd.R_slice HO_4.out
                subst eo74
                go_wp2_with (first | (go_at_call 10; (with_reducible refine (lex_Lex.calls k1 (t334.extract (x7_1 : Int).toNat t334.size) t342 t343 t344 _ A62.out).mono ?_); rintro e w75 ⟨v345, rfl, ho0, hb⟩; have n0_ := Aside0.mk (Kd.R_elder' (by (with_reducible repeat (first | apply Kd.R_alloc | apply Kd.R_drewN | apply Kd.R_drew)); exact HO_4.out) (Kd.R_base ho0) hb); have n1_ := Aside0.mk (Kd.R_lower (Kd.R_new' ho0 (Kd.R_lt (by (with_reducible repeat (first | apply Kd.R_alloc | apply Kd.R_drewN | apply Kd.R_drew)); exact HO_4.out))) (below_size (by repeat (first | (with_reducible first | exact HB.out | apply below_alloc | apply pw_below_drewN | apply below_drew1) | exact HB.out)))); have n2_ := Aside0.mk (below_step (by repeat (first | (with_reducible first | exact HB.out | apply below_alloc | apply pw_below_drewN | apply below_drew1) | exact HB.out)) hb); clear HO_4; clear HB; have HO_4 := n0_; have HO346 := n1_; have HB := n2_; clear n0_ n1_ n2_; (try clear hb); (try clear hb2); (try clear hk); (try clear hi); (try clear ho0)) | (go_at_call 13; (with_reducible refine (warplaw1_Num.calls t343 t347 _ A63.out).mono ?_); rintro e w' ⟨rfl, ⟨nd, rfl⟩⟩; (try first | exact ⟨rfl, _, World.drewN_drewN _ _ _⟩ | exact ⟨rfl, _, Eq.trans (World.drewN_drewN _ _ _) (congrArg (World.drewN _) (Nat.add_assoc _ _ _))⟩)))
                repeat (go_quiet (first | (go_at_call 10; (with_reducible refine (lex_Lex.calls k1 (t334.extract (x7_1 : Int).toNat t334.size) t342 t343 t344 _ A62.out).mono ?_); rintro e w75 ⟨v345, rfl, ho0, hb⟩; have n0_ := Aside0.mk (Kd.R_elder' (by (with_reducible repeat (first | apply Kd.R_alloc | apply Kd.R_drewN | apply Kd.R_drew)); exact HO_4.out) (Kd.R_base ho0) hb); have n1_ := Aside0.mk (Kd.R_lower (Kd.R_new' ho0 (Kd.R_lt (by (with_reducible repeat (first | apply Kd.R_alloc | apply Kd.R_drewN | apply Kd.R_drew)); exact HO_4.out))) (below_size (by repeat (first | (with_reducible first | exact HB.out | apply below_alloc | apply pw_below_drewN | apply below_drew1) | exact HB.out)))); have n2_ := Aside0.mk (below_step (by repeat (first | (with_reducible first | exact HB.out | apply below_alloc | apply pw_below_drewN | apply below_drew1) | exact HB.out)) hb); clear HO_4; clear HB; have HO_4 := n0_; have HO346 := n1_; have HB := n2_; clear n0_ n1_ n2_; (try clear hb); (try clear hb2); (try clear hk); (try clear hi); (try clear ho0)) | (go_at_call 13; (with_reducible refine (warplaw1_Num.calls t343 t347 _ A63.out).mono ?_); rintro e w' ⟨rfl, ⟨nd, rfl⟩⟩; (try first | exact ⟨rfl, _, World.drewN_drewN _ _ _⟩ | exact ⟨rfl, _, Eq.trans (World.drewN_drewN _ _ _) (congrArg (World.drewN _) (Nat.add_assoc _ _ _))⟩))); try go_wp2_with (first | (go_at_call 10; (with_reducible refine (lex_Lex.calls k1 (t334.extract (x7_1 : Int).toNat t334.size) t342 t343 t344 _ A62.out).mono ?_); rintro e w75 ⟨v345, rfl, ho0, hb⟩; have n0_ := Aside0.mk (Kd.R_elder' (by (with_reducible repeat (first | apply Kd.R_alloc | apply Kd.R_drewN | apply Kd.R_drew)); exact HO_4.out) (Kd.R_base ho0) hb); have n1_ := Aside0.mk (Kd.R_lower (Kd.R_new' ho0 (Kd.R_lt (by (with_reducible repeat (first | apply Kd.R_alloc | apply Kd.R_drewN | apply Kd.R_drew)); exact HO_4.out))) (below_size (by repeat (first | (with_reducible first | exact HB.out | apply below_alloc | apply pw_below_drewN | apply below_drew1) | exact HB.out)))); have n2_ := Aside0.mk (below_step (by repeat (first | (with_reducible first | exact HB.out | apply below_alloc | apply pw_below_drewN | apply below_drew1) | exact HB.out)) hb); clear HO_4; clear HB; have HO_4 := n0_; have HO346 := n1_; have HB := n2_; clear n0_ n1_ n2_; (try clear hb); (try clear hb2); (try clear hk); (try clear hi); (try clear ho0)) | (go_at_call 13; (with_reducible refine (warplaw1_Num.calls t343 t347 _ A63.out).mono ?_); rintro e w' ⟨rfl, ⟨nd, rfl⟩⟩; (try first | exact ⟨rfl, _, World.drewN_drewN _ _ _⟩ | exact ⟨rfl, _, Eq.trans (World.drewN_drewN _ _ _) (congrArg (World.drewN _) (Nat.add_assoc _ _ _))⟩))))
                go_ret
                exact ⟨by first | rfl | (simp [errW_none, errW_some] <;> rfl) | (simp [*, errW_none, errW_some] <;> rfl), by repeat (first | (with_reducible first | exact HB.out | apply below_alloc | apply pw_below_drewN | apply below_drew1) | exact HB.out)⟩
            · rw [if_neg c61] at H
              exact absurd H (by simp)
          · rw [if_neg c60] at H
            exact absurd H (by simp)
  · rw [if_neg c5] at H
    have c5b0 : (t340 == 0) = false := beq_eq_false_iff_ne.mpr c5
    have c5b1 : (t340 != 0) = true := bne_iff_ne.mpr c5
    by_cases c76 : t337 ≥ 0
    · rw [if_pos c76] at H
      have c76b0 : decide (0 ≤ t337) = true := decide_eq_true c76
      clear c76
      by_cases c77 : t337 < (t334.size : Int)
      · rw [if_pos c77] at H
        have c77b0 : decide (t337 < (t334.size : Int)) = true := decide_eq_true c77
        clear c77
        by_cases c78 : (t335.length : Int) = 0
        · rw [if_pos c78] at H
          have c78b0 : ((t335.length : Int) == 0) = true := beq_iff_eq.mpr c78
          have c78b1 : ((t335.length : Int) != 0) = false := bne_eq_false_iff_eq.mpr c78
          clear c78
          replace H := Option.bind_eq_some_iff.mp H
          obtain ⟨t341, A790, H⟩ := H
          replace H : (some t341) = some r := H
          have A79 := Aside0.mk A790
          clear A790
          obtain rfl := Option.some.inj H
          go_enter Try.func8, Try.ntmps8
          go_wp2_with (first | (go_at_call 18; (with_reducible refine (warplaw9_Words.calls k _ _ l0 t334 _ ?side1 ?side2 A2.out).mono ?_); (case side1 => repeat (first | exact HR0.out | (with_reducible refine Kd.C_alloc ?_ _) | (with_reducible refine Kd.C_drewN ?_ _) | (with_reducible refine Kd.C_drew ?_))); (case side2 => exact HC0.out); rintro e w80 ⟨rfl, hb⟩; have n0_ := Aside0.mk (below_step (by repeat (first | (with_reducible first | exact HB.out | apply below_alloc | apply pw_below_drewN | apply below_drew1) | exact HB.out)) hb); clear HB; have HB := n0_; clear n0_; (try clear hb); (try clear hb2); (try clear hk); (try clear hi)) | (go_at_call 10; (with_reducible refine (lex_Lex.calls k t334 t335 t336 t337 _ A3.out).mono ?_); rintro e w81 ⟨v338, rfl, ho0, hb⟩; have n0_ := Aside0.mk (Kd.R_lower ho0 (below_size (by repeat (first | (with_reducible first | exact HB.out | apply below_alloc | apply pw_below_drewN | apply below_drew1) | exact HB.out)))); have n1_ := Aside0.mk (below_step (by repeat (first | (with_reducible first | exact HB.out | apply below_alloc | apply pw_below_drewN | apply below_drew1) | exact HB.out)) hb); clear HB; have HO339 := n0_; have HB := n1_; clear n0_ n1_; (try clear hb); (try clear hb2); (try clear hk); (try clear hi); (try clear ho0)) | (go_at_call 13; (with_reducible refine (warplaw1_Num.calls t336 t340 _ A4.out).mono ?_); rintro e w' ⟨rfl, ⟨nd, rfl⟩⟩; (try first | exact ⟨rfl, _, World.drewN_drewN _ _ _⟩ | exact ⟨rfl, _, Eq.trans (World.drewN_drewN _ _ _) (congrArg (World.drewN _) (Nat.add_assoc _ _ _))⟩); obtain ⟨Ao82, co82, eo82⟩ := Kd.R_slice HO339.out; subst eo82) | (go_at_call 9; (with_reducible refine (warplaw9_awake.calls k  t341 _ A79.out).mono ?_); rintro e w83 ⟨rfl, hb⟩; have n0_ := Aside0.mk (Kd.R_below (by (with_reducible repeat (first | apply Kd.R_alloc | apply Kd.R_drewN | apply Kd.R_drew)); exact HO339.out) hb); have n1_ := Aside0.mk (below_step (by repeat (first | (with_reducible first | exact HB.out | apply below_alloc | apply pw_below_drewN | apply below_drew1) | exact HB.out)) hb); clear HO339; clear HB; have HO339 := n0_; have HB := n1_; clear n0_ n1_; (try clear hb); (try clear hb2); (try clear hk); (try clear hi)))
          repeat (go_quiet (first | (go_at_call 18; (with_reducible refine (warplaw9_Words.calls k _ _ l0 t334 _ ?side1 ?side2 A2.out).mono ?_); (case side1 => repeat (first | exact HR0.out | (with_reducible refine Kd.C_alloc ?_ _) | (with_reducible refine Kd.C_drewN ?_ _) | (with_reducible refine Kd.C_drew ?_))); (case side2 => exact HC0.out); rintro e w80 ⟨rfl, hb⟩; have n0_ := Aside0.mk (below_step (by repeat (first | (with_reducible first | exact HB.out | apply below_alloc | apply pw_below_drewN | apply below_drew1) | exact HB.out)) hb); clear HB; have HB := n0_; clear n0_; (try clear hb); (try clear hb2); (try clear hk); (try clear hi)) | (go_at_call 10; (with_reducible refine (lex_Lex.calls k t334 t335 t336 t337 _ A3.out).mono ?_); rintro e w81 ⟨v338, rfl, ho0, hb⟩; have n0_ := Aside0.mk (Kd.R_lower ho0 (below_size (by repeat (first | (with_reducible first | exact HB.out | apply below_alloc | apply pw_below_drewN | apply below_drew1) | exact HB.out)))); have n1_ := Aside0.mk (below_step (by repeat (first | (with_reducible first | exact HB.out | apply below_alloc | apply pw_below_drewN | apply below_drew1) | exact HB.out)) hb); clear HB; have HO339 := n0_; have HB := n1_; clear n0_ n1_; (try clear hb); (try clear hb2); (try clear hk); (try clear hi); (try clear ho0)) | (go_at_call 13; (with_reducible refine (warplaw1_Num.calls t336 t340 _ A4.out).mono ?_); rintro e w' ⟨rfl, ⟨nd, rfl⟩⟩; (try first | exact ⟨rfl, _, World.drewN_drewN _ _ _⟩ | exact ⟨rfl, _, Eq.trans (World.drewN_drewN _ _ _) (congrArg (World.drewN _) (Nat.add_assoc _ _ _))⟩); obtain ⟨Ao82, co82, eo82⟩ := Kd.R_slice HO339.out; subst eo82) | (go_at_call 9; (with_reducible refine (warplaw9_awake.calls k  t341 _ A79.out).mono ?_); rintro e w83 ⟨rfl, hb⟩; have n0_ := Aside0.mk (Kd.R_below (by (with_reducible repeat (first | apply Kd.R_alloc | apply Kd.R_drewN | apply Kd.R_drew)); exact HO339.out) hb); have n1_ := Aside0.mk (below_step (by repeat (first | (with_reducible first | exact HB.out | apply below_alloc | apply pw_below_drewN | apply below_drew1) | exact HB.out)) hb); clear HO339; clear HB; have HO339 := n0_; have HB := n1_; clear n0_ n1_; (try clear hb); (try clear hb2); (try clear hk); (try clear hi))); try go_wp2_with (first | (go_at_call 18; (with_reducible refine (warplaw9_Words.calls k _ _ l0 t334 _ ?side1 ?side2 A2.out).mono ?_); (case side1 => repeat (first | exact HR0.out | (with_reducible refine Kd.C_alloc ?_ _) | (with_reducible refine Kd.C_drewN ?_ _) | (with_reducible refine Kd.C_drew ?_))); (case side2 => exact HC0.out); rintro e w80 ⟨rfl, hb⟩; have n0_ := Aside0.mk (below_step (by repeat (first | (with_reducible first | exact HB.out | apply below_alloc | apply pw_below_drewN | apply below_drew1) | exact HB.out)) hb); clear HB; have HB := n0_; clear n0_; (try clear hb); (try clear hb2); (try clear hk); (try clear hi)) | (go_at_call 10; (with_reducible refine (lex_Lex.calls k t334 t335 t336 t337 _ A3.out).mono ?_); rintro e w81 ⟨v338, rfl, ho0, hb⟩; have n0_ := Aside0.mk (Kd.R_lower ho0 (below_size (by repeat (first | (with_reducible first | exact HB.out | apply below_alloc | apply pw_below_drewN | apply below_drew1) | exact HB.out)))); have n1_ := Aside0.mk (below_step (by repeat (first | (with_reducible first | exact HB.out | apply below_alloc | apply pw_below_drewN | apply below_drew1) | exact HB.out)) hb); clear HB; have HO339 := n0_; have HB := n1_; clear n0_ n1_; (try clear hb); (try clear hb2); (try clear hk); (try clear hi); (try clear ho0)) | (go_at_call 13; (with_reducible refine (warplaw1_Num.calls t336 t340 _ A4.out).mono ?_); rintro e w' ⟨rfl, ⟨nd, rfl⟩⟩; (try first | exact ⟨rfl, _, World.drewN_drewN _ _ _⟩ | exact ⟨rfl, _, Eq.trans (World.drewN_drewN _ _ _) (congrArg (World.drewN _) (Nat.add_assoc _ _ _))⟩); obtain ⟨Ao82, co82, eo82⟩ := Kd.R_slice HO339.out; subst eo82) | (go_at_call 9; (with_reducible refine (warplaw9_awake.calls k  t341 _ A79.out).mono ?_); rintro e w83 ⟨rfl, hb⟩; have n0_ := Aside0.mk (Kd.R_below (by (with_reducible repeat (first | apply Kd.R_alloc | apply Kd.R_drewN | apply Kd.R_drew)); exact HO339.out) hb); have n1_ := Aside0.mk (below_step (by repeat (first | (with_reducible first | exact HB.out | apply below_alloc | apply pw_below_drewN | apply below_drew1) | exact HB.out)) hb); clear HO339; clear HB; have HO339 := n0_; have HB := n1_; clear n0_ n1_; (try clear hb); (try clear hb2); (try clear hk); (try clear hi))))
          go_ret
          exact ⟨by first | rfl | (simp [errW_none, errW_some] <;> rfl) | (simp [*, errW_none, errW_some] <;> rfl), by repeat (first | (with_reducible first | exact HB.out | apply below_alloc | apply pw_below_drewN | apply below_drew1) | exact HB.out)⟩
        · rw [if_neg c78] at H
          have c78b0 : ((t335.length : Int) == 0) = false := beq_eq_false_iff_ne.mpr c78
          have c78b1 : ((t335.length : Int) != 0) = true := bne_iff_ne.mpr c78
          have c78b2 : ¬ (t335 = []) := fun h_ => c78 (by rw [h_]; rfl)
          obtain rfl := Option.some.inj H
          go_enter Try.func8, Try.ntmps8
          go_wp2_with (first | (go_at_call 18; (with_reducible refine (warplaw9_Words.calls k _ _ l0 t334 _ ?side1 ?side2 A2.out).mono ?_); (case side1 => repeat (first | exact HR0.out | (with_reducible refine Kd.C_alloc ?_ _) | (with_reducible refine Kd.C_drewN ?_ _) | (with_reducible refine Kd.C_drew ?_))); (case side2 => exact HC0.out); rintro e w84 ⟨rfl, hb⟩; have n0_ := Aside0.mk (below_step (by repeat (first | (with_reducible first | exact HB.out | apply below_alloc | apply pw_below_drewN | apply below_drew1) | exact HB.out)) hb); clear HB; have HB := n0_; clear n0_; (try clear hb); (try clear hb2); (try clear hk); (try clear hi)) | (go_at_call 10; (with_reducible refine (lex_Lex.calls k t334 t335 t336 t337 _ A3.out).mono ?_); rintro e w85 ⟨v338, rfl, ho0, hb⟩; have n0_ := Aside0.mk (Kd.R_lower ho0 (below_size (by repeat (first | (with_reducible first | exact HB.out | apply below_alloc | apply pw_below_drewN | apply below_drew1) | exact HB.out)))); have n1_ := Aside0.mk (below_step (by repeat (first | (with_reducible first | exact HB.out | apply below_alloc | apply pw_below_drewN | apply below_drew1) | exact HB.out)) hb); clear HB; have HO339 := n0_; have HB := n1_; clear n0_ n1_; (try clear hb); (try clear hb2); (try clear hk); (try clear hi); (try clear ho0)) | (go_at_call 13; (with_reducible refine (warplaw1_Num.calls t336 t340 _ A4.out).mono ?_); rintro e w' ⟨rfl, ⟨nd, rfl⟩⟩; (try first | exact ⟨rfl, _, World.drewN_drewN _ _ _⟩ | exact ⟨rfl, _, Eq.trans (World.drewN_drewN _ _ _) (congrArg (World.drewN _) (Nat.add_assoc _ _ _))⟩); obtain ⟨Ao86, co86, eo86⟩ := Kd.R_slice HO339.out; subst eo86))
          repeat (go_quiet (first | (go_at_call 18; (with_reducible refine (warplaw9_Words.calls k _ _ l0 t334 _ ?side1 ?side2 A2.out).mono ?_); (case side1 => repeat (first | exact HR0.out | (with_reducible refine Kd.C_alloc ?_ _) | (with_reducible refine Kd.C_drewN ?_ _) | (with_reducible refine Kd.C_drew ?_))); (case side2 => exact HC0.out); rintro e w84 ⟨rfl, hb⟩; have n0_ := Aside0.mk (below_step (by repeat (first | (with_reducible first | exact HB.out | apply below_alloc | apply pw_below_drewN | apply below_drew1) | exact HB.out)) hb); clear HB; have HB := n0_; clear n0_; (try clear hb); (try clear hb2); (try clear hk); (try clear hi)) | (go_at_call 10; (with_reducible refine (lex_Lex.calls k t334 t335 t336 t337 _ A3.out).mono ?_); rintro e w85 ⟨v338, rfl, ho0, hb⟩; have n0_ := Aside0.mk (Kd.R_lower ho0 (below_size (by repeat (first | (with_reducible first | exact HB.out | apply below_alloc | apply pw_below_drewN | apply below_drew1) | exact HB.out)))); have n1_ := Aside0.mk (below_step (by repeat (first | (with_reducible first | exact HB.out | apply below_alloc | apply pw_below_drewN | apply below_drew1) | exact HB.out)) hb); clear HB; have HO339 := n0_; have HB := n1_; clear n0_ n1_; (try clear hb); (try clear hb2); (try clear hk); (try clear hi); (try clear ho0)) | (go_at_call 13; (with_reducible refine (warplaw1_Num.calls t336 t340 _ A4.out).mono ?_); rintro e w' ⟨rfl, ⟨nd, rfl⟩⟩; (try first | exact ⟨rfl, _, World.drewN_drewN _ _ _⟩ | exact ⟨rfl, _, Eq.trans (World.drewN_drewN _ _ _) (congrArg (World.drewN _) (Nat.add_assoc _ _ _))⟩); obtain ⟨Ao86, co86, eo86⟩ := Kd.R_slice HO339.out; subst eo86)); try go_wp2_with (first | (go_at_call 18; (with_reducible refine (warplaw9_Words.calls k _ _ l0 t334 _ ?side1 ?side2 A2.out).mono ?_); (case side1 => repeat (first | exact HR0.out | (with_reducible refine Kd.C_alloc ?_ _) | (with_reducible refine Kd.C_drewN ?_ _) | (with_reducible refine Kd.C_drew ?_))); (case side2 => exact HC0.out); rintro e w84 ⟨rfl, hb⟩; have n0_ := Aside0.mk (below_step (by repeat (first | (with_reducible first | exact HB.out | apply below_alloc | apply pw_below_drewN | apply below_drew1) | exact HB.out)) hb); clear HB; have HB := n0_; clear n0_; (try clear hb); (try clear hb2); (try clear hk); (try clear hi)) | (go_at_call 10; (with_reducible refine (lex_Lex.calls k t334 t335 t336 t337 _ A3.out).mono ?_); rintro e w85 ⟨v338, rfl, ho0, hb⟩; have n0_ := Aside0.mk (Kd.R_lower ho0 (below_size (by repeat (first | (with_reducible first | exact HB.out | apply below_alloc | apply pw_below_drewN | apply below_drew1) | exact HB.out)))); have n1_ := Aside0.mk (below_step (by repeat (first | (with_reducible first | exact HB.out | apply below_alloc | apply pw_below_drewN | apply below_drew1) | exact HB.out)) hb); clear HB; have HO339 := n0_; have HB := n1_; clear n0_ n1_; (try clear hb); (try clear hb2); (try clear hk); (try clear hi); (try clear ho0)) | (go_at_call 13; (with_reducible refine (warplaw1_Num.calls t336 t340 _ A4.out).mono ?_); rintro e w' ⟨rfl, ⟨nd, rfl⟩⟩; (try first | exact ⟨rfl, _, World.drewN_drewN _ _ _⟩ | exact ⟨rfl, _, Eq.trans (World.drewN_drewN _ _ _) (congrArg (World.drewN _) (Nat.add_assoc _ _ _))⟩); obtain ⟨Ao86, co86, eo86⟩ := Kd.R_slice HO339.out; subst eo86)))
          go_ret
          exact ⟨by first | rfl | (simp [errW_none, errW_some] <;> rfl) | (simp [*, errW_none, errW_some] <;> rfl), by repeat (first | (with_reducible first | exact HB.out | apply below_alloc | apply pw_below_drewN | apply below_drew1) | exact HB.out)⟩
      · rw [if_neg c77] at H
        have c77b0 : decide (t337 < (t334.size : Int)) = false := decide_eq_false c77
        clear c77
        obtain rfl := Option.some.inj H
        go_enter Try.func8, Try.ntmps8
        go_wp2_with (first | (go_at_call 18; (with_reducible refine (warplaw9_Words.calls k _ _ l0 t334 _ ?side1 ?side2 A2.out).mono ?_); (case side1 => repeat (first | exact HR0.out | (with_reducible refine Kd.C_alloc ?_ _) | (with_reducible refine Kd.C_drewN ?_ _) | (with_reducible refine Kd.C_drew ?_))); (case side2 => exact HC0.out); rintro e w87 ⟨rfl, hb⟩; have n0_ := Aside0.mk (below_step (by repeat (first | (with_reducible first | exact HB.out | apply below_alloc | apply pw_below_drewN | apply below_drew1) | exact HB.out)) hb); clear HB; have HB := n0_; clear n0_; (try clear hb); (try clear hb2); (try clear hk); (try clear hi)) | (go_at_call 10; (with_reducible refine (lex_Lex.calls k t334 t335 t336 t337 _ A3.out).mono ?_); rintro e w88 ⟨v338, rfl, ho0, hb⟩; have n0_ := Aside0.mk (Kd.R_lower ho0 (below_size (by repeat (first | (with_reducible first | exact HB.out | apply below_alloc | apply pw_below_drewN | apply below_drew1) | exact HB.out)))); have n1_ := Aside0.mk (below_step (by repeat (first | (with_reducible first | exact HB.out | apply below_alloc | apply pw_below_drewN | apply below_drew1) | exact HB.out)) hb); clear HB; have HO339 := n0_; have HB := n1_; clear n0_ n1_; (try clear hb); (try clear hb2); (try clear hk); (try clear hi); (try clear ho0)) | (go_at_call 13; (with_reducible refine (warplaw1_Num.calls t336 t340 _ A4.out).mono ?_); rintro e w' ⟨rfl, ⟨nd, rfl⟩⟩; (try first | exact ⟨rfl, _, World.drewN_drewN _ _ _⟩ | exact ⟨rfl, _, Eq.trans (World.drewN_drewN _ _ _) (congrArg (World.drewN _) (Nat.add_assoc _ _ _))⟩)))
        repeat (go_quiet (first | (go_at_call 18; (with_reducible refine (warplaw9_Words.calls k _ _ l0 t334 _ ?side1 ?side2 A2.out).mono ?_); (case side1 => repeat (first | exact HR0.out | (with_reducible refine Kd.C_alloc ?_ _) | (with_reducible refine Kd.C_drewN ?_ _) | (with_reducible refine Kd.C_drew ?_))); (case side2 => exact HC0.out); rintro e w87 ⟨rfl, hb⟩; have n0_ := Aside0.mk (below_step (by repeat (first | (with_reducible first | exact HB.out | apply below_alloc | apply pw_below_drewN | apply below_drew1) | exact HB.out)) hb); clear HB; have HB := n0_; clear n0_; (try clear hb); (try clear hb2); (try clear hk); (try clear hi)) | (go_at_call 10; (with_reducible refine (lex_Lex.calls k t334 t335 t336 t337 _ A3.out).mono ?_); rintro e w88 ⟨v338, rfl, ho0, hb⟩; have n0_ := Aside0.mk (Kd.R_lower ho0 (below_size (by repeat (first | (with_reducible first | exact HB.out | apply below_alloc | apply pw_below_drewN | apply below_drew1) | exact HB.out)))); have n1_ := Aside0.mk (below_step (by repeat (first | (with_reducible first | exact HB.out | apply below_alloc | apply pw_below_drewN | apply below_drew1) | exact HB.out)) hb); clear HB; have HO339 := n0_; have HB := n1_; clear n0_ n1_; (try clear hb); (try clear hb2); (try clear hk); (try clear hi); (try clear ho0)) | (go_at_call 13; (with_reducible refine (warplaw1_Num.calls t336 t340 _ A4.out).mono ?_); rintro e w' ⟨rfl, ⟨nd, rfl⟩⟩; (try first | exact ⟨rfl, _, World.drewN_drewN _ _ _⟩ | exact ⟨rfl, _, Eq.trans (World.drewN_drewN _ _ _) (congrArg (World.drewN _) (Nat.add_assoc _ _ _))⟩))); try go_wp2_with (first | (go_at_call 18; (with_reducible refine (warplaw9_Words.calls k _ _ l0 t334 _ ?side1 ?side2 A2.out).mono ?_); (case side1 => repeat (first | exact HR0.out | (with_reducible refine Kd.C_alloc ?_ _) | (with_reducible refine Kd.C_drewN ?_ _) | (with_reducible refine Kd.C_drew ?_))); (case side2 => exact HC0.out); rintro e w87 ⟨rfl, hb⟩; have n0_ := Aside0.mk (below_step (by repeat (first | (with_reducible first | exact HB.out | apply below_alloc | apply pw_below_drewN | apply below_drew1) | exact HB.out)) hb); clear HB; have HB := n0_; clear n0_; (try clear hb); (try clear hb2); (try clear hk); (try clear hi)) | (go_at_call 10; (with_reducible refine (lex_Lex.calls k t334 t335 t336 t337 _ A3.out).mono ?_); rintro e w88 ⟨v338, rfl, ho0, hb⟩; have n0_ := Aside0.mk (Kd.R_lower ho0 (below_size (by repeat (first | (with_reducible first | exact HB.out | apply below_alloc | apply pw_below_drewN | apply below_drew1) | exact HB.out)))); have n1_ := Aside0.mk (below_step (by repeat (first | (with_reducible first | exact HB.out | apply below_alloc | apply pw_below_drewN | apply below_drew1) | exact HB.out)) hb); clear HB; have HO339 := n0_; have HB := n1_; clear n0_ n1_; (try clear hb); (try clear hb2); (try clear hk); (try clear hi); (try clear ho0)) | (go_at_call 13; (with_reducible refine (warplaw1_Num.calls t336 t340 _ A4.out).mono ?_); rintro e w' ⟨rfl, ⟨nd, rfl⟩⟩; (try first | exact ⟨rfl, _, World.drewN_drewN _ _ _⟩ | exact ⟨rfl, _, Eq.trans (World.drewN_drewN _ _ _) (congrArg (World.drewN _) (Nat.add_assoc _ _ _))⟩))))
        go_ret
        exact ⟨by first | rfl | (simp [errW_none, errW_some] <;> rfl) | (simp [*, errW_none, errW_some] <;> rfl), by repeat (first | (with_reducible first | exact HB.out | apply below_alloc | apply pw_below_drewN | apply below_drew1) | exact HB.out)⟩
    · rw [if_neg c76] at H
      have c76b0 : decide (0 ≤ t337) = false := decide_eq_false c76
      clear c76
      obtain rfl := Option.some.inj H
      go_enter Try.func8, Try.ntmps8
      go_wp2_with (first | (go_at_call 18; (with_reducible refine (warplaw9_Words.calls k _ _ l0 t334 _ ?side1 ?side2 A2.out).mono ?_); (case side1 => repeat (first | exact HR0.out | (with_reducible refine Kd.C_alloc ?_ _) | (with_reducible refine Kd.C_drewN ?_ _) | (with_reducible refine Kd.C_drew ?_))); (case side2 => exact HC0.out); rintro e w89 ⟨rfl, hb⟩; have n0_ := Aside0.mk (below_step (by repeat (first | (with_reducible first | exact HB.out | apply below_alloc | apply pw_below_drewN | apply below_drew1) | exact HB.out)) hb); clear HB; have HB := n0_; clear n0_; (try clear hb); (try clear hb2); (try clear hk); (try clear hi)) | (go_at_call 10; (with_reducible refine (lex_Lex.calls k t334 t335 t336 t337 _ A3.out).mono ?_); rintro e w90 ⟨v338, rfl, ho0, hb⟩; have n0_ := Aside0.mk (Kd.R_lower ho0 (below_size (by repeat (first | (with_reducible first | exact HB.out | apply below_alloc | apply pw_below_drewN | apply below_drew1) | exact HB.out)))); have n1_ := Aside0.mk (below_step (by repeat (first | (with_reducible first | exact HB.out | apply below_alloc | apply pw_below_drewN | apply below_drew1) | exact HB.out)) hb); clear HB; have HO339 := n0_; have HB := n1_; clear n0_ n1_; (try clear hb); (try clear hb2); (try clear hk); (try clear hi); (try clear ho0)) | (go_at_call 13; (with_reducible refine (warplaw1_Num.calls t336 t340 _ A4.out).mono ?_); rintro e w' ⟨rfl, ⟨nd, rfl⟩⟩; (try first | exact ⟨rfl, _, World.drewN_drewN _ _ _⟩ | exact ⟨rfl, _, Eq.trans (World.drewN_drewN _ _ _) (congrArg (World.drewN _) (Nat.add_assoc _ _ _))⟩)))
      repeat (go_quiet (first | (go_at_call 18; (with_reducible refine (warplaw9_Words.calls k _ _ l0 t334 _ ?side1 ?side2 A2.out).mono ?_); (case side1 => repeat (first | exact HR0.out | (with_reducible refine Kd.C_alloc ?_ _) | (with_reducible refine Kd.C_drewN ?_ _) | (with_reducible refine Kd.C_drew ?_))); (case side2 => exact HC0.out); rintro e w89 ⟨rfl, hb⟩; have n0_ := Aside0.mk (below_step (by repeat (first | (with_reducible first | exact HB.out | apply below_alloc | apply pw_below_drewN | apply below_drew1) | exact HB.out)) hb); clear HB; have HB := n0_; clear n0_; (try clear hb); (try clear hb2); (try clear hk); (try clear hi)) | (go_at_call 10; (with_reducible refine (lex_Lex.calls k t334 t335 t336 t337 _ A3.out).mono ?_); rintro e w90 ⟨v338, rfl, ho0, hb⟩; have n0_ := Aside0.mk (Kd.R_lower ho0 (below_size (by repeat (first | (with_reducible first | exact HB.out | apply below_alloc | apply pw_below_drewN | apply below_drew1) | exact HB.out)))); have n1_ := Aside0.mk (below_step (by repeat (first | (with_reducible first | exact HB.out | apply below_alloc | apply pw_below_drewN | apply below_drew1) | exact HB.out)) hb); clear HB; have HO339 := n0_; have HB := n1_; clear n0_ n1_; (try clear hb); (try clear hb2); (try clear hk); (try clear hi); (try clear ho0)) | (go_at_call 13; (with_reducible refine (warplaw1_Num.calls t336 t340 _ A4.out).mono ?_); rintro e w' ⟨rfl, ⟨nd, rfl⟩⟩; (try first | exact ⟨rfl, _, World.drewN_drewN _ _ _⟩ | exact ⟨rfl, _, Eq.trans (World.drewN_drewN _ _ _) (congrArg (World.drewN _) (Nat.add_assoc _ _ _))⟩))); try go_wp2_with (first | (go_at_call 18; (with_reducible refine (warplaw9_Words.calls k _ _ l0 t334 _ ?side1 ?side2 A2.out).mono ?_); (case side1 => repeat (first | exact HR0.out | (with_reducible refine Kd.C_alloc ?_ _) | (with_reducible refine Kd.C_drewN ?_ _) | (with_reducible refine Kd.C_drew ?_))); (case side2 => exact HC0.out); rintro e w89 ⟨rfl, hb⟩; have n0_ := Aside0.mk (below_step (by repeat (first | (with_reducible first | exact HB.out | apply below_alloc | apply pw_below_drewN | apply below_drew1) | exact HB.out)) hb); clear HB; have HB := n0_; clear n0_; (try clear hb); (try clear hb2); (try clear hk); (try clear hi)) | (go_at_call 10; (with_reducible refine (lex_Lex.calls k t334 t335 t336 t337 _ A3.out).mono ?_); rintro e w90 ⟨v338, rfl, ho0, hb⟩; have n0_ := Aside0.mk (Kd.R_lower ho0 (below_size (by repeat (first | (with_reducible first | exact HB.out | apply below_alloc | apply pw_below_drewN | apply below_drew1) | exact HB.out)))); have n1_ := Aside0.mk (below_step (by repeat (first | (with_reducible first | exact HB.out | apply below_alloc | apply pw_below_drewN | apply below_drew1) | exact HB.out)) hb); clear HB; have HO339 := n0_; have HB := n1_; clear n0_ n1_; (try clear hb); (try clear hb2); (try clear hk); (try clear hi); (try clear ho0)) | (go_at_call 13; (with_reducible refine (warplaw1_Num.calls t336 t340 _ A4.out).mono ?_); rintro e w' ⟨rfl, ⟨nd, rfl⟩⟩; (try first | exact ⟨rfl, _, World.drewN_drewN _ _ _⟩ | exact ⟨rfl, _, Eq.trans (World.drewN_drewN _ _ _) (congrArg (World.drewN _) (Nat.add_assoc _ _ _))⟩))))
      go_ret
      exact ⟨by first | rfl | (simp [errW_none, errW_some] <;> rfl) | (simp [*, errW_none, errW_some] <;> rfl), by repeat (first | (with_reducible first | exact HB.out | apply below_alloc | apply pw_below_drewN | apply below_drew1) | exact HB.out)⟩

/-- THE ONE PURE STATEMENT of warplaw9_LexCovers: yours. -/
def warplaw9_LexCovers.Pure : Prop := ∀ (l0 : List Int), l0.length ≤ maxLen → l0.length * 1 ≤ 140737488351232 → (∀ x ∈ l0, (Lit.int .u8 x).wf = true) → ∃ k, warplaw9_LexCovers.f k l0 = some true
theorem warplaw9_LexCovers.walk (P : warplaw9_LexCovers.Pure) (a0 : Option Addr) (len0 cap0 : Nat) (z0 : List Int) (w : World) (w0 : (a0 = none ∧ len0 = 0 ∧ cap0 = 0 ∧ z0 = []) ∨ ∃ x, a0 = some x ∧ len0 ≤ cap0 ∧ cap0 ≤ maxLen ∧ z0.length = cap0 ∧ (∀ i, i < z0.length → w.cell? (x.add i) = some (.int .u8 (z0.getD i 0))) ∧ ∀ n ∈ z0, (Lit.int .u8 n).wf = true) (y0 : len0 * 1 ≤ 140737488351232) :
    Calls Try.prog 8 #[.slice a0 len0 cap0] w fun e w' => e = .returned (.bool true) ∧ Below w.heap.size w w' := by
  obtain ⟨l0, rfl, hr0, hm0, hw0, hc0⟩ := ReadsInt.ofRowC w0
  obtain ⟨k, h⟩ := P l0 hm0 y0 hw0
  refine (warplaw9_LexCovers.calls k _ _ l0 true w (Kd.C_of_reads (d := (0 : Int)) (h1 := fun _ => rfl) hr0) hc0 h).mono ?_
  rintro e w' ⟨rfl, hd⟩
  exact ⟨rfl, hd⟩

end Go.Proofs.Ythpnplcagfpngaa.Q
