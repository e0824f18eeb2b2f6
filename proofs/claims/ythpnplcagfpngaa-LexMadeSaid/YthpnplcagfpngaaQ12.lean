-- Written by this session's pm.py, out of the translation. Not trusted: Lean checks it.
import Derived.Test.YthpnplcagfpngaaQ0
import Derived.Test.YthpnplcagfpngaaQ9
import Derived.Test.YthpnplcagfpngaaQ10
import Derived.Test.YthpnplcagfpngaaQ11
namespace Go.Proofs.Ythpnplcagfpngaa.Q
open Go.RowKit Go.Proofs.YthpnplcagfpngaaW.PrintWords Go.Proofs.YthpnplcagfpngaaW.PrintLast Go.Proofs.YthpnplcagfpngaaW.PrintMore
attribute [local go_sem] max2_int min2_int max_two min_two max_three min_three max_four min_four   -- for this text's walks alone
set_option linter.unusedVariables false
set_option linter.unusedSimpArgs false

/-! ### warpref9_Lex: function 11 -/
mutual
def warpref9_Lex.l0 : Nat → ByteArray → Int → List (S38) → Int → Int → Option ((List (S38)) × Int × Int)
  | 0, _, _, _, _, _ => none
  | k + 1, x0, x4, x160000, x160001, x160002 => if x4 < (x0.size : Int) then (if 0 ≤ x4 then (if (bt x0 x4) = 32 then (warpref9_Lex.j1 k x0 x4 (bt x0 x4) true x160000 x160001 x160002) else (if (bt x0 x4) = 9 then (warpref9_Lex.j1 k x0 x4 (bt x0 x4) true x160000 x160001 x160002) else (warpref9_Lex.j1 k x0 x4 (bt x0 x4) ((bt x0 x4) == 10) x160000 x160001 x160002))) else (none)) else (some (x160000, x160001, x160002))
def warpref9_Lex.j1 : Nat → ByteArray → Int → Int → Bool → List (S38) → Int → Int → Option ((List (S38)) × Int × Int)
  | 0, _, _, _, _, _, _, _ => none
  | k + 1, x0, x4, x5, x28, x160000, x160001, x160002 => if x28 = true then (warpref9_Lex.l0 k x0 (wrap64 (x4 + 1)) x160000 x160001 x160002) else (if x5 = 45 then (if (wrap64 (x4 + 1)) < (x0.size : Int) then (if 0 ≤ (wrap64 (x4 + 1)) then (warpref9_Lex.j2 k x0 x4 x5 ((bt x0 (wrap64 (x4 + 1))) == 45) x160000 x160001 x160002) else (none)) else (warpref9_Lex.j2 k x0 x4 x5 false x160000 x160001 x160002)) else (warpref9_Lex.j2 k x0 x4 x5 false x160000 x160001 x160002))
def warpref9_Lex.j2 : Nat → ByteArray → Int → Int → Bool → List (S38) → Int → Int → Option ((List (S38)) × Int × Int)
  | 0, _, _, _, _, _, _, _ => none
  | k + 1, x0, x4, x5, x46, x160000, x160001, x160002 => if x46 = true then (warpref9_Lex.l1 k x0 x4 x160000 x160001 x160002) else ((warpref9_lower.f x5).bind fun t161 => (if t161 = true then (warpref9_Lex.j4 k x0 x4 x5 x4 true x160000 x160001 x160002 0 x4 (⟨#[]⟩ : ByteArray) 0) else ((warpref9_upper.f x5).bind fun t162 => (warpref9_Lex.j4 k x0 x4 x5 x4 t162 x160000 x160001 x160002 0 x4 (⟨#[]⟩ : ByteArray) 0))))
def warpref9_Lex.l1 : Nat → ByteArray → Int → List (S38) → Int → Int → Option ((List (S38)) × Int × Int)
  | 0, _, _, _, _, _ => none
  | k + 1, x0, x4, x160000, x160001, x160002 => if x4 < (x0.size : Int) then (if 0 ≤ x4 then (if (bt x0 x4) = 10 then (warpref9_Lex.l0 k x0 x4 x160000 x160001 x160002) else (warpref9_Lex.l1 k x0 (wrap64 (x4 + 1)) x160000 x160001 x160002)) else (none)) else (warpref9_Lex.l0 k x0 x4 x160000 x160001 x160002)
def warpref9_Lex.j11 : Nat → ByteArray → Int → Int → List (S38) → Int → Int → Int → Int → ByteArray → Int → Option ((List (S38)) × Int × Int)
  | 0, _, _, _, _, _, _, _, _, _, _ => none
  | k + 1, x0, x4, x7, x160000, x160001, x160002, x161000, x161001, x161002, x161003 => if x161000 = 0 then (some (([] : List (S38)), 3, x4)) else (if x160000.length < 3518437208883 then (warpref9_Lex.l0 k x0 x7 (x160000 ++ [(⟨x161000, x161001, x161002, x161003⟩ : S38)]) x160001 x160002) else (none))
def warpref9_Lex.j4 : Nat → ByteArray → Int → Int → Int → Bool → List (S38) → Int → Int → Int → Int → ByteArray → Int → Option ((List (S38)) × Int × Int)
  | 0, _, _, _, _, _, _, _, _, _, _, _, _ => none
  | k + 1, x0, x4, x5, x7, x62, x160000, x160001, x160002, x161000, x161001, x161002, x161003 => if x62 = true then (warpref9_Lex.l2 k x0 x4 x7 x160000 x160001 x160002 x161000 x161001 x161002 x161003) else ((warpref9_digit.f x5).bind fun t167 => (if t167 = true then (warpref9_Lex.l3 k x0 x4 x7 x160000 x160001 x160002 x161000 x161001 x161002 x161003) else (if x5 = 45 then (if (wrap64 (x4 + 1)) < (x0.size : Int) then (if 0 ≤ (wrap64 (x4 + 1)) then (warpref9_Lex.j9 k x0 x4 x5 x7 ((bt x0 (wrap64 (x4 + 1))) == 62) x160000 x160001 x160002 x161000 x161001 x161002 x161003) else (none)) else (warpref9_Lex.j9 k x0 x4 x5 x7 false x160000 x160001 x160002 x161000 x161001 x161002 x161003)) else (warpref9_Lex.j9 k x0 x4 x5 x7 false x160000 x160001 x160002 x161000 x161001 x161002 x161003))))
def warpref9_Lex.j6 : Nat → ByteArray → Int → Int → List (S38) → Int → Int → Int → Int → ByteArray → Int → Option ((List (S38)) × Int × Int)
  | 0, _, _, _, _, _, _, _, _, _, _ => none
  | k + 1, x0, x4, x7, x160000, x160001, x160002, x161000, x161001, x161002, x161003 => if 0 ≤ x4 then (if x4 ≤ x7 then (if x7 ≤ (x0.size : Int) then ((warpref9_word.f (x0.extract (x4 : Int).toNat (x7 : Int).toNat)).bind fun t164 => (if t164 = true then (warpref9_Lex.j11 k x0 x4 x7 x160000 x160001 x160002 4 x161001 (x0.extract (x4 : Int).toNat (x7 : Int).toNat) x161003) else ((warpref9_Name.f k (x0.extract (x4 : Int).toNat (x7 : Int).toNat)).bind fun t165 => (if t165 = true then (warpref9_Lex.j11 k x0 x4 x7 x160000 x160001 x160002 1 x161001 (x0.extract (x4 : Int).toNat (x7 : Int).toNat) x161003) else ((warpref9_Con.f k (x0.extract (x4 : Int).toNat (x7 : Int).toNat)).bind fun t166 => (if t166 = true then (warpref9_Lex.j11 k x0 x4 x7 x160000 x160001 x160002 2 x161001 (x0.extract (x4 : Int).toNat (x7 : Int).toNat) x161003) else (warpref9_Lex.j11 k x0 x4 x7 x160000 x160001 x160002 x161000 x161001 (x0.extract (x4 : Int).toNat (x7 : Int).toNat) x161003))))))) else (none)) else (none)) else (none)
def warpref9_Lex.l2 : Nat → ByteArray → Int → Int → List (S38) → Int → Int → Int → Int → ByteArray → Int → Option ((List (S38)) × Int × Int)
  | 0, _, _, _, _, _, _, _, _, _, _ => none
  | k + 1, x0, x4, x7, x160000, x160001, x160002, x161000, x161001, x161002, x161003 => if x7 < (x0.size : Int) then (if 0 ≤ x7 then ((warpref9_rest.f (bt x0 x7)).bind fun t163 => (if t163 = true then (warpref9_Lex.l2 k x0 x4 (wrap64 (x7 + 1)) x160000 x160001 x160002 x161000 x161001 x161002 x161003) else (warpref9_Lex.j6 k x0 x4 x7 x160000 x160001 x160002 x161000 x161001 x161002 x161003))) else (none)) else (warpref9_Lex.j6 k x0 x4 x7 x160000 x160001 x160002 x161000 x161001 x161002 x161003)
def warpref9_Lex.j8 : Nat → ByteArray → Int → Int → List (S38) → Int → Int → Int → Int → ByteArray → Int → Option ((List (S38)) × Int × Int)
  | 0, _, _, _, _, _, _, _, _, _, _ => none
  | k + 1, x0, x4, x7, x160000, x160001, x160002, x161000, x161001, x161002, x161003 => if 0 ≤ x4 then (if x4 ≤ x7 then (if x7 ≤ (x0.size : Int) then ((warpref9_number.f k (x0.extract (x4 : Int).toNat (x7 : Int).toNat)).bind fun t169 => (if t169 ≥ 0 then (warpref9_Lex.j11 k x0 x4 x7 x160000 x160001 x160002 3 x161001 x161002 t169) else (warpref9_Lex.j11 k x0 x4 x7 x160000 x160001 x160002 x161000 x161001 x161002 t169))) else (none)) else (none)) else (none)
def warpref9_Lex.l3 : Nat → ByteArray → Int → Int → List (S38) → Int → Int → Int → Int → ByteArray → Int → Option ((List (S38)) × Int × Int)
  | 0, _, _, _, _, _, _, _, _, _, _ => none
  | k + 1, x0, x4, x7, x160000, x160001, x160002, x161000, x161001, x161002, x161003 => if x7 < (x0.size : Int) then (if 0 ≤ x7 then ((warpref9_digit.f (bt x0 x7)).bind fun t168 => (if t168 = true then (warpref9_Lex.l3 k x0 x4 (wrap64 (x7 + 1)) x160000 x160001 x160002 x161000 x161001 x161002 x161003) else (warpref9_Lex.j8 k x0 x4 x7 x160000 x160001 x160002 x161000 x161001 x161002 x161003))) else (none)) else (warpref9_Lex.j8 k x0 x4 x7 x160000 x160001 x160002 x161000 x161001 x161002 x161003)
def warpref9_Lex.j9 : Nat → ByteArray → Int → Int → Int → Bool → List (S38) → Int → Int → Int → Int → ByteArray → Int → Option ((List (S38)) × Int × Int)
  | 0, _, _, _, _, _, _, _, _, _, _, _, _ => none
  | k + 1, x0, x4, x5, x7, x126, x160000, x160001, x160002, x161000, x161001, x161002, x161003 => if x126 = true then (warpref9_Lex.j11 k x0 x4 (wrap64 (x4 + 2)) x160000 x160001 x160002 5 x161001 (⟨#[45, 62]⟩ : ByteArray) x161003) else (if x5 = 92 then (warpref9_Lex.j10 k x0 x4 x7 true x160000 x160001 x160002 x161000 x161001 x161002 x161003) else (if x5 = 61 then (warpref9_Lex.j10 k x0 x4 x7 true x160000 x160001 x160002 x161000 x161001 x161002 x161003) else (if x5 = 59 then (warpref9_Lex.j10 k x0 x4 x7 true x160000 x160001 x160002 x161000 x161001 x161002 x161003) else (if x5 = 124 then (warpref9_Lex.j10 k x0 x4 x7 true x160000 x160001 x160002 x161000 x161001 x161002 x161003) else (if x5 = 40 then (warpref9_Lex.j10 k x0 x4 x7 true x160000 x160001 x160002 x161000 x161001 x161002 x161003) else (if x5 = 41 then (warpref9_Lex.j10 k x0 x4 x7 true x160000 x160001 x160002 x161000 x161001 x161002 x161003) else (if x5 = 44 then (warpref9_Lex.j10 k x0 x4 x7 true x160000 x160001 x160002 x161000 x161001 x161002 x161003) else (if x5 = 123 then (warpref9_Lex.j10 k x0 x4 x7 true x160000 x160001 x160002 x161000 x161001 x161002 x161003) else (warpref9_Lex.j10 k x0 x4 x7 (x5 == 125) x160000 x160001 x160002 x161000 x161001 x161002 x161003)))))))))
def warpref9_Lex.j10 : Nat → ByteArray → Int → Int → Bool → List (S38) → Int → Int → Int → Int → ByteArray → Int → Option ((List (S38)) × Int × Int)
  | 0, _, _, _, _, _, _, _, _, _, _, _ => none
  | k + 1, x0, x4, x7, x147, x160000, x160001, x160002, x161000, x161001, x161002, x161003 => if x147 = true then (if 0 ≤ x4 then (if x4 ≤ (wrap64 (x4 + 1)) then (if (wrap64 (x4 + 1)) ≤ (x0.size : Int) then (warpref9_Lex.j11 k x0 x4 (wrap64 (x4 + 1)) x160000 x160001 x160002 5 x161001 (x0.extract (x4 : Int).toNat ((wrap64 (x4 + 1)) : Int).toNat) x161003) else (none)) else (none)) else (none)) else (warpref9_Lex.j11 k x0 x4 x7 x160000 x160001 x160002 x161000 x161001 x161002 x161003)
end
def warpref9_Lex.f (k : Nat) (a0 : ByteArray) : Option ((List (S38)) × Int × Int) := if (a0.size : Int) > 65536 then (some (([] : List (S38)), 1, 0)) else (warpref9_Lex.l0 k a0 0 ([] : List (S38)) 0 0)
theorem warpref9_Lex.mono_l : ∀ k, (∀ y0 y1 y2 y3 y4, LeO (warpref9_Lex.l0 k y0 y1 y2 y3 y4) (warpref9_Lex.l0 (k + 1) y0 y1 y2 y3 y4)) ∧ (∀ y0 y1 y2 y3 y4 y5 y6, LeO (warpref9_Lex.j1 k y0 y1 y2 y3 y4 y5 y6) (warpref9_Lex.j1 (k + 1) y0 y1 y2 y3 y4 y5 y6)) ∧ (∀ y0 y1 y2 y3 y4 y5 y6, LeO (warpref9_Lex.j2 k y0 y1 y2 y3 y4 y5 y6) (warpref9_Lex.j2 (k + 1) y0 y1 y2 y3 y4 y5 y6)) ∧ (∀ y0 y1 y2 y3 y4, LeO (warpref9_Lex.l1 k y0 y1 y2 y3 y4) (warpref9_Lex.l1 (k + 1) y0 y1 y2 y3 y4)) ∧ (∀ y0 y1 y2 y3 y4 y5 y6 y7 y8 y9, LeO (warpref9_Lex.j11 k y0 y1 y2 y3 y4 y5 y6 y7 y8 y9) (warpref9_Lex.j11 (k + 1) y0 y1 y2 y3 y4 y5 y6 y7 y8 y9)) ∧ (∀ y0 y1 y2 y3 y4 y5 y6 y7 y8 y9 y10 y11, LeO (warpref9_Lex.j4 k y0 y1 y2 y3 y4 y5 y6 y7 y8 y9 y10 y11) (warpref9_Lex.j4 (k + 1) y0 y1 y2 y3 y4 y5 y6 y7 y8 y9 y10 y11)) ∧ (∀ y0 y1 y2 y3 y4 y5 y6 y7 y8 y9, LeO (warpref9_Lex.j6 k y0 y1 y2 y3 y4 y5 y6 y7 y8 y9) (warpref9_Lex.j6 (k + 1) y0 y1 y2 y3 y4 y5 y6 y7 y8 y9)) ∧ (∀ y0 y1 y2 y3 y4 y5 y6 y7 y8 y9, LeO (warpref9_Lex.l2 k y0 y1 y2 y3 y4 y5 y6 y7 y8 y9) (warpref9_Lex.l2 (k + 1) y0 y1 y2 y3 y4 y5 y6 y7 y8 y9)) ∧ (∀ y0 y1 y2 y3 y4 y5 y6 y7 y8 y9, LeO (warpref9_Lex.j8 k y0 y1 y2 y3 y4 y5 y6 y7 y8 y9) (warpref9_Lex.j8 (k + 1) y0 y1 y2 y3 y4 y5 y6 y7 y8 y9)) ∧ (∀ y0 y1 y2 y3 y4 y5 y6 y7 y8 y9, LeO (warpref9_Lex.l3 k y0 y1 y2 y3 y4 y5 y6 y7 y8 y9) (warpref9_Lex.l3 (k + 1) y0 y1 y2 y3 y4 y5 y6 y7 y8 y9)) ∧ (∀ y0 y1 y2 y3 y4 y5 y6 y7 y8 y9 y10 y11, LeO (warpref9_Lex.j9 k y0 y1 y2 y3 y4 y5 y6 y7 y8 y9 y10 y11) (warpref9_Lex.j9 (k + 1) y0 y1 y2 y3 y4 y5 y6 y7 y8 y9 y10 y11)) ∧ (∀ y0 y1 y2 y3 y4 y5 y6 y7 y8 y9 y10, LeO (warpref9_Lex.j10 k y0 y1 y2 y3 y4 y5 y6 y7 y8 y9 y10) (warpref9_Lex.j10 (k + 1) y0 y1 y2 y3 y4 y5 y6 y7 y8 y9 y10))
  | 0 => ⟨fun _ _ _ _ _ r h => by simp [warpref9_Lex.l0] at h, fun _ _ _ _ _ _ _ r h => by simp [warpref9_Lex.j1] at h, fun _ _ _ _ _ _ _ r h => by simp [warpref9_Lex.j2] at h, fun _ _ _ _ _ r h => by simp [warpref9_Lex.l1] at h, fun _ _ _ _ _ _ _ _ _ _ r h => by simp [warpref9_Lex.j11] at h, fun _ _ _ _ _ _ _ _ _ _ _ _ r h => by simp [warpref9_Lex.j4] at h, fun _ _ _ _ _ _ _ _ _ _ r h => by simp [warpref9_Lex.j6] at h, fun _ _ _ _ _ _ _ _ _ _ r h => by simp [warpref9_Lex.l2] at h, fun _ _ _ _ _ _ _ _ _ _ r h => by simp [warpref9_Lex.j8] at h, fun _ _ _ _ _ _ _ _ _ _ r h => by simp [warpref9_Lex.l3] at h, fun _ _ _ _ _ _ _ _ _ _ _ _ r h => by simp [warpref9_Lex.j9] at h, fun _ _ _ _ _ _ _ _ _ _ _ r h => by simp [warpref9_Lex.j10] at h⟩
  | k + 1 => by
    obtain ⟨ih0, ih1, ih2, ih3, ih4, ih5, ih6, ih7, ih8, ih9, ih10, ih11⟩ := warpref9_Lex.mono_l k
    refine ⟨?_, ?_, ?_, ?_, ?_, ?_, ?_, ?_, ?_, ?_, ?_, ?_⟩
    · intro y0 y1 y2 y3 y4
      unfold warpref9_Lex.l0
      repeat' first
      | (with_reducible exact ih0 _ _ _ _ _)
      | (with_reducible exact ih1 _ _ _ _ _ _ _)
      | (with_reducible exact ih2 _ _ _ _ _ _ _)
      | (with_reducible exact ih3 _ _ _ _ _)
      | (with_reducible exact ih4 _ _ _ _ _ _ _ _ _ _)
      | (with_reducible exact ih5 _ _ _ _ _ _ _ _ _ _ _ _)
      | (with_reducible exact ih6 _ _ _ _ _ _ _ _ _ _)
      | (with_reducible exact ih7 _ _ _ _ _ _ _ _ _ _)
      | (with_reducible exact ih8 _ _ _ _ _ _ _ _ _ _)
      | (with_reducible exact ih9 _ _ _ _ _ _ _ _ _ _)
      | (with_reducible exact ih10 _ _ _ _ _ _ _ _ _ _ _ _)
      | (with_reducible exact ih11 _ _ _ _ _ _ _ _ _ _ _)
      | (with_reducible exact warpref9_Con.mono _ _)
      | (with_reducible exact warpref9_Name.mono _ _)
      | (with_reducible exact warpref9_number.mono _ _)
      | (with_reducible exact LeO.refl _)
      | (with_reducible exact LeO.none _)
      | (with_reducible refine LeO.ite ?_ ?_)
      | (with_reducible refine LeO.bind ?_ (fun _ => ?_))
      | exact ih0 _ _ _ _ _
      | exact ih1 _ _ _ _ _ _ _
      | exact ih2 _ _ _ _ _ _ _
      | exact ih3 _ _ _ _ _
      | exact ih4 _ _ _ _ _ _ _ _ _ _
      | exact ih5 _ _ _ _ _ _ _ _ _ _ _ _
      | exact ih6 _ _ _ _ _ _ _ _ _ _
      | exact ih7 _ _ _ _ _ _ _ _ _ _
      | exact ih8 _ _ _ _ _ _ _ _ _ _
      | exact ih9 _ _ _ _ _ _ _ _ _ _
      | exact ih10 _ _ _ _ _ _ _ _ _ _ _ _
      | exact ih11 _ _ _ _ _ _ _ _ _ _ _
      | exact warpref9_Con.mono _ _
      | exact warpref9_Name.mono _ _
      | exact warpref9_number.mono _ _
      | exact LeO.none _
      | refine LeO.ite ?_ ?_
      | refine LeO.bind ?_ (fun _ => ?_)
    · intro y0 y1 y2 y3 y4 y5 y6
      unfold warpref9_Lex.j1
      repeat' first
      | (with_reducible exact ih0 _ _ _ _ _)
      | (with_reducible exact ih1 _ _ _ _ _ _ _)
      | (with_reducible exact ih2 _ _ _ _ _ _ _)
      | (with_reducible exact ih3 _ _ _ _ _)
      | (with_reducible exact ih4 _ _ _ _ _ _ _ _ _ _)
      | (with_reducible exact ih5 _ _ _ _ _ _ _ _ _ _ _ _)
      | (with_reducible exact ih6 _ _ _ _ _ _ _ _ _ _)
      | (with_reducible exact ih7 _ _ _ _ _ _ _ _ _ _)
      | (with_reducible exact ih8 _ _ _ _ _ _ _ _ _ _)
      | (with_reducible exact ih9 _ _ _ _ _ _ _ _ _ _)
      | (with_reducible exact ih10 _ _ _ _ _ _ _ _ _ _ _ _)
      | (with_reducible exact ih11 _ _ _ _ _ _ _ _ _ _ _)
      | (with_reducible exact warpref9_Con.mono _ _)
      | (with_reducible exact warpref9_Name.mono _ _)
      | (with_reducible exact warpref9_number.mono _ _)
      | (with_reducible exact LeO.refl _)
      | (with_reducible exact LeO.none _)
      | (with_reducible refine LeO.ite ?_ ?_)
      | (with_reducible refine LeO.bind ?_ (fun _ => ?_))
      | exact ih0 _ _ _ _ _
      | exact ih1 _ _ _ _ _ _ _
      | exact ih2 _ _ _ _ _ _ _
      | exact ih3 _ _ _ _ _
      | exact ih4 _ _ _ _ _ _ _ _ _ _
      | exact ih5 _ _ _ _ _ _ _ _ _ _ _ _
      | exact ih6 _ _ _ _ _ _ _ _ _ _
      | exact ih7 _ _ _ _ _ _ _ _ _ _
      | exact ih8 _ _ _ _ _ _ _ _ _ _
      | exact ih9 _ _ _ _ _ _ _ _ _ _
      | exact ih10 _ _ _ _ _ _ _ _ _ _ _ _
      | exact ih11 _ _ _ _ _ _ _ _ _ _ _
      | exact warpref9_Con.mono _ _
      | exact warpref9_Name.mono _ _
      | exact warpref9_number.mono _ _
      | exact LeO.none _
      | refine LeO.ite ?_ ?_
      | refine LeO.bind ?_ (fun _ => ?_)
    · intro y0 y1 y2 y3 y4 y5 y6
      unfold warpref9_Lex.j2
      repeat' first
      | (with_reducible exact ih0 _ _ _ _ _)
      | (with_reducible exact ih1 _ _ _ _ _ _ _)
      | (with_reducible exact ih2 _ _ _ _ _ _ _)
      | (with_reducible exact ih3 _ _ _ _ _)
      | (with_reducible exact ih4 _ _ _ _ _ _ _ _ _ _)
      | (with_reducible exact ih5 _ _ _ _ _ _ _ _ _ _ _ _)
      | (with_reducible exact ih6 _ _ _ _ _ _ _ _ _ _)
      | (with_reducible exact ih7 _ _ _ _ _ _ _ _ _ _)
      | (with_reducible exact ih8 _ _ _ _ _ _ _ _ _ _)
      | (with_reducible exact ih9 _ _ _ _ _ _ _ _ _ _)
      | (with_reducible exact ih10 _ _ _ _ _ _ _ _ _ _ _ _)
      | (with_reducible exact ih11 _ _ _ _ _ _ _ _ _ _ _)
      | (with_reducible exact warpref9_Con.mono _ _)
      | (with_reducible exact warpref9_Name.mono _ _)
      | (with_reducible exact warpref9_number.mono _ _)
      | (with_reducible exact LeO.refl _)
      | (with_reducible exact LeO.none _)
      | (with_reducible refine LeO.ite ?_ ?_)
      | (with_reducible refine LeO.bind ?_ (fun _ => ?_))
      | exact ih0 _ _ _ _ _
      | exact ih1 _ _ _ _ _ _ _
      | exact ih2 _ _ _ _ _ _ _
      | exact ih3 _ _ _ _ _
      | exact ih4 _ _ _ _ _ _ _ _ _ _
      | exact ih5 _ _ _ _ _ _ _ _ _ _ _ _
      | exact ih6 _ _ _ _ _ _ _ _ _ _
      | exact ih7 _ _ _ _ _ _ _ _ _ _
      | exact ih8 _ _ _ _ _ _ _ _ _ _
      | exact ih9 _ _ _ _ _ _ _ _ _ _
      | exact ih10 _ _ _ _ _ _ _ _ _ _ _ _
      | exact ih11 _ _ _ _ _ _ _ _ _ _ _
      | exact warpref9_Con.mono _ _
      | exact warpref9_Name.mono _ _
      | exact warpref9_number.mono _ _
      | exact LeO.none _
      | refine LeO.ite ?_ ?_
      | refine LeO.bind ?_ (fun _ => ?_)
    · intro y0 y1 y2 y3 y4
      unfold warpref9_Lex.l1
      repeat' first
      | (with_reducible exact ih0 _ _ _ _ _)
      | (with_reducible exact ih1 _ _ _ _ _ _ _)
      | (with_reducible exact ih2 _ _ _ _ _ _ _)
      | (with_reducible exact ih3 _ _ _ _ _)
      | (with_reducible exact ih4 _ _ _ _ _ _ _ _ _ _)
      | (with_reducible exact ih5 _ _ _ _ _ _ _ _ _ _ _ _)
      | (with_reducible exact ih6 _ _ _ _ _ _ _ _ _ _)
      | (with_reducible exact ih7 _ _ _ _ _ _ _ _ _ _)
      | (with_reducible exact ih8 _ _ _ _ _ _ _ _ _ _)
      | (with_reducible exact ih9 _ _ _ _ _ _ _ _ _ _)
      | (with_reducible exact ih10 _ _ _ _ _ _ _ _ _ _ _ _)
      | (with_reducible exact ih11 _ _ _ _ _ _ _ _ _ _ _)
      | (with_reducible exact warpref9_Con.mono _ _)
      | (with_reducible exact warpref9_Name.mono _ _)
      | (with_reducible exact warpref9_number.mono _ _)
      | (with_reducible exact LeO.refl _)
      | (with_reducible exact LeO.none _)
      | (with_reducible refine LeO.ite ?_ ?_)
      | (with_reducible refine LeO.bind ?_ (fun _ => ?_))
      | exact ih0 _ _ _ _ _
      | exact ih1 _ _ _ _ _ _ _
      | exact ih2 _ _ _ _ _ _ _
      | exact ih3 _ _ _ _ _
      | exact ih4 _ _ _ _ _ _ _ _ _ _
      | exact ih5 _ _ _ _ _ _ _ _ _ _ _ _
      | exact ih6 _ _ _ _ _ _ _ _ _ _
      | exact ih7 _ _ _ _ _ _ _ _ _ _
      | exact ih8 _ _ _ _ _ _ _ _ _ _
      | exact ih9 _ _ _ _ _ _ _ _ _ _
      | exact ih10 _ _ _ _ _ _ _ _ _ _ _ _
      | exact ih11 _ _ _ _ _ _ _ _ _ _ _
      | exact warpref9_Con.mono _ _
      | exact warpref9_Name.mono _ _
      | exact warpref9_number.mono _ _
      | exact LeO.none _
      | refine LeO.ite ?_ ?_
      | refine LeO.bind ?_ (fun _ => ?_)
    · intro y0 y1 y2 y3 y4 y5 y6 y7 y8 y9
      unfold warpref9_Lex.j11
      repeat' first
      | (with_reducible exact ih0 _ _ _ _ _)
      | (with_reducible exact ih1 _ _ _ _ _ _ _)
      | (with_reducible exact ih2 _ _ _ _ _ _ _)
      | (with_reducible exact ih3 _ _ _ _ _)
      | (with_reducible exact ih4 _ _ _ _ _ _ _ _ _ _)
      | (with_reducible exact ih5 _ _ _ _ _ _ _ _ _ _ _ _)
      | (with_reducible exact ih6 _ _ _ _ _ _ _ _ _ _)
      | (with_reducible exact ih7 _ _ _ _ _ _ _ _ _ _)
      | (with_reducible exact ih8 _ _ _ _ _ _ _ _ _ _)
      | (with_reducible exact ih9 _ _ _ _ _ _ _ _ _ _)
      | (with_reducible exact ih10 _ _ _ _ _ _ _ _ _ _ _ _)
      | (with_reducible exact ih11 _ _ _ _ _ _ _ _ _ _ _)
      | (with_reducible exact warpref9_Con.mono _ _)
      | (with_reducible exact warpref9_Name.mono _ _)
      | (with_reducible exact warpref9_number.mono _ _)
      | (with_reducible exact LeO.refl _)
      | (with_reducible exact LeO.none _)
      | (with_reducible refine LeO.ite ?_ ?_)
      | (with_reducible refine LeO.bind ?_ (fun _ => ?_))
      | exact ih0 _ _ _ _ _
      | exact ih1 _ _ _ _ _ _ _
      | exact ih2 _ _ _ _ _ _ _
      | exact ih3 _ _ _ _ _
      | exact ih4 _ _ _ _ _ _ _ _ _ _
      | exact ih5 _ _ _ _ _ _ _ _ _ _ _ _
      | exact ih6 _ _ _ _ _ _ _ _ _ _
      | exact ih7 _ _ _ _ _ _ _ _ _ _
      | exact ih8 _ _ _ _ _ _ _ _ _ _
      | exact ih9 _ _ _ _ _ _ _ _ _ _
      | exact ih10 _ _ _ _ _ _ _ _ _ _ _ _
      | exact ih11 _ _ _ _ _ _ _ _ _ _ _
      | exact warpref9_Con.mono _ _
      | exact warpref9_Name.mono _ _
      | exact warpref9_number.mono _ _
      | exact LeO.none _
      | refine LeO.ite ?_ ?_
      | refine LeO.bind ?_ (fun _ => ?_)
    · intro y0 y1 y2 y3 y4 y5 y6 y7 y8 y9 y10 y11
      unfold warpref9_Lex.j4
      repeat' first
      | (with_reducible exact ih0 _ _ _ _ _)
      | (with_reducible exact ih1 _ _ _ _ _ _ _)
      | (with_reducible exact ih2 _ _ _ _ _ _ _)
      | (with_reducible exact ih3 _ _ _ _ _)
      | (with_reducible exact ih4 _ _ _ _ _ _ _ _ _ _)
      | (with_reducible exact ih5 _ _ _ _ _ _ _ _ _ _ _ _)
      | (with_reducible exact ih6 _ _ _ _ _ _ _ _ _ _)
      | (with_reducible exact ih7 _ _ _ _ _ _ _ _ _ _)
      | (with_reducible exact ih8 _ _ _ _ _ _ _ _ _ _)
      | (with_reducible exact ih9 _ _ _ _ _ _ _ _ _ _)
      | (with_reducible exact ih10 _ _ _ _ _ _ _ _ _ _ _ _)
      | (with_reducible exact ih11 _ _ _ _ _ _ _ _ _ _ _)
      | (with_reducible exact warpref9_Con.mono _ _)
      | (with_reducible exact warpref9_Name.mono _ _)
      | (with_reducible exact warpref9_number.mono _ _)
      | (with_reducible exact LeO.refl _)
      | (with_reducible exact LeO.none _)
      | (with_reducible refine LeO.ite ?_ ?_)
      | (with_reducible refine LeO.bind ?_ (fun _ => ?_))
      | exact ih0 _ _ _ _ _
      | exact ih1 _ _ _ _ _ _ _
      | exact ih2 _ _ _ _ _ _ _
      | exact ih3 _ _ _ _ _
      | exact ih4 _ _ _ _ _ _ _ _ _ _
      | exact ih5 _ _ _ _ _ _ _ _ _ _ _ _
      | exact ih6 _ _ _ _ _ _ _ _ _ _
      | exact ih7 _ _ _ _ _ _ _ _ _ _
      | exact ih8 _ _ _ _ _ _ _ _ _ _
      | exact ih9 _ _ _ _ _ _ _ _ _ _
      | exact ih10 _ _ _ _ _ _ _ _ _ _ _ _
      | exact ih11 _ _ _ _ _ _ _ _ _ _ _
      | exact warpref9_Con.mono _ _
      | exact warpref9_Name.mono _ _
      | exact warpref9_number.mono _ _
      | exact LeO.none _
      | refine LeO.ite ?_ ?_
      | refine LeO.bind ?_ (fun _ => ?_)
    · intro y0 y1 y2 y3 y4 y5 y6 y7 y8 y9
      unfold warpref9_Lex.j6
      repeat' first
      | (with_reducible exact ih0 _ _ _ _ _)
      | (with_reducible exact ih1 _ _ _ _ _ _ _)
      | (with_reducible exact ih2 _ _ _ _ _ _ _)
      | (with_reducible exact ih3 _ _ _ _ _)
      | (with_reducible exact ih4 _ _ _ _ _ _ _ _ _ _)
      | (with_reducible exact ih5 _ _ _ _ _ _ _ _ _ _ _ _)
      | (with_reducible exact ih6 _ _ _ _ _ _ _ _ _ _)
      | (with_reducible exact ih7 _ _ _ _ _ _ _ _ _ _)
      | (with_reducible exact ih8 _ _ _ _ _ _ _ _ _ _)
      | (with_reducible exact ih9 _ _ _ _ _ _ _ _ _ _)
      | (with_reducible exact ih10 _ _ _ _ _ _ _ _ _ _ _ _)
      | (with_reducible exact ih11 _ _ _ _ _ _ _ _ _ _ _)
      | (with_reducible exact warpref9_Con.mono _ _)
      | (with_reducible exact warpref9_Name.mono _ _)
      | (with_reducible exact warpref9_number.mono _ _)
      | (with_reducible exact LeO.refl _)
      | (with_reducible exact LeO.none _)
      | (with_reducible refine LeO.ite ?_ ?_)
      | (with_reducible refine LeO.bind ?_ (fun _ => ?_))
      | exact ih0 _ _ _ _ _
      | exact ih1 _ _ _ _ _ _ _
      | exact ih2 _ _ _ _ _ _ _
      | exact ih3 _ _ _ _ _
      | exact ih4 _ _ _ _ _ _ _ _ _ _
      | exact ih5 _ _ _ _ _ _ _ _ _ _ _ _
      | exact ih6 _ _ _ _ _ _ _ _ _ _
      | exact ih7 _ _ _ _ _ _ _ _ _ _
      | exact ih8 _ _ _ _ _ _ _ _ _ _
      | exact ih9 _ _ _ _ _ _ _ _ _ _
      | exact ih10 _ _ _ _ _ _ _ _ _ _ _ _
      | exact ih11 _ _ _ _ _ _ _ _ _ _ _
      | exact warpref9_Con.mono _ _
      | exact warpref9_Name.mono _ _
      | exact warpref9_number.mono _ _
      | exact LeO.none _
      | refine LeO.ite ?_ ?_
      | refine LeO.bind ?_ (fun _ => ?_)
    · intro y0 y1 y2 y3 y4 y5 y6 y7 y8 y9
      unfold warpref9_Lex.l2
      repeat' first
      | (with_reducible exact ih0 _ _ _ _ _)
      | (with_reducible exact ih1 _ _ _ _ _ _ _)
      | (with_reducible exact ih2 _ _ _ _ _ _ _)
      | (with_reducible exact ih3 _ _ _ _ _)
      | (with_reducible exact ih4 _ _ _ _ _ _ _ _ _ _)
      | (with_reducible exact ih5 _ _ _ _ _ _ _ _ _ _ _ _)
      | (with_reducible exact ih6 _ _ _ _ _ _ _ _ _ _)
      | (with_reducible exact ih7 _ _ _ _ _ _ _ _ _ _)
      | (with_reducible exact ih8 _ _ _ _ _ _ _ _ _ _)
      | (with_reducible exact ih9 _ _ _ _ _ _ _ _ _ _)
      | (with_reducible exact ih10 _ _ _ _ _ _ _ _ _ _ _ _)
      | (with_reducible exact ih11 _ _ _ _ _ _ _ _ _ _ _)
      | (with_reducible exact warpref9_Con.mono _ _)
      | (with_reducible exact warpref9_Name.mono _ _)
      | (with_reducible exact warpref9_number.mono _ _)
      | (with_reducible exact LeO.refl _)
      | (with_reducible exact LeO.none _)
      | (with_reducible refine LeO.ite ?_ ?_)
      | (with_reducible refine LeO.bind ?_ (fun _ => ?_))
      | exact ih0 _ _ _ _ _
      | exact ih1 _ _ _ _ _ _ _
      | exact ih2 _ _ _ _ _ _ _
      | exact ih3 _ _ _ _ _
      | exact ih4 _ _ _ _ _ _ _ _ _ _
      | exact ih5 _ _ _ _ _ _ _ _ _ _ _ _
      | exact ih6 _ _ _ _ _ _ _ _ _ _
      | exact ih7 _ _ _ _ _ _ _ _ _ _
      | exact ih8 _ _ _ _ _ _ _ _ _ _
      | exact ih9 _ _ _ _ _ _ _ _ _ _
      | exact ih10 _ _ _ _ _ _ _ _ _ _ _ _
      | exact ih11 _ _ _ _ _ _ _ _ _ _ _
      | exact warpref9_Con.mono _ _
      | exact warpref9_Name.mono _ _
      | exact warpref9_number.mono _ _
      | exact LeO.none _
      | refine LeO.ite ?_ ?_
      | refine LeO.bind ?_ (fun _ => ?_)
    · intro y0 y1 y2 y3 y4 y5 y6 y7 y8 y9
      unfold warpref9_Lex.j8
      repeat' first
      | (with_reducible exact ih0 _ _ _ _ _)
      | (with_reducible exact ih1 _ _ _ _ _ _ _)
      | (with_reducible exact ih2 _ _ _ _ _ _ _)
      | (with_reducible exact ih3 _ _ _ _ _)
      | (with_reducible exact ih4 _ _ _ _ _ _ _ _ _ _)
      | (with_reducible exact ih5 _ _ _ _ _ _ _ _ _ _ _ _)
      | (with_reducible exact ih6 _ _ _ _ _ _ _ _ _ _)
      | (with_reducible exact ih7 _ _ _ _ _ _ _ _ _ _)
      | (with_reducible exact ih8 _ _ _ _ _ _ _ _ _ _)
      | (with_reducible exact ih9 _ _ _ _ _ _ _ _ _ _)
      | (with_reducible exact ih10 _ _ _ _ _ _ _ _ _ _ _ _)
      | (with_reducible exact ih11 _ _ _ _ _ _ _ _ _ _ _)
      | (with_reducible exact warpref9_Con.mono _ _)
      | (with_reducible exact warpref9_Name.mono _ _)
      | (with_reducible exact warpref9_number.mono _ _)
      | (with_reducible exact LeO.refl _)
      | (with_reducible exact LeO.none _)
      | (with_reducible refine LeO.ite ?_ ?_)
      | (with_reducible refine LeO.bind ?_ (fun _ => ?_))
      | exact ih0 _ _ _ _ _
      | exact ih1 _ _ _ _ _ _ _
      | exact ih2 _ _ _ _ _ _ _
      | exact ih3 _ _ _ _ _
      | exact ih4 _ _ _ _ _ _ _ _ _ _
      | exact ih5 _ _ _ _ _ _ _ _ _ _ _ _
      | exact ih6 _ _ _ _ _ _ _ _ _ _
      | exact ih7 _ _ _ _ _ _ _ _ _ _
      | exact ih8 _ _ _ _ _ _ _ _ _ _
      | exact ih9 _ _ _ _ _ _ _ _ _ _
      | exact ih10 _ _ _ _ _ _ _ _ _ _ _ _
      | exact ih11 _ _ _ _ _ _ _ _ _ _ _
      | exact warpref9_Con.mono _ _
      | exact warpref9_Name.mono _ _
      | exact warpref9_number.mono _ _
      | exact LeO.none _
      | refine LeO.ite ?_ ?_
      | refine LeO.bind ?_ (fun _ => ?_)
    · intro y0 y1 y2 y3 y4 y5 y6 y7 y8 y9
      unfold warpref9_Lex.l3
      repeat' first
      | (with_reducible exact ih0 _ _ _ _ _)
      | (with_reducible exact ih1 _ _ _ _ _ _ _)
      | (with_reducible exact ih2 _ _ _ _ _ _ _)
      | (with_reducible exact ih3 _ _ _ _ _)
      | (with_reducible exact ih4 _ _ _ _ _ _ _ _ _ _)
      | (with_reducible exact ih5 _ _ _ _ _ _ _ _ _ _ _ _)
      | (with_reducible exact ih6 _ _ _ _ _ _ _ _ _ _)
      | (with_reducible exact ih7 _ _ _ _ _ _ _ _ _ _)
      | (with_reducible exact ih8 _ _ _ _ _ _ _ _ _ _)
      | (with_reducible exact ih9 _ _ _ _ _ _ _ _ _ _)
      | (with_reducible exact ih10 _ _ _ _ _ _ _ _ _ _ _ _)
      | (with_reducible exact ih11 _ _ _ _ _ _ _ _ _ _ _)
      | (with_reducible exact warpref9_Con.mono _ _)
      | (with_reducible exact warpref9_Name.mono _ _)
      | (with_reducible exact warpref9_number.mono _ _)
      | (with_reducible exact LeO.refl _)
      | (with_reducible exact LeO.none _)
      | (with_reducible refine LeO.ite ?_ ?_)
      | (with_reducible refine LeO.bind ?_ (fun _ => ?_))
      | exact ih0 _ _ _ _ _
      | exact ih1 _ _ _ _ _ _ _
      | exact ih2 _ _ _ _ _ _ _
      | exact ih3 _ _ _ _ _
      | exact ih4 _ _ _ _ _ _ _ _ _ _
      | exact ih5 _ _ _ _ _ _ _ _ _ _ _ _
      | exact ih6 _ _ _ _ _ _ _ _ _ _
      | exact ih7 _ _ _ _ _ _ _ _ _ _
      | exact ih8 _ _ _ _ _ _ _ _ _ _
      | exact ih9 _ _ _ _ _ _ _ _ _ _
      | exact ih10 _ _ _ _ _ _ _ _ _ _ _ _
      | exact ih11 _ _ _ _ _ _ _ _ _ _ _
      | exact warpref9_Con.mono _ _
      | exact warpref9_Name.mono _ _
      | exact warpref9_number.mono _ _
      | exact LeO.none _
      | refine LeO.ite ?_ ?_
      | refine LeO.bind ?_ (fun _ => ?_)
    · intro y0 y1 y2 y3 y4 y5 y6 y7 y8 y9 y10 y11
      unfold warpref9_Lex.j9
      repeat' first
      | (with_reducible exact ih0 _ _ _ _ _)
      | (with_reducible exact ih1 _ _ _ _ _ _ _)
      | (with_reducible exact ih2 _ _ _ _ _ _ _)
      | (with_reducible exact ih3 _ _ _ _ _)
      | (with_reducible exact ih4 _ _ _ _ _ _ _ _ _ _)
      | (with_reducible exact ih5 _ _ _ _ _ _ _ _ _ _ _ _)
      | (with_reducible exact ih6 _ _ _ _ _ _ _ _ _ _)
      | (with_reducible exact ih7 _ _ _ _ _ _ _ _ _ _)
      | (with_reducible exact ih8 _ _ _ _ _ _ _ _ _ _)
      | (with_reducible exact ih9 _ _ _ _ _ _ _ _ _ _)
      | (with_reducible exact ih10 _ _ _ _ _ _ _ _ _ _ _ _)
      | (with_reducible exact ih11 _ _ _ _ _ _ _ _ _ _ _)
      | (with_reducible exact warpref9_Con.mono _ _)
      | (with_reducible exact warpref9_Name.mono _ _)
      | (with_reducible exact warpref9_number.mono _ _)
      | (with_reducible exact LeO.refl _)
      | (with_reducible exact LeO.none _)
      | (with_reducible refine LeO.ite ?_ ?_)
      | (with_reducible refine LeO.bind ?_ (fun _ => ?_))
      | exact ih0 _ _ _ _ _
      | exact ih1 _ _ _ _ _ _ _
      | exact ih2 _ _ _ _ _ _ _
      | exact ih3 _ _ _ _ _
      | exact ih4 _ _ _ _ _ _ _ _ _ _
      | exact ih5 _ _ _ _ _ _ _ _ _ _ _ _
      | exact ih6 _ _ _ _ _ _ _ _ _ _
      | exact ih7 _ _ _ _ _ _ _ _ _ _
      | exact ih8 _ _ _ _ _ _ _ _ _ _
      | exact ih9 _ _ _ _ _ _ _ _ _ _
      | exact ih10 _ _ _ _ _ _ _ _ _ _ _ _
      | exact ih11 _ _ _ _ _ _ _ _ _ _ _
      | exact warpref9_Con.mono _ _
      | exact warpref9_Name.mono _ _
      | exact warpref9_number.mono _ _
      | exact LeO.none _
      | refine LeO.ite ?_ ?_
      | refine LeO.bind ?_ (fun _ => ?_)
    · intro y0 y1 y2 y3 y4 y5 y6 y7 y8 y9 y10
      unfold warpref9_Lex.j10
      repeat' first
      | (with_reducible exact ih0 _ _ _ _ _)
      | (with_reducible exact ih1 _ _ _ _ _ _ _)
      | (with_reducible exact ih2 _ _ _ _ _ _ _)
      | (with_reducible exact ih3 _ _ _ _ _)
      | (with_reducible exact ih4 _ _ _ _ _ _ _ _ _ _)
      | (with_reducible exact ih5 _ _ _ _ _ _ _ _ _ _ _ _)
      | (with_reducible exact ih6 _ _ _ _ _ _ _ _ _ _)
      | (with_reducible exact ih7 _ _ _ _ _ _ _ _ _ _)
      | (with_reducible exact ih8 _ _ _ _ _ _ _ _ _ _)
      | (with_reducible exact ih9 _ _ _ _ _ _ _ _ _ _)
      | (with_reducible exact ih10 _ _ _ _ _ _ _ _ _ _ _ _)
      | (with_reducible exact ih11 _ _ _ _ _ _ _ _ _ _ _)
      | (with_reducible exact warpref9_Con.mono _ _)
      | (with_reducible exact warpref9_Name.mono _ _)
      | (with_reducible exact warpref9_number.mono _ _)
      | (with_reducible exact LeO.refl _)
      | (with_reducible exact LeO.none _)
      | (with_reducible refine LeO.ite ?_ ?_)
      | (with_reducible refine LeO.bind ?_ (fun _ => ?_))
      | exact ih0 _ _ _ _ _
      | exact ih1 _ _ _ _ _ _ _
      | exact ih2 _ _ _ _ _ _ _
      | exact ih3 _ _ _ _ _
      | exact ih4 _ _ _ _ _ _ _ _ _ _
      | exact ih5 _ _ _ _ _ _ _ _ _ _ _ _
      | exact ih6 _ _ _ _ _ _ _ _ _ _
      | exact ih7 _ _ _ _ _ _ _ _ _ _
      | exact ih8 _ _ _ _ _ _ _ _ _ _
      | exact ih9 _ _ _ _ _ _ _ _ _ _
      | exact ih10 _ _ _ _ _ _ _ _ _ _ _ _
      | exact ih11 _ _ _ _ _ _ _ _ _ _ _
      | exact warpref9_Con.mono _ _
      | exact warpref9_Name.mono _ _
      | exact warpref9_number.mono _ _
      | exact LeO.none _
      | refine LeO.ite ?_ ?_
      | refine LeO.bind ?_ (fun _ => ?_)
theorem warpref9_Lex.mono : ∀ a0 k, LeO (warpref9_Lex.f k a0) (warpref9_Lex.f (k + 1) a0) := by
  intro a0 k
  obtain ⟨ih0, ih1, ih2, ih3, ih4, ih5, ih6, ih7, ih8, ih9, ih10, ih11⟩ := warpref9_Lex.mono_l k
  unfold warpref9_Lex.f
  repeat' first
      | (with_reducible exact ih0 _ _ _ _ _)
      | (with_reducible exact ih1 _ _ _ _ _ _ _)
      | (with_reducible exact ih2 _ _ _ _ _ _ _)
      | (with_reducible exact ih3 _ _ _ _ _)
      | (with_reducible exact ih4 _ _ _ _ _ _ _ _ _ _)
      | (with_reducible exact ih5 _ _ _ _ _ _ _ _ _ _ _ _)
      | (with_reducible exact ih6 _ _ _ _ _ _ _ _ _ _)
      | (with_reducible exact ih7 _ _ _ _ _ _ _ _ _ _)
      | (with_reducible exact ih8 _ _ _ _ _ _ _ _ _ _)
      | (with_reducible exact ih9 _ _ _ _ _ _ _ _ _ _)
      | (with_reducible exact ih10 _ _ _ _ _ _ _ _ _ _ _ _)
      | (with_reducible exact ih11 _ _ _ _ _ _ _ _ _ _ _)
      | (with_reducible exact warpref9_Con.mono _ _)
      | (with_reducible exact warpref9_Name.mono _ _)
      | (with_reducible exact warpref9_number.mono _ _)
      | (with_reducible exact LeO.refl _)
      | (with_reducible exact LeO.none _)
      | (with_reducible refine LeO.ite ?_ ?_)
      | (with_reducible refine LeO.bind ?_ (fun _ => ?_))
      | exact ih0 _ _ _ _ _
      | exact ih1 _ _ _ _ _ _ _
      | exact ih2 _ _ _ _ _ _ _
      | exact ih3 _ _ _ _ _
      | exact ih4 _ _ _ _ _ _ _ _ _ _
      | exact ih5 _ _ _ _ _ _ _ _ _ _ _ _
      | exact ih6 _ _ _ _ _ _ _ _ _ _
      | exact ih7 _ _ _ _ _ _ _ _ _ _
      | exact ih8 _ _ _ _ _ _ _ _ _ _
      | exact ih9 _ _ _ _ _ _ _ _ _ _
      | exact ih10 _ _ _ _ _ _ _ _ _ _ _ _
      | exact ih11 _ _ _ _ _ _ _ _ _ _ _
      | exact warpref9_Con.mono _ _
      | exact warpref9_Name.mono _ _
      | exact warpref9_number.mono _ _
      | exact LeO.none _
      | refine LeO.ite ?_ ?_
      | refine LeO.bind ?_ (fun _ => ?_)
set_option maxHeartbeats 8000000 in
set_option maxRecDepth 100000 in
theorem warpref9_Lex.calls (k : Nat) (a0 : ByteArray) (r1 : List (S38)) (r2 : Int) (r3 : Int) (w : World) (h : warpref9_Lex.f k a0 = some (r1, r2, r3)) :
    Calls Try.prog 11 #[.string a0] w fun e w' => ∃ v0_ : Value, e = .returned (.agg #[v0_, .int .i64 r2, .int .i64 r3]) ∧ Kd.R k38 38 w' w.heap.size (fun _ => True) v0_ r1 ∧ Below w.heap.size w w' := by
  have hu28 := Try.underlying28
  have hu38 := Try.underlying38
  have HB := Aside0.mk (Below.refl w.heap.size w)
  have H : (if (a0.size : Int) > 65536 then (some (([] : List (S38)), 1, 0)) else (warpref9_Lex.l0 k a0 0 ([] : List (S38)) 0 0)) = some (r1, r2, r3) := h
  clear h
  by_cases c2 : (a0.size : Int) > 65536
  · rw [if_pos c2] at H
    have c2b0 : decide (65536 < (a0.size : Int)) = true := decide_eq_true c2
    have c2b1 : decide (65536 < a0.size) = true := decide_eq_true (by omega)
    clear c2
    simp only [Option.some.injEq, Prod.mk.injEq] at H
    obtain ⟨rfl, rfl, rfl⟩ := H
    go_enter Try.func11, Try.ntmps11
    go_wp2_with (first | ((with_reducible refine gate_dst (N := 2) rfl ?_); (try (refine gate_guard (by rfl) ?_; dsimp only)); refine box_event ?hg (N := 2) ?hd (cs := #[.slice none 0 0, .int .i64 0, .int .i64 0]) (t := 28) ?hr ?_; (case hd => rfl); (case hg => rfl); (case hr => first | (go_simp; done) | (go_simp; rfl)); intro gb158 hg w3 hbox hb; have n0_ := Aside0.mk (below_step (by repeat (first | (with_reducible first | exact HB.out | apply below_alloc | apply pw_below_drewN | apply below_drew1) | exact HB.out)) hb); have n1_ := Aside0.mk (hbox); have n2_ := Aside0.mk ((by rw [hg]; exact (below_size (by repeat (first | (with_reducible first | exact HB.out | apply below_alloc | apply pw_below_drewN | apply below_drew1) | exact HB.out))) : w.heap.size ≤ gb158)); have n3_ := Aside0.mk ((by rw [hg]; exact (below_size (by repeat (first | (with_reducible first | exact HB.out | apply below_alloc | apply pw_below_drewN | apply below_drew1) | exact HB.out))) : w.heap.size ≤ gb158)); clear HB; have HB := n0_; have BK158 := n1_; have GW158 := n2_; have GE158 := n3_; clear n0_ n1_ n2_ n3_; clear hb hbox hg; have hcz4_0 : w3.cell? ⟨gb158, 0, none⟩ = some (.slice none 0 0) := (blk_cell BK158.out 0).trans rfl; have hcz4_1 : w3.cell? ⟨gb158, 1, none⟩ = some (.int .i64 0) := (blk_cell BK158.out 1).trans rfl; have hcz4_2 : w3.cell? ⟨gb158, 2, none⟩ = some (.int .i64 0) := (blk_cell BK158.out 2).trans rfl; have hfz4_0 := blk_frozen BK158.out 0; have hfz4_1 := blk_frozen BK158.out 1; have hfz4_2 := blk_frozen BK158.out 2))
    refine bodyPost_ret (results_cell_row rfl _ _ gb158 28 #[.slice none 0 0, .int .i64 1, .int .i64 0] (0, 0) _ rfl (by (with_reducible repeat (first | refine blk_drewN ?_ _ | refine blk_drew ?_ | refine blk_alloc ?_ _)); refine blk_put (cs := #[.slice none 0 0, .int .i64 1, .int .i64 0]) ?_ 2 _ rfl; (with_reducible repeat (first | refine blk_drewN ?_ _ | refine blk_drew ?_ | refine blk_alloc ?_ _)); refine blk_put (cs := #[.slice none 0 0, .int .i64 0, .int .i64 0]) ?_ 1 _ rfl; (with_reducible repeat (first | refine blk_drewN ?_ _ | refine blk_drew ?_ | refine blk_alloc ?_ _)); refine blk_put (cs := #[.slice none 0 0, .int .i64 0, .int .i64 0]) ?_ 0 _ rfl; (with_reducible repeat (first | refine blk_drewN ?_ _ | refine blk_drew ?_ | refine blk_alloc ?_ _)); exact BK158.out) Try.underlying28 rfl (by kernel_rfl)) rfl ?_
    exact ⟨_, by first | rfl | (simp [errW_none, errW_some] <;> rfl) | (simp [*, errW_none, errW_some] <;> rfl), by first | exact Kd.R_nil _ _ _ _ _ | exact Kd.N_nil _ _ _ _ _ | exact Kd.V_nil _ _ _ _ _ | exact Kd.Q_nil _ _ _ _ _ | exact Kd.S_nil _ _ _ _ _, by repeat (first | (with_reducible first | exact HB.out | apply below_alloc | apply pw_below_drewN | apply below_drew1 | refine below_set ?_ GE158.out) | exact HB.out)⟩
  · rw [if_neg c2] at H
    have c2b0 : decide (65536 < (a0.size : Int)) = false := decide_eq_false c2
    have c2b1 : decide (65536 < a0.size) = false := decide_eq_false (by omega)
    clear c2
    have H' := Aside0.mk H
    clear H
    go_enter Try.func11, Try.ntmps11
    go_wp2_with (first | ((with_reducible refine gate_dst (N := 2) rfl ?_); (try (refine gate_guard (by rfl) ?_; dsimp only)); refine box_event ?hg (N := 2) ?hd (cs := #[.slice none 0 0, .int .i64 0, .int .i64 0]) (t := 28) ?hr ?_; (case hd => rfl); (case hg => rfl); (case hr => first | (go_simp; done) | (go_simp; rfl)); intro gb158 hg w5 hbox hb; have n0_ := Aside0.mk (below_step (by repeat (first | (with_reducible first | exact HB.out | apply below_alloc | apply pw_below_drewN | apply below_drew1) | exact HB.out)) hb); have n1_ := Aside0.mk (hbox); have n2_ := Aside0.mk ((by rw [hg]; exact (below_size (by repeat (first | (with_reducible first | exact HB.out | apply below_alloc | apply pw_below_drewN | apply below_drew1) | exact HB.out))) : w.heap.size ≤ gb158)); have n3_ := Aside0.mk ((by rw [hg]; exact (below_size (by repeat (first | (with_reducible first | exact HB.out | apply below_alloc | apply pw_below_drewN | apply below_drew1) | exact HB.out))) : w.heap.size ≤ gb158)); clear HB; have HB := n0_; have BK158 := n1_; have GW158 := n2_; have GE158 := n3_; clear n0_ n1_ n2_ n3_; clear hb hbox hg) | ((with_reducible refine gate_dst (N := 3) rfl ?_); (try (refine gate_guard (by rfl) ?_; dsimp only)); refine box_event ?hg (N := 3) ?hd (cs := #[.slice none 0 0, .int .i64 0, .int .i64 0]) (t := 28) ?hr ?_; (case hd => rfl); (case hg => rfl); (case hr => first | (go_simp; done) | (go_simp; rfl)); intro gb159 hg w6 hbox hb; have n0_ := Aside0.mk (blk_below (g := gb158) (o := .cells #[.slice none 0 0, .int .i64 0, .int .i64 0] 28 (0, 0)) (by (with_reducible repeat (first | refine blk_drewN ?_ _ | refine blk_drew ?_ | refine blk_alloc ?_ _)); exact BK158.out) hb); have n1_ := Aside0.mk (below_step (by repeat (first | (with_reducible first | exact HB.out | apply below_alloc | apply pw_below_drewN | apply below_drew1 | refine below_set ?_ GE158.out) | exact HB.out)) hb); have n2_ := Aside0.mk (hbox); have n3_ := Aside0.mk ((by rw [hg]; exact (below_size (by repeat (first | (with_reducible first | exact HB.out | apply below_alloc | apply pw_below_drewN | apply below_drew1 | refine below_set ?_ GE158.out) | exact HB.out))) : w.heap.size ≤ gb159)); have n4_ := Aside0.mk ((by rw [hg]; exact (below_size (by repeat (first | (with_reducible first | exact HB.out | apply below_alloc | apply pw_below_drewN | apply below_drew1 | refine below_set ?_ GE158.out) | exact HB.out))) : w.heap.size ≤ gb159)); have n5_ := Aside0.mk ((by rw [hg]; exact Nat.ne_of_lt (blk_lt (g := gb158) (o := .cells #[.slice none 0 0, .int .i64 0, .int .i64 0] 28 (0, 0)) (by (with_reducible repeat (first | refine blk_drewN ?_ _ | refine blk_drew ?_ | refine blk_alloc ?_ _)); exact BK158.out)) : gb158 ≠ gb159)); have n6_ := Aside0.mk ((by rw [hg]; exact Nat.ne_of_gt (blk_lt (g := gb158) (o := .cells #[.slice none 0 0, .int .i64 0, .int .i64 0] 28 (0, 0)) (by (with_reducible repeat (first | refine blk_drewN ?_ _ | refine blk_drew ?_ | refine blk_alloc ?_ _)); exact BK158.out)) : gb159 ≠ gb158)); clear BK158; clear HB; have BK158 := n0_; have HB := n1_; have BK159 := n2_; have GW159 := n3_; have GE159 := n4_; have NB158_159 := n5_; have NB159_158 := n6_; clear n0_ n1_ n2_ n3_ n4_ n5_ n6_; clear hb hbox hg))
    go_loopg [4] k (fun kq v4 w' => ∃ (x4_1 : Int) (x159001_1 : Int) (x159002_1 : Int) (x160000_1 : List (S38)) (u160000 : Value), v4 = .int .i64 x4_1 ∧ Aside0 (warpref9_Lex.l0 kq a0 x4_1 x160000_1 0 0 = some (r1, r2, r3)) ∧ Aside0 (kq ≤ k) ∧ Aside0 (Kd.R k38 38 w' w.heap.size (fun _ => True) u160000 x160000_1) ∧ Aside0 (w'.heap[gb158]? = some (.cells #[(.slice none 0 0), .int .i64 x159001_1, .int .i64 x159002_1] 28 (0, 0))) ∧ Aside0 (w'.heap[gb159]? = some (.cells #[u160000, .int .i64 0, .int .i64 0] 28 (0, 0))) ∧ Aside0 (Below w.heap.size w w'))
    case atStart => exact ⟨(0), (0), (0), (([] : List (S38))), (.slice none 0 0), (by first | rfl | (simp; done) | (simp [*]; done)), H', ⟨Nat.le_refl _⟩, ⟨by first | exact Kd.R_nil _ _ _ _ _ | exact Kd.N_nil _ _ _ _ _ | exact Kd.V_nil _ _ _ _ _ | exact Kd.Q_nil _ _ _ _ _ | exact Kd.S_nil _ _ _ _ _⟩, ⟨by (with_reducible repeat (first | refine blk_drewN ?_ _ | refine blk_drew ?_ | refine blk_alloc ?_ _)); exact BK158.out⟩, ⟨by (with_reducible repeat (first | refine blk_drewN ?_ _ | refine blk_drew ?_ | refine blk_alloc ?_ _)); exact BK159.out⟩, ⟨by repeat (first | (with_reducible first | exact HB.out | apply below_alloc | apply pw_below_drewN | apply below_drew1 | refine below_set ?_ GE158.out | refine below_set ?_ GE159.out) | exact HB.out)⟩⟩
    case round => as_aux_lemma =>
      clear H'
      try clear c1
      try clear c2
      try clear c2b0
      try clear c2b1
      try clear p2
      try clear hcz4_0
      try clear hcz4_1
      try clear hcz4_2
      try clear hfz4_0
      try clear hfz4_1
      try clear hfz4_2
      obtain ⟨x4_1, x159001_1, x159002_1, x160000_1, u160000, rfl, HA, HK1, HO_160000, BK158, BK159, HB⟩ := hrel
      cases gk with
      | zero => exact absurd HA.out (by simp [warpref9_Lex.l0])
      | succ k1 =>
        have H := HA.out
        clear HA
        simp only [warpref9_Lex.l0] at H
        by_cases c7 : x4_1 < (a0.size : Int)
        · rw [if_pos c7] at H
          have c7b0 : decide (x4_1 < (a0.size : Int)) = true := decide_eq_true c7
          clear c7
          by_cases c8 : 0 ≤ x4_1
          · rw [if_pos c8] at H
            have c8b0 : decide (0 ≤ x4_1) = true := decide_eq_true c8
            clear c8
            have HC10 := Aside0.mk H
            clear H
            have p9 : 0 ≤ (x4_1 : Int) := of_decide_eq_true (by first | (with_reducible assumption) | assumption)
            have q9 : x4_1 < (a0.size : Int) := of_decide_eq_true (by first | (with_reducible assumption) | assumption)
            have hx9 := bt_at a0 x4_1
            replace p9 := eq_true p9
            replace q9 := eq_true q9
            go_upto_region 7 with (fail)
            go_cut [28] (fun v28 wc => ∃ (kq : Nat) (x28_9 : Bool), v28 = .bool x28_9 ∧ Aside0 (warpref9_Lex.j1 kq a0 x4_1 (bt a0 x4_1) x28_9 x160000_1 0 0 = some (r1, r2, r3)) ∧ Aside0 (kq ≤ k1) ∧ Aside0 (Kd.R k38 38 wc w.heap.size (fun _ => True) u160000 x160000_1) ∧ Aside0 (wc.heap[gb158]? = some (.cells #[(.slice none 0 0), .int .i64 x159001_1, .int .i64 x159002_1] 28 (0, 0))) ∧ Aside0 (wc.heap[gb159]? = some (.cells #[u160000, .int .i64 0, .int .i64 0] 28 (0, 0))) ∧ Aside0 (Below w.heap.size w wc))
            case first => as_aux_lemma =>
              have H := HC10.out
              clear HC10
              by_cases c11 : (bt a0 x4_1) = 32
              · rw [if_pos c11] at H
                have c11b0 : ((bt a0 x4_1) == 32) = true := beq_iff_eq.mpr c11
                have c11b1 : ((bt a0 x4_1) != 32) = false := bne_eq_false_iff_eq.mpr c11
                clear c11
                (first | rw [c11b0] | (simp only [i64_w, i32_w]; rw [c11b0]) | skip)
                have H' := Aside0.mk H
                clear H
                go_wp2
                go_meet
                case rel => exact ⟨_, (true), (by first | rfl | (simp; done) | (simp [*]; done)), H', ⟨by have := HK1.out; first | omega | exact Nat.le_refl _⟩, ⟨by (with_reducible repeat (first | apply Kd.R_alloc | apply Kd.R_drewN | apply Kd.R_drew)); exact HO_160000.out⟩, ⟨by (with_reducible repeat (first | refine blk_drewN ?_ _ | refine blk_drew ?_ | refine blk_alloc ?_ _)); exact BK158.out⟩, ⟨by (with_reducible repeat (first | refine blk_drewN ?_ _ | refine blk_drew ?_ | refine blk_alloc ?_ _)); exact BK159.out⟩, ⟨by repeat (first | (with_reducible first | exact HB.out | apply below_alloc | apply pw_below_drewN | apply below_drew1 | refine below_set ?_ GE158.out | refine below_set ?_ GE159.out) | exact HB.out)⟩⟩
              · rw [if_neg c11] at H
                have c11b0 : ((bt a0 x4_1) == 32) = false := beq_eq_false_iff_ne.mpr c11
                have c11b1 : ((bt a0 x4_1) != 32) = true := bne_iff_ne.mpr c11
                (first | rw [c11b0] | (simp only [i64_w, i32_w]; rw [c11b0]) | skip)
                by_cases c12 : (bt a0 x4_1) = 9
                · rw [if_pos c12] at H
                  have c12b0 : ((bt a0 x4_1) == 9) = true := beq_iff_eq.mpr c12
                  have c12b1 : ((bt a0 x4_1) != 9) = false := bne_eq_false_iff_eq.mpr c12
                  clear c12
                  have H' := Aside0.mk H
                  clear H
                  go_wp2
                  go_meet
                  case rel => exact ⟨_, (true), (by first | rfl | (simp; done) | (simp [*]; done)), H', ⟨by have := HK1.out; first | omega | exact Nat.le_refl _⟩, ⟨by (with_reducible repeat (first | apply Kd.R_alloc | apply Kd.R_drewN | apply Kd.R_drew)); exact HO_160000.out⟩, ⟨by (with_reducible repeat (first | refine blk_drewN ?_ _ | refine blk_drew ?_ | refine blk_alloc ?_ _)); exact BK158.out⟩, ⟨by (with_reducible repeat (first | refine blk_drewN ?_ _ | refine blk_drew ?_ | refine blk_alloc ?_ _)); exact BK159.out⟩, ⟨by repeat (first | (with_reducible first | exact HB.out | apply below_alloc | apply pw_below_drewN | apply below_drew1 | refine below_set ?_ GE158.out | refine below_set ?_ GE159.out) | exact HB.out)⟩⟩
                · rw [if_neg c12] at H
                  have c12b0 : ((bt a0 x4_1) == 9) = false := beq_eq_false_iff_ne.mpr c12
                  have c12b1 : ((bt a0 x4_1) != 9) = true := bne_iff_ne.mpr c12
                  have H' := Aside0.mk H
                  clear H
                  go_wp2
                  go_meet
                  case rel => exact ⟨_, (((bt a0 x4_1) == 10)), (by first | rfl | (simp; done) | (simp [*]; done)), H', ⟨by have := HK1.out; first | omega | exact Nat.le_refl _⟩, ⟨by (with_reducible repeat (first | apply Kd.R_alloc | apply Kd.R_drewN | apply Kd.R_drew)); exact HO_160000.out⟩, ⟨by (with_reducible repeat (first | refine blk_drewN ?_ _ | refine blk_drew ?_ | refine blk_alloc ?_ _)); exact BK158.out⟩, ⟨by (with_reducible repeat (first | refine blk_drewN ?_ _ | refine blk_drew ?_ | refine blk_alloc ?_ _)); exact BK159.out⟩, ⟨by repeat (first | (with_reducible first | exact HB.out | apply below_alloc | apply pw_below_drewN | apply below_drew1 | refine below_set ?_ GE158.out | refine below_set ?_ GE159.out) | exact HB.out)⟩⟩
            case rest => as_aux_lemma =>
              clear HC10
              try clear c1
              try clear c2
              try clear c2b0
              try clear c2b1
              try clear p2
              try clear c7
              try clear c7b0
              try clear c8
              try clear c8b0
              try clear p9
              try clear q9
              try clear hx9
              try clear c11
              try clear c11b0
              try clear c11b1
              try clear c12
              try clear c12b0
              try clear c12b1
              try clear hcz4_0
              try clear hcz4_1
              try clear hcz4_2
              try clear hfz4_0
              try clear hfz4_1
              try clear hfz4_2
              try clear p2
              try clear p9
              try clear q9
              obtain ⟨kq, x28_9, rfl, HA, HJ9, HO_160000, BK158, BK159, HB⟩ := hcut
              cases kq with
              | zero => exact absurd HA.out (by simp [warpref9_Lex.j1])
              | succ kj9 =>
                have H := HA.out
                clear HA
                simp only [warpref9_Lex.j1] at H
                by_cases c13 : x28_9 = true
                · subst c13
                  have H1 : (warpref9_Lex.l0 kj9 a0 (wrap64 (x4_1 + 1)) x160000_1 0 0) = some (r1, r2, r3) := by rw [if_pos rfl] at H; exact H
                  clear H
                  have H := H1
                  clear H1
                  have H' := Aside0.mk H
                  clear H
                  go_wp2
                  go_roundg kj9
                  case measure => have := HK1.out; have := HJ9.out; omega
                  case rel => exact ⟨(wrap64 (x4_1 + 1)), (x159001_1), (x159002_1), (x160000_1), (u160000), (by first | rfl | (simp; done) | (simp [*]; done)), H', ⟨by have := HK1.out; have := HJ9.out; omega⟩, ⟨by (with_reducible repeat (first | apply Kd.R_alloc | apply Kd.R_drewN | apply Kd.R_drew)); exact HO_160000.out⟩, ⟨by (with_reducible repeat (first | refine blk_drewN ?_ _ | refine blk_drew ?_ | refine blk_alloc ?_ _)); exact BK158.out⟩, ⟨by (with_reducible repeat (first | refine blk_drewN ?_ _ | refine blk_drew ?_ | refine blk_alloc ?_ _)); exact BK159.out⟩, ⟨by repeat (first | (with_reducible first | exact HB.out | apply below_alloc | apply pw_below_drewN | apply below_drew1 | refine below_set ?_ GE158.out | refine below_set ?_ GE159.out) | exact HB.out)⟩⟩
                · replace c13 := Bool.eq_false_iff.mpr c13
                  subst c13
                  have H1 : (if (bt a0 x4_1) = 45 then (if (wrap64 (x4_1 + 1)) < (a0.size : Int) then (if 0 ≤ (wrap64 (x4_1 + 1)) then (warpref9_Lex.j2 kj9 a0 x4_1 (bt a0 x4_1) ((bt a0 (wrap64 (x4_1 + 1))) == 45) x160000_1 0 0) else (none)) else (warpref9_Lex.j2 kj9 a0 x4_1 (bt a0 x4_1) false x160000_1 0 0)) else (warpref9_Lex.j2 kj9 a0 x4_1 (bt a0 x4_1) false x160000_1 0 0)) = some (r1, r2, r3) := by rw [if_neg (show ¬ (false = true) by decide)] at H; exact H
                  clear H
                  have H := H1
                  clear H1
                  have HC14 := Aside0.mk H
                  clear H
                  go_upto_region 9 with (fail)
                  go_cut [46] (fun v46 wc => ∃ (kq : Nat) (x46_13 : Bool), v46 = .bool x46_13 ∧ Aside0 (warpref9_Lex.j2 kq a0 x4_1 (bt a0 x4_1) x46_13 x160000_1 0 0 = some (r1, r2, r3)) ∧ Aside0 (kq ≤ kj9) ∧ Aside0 (Kd.R k38 38 wc w.heap.size (fun _ => True) u160000 x160000_1) ∧ Aside0 (wc.heap[gb158]? = some (.cells #[(.slice none 0 0), .int .i64 x159001_1, .int .i64 x159002_1] 28 (0, 0))) ∧ Aside0 (wc.heap[gb159]? = some (.cells #[u160000, .int .i64 0, .int .i64 0] 28 (0, 0))) ∧ Aside0 (Below w.heap.size w wc))
                  case first => as_aux_lemma =>
                    have H := HC14.out
                    clear HC14
                    by_cases c15 : (bt a0 x4_1) = 45
                    · rw [if_pos c15] at H
                      have c15b0 : ((bt a0 x4_1) == 45) = true := beq_iff_eq.mpr c15
                      have c15b1 : ((bt a0 x4_1) != 45) = false := bne_eq_false_iff_eq.mpr c15
                      clear c15
                      (first | rw [c15b0] | (simp only [i64_w, i32_w]; rw [c15b0]) | skip)
                      by_cases c16 : (wrap64 (x4_1 + 1)) < (a0.size : Int)
                      · rw [if_pos c16] at H
                        have c16b0 : decide ((wrap64 (x4_1 + 1)) < (a0.size : Int)) = true := decide_eq_true c16
                        clear c16
                        obtain ⟨ji17, hji17⟩ : ∃ j_ : Int, (wrap64 (x4_1 + 1)) = j_ := ⟨_, rfl⟩
                        replace H : (if 0 ≤ (ji17) then (warpref9_Lex.j2 kj9 a0 x4_1 (bt a0 x4_1) ((bt a0 (ji17)) == 45) x160000_1 0 0) else (none)) = some (r1, r2, r3) := by first | (rw [hji17] at H; exact H) | (simp only [hji17] at H ⊢; exact H)
                        (try rw [hji17] at c16b0)
                        have hji17w : (IntKind.i64.wrap (x4_1 + 1)) = ji17 := (i64_w _).trans hji17
                        by_cases c18 : 0 ≤ (ji17)
                        · rw [if_pos c18] at H
                          have c18b0 : decide (0 ≤ (ji17)) = true := decide_eq_true c18
                          clear c18
                          have H' := Aside0.mk H
                          clear H
                          have p19 : 0 ≤ ((ji17) : Int) := of_decide_eq_true (by first | (with_reducible assumption) | assumption)
                          have q19 : (ji17) < (a0.size : Int) := of_decide_eq_true (by first | (with_reducible assumption) | assumption)
                          have hx19 := bt_at a0 (ji17)
                          replace p19 := eq_true p19
                          replace q19 := eq_true q19
                          go_wp2
                          go_meet
                          case rel => exact ⟨_, (((bt a0 (ji17)) == 45)), (by first | rfl | (simp; done) | (simp only [← hji17] <;> (first | rfl | simp)) | (simp [*]; done)), H', ⟨by have := HK1.out; have := HJ9.out; first | omega | exact Nat.le_refl _⟩, ⟨by (with_reducible repeat (first | apply Kd.R_alloc | apply Kd.R_drewN | apply Kd.R_drew)); exact HO_160000.out⟩, ⟨by (with_reducible repeat (first | refine blk_drewN ?_ _ | refine blk_drew ?_ | refine blk_alloc ?_ _)); exact BK158.out⟩, ⟨by (with_reducible repeat (first | refine blk_drewN ?_ _ | refine blk_drew ?_ | refine blk_alloc ?_ _)); exact BK159.out⟩, ⟨by repeat (first | (with_reducible first | exact HB.out | apply below_alloc | apply pw_below_drewN | apply below_drew1 | refine below_set ?_ GE158.out | refine below_set ?_ GE159.out) | exact HB.out)⟩⟩
                        · rw [if_neg c18] at H
                          exact absurd H (by simp)
                      · rw [if_neg c16] at H
                        have c16b0 : decide ((wrap64 (x4_1 + 1)) < (a0.size : Int)) = false := decide_eq_false c16
                        clear c16
                        have H' := Aside0.mk H
                        clear H
                        go_wp2
                        go_meet
                        case rel => exact ⟨_, (false), (by first | rfl | (simp; done) | (simp [*]; done)), H', ⟨by have := HK1.out; have := HJ9.out; first | omega | exact Nat.le_refl _⟩, ⟨by (with_reducible repeat (first | apply Kd.R_alloc | apply Kd.R_drewN | apply Kd.R_drew)); exact HO_160000.out⟩, ⟨by (with_reducible repeat (first | refine blk_drewN ?_ _ | refine blk_drew ?_ | refine blk_alloc ?_ _)); exact BK158.out⟩, ⟨by (with_reducible repeat (first | refine blk_drewN ?_ _ | refine blk_drew ?_ | refine blk_alloc ?_ _)); exact BK159.out⟩, ⟨by repeat (first | (with_reducible first | exact HB.out | apply below_alloc | apply pw_below_drewN | apply below_drew1 | refine below_set ?_ GE158.out | refine below_set ?_ GE159.out) | exact HB.out)⟩⟩
                    · rw [if_neg c15] at H
                      have c15b0 : ((bt a0 x4_1) == 45) = false := beq_eq_false_iff_ne.mpr c15
                      have c15b1 : ((bt a0 x4_1) != 45) = true := bne_iff_ne.mpr c15
                      (first | rw [c15b0] | (simp only [i64_w, i32_w]; rw [c15b0]) | skip)
                      have H' := Aside0.mk H
                      clear H
                      go_wp2
                      go_meet
                      case rel => exact ⟨_, (false), (by first | rfl | (simp; done) | (simp [*]; done)), H', ⟨by have := HK1.out; have := HJ9.out; first | omega | exact Nat.le_refl _⟩, ⟨by (with_reducible repeat (first | apply Kd.R_alloc | apply Kd.R_drewN | apply Kd.R_drew)); exact HO_160000.out⟩, ⟨by (with_reducible repeat (first | refine blk_drewN ?_ _ | refine blk_drew ?_ | refine blk_alloc ?_ _)); exact BK158.out⟩, ⟨by (with_reducible repeat (first | refine blk_drewN ?_ _ | refine blk_drew ?_ | refine blk_alloc ?_ _)); exact BK159.out⟩, ⟨by repeat (first | (with_reducible first | exact HB.out | apply below_alloc | apply pw_below_drewN | apply below_drew1 | refine below_set ?_ GE158.out | refine below_set ?_ GE159.out) | exact HB.out)⟩⟩
                  case rest => as_aux_lemma =>
                    clear HC14
                    try clear c1
                    try clear p1
                    try clear q1
                    try clear hx1
                    try clear c2
                    try clear c2b0
                    try clear c2b1
                    try clear p2
                    try clear p6
                    try clear c7
                    try clear c7b0
                    try clear c8
                    try clear c8b0
                    try clear p9
                    try clear q9
                    try clear hx9
                    try clear c11
                    try clear c11b0
                    try clear c11b1
                    try clear c12
                    try clear c12b0
                    try clear c12b1
                    try clear c13
                    try clear c15
                    try clear c15b0
                    try clear c15b1
                    try clear c16
                    try clear c16b0
                    try clear c18
                    try clear c18b0
                    try clear p19
                    try clear q19
                    try clear hx19
                    try clear hcz4_0
                    try clear hcz4_1
                    try clear hcz4_2
                    try clear hfz4_0
                    try clear hfz4_1
                    try clear hfz4_2
                    try clear p19
                    try clear p2
                    try clear p9
                    try clear q19
                    try clear q9
                    obtain ⟨kq, x46_13, rfl, HA, HJ13, HO_160000, BK158, BK159, HB⟩ := hcut
                    cases kq with
                    | zero => exact absurd HA.out (by simp [warpref9_Lex.j2])
                    | succ kj13 =>
                      have H := HA.out
                      clear HA
                      simp only [warpref9_Lex.j2] at H
                      by_cases c20 : x46_13 = true
                      · subst c20
                        have H1 : (warpref9_Lex.l1 kj13 a0 x4_1 x160000_1 0 0) = some (r1, r2, r3) := by rw [if_pos rfl] at H; exact H
                        clear H
                        have H := H1
                        clear H1
                        have H' := Aside0.mk H
                        clear H
                        go_wp2
                        go_loopg [4] kj13 (fun kq v4 w' => ∃ (x4_4 : Int), v4 = .int .i64 x4_4 ∧ Aside0 (warpref9_Lex.l1 kq a0 x4_4 x160000_1 0 0 = some (r1, r2, r3)) ∧ Aside0 (kq ≤ kj13) ∧ Aside0 (Kd.R k38 38 w' w.heap.size (fun _ => True) u160000 x160000_1) ∧ Aside0 (w'.heap[gb158]? = some (.cells #[(.slice none 0 0), .int .i64 x159001_1, .int .i64 x159002_1] 28 (0, 0))) ∧ Aside0 (w'.heap[gb159]? = some (.cells #[u160000, .int .i64 0, .int .i64 0] 28 (0, 0))) ∧ Aside0 (Below w.heap.size w w'))
                        case atStart => exact ⟨(x4_1), (by first | rfl | (simp; done) | (simp [*]; done)), H', ⟨Nat.le_refl _⟩, ⟨by (with_reducible repeat (first | apply Kd.R_alloc | apply Kd.R_drewN | apply Kd.R_drew)); exact HO_160000.out⟩, ⟨by (with_reducible repeat (first | refine blk_drewN ?_ _ | refine blk_drew ?_ | refine blk_alloc ?_ _)); exact BK158.out⟩, ⟨by (with_reducible repeat (first | refine blk_drewN ?_ _ | refine blk_drew ?_ | refine blk_alloc ?_ _)); exact BK159.out⟩, ⟨by repeat (first | (with_reducible first | exact HB.out | apply below_alloc | apply pw_below_drewN | apply below_drew1 | refine below_set ?_ GE158.out | refine below_set ?_ GE159.out) | exact HB.out)⟩⟩
                        case round => as_aux_lemma =>
                          clear H'
                          try clear c1
                          try clear p1
                          try clear q1
                          try clear hx1
                          try clear c2
                          try clear c2b0
                          try clear c2b1
                          try clear p2
                          try clear p6
                          try clear c7
                          try clear c7b0
                          try clear c8
                          try clear c8b0
                          try clear p9
                          try clear q9
                          try clear hx9
                          try clear c11
                          try clear c11b0
                          try clear c11b1
                          try clear c12
                          try clear c12b0
                          try clear c12b1
                          try clear c13
                          try clear c15
                          try clear c15b0
                          try clear c15b1
                          try clear c16
                          try clear c16b0
                          try clear c18
                          try clear c18b0
                          try clear p19
                          try clear q19
                          try clear hx19
                          try clear c20
                          try clear hcz4_0
                          try clear hcz4_1
                          try clear hcz4_2
                          try clear hfz4_0
                          try clear hfz4_1
                          try clear hfz4_2
                          try clear p1
                          try clear p19
                          try clear p2
                          try clear p6
                          try clear p9
                          try clear q1
                          try clear q19
                          try clear q9
                          obtain ⟨x4_4, rfl, HA, HK4, HO_160000, BK158, BK159, HB⟩ := hrel
                          cases gk with
                          | zero => exact absurd HA.out (by simp [warpref9_Lex.l1])
                          | succ k4 =>
                            have H := HA.out
                            clear HA
                            simp only [warpref9_Lex.l1] at H
                            by_cases c21 : x4_4 < (a0.size : Int)
                            · rw [if_pos c21] at H
                              have c21b0 : decide (x4_4 < (a0.size : Int)) = true := decide_eq_true c21
                              clear c21
                              by_cases c22 : 0 ≤ x4_4
                              · rw [if_pos c22] at H
                                have c22b0 : decide (0 ≤ x4_4) = true := decide_eq_true c22
                                clear c22
                                by_cases c24 : (bt a0 x4_4) = 10
                                · rw [if_pos c24] at H
                                  have c24b0 : ((bt a0 x4_4) == 10) = true := beq_iff_eq.mpr c24
                                  have c24b1 : ((bt a0 x4_4) != 10) = false := bne_eq_false_iff_eq.mpr c24
                                  clear c24
                                  have H' := Aside0.mk H
                                  clear H
                                  have p23 : 0 ≤ (x4_4 : Int) := of_decide_eq_true (by first | (with_reducible assumption) | assumption)
                                  have q23 : x4_4 < (a0.size : Int) := of_decide_eq_true (by first | (with_reducible assumption) | assumption)
                                  have hx23 := bt_at a0 x4_4
                                  replace p23 := eq_true p23
                                  replace q23 := eq_true q23
                                  go_wp2
                                  go_roundg k4
                                  case measure => have := HK1.out; have := HJ9.out; have := HJ13.out; have := HK4.out; omega
                                  case rel => exact ⟨(x4_4), (x159001_1), (x159002_1), (x160000_1), (u160000), (by first | rfl | (simp; done) | (simp [*]; done)), H', ⟨by have := HK1.out; have := HJ9.out; have := HJ13.out; have := HK4.out; omega⟩, ⟨by (with_reducible repeat (first | apply Kd.R_alloc | apply Kd.R_drewN | apply Kd.R_drew)); exact HO_160000.out⟩, ⟨by (with_reducible repeat (first | refine blk_drewN ?_ _ | refine blk_drew ?_ | refine blk_alloc ?_ _)); exact BK158.out⟩, ⟨by (with_reducible repeat (first | refine blk_drewN ?_ _ | refine blk_drew ?_ | refine blk_alloc ?_ _)); exact BK159.out⟩, ⟨by repeat (first | (with_reducible first | exact HB.out | apply below_alloc | apply pw_below_drewN | apply below_drew1 | refine below_set ?_ GE158.out | refine below_set ?_ GE159.out) | exact HB.out)⟩⟩
                                · rw [if_neg c24] at H
                                  have c24b0 : ((bt a0 x4_4) == 10) = false := beq_eq_false_iff_ne.mpr c24
                                  have c24b1 : ((bt a0 x4_4) != 10) = true := bne_iff_ne.mpr c24
                                  have H' := Aside0.mk H
                                  clear H
                                  have p23 : 0 ≤ (x4_4 : Int) := of_decide_eq_true (by first | (with_reducible assumption) | assumption)
                                  have q23 : x4_4 < (a0.size : Int) := of_decide_eq_true (by first | (with_reducible assumption) | assumption)
                                  have hx23 := bt_at a0 x4_4
                                  replace p23 := eq_true p23
                                  replace q23 := eq_true q23
                                  go_wp2
                                  go_roundg k4
                                  case measure => have := HK1.out; have := HJ9.out; have := HJ13.out; have := HK4.out; omega
                                  case rel => exact ⟨(wrap64 (x4_4 + 1)), (by first | rfl | (simp; done) | (simp [*]; done)), H', ⟨by have := HK1.out; have := HJ9.out; have := HJ13.out; have := HK4.out; omega⟩, ⟨by (with_reducible repeat (first | apply Kd.R_alloc | apply Kd.R_drewN | apply Kd.R_drew)); exact HO_160000.out⟩, ⟨by (with_reducible repeat (first | refine blk_drewN ?_ _ | refine blk_drew ?_ | refine blk_alloc ?_ _)); exact BK158.out⟩, ⟨by (with_reducible repeat (first | refine blk_drewN ?_ _ | refine blk_drew ?_ | refine blk_alloc ?_ _)); exact BK159.out⟩, ⟨by repeat (first | (with_reducible first | exact HB.out | apply below_alloc | apply pw_below_drewN | apply below_drew1 | refine below_set ?_ GE158.out | refine below_set ?_ GE159.out) | exact HB.out)⟩⟩
                              · rw [if_neg c22] at H
                                exact absurd H (by simp)
                            · rw [if_neg c21] at H
                              have c21b0 : decide (x4_4 < (a0.size : Int)) = false := decide_eq_false c21
                              clear c21
                              have H' := Aside0.mk H
                              clear H
                              go_wp2
                              go_roundg k4
                              case measure => have := HK1.out; have := HJ9.out; have := HJ13.out; have := HK4.out; omega
                              case rel => exact ⟨(x4_4), (x159001_1), (x159002_1), (x160000_1), (u160000), (by first | rfl | (simp; done) | (simp [*]; done)), H', ⟨by have := HK1.out; have := HJ9.out; have := HJ13.out; have := HK4.out; omega⟩, ⟨by (with_reducible repeat (first | apply Kd.R_alloc | apply Kd.R_drewN | apply Kd.R_drew)); exact HO_160000.out⟩, ⟨by (with_reducible repeat (first | refine blk_drewN ?_ _ | refine blk_drew ?_ | refine blk_alloc ?_ _)); exact BK158.out⟩, ⟨by (with_reducible repeat (first | refine blk_drewN ?_ _ | refine blk_drew ?_ | refine blk_alloc ?_ _)); exact BK159.out⟩, ⟨by repeat (first | (with_reducible first | exact HB.out | apply below_alloc | apply pw_below_drewN | apply below_drew1 | refine below_set ?_ GE158.out | refine below_set ?_ GE159.out) | exact HB.out)⟩⟩
                      · replace c20 := Bool.eq_false_iff.mpr c20
                        subst c20
                        have H1 : ((warpref9_lower.f (bt a0 x4_1)).bind fun t161 => (if t161 = true then (warpref9_Lex.j4 kj13 a0 x4_1 (bt a0 x4_1) x4_1 true x160000_1 0 0 0 x4_1 (⟨#[]⟩ : ByteArray) 0) else ((warpref9_upper.f (bt a0 x4_1)).bind fun t162 => (warpref9_Lex.j4 kj13 a0 x4_1 (bt a0 x4_1) x4_1 t162 x160000_1 0 0 0 x4_1 (⟨#[]⟩ : ByteArray) 0)))) = some (r1, r2, r3) := by rw [if_neg (show ¬ (false = true) by decide)] at H; exact H
                        clear H
                        have H := H1
                        clear H1
                        have HC25 := Aside0.mk H
                        clear H
                        go_upto_block 4 with (first | ((with_reducible refine gate_dst (N := 6) rfl ?_); (try (refine gate_guard (by rfl) ?_; dsimp only)); refine box_event ?hg (N := 6) ?hd (cs := #[.int .i64 0, .int .i64 0, .string (⟨#[]⟩ : ByteArray), .int .i64 0]) (t := 38) ?hr ?_; (case hd => rfl); (case hg => rfl); (case hr => first | (go_simp; done) | (go_simp; rfl)); intro gb160 hg w26 hbox hb; have n0_ := Aside0.mk (Kd.R_below (Kd.R_elderB (by (with_reducible repeat (first | apply Kd.R_alloc | apply Kd.R_drewN | apply Kd.R_drew)); exact HO_160000.out) gb160 (Nat.le_of_eq hg.symm)) hb); have n1_ := Aside0.mk (blk_below (g := gb158) (o := .cells #[.slice none 0 0, .int .i64 x159001_1, .int .i64 x159002_1] 28 (0, 0)) (by (with_reducible repeat (first | refine blk_drewN ?_ _ | refine blk_drew ?_ | refine blk_alloc ?_ _)); exact BK158.out) hb); have n2_ := Aside0.mk (blk_below (g := gb159) (o := .cells #[u160000, .int .i64 0, .int .i64 0] 28 (0, 0)) (by (with_reducible repeat (first | refine blk_drewN ?_ _ | refine blk_drew ?_ | refine blk_alloc ?_ _)); exact BK159.out) hb); have n3_ := Aside0.mk (below_step (by repeat (first | (with_reducible first | exact HB.out | apply below_alloc | apply pw_below_drewN | apply below_drew1 | refine below_set ?_ GE158.out | refine below_set ?_ GE159.out) | exact HB.out)) hb); have n4_ := Aside0.mk (hbox); have n5_ := Aside0.mk ((by rw [hg]; exact (below_size (by repeat (first | (with_reducible first | exact HB.out | apply below_alloc | apply pw_below_drewN | apply below_drew1 | refine below_set ?_ GE158.out | refine below_set ?_ GE159.out) | exact HB.out))) : w.heap.size ≤ gb160)); have n6_ := Aside0.mk ((by rw [hg]; exact (below_size (by repeat (first | (with_reducible first | exact HB.out | apply below_alloc | apply pw_below_drewN | apply below_drew1 | refine below_set ?_ GE158.out | refine below_set ?_ GE159.out) | exact HB.out))) : w.heap.size ≤ gb160)); have n7_ := Aside0.mk ((by rw [hg]; exact Nat.ne_of_lt (blk_lt (g := gb158) (o := .cells #[.slice none 0 0, .int .i64 x159001_1, .int .i64 x159002_1] 28 (0, 0)) (by (with_reducible repeat (first | refine blk_drewN ?_ _ | refine blk_drew ?_ | refine blk_alloc ?_ _)); exact BK158.out)) : gb158 ≠ gb160)); have n8_ := Aside0.mk ((by rw [hg]; exact Nat.ne_of_gt (blk_lt (g := gb158) (o := .cells #[.slice none 0 0, .int .i64 x159001_1, .int .i64 x159002_1] 28 (0, 0)) (by (with_reducible repeat (first | refine blk_drewN ?_ _ | refine blk_drew ?_ | refine blk_alloc ?_ _)); exact BK158.out)) : gb160 ≠ gb158)); have n9_ := Aside0.mk ((by rw [hg]; exact Nat.ne_of_lt (blk_lt (g := gb159) (o := .cells #[u160000, .int .i64 0, .int .i64 0] 28 (0, 0)) (by (with_reducible repeat (first | refine blk_drewN ?_ _ | refine blk_drew ?_ | refine blk_alloc ?_ _)); exact BK159.out)) : gb159 ≠ gb160)); have n10_ := Aside0.mk ((by rw [hg]; exact Nat.ne_of_gt (blk_lt (g := gb159) (o := .cells #[u160000, .int .i64 0, .int .i64 0] 28 (0, 0)) (by (with_reducible repeat (first | refine blk_drewN ?_ _ | refine blk_drew ?_ | refine blk_alloc ?_ _)); exact BK159.out)) : gb160 ≠ gb159)); clear HO_160000; clear BK158; clear BK159; clear HB; have HO_160000 := n0_; have BK158 := n1_; have BK159 := n2_; have HB := n3_; have BK160 := n4_; have GW160 := n5_; have GE160 := n6_; have NB158_160 := n7_; have NB160_158 := n8_; have NB159_160 := n9_; have NB160_159 := n10_; clear n0_ n1_ n2_ n3_ n4_ n5_ n6_ n7_ n8_ n9_ n10_; clear hb hbox hg; have hnb27 := NB160_158.out; have hnc27 := NB158_160.out; have hnb28 := NB160_159.out; have hnc28 := NB159_160.out; have hcz29_0 : w26.cell? ⟨gb160, 0, none⟩ = some (.int .i64 0) := (blk_cell BK160.out 0).trans rfl; have hcz29_1 : w26.cell? ⟨gb160, 1, none⟩ = some (.int .i64 0) := (blk_cell BK160.out 1).trans rfl; have hcz29_2 : w26.cell? ⟨gb160, 2, none⟩ = some (.string (⟨#[]⟩ : ByteArray)) := (blk_cell BK160.out 2).trans rfl; have hcz29_3 : w26.cell? ⟨gb160, 3, none⟩ = some (.int .i64 0) := (blk_cell BK160.out 3).trans rfl; have hfz29_0 := blk_frozen BK160.out 0; have hfz29_1 := blk_frozen BK160.out 1; have hfz29_2 := blk_frozen BK160.out 2; have hfz29_3 := blk_frozen BK160.out 3))
                        (try simp only [Act.put, List.setIfInBounds_toArray, List.set_cons_zero, List.set_cons_succ])
                        go_cut [7] (fun v7 wc => ∃ (kq : Nat) (x7_24 : Int) (x161000_24 : Int) (x161002_24 : ByteArray) (x161003_24 : Int), v7 = .int .i64 x7_24 ∧ Aside0 (warpref9_Lex.j11 kq a0 x4_1 x7_24 x160000_1 0 0 x161000_24 x4_1 x161002_24 x161003_24 = some (r1, r2, r3)) ∧ Aside0 (kq ≤ kj13) ∧ Aside0 (Kd.R k38 38 wc w.heap.size (fun k_ => k_ ≠ gb160) u160000 x160000_1) ∧ Aside0 (wc.heap[gb158]? = some (.cells #[(.slice none 0 0), .int .i64 x159001_1, .int .i64 x159002_1] 28 (0, 0))) ∧ Aside0 (wc.heap[gb159]? = some (.cells #[u160000, .int .i64 0, .int .i64 0] 28 (0, 0))) ∧ Aside0 (wc.heap[gb160]? = some (.cells #[.int .i64 x161000_24, .int .i64 x4_1, .string x161002_24, .int .i64 x161003_24] 38 (0, 0))) ∧ Aside0 (Below w.heap.size w wc))
                        case first => as_aux_lemma =>
                          have H := HC25.out
                          clear HC25
                          have HC30 := Aside0.mk H
                          clear H
                          go_upto_region 14 with (fail)
                          go_cut [62] (fun v62 wc => ∃ (kq : Nat) (x62_29 : Bool), v62 = .bool x62_29 ∧ Aside0 (warpref9_Lex.j4 kq a0 x4_1 (bt a0 x4_1) x4_1 x62_29 x160000_1 0 0 0 x4_1 (⟨#[]⟩ : ByteArray) 0 = some (r1, r2, r3)) ∧ Aside0 (kq ≤ kj13) ∧ Aside0 (Kd.R k38 38 wc w.heap.size (fun k_ => k_ ≠ gb160) u160000 x160000_1) ∧ Aside0 (wc.heap[gb158]? = some (.cells #[(.slice none 0 0), .int .i64 x159001_1, .int .i64 x159002_1] 28 (0, 0))) ∧ Aside0 (wc.heap[gb159]? = some (.cells #[u160000, .int .i64 0, .int .i64 0] 28 (0, 0))) ∧ Aside0 (wc.heap[gb160]? = some (.cells #[.int .i64 0, .int .i64 x4_1, .string (⟨#[]⟩ : ByteArray), .int .i64 0] 38 (0, 0))) ∧ Aside0 (Below w.heap.size w wc))
                          case first => as_aux_lemma =>
                            have H := HC30.out
                            clear HC30
                            replace H := Option.bind_eq_some_iff.mp H
                            obtain ⟨t161, A310, H⟩ := H
                            replace H : (if t161 = true then (warpref9_Lex.j4 kj13 a0 x4_1 (bt a0 x4_1) x4_1 true x160000_1 0 0 0 x4_1 (⟨#[]⟩ : ByteArray) 0) else ((warpref9_upper.f (bt a0 x4_1)).bind fun t162 => (warpref9_Lex.j4 kj13 a0 x4_1 (bt a0 x4_1) x4_1 t162 x160000_1 0 0 0 x4_1 (⟨#[]⟩ : ByteArray) 0))) = some (r1, r2, r3) := H
                            have A31 := Aside0.mk A310
                            clear A310
                            by_cases c32 : t161 = true
                            · subst c32
                              have H1 : (warpref9_Lex.j4 kj13 a0 x4_1 (bt a0 x4_1) x4_1 true x160000_1 0 0 0 x4_1 (⟨#[]⟩ : ByteArray) 0) = some (r1, r2, r3) := by rw [if_pos rfl] at H; exact H
                              clear H
                              have H := H1
                              clear H1
                              have H' := Aside0.mk H
                              clear H
                              go_wp2_with (first | ((with_reducible refine gate_callee (f := 22) rfl ?_); refine goesL_ (some 64) rfl rfl Try.func22 (by kernel_rfl) rfl #[.int .u8 (bt a0 x4_1)] rfl (by (try simp only [List.map_toArray, List.map_cons, List.map_nil]); first | done | rfl | (simp only [List.length_drop, List.length_take]; rfl)) ?_; (with_reducible refine (warpref9_lower.calls (bt a0 x4_1) true _ A31.out).mono ?_); rintro e w' ⟨rfl, ⟨nd, rfl⟩⟩; refine ⟨_, rfl, ?_⟩))
                              go_meet
                              case rel => exact ⟨_, (true), (by first | rfl | (simp; done) | (simp [*]; done)), H', ⟨by have := HK1.out; have := HJ9.out; have := HJ13.out; first | omega | exact Nat.le_refl _⟩, ⟨by (with_reducible repeat (first | apply Kd.R_alloc | apply Kd.R_drewN | apply Kd.R_drew)); exact Kd.R_mono (Kd.R_far (p := ⟨gb160, 3, none⟩) (Kd.R_far (p := ⟨gb160, 2, none⟩) (Kd.R_far (p := ⟨gb160, 1, none⟩) (Kd.R_far (p := ⟨gb160, 0, none⟩) (Kd.R_mono HO_160000.out (fun k_ hk => (⟨hk, hk.2⟩ : _ ∧ k_ ≠ gb160))) (fun _ hk => hk.2) (.int .i64 0)) (fun _ hk => hk.2) (.int .i64 x4_1)) (fun _ hk => hk.2) (.string (⟨#[]⟩ : ByteArray))) (fun _ hk => hk.2) (.int .i64 0)) (fun _ hk => hk.1.2)⟩, ⟨by (with_reducible repeat (first | refine blk_drewN ?_ _ | refine blk_drew ?_ | refine blk_alloc ?_ _)); refine blk_far ?_ NB158_160.out _; (with_reducible repeat (first | refine blk_drewN ?_ _ | refine blk_drew ?_ | refine blk_alloc ?_ _)); refine blk_far ?_ NB158_160.out _; (with_reducible repeat (first | refine blk_drewN ?_ _ | refine blk_drew ?_ | refine blk_alloc ?_ _)); refine blk_far ?_ NB158_160.out _; (with_reducible repeat (first | refine blk_drewN ?_ _ | refine blk_drew ?_ | refine blk_alloc ?_ _)); refine blk_far ?_ NB158_160.out _; (with_reducible repeat (first | refine blk_drewN ?_ _ | refine blk_drew ?_ | refine blk_alloc ?_ _)); exact BK158.out⟩, ⟨by (with_reducible repeat (first | refine blk_drewN ?_ _ | refine blk_drew ?_ | refine blk_alloc ?_ _)); refine blk_far ?_ NB159_160.out _; (with_reducible repeat (first | refine blk_drewN ?_ _ | refine blk_drew ?_ | refine blk_alloc ?_ _)); refine blk_far ?_ NB159_160.out _; (with_reducible repeat (first | refine blk_drewN ?_ _ | refine blk_drew ?_ | refine blk_alloc ?_ _)); refine blk_far ?_ NB159_160.out _; (with_reducible repeat (first | refine blk_drewN ?_ _ | refine blk_drew ?_ | refine blk_alloc ?_ _)); refine blk_far ?_ NB159_160.out _; (with_reducible repeat (first | refine blk_drewN ?_ _ | refine blk_drew ?_ | refine blk_alloc ?_ _)); exact BK159.out⟩, ⟨by (with_reducible repeat (first | refine blk_drewN ?_ _ | refine blk_drew ?_ | refine blk_alloc ?_ _)); refine blk_put (cs := #[.int .i64 0, .int .i64 x4_1, .string (⟨#[]⟩ : ByteArray), .int .i64 0]) ?_ 3 _ rfl; (with_reducible repeat (first | refine blk_drewN ?_ _ | refine blk_drew ?_ | refine blk_alloc ?_ _)); refine blk_put (cs := #[.int .i64 0, .int .i64 x4_1, .string (⟨#[]⟩ : ByteArray), .int .i64 0]) ?_ 2 _ rfl; (with_reducible repeat (first | refine blk_drewN ?_ _ | refine blk_drew ?_ | refine blk_alloc ?_ _)); refine blk_put (cs := #[.int .i64 0, .int .i64 0, .string (⟨#[]⟩ : ByteArray), .int .i64 0]) ?_ 1 _ rfl; (with_reducible repeat (first | refine blk_drewN ?_ _ | refine blk_drew ?_ | refine blk_alloc ?_ _)); refine blk_put (cs := #[.int .i64 0, .int .i64 0, .string (⟨#[]⟩ : ByteArray), .int .i64 0]) ?_ 0 _ rfl; (with_reducible repeat (first | refine blk_drewN ?_ _ | refine blk_drew ?_ | refine blk_alloc ?_ _)); exact BK160.out⟩, ⟨by repeat (first | (with_reducible first | exact HB.out | apply below_alloc | apply pw_below_drewN | apply below_drew1 | refine below_set ?_ GE158.out | refine below_set ?_ GE159.out | refine below_set ?_ GE160.out) | exact HB.out)⟩⟩
                            · replace c32 := Bool.eq_false_iff.mpr c32
                              subst c32
                              have H1 : ((warpref9_upper.f (bt a0 x4_1)).bind fun t162 => (warpref9_Lex.j4 kj13 a0 x4_1 (bt a0 x4_1) x4_1 t162 x160000_1 0 0 0 x4_1 (⟨#[]⟩ : ByteArray) 0)) = some (r1, r2, r3) := by rw [if_neg (show ¬ (false = true) by decide)] at H; exact H
                              clear H
                              have H := H1
                              clear H1
                              replace H := Option.bind_eq_some_iff.mp H
                              obtain ⟨t162, A330, H⟩ := H
                              replace H : (warpref9_Lex.j4 kj13 a0 x4_1 (bt a0 x4_1) x4_1 t162 x160000_1 0 0 0 x4_1 (⟨#[]⟩ : ByteArray) 0) = some (r1, r2, r3) := H
                              have A33 := Aside0.mk A330
                              clear A330
                              have H' := Aside0.mk H
                              clear H
                              go_wp2_with (first | ((with_reducible refine gate_callee (f := 22) rfl ?_); refine goesL_ (some 64) rfl rfl Try.func22 (by kernel_rfl) rfl #[.int .u8 (bt a0 x4_1)] rfl (by (try simp only [List.map_toArray, List.map_cons, List.map_nil]); first | done | rfl | (simp only [List.length_drop, List.length_take]; rfl)) ?_; (with_reducible refine (warpref9_lower.calls (bt a0 x4_1) false _ A31.out).mono ?_); rintro e w' ⟨rfl, ⟨nd, rfl⟩⟩; refine ⟨_, rfl, ?_⟩) | (go_at_call 23; (with_reducible refine (warpref9_upper.calls (bt a0 x4_1) t162 _ A33.out).mono ?_); rintro e w' ⟨rfl, ⟨nd, rfl⟩⟩))
                              go_meet
                              case rel => exact ⟨_, (t162), (by first | rfl | (simp; done) | (simp [*]; done)), H', ⟨by have := HK1.out; have := HJ9.out; have := HJ13.out; first | omega | exact Nat.le_refl _⟩, ⟨by (with_reducible repeat (first | apply Kd.R_alloc | apply Kd.R_drewN | apply Kd.R_drew)); exact Kd.R_mono (Kd.R_far (p := ⟨gb160, 3, none⟩) (Kd.R_far (p := ⟨gb160, 2, none⟩) (Kd.R_far (p := ⟨gb160, 1, none⟩) (Kd.R_far (p := ⟨gb160, 0, none⟩) (Kd.R_mono HO_160000.out (fun k_ hk => (⟨hk, hk.2⟩ : _ ∧ k_ ≠ gb160))) (fun _ hk => hk.2) (.int .i64 0)) (fun _ hk => hk.2) (.int .i64 x4_1)) (fun _ hk => hk.2) (.string (⟨#[]⟩ : ByteArray))) (fun _ hk => hk.2) (.int .i64 0)) (fun _ hk => hk.1.2)⟩, ⟨by (with_reducible repeat (first | refine blk_drewN ?_ _ | refine blk_drew ?_ | refine blk_alloc ?_ _)); refine blk_far ?_ NB158_160.out _; (with_reducible repeat (first | refine blk_drewN ?_ _ | refine blk_drew ?_ | refine blk_alloc ?_ _)); refine blk_far ?_ NB158_160.out _; (with_reducible repeat (first | refine blk_drewN ?_ _ | refine blk_drew ?_ | refine blk_alloc ?_ _)); refine blk_far ?_ NB158_160.out _; (with_reducible repeat (first | refine blk_drewN ?_ _ | refine blk_drew ?_ | refine blk_alloc ?_ _)); refine blk_far ?_ NB158_160.out _; (with_reducible repeat (first | refine blk_drewN ?_ _ | refine blk_drew ?_ | refine blk_alloc ?_ _)); exact BK158.out⟩, ⟨by (with_reducible repeat (first | refine blk_drewN ?_ _ | refine blk_drew ?_ | refine blk_alloc ?_ _)); refine blk_far ?_ NB159_160.out _; (with_reducible repeat (first | refine blk_drewN ?_ _ | refine blk_drew ?_ | refine blk_alloc ?_ _)); refine blk_far ?_ NB159_160.out _; (with_reducible repeat (first | refine blk_drewN ?_ _ | refine blk_drew ?_ | refine blk_alloc ?_ _)); refine blk_far ?_ NB159_160.out _; (with_reducible repeat (first | refine blk_drewN ?_ _ | refine blk_drew ?_ | refine blk_alloc ?_ _)); refine blk_far ?_ NB159_160.out _; (with_reducible repeat (first | refine blk_drewN ?_ _ | refine blk_drew ?_ | refine blk_alloc ?_ _)); exact BK159.out⟩, ⟨by (with_reducible repeat (first | refine blk_drewN ?_ _ | refine blk_drew ?_ | refine blk_alloc ?_ _)); refine blk_put (cs := #[.int .i64 0, .int .i64 x4_1, .string (⟨#[]⟩ : ByteArray), .int .i64 0]) ?_ 3 _ rfl; (with_reducible repeat (first | refine blk_drewN ?_ _ | refine blk_drew ?_ | refine blk_alloc ?_ _)); refine blk_put (cs := #[.int .i64 0, .int .i64 x4_1, .string (⟨#[]⟩ : ByteArray), .int .i64 0]) ?_ 2 _ rfl; (with_reducible repeat (first | refine blk_drewN ?_ _ | refine blk_drew ?_ | refine blk_alloc ?_ _)); refine blk_put (cs := #[.int .i64 0, .int .i64 0, .string (⟨#[]⟩ : ByteArray), .int .i64 0]) ?_ 1 _ rfl; (with_reducible repeat (first | refine blk_drewN ?_ _ | refine blk_drew ?_ | refine blk_alloc ?_ _)); refine blk_put (cs := #[.int .i64 0, .int .i64 0, .string (⟨#[]⟩ : ByteArray), .int .i64 0]) ?_ 0 _ rfl; (with_reducible repeat (first | refine blk_drewN ?_ _ | refine blk_drew ?_ | refine blk_alloc ?_ _)); exact BK160.out⟩, ⟨by repeat (first | (with_reducible first | exact HB.out | apply below_alloc | apply pw_below_drewN | apply below_drew1 | refine below_set ?_ GE158.out | refine below_set ?_ GE159.out | refine below_set ?_ GE160.out) | exact HB.out)⟩⟩
                          case rest => as_aux_lemma =>
                            clear HC30
                            try clear c1
                            try clear p1
                            try clear q1
                            try clear hx1
                            try clear c2
                            try clear c2b0
                            try clear c2b1
                            try clear p2
                            try clear q2
                            try clear hx2
                            try clear c3
                            try clear p6
                            try clear c7
                            try clear c7b0
                            try clear c8
                            try clear c8b0
                            try clear p9
                            try clear q9
                            try clear hx9
                            try clear c11
                            try clear c11b0
                            try clear c11b1
                            try clear c12
                            try clear c12b0
                            try clear c12b1
                            try clear c13
                            try clear c15
                            try clear c15b0
                            try clear c15b1
                            try clear c16
                            try clear c16b0
                            try clear c18
                            try clear c18b0
                            try clear p19
                            try clear q19
                            try clear hx19
                            try clear c20
                            try clear c21
                            try clear c21b0
                            try clear c22
                            try clear c22b0
                            try clear p23
                            try clear q23
                            try clear hx23
                            try clear c24
                            try clear c24b0
                            try clear c24b1
                            try clear c27
                            try clear c28
                            try clear c32
                            try clear hcz29_0
                            try clear hcz29_1
                            try clear hcz29_2
                            try clear hcz29_3
                            try clear hcz4_0
                            try clear hcz4_1
                            try clear hcz4_2
                            try clear hfz29_0
                            try clear hfz29_1
                            try clear hfz29_2
                            try clear hfz29_3
                            try clear hfz4_0
                            try clear hfz4_1
                            try clear hfz4_2
                            try clear p1
                            try clear p19
                            try clear p2
                            try clear p23
                            try clear p6
                            try clear p9
                            try clear q1
                            try clear q19
                            try clear q23
                            try clear q9
                            obtain ⟨kq, x62_29, rfl, HA, HJ29, HO_160000, BK158, BK159, BK160, HB⟩ := hcut
                            cases kq with
                            | zero => exact absurd HA.out (by simp [warpref9_Lex.j4])
                            | succ kj29 =>
                              have H := HA.out
                              clear HA
                              simp only [warpref9_Lex.j4] at H
                              by_cases c34 : x62_29 = true
                              · subst c34
                                have H1 : (warpref9_Lex.l2 kj29 a0 x4_1 x4_1 x160000_1 0 0 0 x4_1 (⟨#[]⟩ : ByteArray) 0) = some (r1, r2, r3) := by rw [if_pos rfl] at H; exact H
                                clear H
                                have H := H1
                                clear H1
                                have HC35 := Aside0.mk H
                                clear H
                                go_upto_block 5 with (fail)
                                go_cut [7] (fun v7 wc => ∃ (kq : Nat) (x7_34 : Int), v7 = .int .i64 x7_34 ∧ Aside0 (warpref9_Lex.j6 kq a0 x4_1 x7_34 x160000_1 0 0 0 x4_1 (⟨#[]⟩ : ByteArray) 0 = some (r1, r2, r3)) ∧ Aside0 (kq ≤ kj29) ∧ Aside0 (Kd.R k38 38 wc w.heap.size (fun k_ => k_ ≠ gb160) u160000 x160000_1) ∧ Aside0 (wc.heap[gb158]? = some (.cells #[(.slice none 0 0), .int .i64 x159001_1, .int .i64 x159002_1] 28 (0, 0))) ∧ Aside0 (wc.heap[gb159]? = some (.cells #[u160000, .int .i64 0, .int .i64 0] 28 (0, 0))) ∧ Aside0 (wc.heap[gb160]? = some (.cells #[.int .i64 0, .int .i64 x4_1, .string (⟨#[]⟩ : ByteArray), .int .i64 0] 38 (0, 0))) ∧ Aside0 (Below w.heap.size w wc))
                                case first => as_aux_lemma =>
                                  have H := HC35.out
                                  clear HC35
                                  have H' := Aside0.mk H
                                  clear H
                                  go_wp2
                                  go_loopg [7] kj29 (fun kq v7 w' => ∃ (x7_5 : Int), v7 = .int .i64 x7_5 ∧ Aside0 (warpref9_Lex.l2 kq a0 x4_1 x7_5 x160000_1 0 0 0 x4_1 (⟨#[]⟩ : ByteArray) 0 = some (r1, r2, r3)) ∧ Aside0 (kq ≤ kj29) ∧ Aside0 (Kd.R k38 38 w' w.heap.size (fun k_ => k_ ≠ gb160) u160000 x160000_1) ∧ Aside0 (w'.heap[gb158]? = some (.cells #[(.slice none 0 0), .int .i64 x159001_1, .int .i64 x159002_1] 28 (0, 0))) ∧ Aside0 (w'.heap[gb159]? = some (.cells #[u160000, .int .i64 0, .int .i64 0] 28 (0, 0))) ∧ Aside0 (w'.heap[gb160]? = some (.cells #[.int .i64 0, .int .i64 x4_1, .string (⟨#[]⟩ : ByteArray), .int .i64 0] 38 (0, 0))) ∧ Aside0 (Below w.heap.size w w'))
                                  case atStart => exact ⟨(x4_1), (by first | rfl | (simp; done) | (simp [*]; done)), H', ⟨Nat.le_refl _⟩, ⟨by (with_reducible repeat (first | apply Kd.R_alloc | apply Kd.R_drewN | apply Kd.R_drew)); exact HO_160000.out⟩, ⟨by (with_reducible repeat (first | refine blk_drewN ?_ _ | refine blk_drew ?_ | refine blk_alloc ?_ _)); exact BK158.out⟩, ⟨by (with_reducible repeat (first | refine blk_drewN ?_ _ | refine blk_drew ?_ | refine blk_alloc ?_ _)); exact BK159.out⟩, ⟨by (with_reducible repeat (first | refine blk_drewN ?_ _ | refine blk_drew ?_ | refine blk_alloc ?_ _)); exact BK160.out⟩, ⟨by repeat (first | (with_reducible first | exact HB.out | apply below_alloc | apply pw_below_drewN | apply below_drew1 | refine below_set ?_ GE158.out | refine below_set ?_ GE159.out | refine below_set ?_ GE160.out) | exact HB.out)⟩⟩
                                  case round => as_aux_lemma =>
                                    clear H'
                                    try clear c1
                                    try clear p1
                                    try clear q1
                                    try clear hx1
                                    try clear c2
                                    try clear c2b0
                                    try clear c2b1
                                    try clear p2
                                    try clear q2
                                    try clear hx2
                                    try clear c3
                                    try clear p6
                                    try clear c7
                                    try clear c7b0
                                    try clear c8
                                    try clear c8b0
                                    try clear p9
                                    try clear q9
                                    try clear hx9
                                    try clear c11
                                    try clear c11b0
                                    try clear c11b1
                                    try clear c12
                                    try clear c12b0
                                    try clear c12b1
                                    try clear c13
                                    try clear c15
                                    try clear c15b0
                                    try clear c15b1
                                    try clear c16
                                    try clear c16b0
                                    try clear c18
                                    try clear c18b0
                                    try clear p19
                                    try clear q19
                                    try clear hx19
                                    try clear c20
                                    try clear c21
                                    try clear c21b0
                                    try clear c22
                                    try clear c22b0
                                    try clear p23
                                    try clear q23
                                    try clear hx23
                                    try clear c24
                                    try clear c24b0
                                    try clear c24b1
                                    try clear c27
                                    try clear c28
                                    try clear c32
                                    try clear c34
                                    try clear hcz29_0
                                    try clear hcz29_1
                                    try clear hcz29_2
                                    try clear hcz29_3
                                    try clear hcz4_0
                                    try clear hcz4_1
                                    try clear hcz4_2
                                    try clear hfz29_0
                                    try clear hfz29_1
                                    try clear hfz29_2
                                    try clear hfz29_3
                                    try clear hfz4_0
                                    try clear hfz4_1
                                    try clear hfz4_2
                                    try clear p1
                                    try clear p19
                                    try clear p2
                                    try clear p23
                                    try clear p6
                                    try clear p9
                                    try clear q1
                                    try clear q19
                                    try clear q2
                                    try clear q23
                                    try clear q9
                                    obtain ⟨x7_5, rfl, HA, HK5, HO_160000, BK158, BK159, BK160, HB⟩ := hrel
                                    cases gk with
                                    | zero => exact absurd HA.out (by simp [warpref9_Lex.l2])
                                    | succ k5 =>
                                      have H := HA.out
                                      clear HA
                                      simp only [warpref9_Lex.l2] at H
                                      by_cases c36 : x7_5 < (a0.size : Int)
                                      · rw [if_pos c36] at H
                                        have c36b0 : decide (x7_5 < (a0.size : Int)) = true := decide_eq_true c36
                                        clear c36
                                        (first | rw [c36b0] | (simp only [i64_w, i32_w]; rw [c36b0]) | skip)
                                        by_cases c37 : 0 ≤ x7_5
                                        · rw [if_pos c37] at H
                                          have c37b0 : decide (0 ≤ x7_5) = true := decide_eq_true c37
                                          clear c37
                                          replace H := Option.bind_eq_some_iff.mp H
                                          obtain ⟨t163, A390, H⟩ := H
                                          replace H : (if t163 = true then (warpref9_Lex.l2 k5 a0 x4_1 (wrap64 (x7_5 + 1)) x160000_1 0 0 0 x4_1 (⟨#[]⟩ : ByteArray) 0) else (warpref9_Lex.j6 k5 a0 x4_1 x7_5 x160000_1 0 0 0 x4_1 (⟨#[]⟩ : ByteArray) 0)) = some (r1, r2, r3) := H
                                          have A39 := Aside0.mk A390
                                          clear A390
                                          by_cases c40 : t163 = true
                                          · subst c40
                                            have H1 : (warpref9_Lex.l2 k5 a0 x4_1 (wrap64 (x7_5 + 1)) x160000_1 0 0 0 x4_1 (⟨#[]⟩ : ByteArray) 0) = some (r1, r2, r3) := by rw [if_pos rfl] at H; exact H
                                            clear H
                                            have H := H1
                                            clear H1
                                            have H' := Aside0.mk H
                                            clear H
                                            have p38 : 0 ≤ (x7_5 : Int) := of_decide_eq_true (by first | (with_reducible assumption) | assumption)
                                            have q38 : x7_5 < (a0.size : Int) := of_decide_eq_true (by first | (with_reducible assumption) | assumption)
                                            have hx38 := bt_at a0 x7_5
                                            replace p38 := eq_true p38
                                            replace q38 := eq_true q38
                                            go_wp2_with (first | (go_at_call 24; (with_reducible refine (warpref9_rest.calls (bt a0 x7_5) true _ A39.out).mono ?_); rintro e w' ⟨rfl, ⟨nd, rfl⟩⟩))
                                            go_roundg k5
                                            case measure => have := HK1.out; have := HJ9.out; have := HJ13.out; have := HJ29.out; have := HK5.out; omega
                                            case rel => exact ⟨(wrap64 (x7_5 + 1)), (by first | rfl | (simp; done) | (simp [*]; done)), H', ⟨by have := HK1.out; have := HJ9.out; have := HJ13.out; have := HJ29.out; have := HK5.out; omega⟩, ⟨by (with_reducible repeat (first | apply Kd.R_alloc | apply Kd.R_drewN | apply Kd.R_drew)); exact HO_160000.out⟩, ⟨by (with_reducible repeat (first | refine blk_drewN ?_ _ | refine blk_drew ?_ | refine blk_alloc ?_ _)); exact BK158.out⟩, ⟨by (with_reducible repeat (first | refine blk_drewN ?_ _ | refine blk_drew ?_ | refine blk_alloc ?_ _)); exact BK159.out⟩, ⟨by (with_reducible repeat (first | refine blk_drewN ?_ _ | refine blk_drew ?_ | refine blk_alloc ?_ _)); exact BK160.out⟩, ⟨by repeat (first | (with_reducible first | exact HB.out | apply below_alloc | apply pw_below_drewN | apply below_drew1 | refine below_set ?_ GE158.out | refine below_set ?_ GE159.out | refine below_set ?_ GE160.out) | exact HB.out)⟩⟩
                                          · replace c40 := Bool.eq_false_iff.mpr c40
                                            subst c40
                                            have H1 : (warpref9_Lex.j6 k5 a0 x4_1 x7_5 x160000_1 0 0 0 x4_1 (⟨#[]⟩ : ByteArray) 0) = some (r1, r2, r3) := by rw [if_neg (show ¬ (false = true) by decide)] at H; exact H
                                            clear H
                                            have H := H1
                                            clear H1
                                            have H' := Aside0.mk H
                                            clear H
                                            have p38 : 0 ≤ (x7_5 : Int) := of_decide_eq_true (by first | (with_reducible assumption) | assumption)
                                            have q38 : x7_5 < (a0.size : Int) := of_decide_eq_true (by first | (with_reducible assumption) | assumption)
                                            have hx38 := bt_at a0 x7_5
                                            replace p38 := eq_true p38
                                            replace q38 := eq_true q38
                                            go_wp2_with (first | (go_at_call 24; (with_reducible refine (warpref9_rest.calls (bt a0 x7_5) false _ A39.out).mono ?_); rintro e w' ⟨rfl, ⟨nd, rfl⟩⟩))
                                            go_meet
                                            case rel => exact ⟨_, (x7_5), (by first | rfl | (simp; done) | (simp [*]; done)), H', ⟨by have := HK1.out; have := HJ9.out; have := HJ13.out; have := HJ29.out; have := HK5.out; first | omega | exact Nat.le_refl _⟩, ⟨by (with_reducible repeat (first | apply Kd.R_alloc | apply Kd.R_drewN | apply Kd.R_drew)); exact HO_160000.out⟩, ⟨by (with_reducible repeat (first | refine blk_drewN ?_ _ | refine blk_drew ?_ | refine blk_alloc ?_ _)); exact BK158.out⟩, ⟨by (with_reducible repeat (first | refine blk_drewN ?_ _ | refine blk_drew ?_ | refine blk_alloc ?_ _)); exact BK159.out⟩, ⟨by (with_reducible repeat (first | refine blk_drewN ?_ _ | refine blk_drew ?_ | refine blk_alloc ?_ _)); exact BK160.out⟩, ⟨by repeat (first | (with_reducible first | exact HB.out | apply below_alloc | apply pw_below_drewN | apply below_drew1 | refine below_set ?_ GE158.out | refine below_set ?_ GE159.out | refine below_set ?_ GE160.out) | exact HB.out)⟩⟩
                                        · rw [if_neg c37] at H
                                          exact absurd H (by simp)
                                      · rw [if_neg c36] at H
                                        have c36b0 : decide (x7_5 < (a0.size : Int)) = false := decide_eq_false c36
                                        clear c36
                                        (first | rw [c36b0] | (simp only [i64_w, i32_w]; rw [c36b0]) | skip)
                                        have H' := Aside0.mk H
                                        clear H
                                        go_wp2
                                        go_meet
                                        case rel => exact ⟨_, (x7_5), (by first | rfl | (simp; done) | (simp [*]; done)), H', ⟨by have := HK1.out; have := HJ9.out; have := HJ13.out; have := HJ29.out; have := HK5.out; first | omega | exact Nat.le_refl _⟩, ⟨by (with_reducible repeat (first | apply Kd.R_alloc | apply Kd.R_drewN | apply Kd.R_drew)); exact HO_160000.out⟩, ⟨by (with_reducible repeat (first | refine blk_drewN ?_ _ | refine blk_drew ?_ | refine blk_alloc ?_ _)); exact BK158.out⟩, ⟨by (with_reducible repeat (first | refine blk_drewN ?_ _ | refine blk_drew ?_ | refine blk_alloc ?_ _)); exact BK159.out⟩, ⟨by (with_reducible repeat (first | refine blk_drewN ?_ _ | refine blk_drew ?_ | refine blk_alloc ?_ _)); exact BK160.out⟩, ⟨by repeat (first | (with_reducible first | exact HB.out | apply below_alloc | apply pw_below_drewN | apply below_drew1 | refine below_set ?_ GE158.out | refine below_set ?_ GE159.out | refine below_set ?_ GE160.out) | exact HB.out)⟩⟩
                                case rest => as_aux_lemma =>
                                  clear HC35
                                  try clear c1
                                  try clear p1
                                  try clear q1
                                  try clear hx1
                                  try clear c2
                                  try clear c2b0
                                  try clear c2b1
                                  try clear p2
                                  try clear q2
                                  try clear hx2
                                  try clear c3
                                  try clear p3
                                  try clear q3
                                  try clear hx3
                                  try clear c4
                                  try clear p6
                                  try clear c7
                                  try clear c7b0
                                  try clear c8
                                  try clear c8b0
                                  try clear p9
                                  try clear q9
                                  try clear hx9
                                  try clear c11
                                  try clear c11b0
                                  try clear c11b1
                                  try clear c12
                                  try clear c12b0
                                  try clear c12b1
                                  try clear c13
                                  try clear c15
                                  try clear c15b0
                                  try clear c15b1
                                  try clear c16
                                  try clear c16b0
                                  try clear c18
                                  try clear c18b0
                                  try clear p19
                                  try clear q19
                                  try clear hx19
                                  try clear c20
                                  try clear c21
                                  try clear c21b0
                                  try clear c22
                                  try clear c22b0
                                  try clear p23
                                  try clear q23
                                  try clear hx23
                                  try clear c24
                                  try clear c24b0
                                  try clear c24b1
                                  try clear c27
                                  try clear c28
                                  try clear c32
                                  try clear c34
                                  try clear c36
                                  try clear c36b0
                                  try clear c37
                                  try clear c37b0
                                  try clear p38
                                  try clear q38
                                  try clear hx38
                                  try clear c40
                                  try clear hcz29_0
                                  try clear hcz29_1
                                  try clear hcz29_2
                                  try clear hcz29_3
                                  try clear hcz4_0
                                  try clear hcz4_1
                                  try clear hcz4_2
                                  try clear hfz29_0
                                  try clear hfz29_1
                                  try clear hfz29_2
                                  try clear hfz29_3
                                  try clear hfz4_0
                                  try clear hfz4_1
                                  try clear hfz4_2
                                  try clear p1
                                  try clear p19
                                  try clear p2
                                  try clear p23
                                  try clear p38
                                  try clear p6
                                  try clear p9
                                  try clear q1
                                  try clear q19
                                  try clear q2
                                  try clear q23
                                  try clear q38
                                  try clear q9
                                  obtain ⟨kq, x7_34, rfl, HA, HJ34, HO_160000, BK158, BK159, BK160, HB⟩ := hcut
                                  cases kq with
                                  | zero => exact absurd HA.out (by simp [warpref9_Lex.j6])
                                  | succ kj34 =>
                                    have H := HA.out
                                    clear HA
                                    simp only [warpref9_Lex.j6] at H
                                    by_cases c41 : 0 ≤ x4_1
                                    · rw [if_pos c41] at H
                                      have c41b0 := eq_true c41
                                      have c41b1 : decide (0 ≤ x4_1) = true := decide_eq_true c41
                                      clear c41
                                      by_cases c42 : x4_1 ≤ x7_34
                                      · rw [if_pos c42] at H
                                        have c42b0 := eq_true c42
                                        have c42b1 : decide (x4_1 ≤ x7_34) = true := decide_eq_true c42
                                        clear c42
                                        by_cases c43 : x7_34 ≤ (a0.size : Int)
                                        · rw [if_pos c43] at H
                                          have c43b0 := eq_true c43
                                          have c43b1 : decide (x7_34 ≤ (a0.size : Int)) = true := decide_eq_true c43
                                          clear c43
                                          replace H := Option.bind_eq_some_iff.mp H
                                          obtain ⟨t164, A440, H⟩ := H
                                          replace H : (if t164 = true then (warpref9_Lex.j11 kj34 a0 x4_1 x7_34 x160000_1 0 0 4 x4_1 (a0.extract (x4_1 : Int).toNat (x7_34 : Int).toNat) 0) else ((warpref9_Name.f kj34 (a0.extract (x4_1 : Int).toNat (x7_34 : Int).toNat)).bind fun t165 => (if t165 = true then (warpref9_Lex.j11 kj34 a0 x4_1 x7_34 x160000_1 0 0 1 x4_1 (a0.extract (x4_1 : Int).toNat (x7_34 : Int).toNat) 0) else ((warpref9_Con.f kj34 (a0.extract (x4_1 : Int).toNat (x7_34 : Int).toNat)).bind fun t166 => (if t166 = true then (warpref9_Lex.j11 kj34 a0 x4_1 x7_34 x160000_1 0 0 2 x4_1 (a0.extract (x4_1 : Int).toNat (x7_34 : Int).toNat) 0) else (warpref9_Lex.j11 kj34 a0 x4_1 x7_34 x160000_1 0 0 0 x4_1 (a0.extract (x4_1 : Int).toNat (x7_34 : Int).toNat) 0)))))) = some (r1, r2, r3) := H
                                          have A44 := Aside0.mk A440
                                          clear A440
                                          by_cases c45 : t164 = true
                                          · subst c45
                                            have H1 : (warpref9_Lex.j11 kj34 a0 x4_1 x7_34 x160000_1 0 0 4 x4_1 (a0.extract (x4_1 : Int).toNat (x7_34 : Int).toNat) 0) = some (r1, r2, r3) := by rw [if_pos rfl] at H; exact H
                                            clear H
                                            have H := H1
                                            clear H1
                                            have H' := Aside0.mk H
                                            clear H
                                            have hnb46 := NB160_158.out
                                            have hnc46 := NB158_160.out
                                            have hnb47 := NB160_159.out
                                            have hnc47 := NB159_160.out
                                            have hcz48_0 : wc.cell? ⟨gb160, 0, none⟩ = some (.int .i64 0) := (blk_cell BK160.out 0).trans rfl
                                            have hcz48_1 : wc.cell? ⟨gb160, 1, none⟩ = some (.int .i64 x4_1) := (blk_cell BK160.out 1).trans rfl
                                            have hcz48_2 : wc.cell? ⟨gb160, 2, none⟩ = some (.string (⟨#[]⟩ : ByteArray)) := (blk_cell BK160.out 2).trans rfl
                                            have hcz48_3 : wc.cell? ⟨gb160, 3, none⟩ = some (.int .i64 0) := (blk_cell BK160.out 3).trans rfl
                                            have hfz48_0 := blk_frozen BK160.out 0
                                            have hfz48_1 := blk_frozen BK160.out 1
                                            have hfz48_2 := blk_frozen BK160.out 2
                                            have hfz48_3 := blk_frozen BK160.out 3
                                            go_wp2_with (first | ((with_reducible refine gate_callee (f := 25) rfl ?_); refine goesL_ (some 89) rfl rfl Try.func25 (by kernel_rfl) rfl #[.string (a0.extract (x4_1 : Int).toNat (x7_34 : Int).toNat)] rfl (by (try simp only [List.map_toArray, List.map_cons, List.map_nil]); first | done | rfl | (simp only [List.length_drop, List.length_take]; rfl)) ?_; (with_reducible refine (warpref9_word.calls (a0.extract (x4_1 : Int).toNat (x7_34 : Int).toNat) true _ A44.out).mono ?_); rintro e w' ⟨rfl, ⟨nd, rfl⟩⟩; refine ⟨_, rfl, ?_⟩))
                                            go_meet
                                            case rel => exact ⟨_, (x7_34), (4), (a0.extract (x4_1 : Int).toNat (x7_34 : Int).toNat), (0), (by first | rfl | (simp; done) | (simp [*]; done)), H', ⟨by have := HK1.out; have := HJ9.out; have := HJ13.out; have := HJ29.out; have := HJ34.out; first | omega | exact Nat.le_refl _⟩, ⟨by (with_reducible repeat (first | apply Kd.R_alloc | apply Kd.R_drewN | apply Kd.R_drew)); exact Kd.R_mono (Kd.R_far (p := ⟨gb160, 0, none⟩) (Kd.R_far (p := ⟨gb160, 2, none⟩) (Kd.R_mono HO_160000.out (fun k_ hk => (⟨hk, hk⟩ : _ ∧ k_ ≠ gb160))) (fun _ hk => hk.2) (.string (a0.extract (x4_1 : Int).toNat (x7_34 : Int).toNat))) (fun _ hk => hk.2) (.int .i64 4)) (fun _ hk => hk.1)⟩, ⟨by (with_reducible repeat (first | refine blk_drewN ?_ _ | refine blk_drew ?_ | refine blk_alloc ?_ _)); refine blk_far ?_ NB158_160.out _; (with_reducible repeat (first | refine blk_drewN ?_ _ | refine blk_drew ?_ | refine blk_alloc ?_ _)); refine blk_far ?_ NB158_160.out _; (with_reducible repeat (first | refine blk_drewN ?_ _ | refine blk_drew ?_ | refine blk_alloc ?_ _)); exact BK158.out⟩, ⟨by (with_reducible repeat (first | refine blk_drewN ?_ _ | refine blk_drew ?_ | refine blk_alloc ?_ _)); refine blk_far ?_ NB159_160.out _; (with_reducible repeat (first | refine blk_drewN ?_ _ | refine blk_drew ?_ | refine blk_alloc ?_ _)); refine blk_far ?_ NB159_160.out _; (with_reducible repeat (first | refine blk_drewN ?_ _ | refine blk_drew ?_ | refine blk_alloc ?_ _)); exact BK159.out⟩, ⟨by (with_reducible repeat (first | refine blk_drewN ?_ _ | refine blk_drew ?_ | refine blk_alloc ?_ _)); refine blk_put (cs := #[.int .i64 0, .int .i64 x4_1, .string (a0.extract (x4_1 : Int).toNat (x7_34 : Int).toNat), .int .i64 0]) ?_ 0 _ rfl; (with_reducible repeat (first | refine blk_drewN ?_ _ | refine blk_drew ?_ | refine blk_alloc ?_ _)); refine blk_put (cs := #[.int .i64 0, .int .i64 x4_1, .string (⟨#[]⟩ : ByteArray), .int .i64 0]) ?_ 2 _ rfl; (with_reducible repeat (first | refine blk_drewN ?_ _ | refine blk_drew ?_ | refine blk_alloc ?_ _)); exact BK160.out⟩, ⟨by repeat (first | (with_reducible first | exact HB.out | apply below_alloc | apply pw_below_drewN | apply below_drew1 | refine below_set ?_ GE158.out | refine below_set ?_ GE159.out | refine below_set ?_ GE160.out) | exact HB.out)⟩⟩
                                          · replace c45 := Bool.eq_false_iff.mpr c45
                                            subst c45
                                            have H1 : ((warpref9_Name.f kj34 (a0.extract (x4_1 : Int).toNat (x7_34 : Int).toNat)).bind fun t165 => (if t165 = true then (warpref9_Lex.j11 kj34 a0 x4_1 x7_34 x160000_1 0 0 1 x4_1 (a0.extract (x4_1 : Int).toNat (x7_34 : Int).toNat) 0) else ((warpref9_Con.f kj34 (a0.extract (x4_1 : Int).toNat (x7_34 : Int).toNat)).bind fun t166 => (if t166 = true then (warpref9_Lex.j11 kj34 a0 x4_1 x7_34 x160000_1 0 0 2 x4_1 (a0.extract (x4_1 : Int).toNat (x7_34 : Int).toNat) 0) else (warpref9_Lex.j11 kj34 a0 x4_1 x7_34 x160000_1 0 0 0 x4_1 (a0.extract (x4_1 : Int).toNat (x7_34 : Int).toNat) 0))))) = some (r1, r2, r3) := by rw [if_neg (show ¬ (false = true) by decide)] at H; exact H
                                            clear H
                                            have H := H1
                                            clear H1
                                            replace H := Option.bind_eq_some_iff.mp H
                                            obtain ⟨t165, A490, H⟩ := H
                                            replace H : (if t165 = true then (warpref9_Lex.j11 kj34 a0 x4_1 x7_34 x160000_1 0 0 1 x4_1 (a0.extract (x4_1 : Int).toNat (x7_34 : Int).toNat) 0) else ((warpref9_Con.f kj34 (a0.extract (x4_1 : Int).toNat (x7_34 : Int).toNat)).bind fun t166 => (if t166 = true then (warpref9_Lex.j11 kj34 a0 x4_1 x7_34 x160000_1 0 0 2 x4_1 (a0.extract (x4_1 : Int).toNat (x7_34 : Int).toNat) 0) else (warpref9_Lex.j11 kj34 a0 x4_1 x7_34 x160000_1 0 0 0 x4_1 (a0.extract (x4_1 : Int).toNat (x7_34 : Int).toNat) 0)))) = some (r1, r2, r3) := H
                                            have A49 := Aside0.mk A490
                                            clear A490
                                            by_cases c50 : t165 = true
                                            · subst c50
                                              have H1 : (warpref9_Lex.j11 kj34 a0 x4_1 x7_34 x160000_1 0 0 1 x4_1 (a0.extract (x4_1 : Int).toNat (x7_34 : Int).toNat) 0) = some (r1, r2, r3) := by rw [if_pos rfl] at H; exact H
                                              clear H
                                              have H := H1
                                              clear H1
                                              have H' := Aside0.mk H
                                              clear H
                                              have hnb51 := NB160_158.out
                                              have hnc51 := NB158_160.out
                                              have hnb52 := NB160_159.out
                                              have hnc52 := NB159_160.out
                                              have hcz53_0 : wc.cell? ⟨gb160, 0, none⟩ = some (.int .i64 0) := (blk_cell BK160.out 0).trans rfl
                                              have hcz53_1 : wc.cell? ⟨gb160, 1, none⟩ = some (.int .i64 x4_1) := (blk_cell BK160.out 1).trans rfl
                                              have hcz53_2 : wc.cell? ⟨gb160, 2, none⟩ = some (.string (⟨#[]⟩ : ByteArray)) := (blk_cell BK160.out 2).trans rfl
                                              have hcz53_3 : wc.cell? ⟨gb160, 3, none⟩ = some (.int .i64 0) := (blk_cell BK160.out 3).trans rfl
                                              have hfz53_0 := blk_frozen BK160.out 0
                                              have hfz53_1 := blk_frozen BK160.out 1
                                              have hfz53_2 := blk_frozen BK160.out 2
                                              have hfz53_3 := blk_frozen BK160.out 3
                                              go_wp2_with (first | ((with_reducible refine gate_callee (f := 25) rfl ?_); refine goesL_ (some 89) rfl rfl Try.func25 (by kernel_rfl) rfl #[.string (a0.extract (x4_1 : Int).toNat (x7_34 : Int).toNat)] rfl (by (try simp only [List.map_toArray, List.map_cons, List.map_nil]); first | done | rfl | (simp only [List.length_drop, List.length_take]; rfl)) ?_; (with_reducible refine (warpref9_word.calls (a0.extract (x4_1 : Int).toNat (x7_34 : Int).toNat) false _ A44.out).mono ?_); rintro e w' ⟨rfl, ⟨nd, rfl⟩⟩; refine ⟨_, rfl, ?_⟩) | ((with_reducible refine gate_callee (f := 15) rfl ?_); refine goesL_ (some 94) rfl rfl Try.func15 (by kernel_rfl) rfl #[.string (a0.extract (x4_1 : Int).toNat (x7_34 : Int).toNat)] rfl (by (try simp only [List.map_toArray, List.map_cons, List.map_nil]); first | done | rfl | (simp only [List.length_drop, List.length_take]; rfl)) ?_; (with_reducible refine (warpref9_Name.calls kj34 (a0.extract (x4_1 : Int).toNat (x7_34 : Int).toNat) true _ A49.out).mono ?_); rintro e w' ⟨rfl, ⟨nd, rfl⟩⟩; refine ⟨_, rfl, ?_⟩))
                                              go_meet
                                              case rel => exact ⟨_, (x7_34), (1), (a0.extract (x4_1 : Int).toNat (x7_34 : Int).toNat), (0), (by first | rfl | (simp; done) | (simp [*]; done)), H', ⟨by have := HK1.out; have := HJ9.out; have := HJ13.out; have := HJ29.out; have := HJ34.out; first | omega | exact Nat.le_refl _⟩, ⟨by (with_reducible repeat (first | apply Kd.R_alloc | apply Kd.R_drewN | apply Kd.R_drew)); exact Kd.R_mono (Kd.R_far (p := ⟨gb160, 0, none⟩) (Kd.R_far (p := ⟨gb160, 2, none⟩) (Kd.R_mono HO_160000.out (fun k_ hk => (⟨hk, hk⟩ : _ ∧ k_ ≠ gb160))) (fun _ hk => hk.2) (.string (a0.extract (x4_1 : Int).toNat (x7_34 : Int).toNat))) (fun _ hk => hk.2) (.int .i64 1)) (fun _ hk => hk.1)⟩, ⟨by (with_reducible repeat (first | refine blk_drewN ?_ _ | refine blk_drew ?_ | refine blk_alloc ?_ _)); refine blk_far ?_ NB158_160.out _; (with_reducible repeat (first | refine blk_drewN ?_ _ | refine blk_drew ?_ | refine blk_alloc ?_ _)); refine blk_far ?_ NB158_160.out _; (with_reducible repeat (first | refine blk_drewN ?_ _ | refine blk_drew ?_ | refine blk_alloc ?_ _)); exact BK158.out⟩, ⟨by (with_reducible repeat (first | refine blk_drewN ?_ _ | refine blk_drew ?_ | refine blk_alloc ?_ _)); refine blk_far ?_ NB159_160.out _; (with_reducible repeat (first | refine blk_drewN ?_ _ | refine blk_drew ?_ | refine blk_alloc ?_ _)); refine blk_far ?_ NB159_160.out _; (with_reducible repeat (first | refine blk_drewN ?_ _ | refine blk_drew ?_ | refine blk_alloc ?_ _)); exact BK159.out⟩, ⟨by (with_reducible repeat (first | refine blk_drewN ?_ _ | refine blk_drew ?_ | refine blk_alloc ?_ _)); refine blk_put (cs := #[.int .i64 0, .int .i64 x4_1, .string (a0.extract (x4_1 : Int).toNat (x7_34 : Int).toNat), .int .i64 0]) ?_ 0 _ rfl; (with_reducible repeat (first | refine blk_drewN ?_ _ | refine blk_drew ?_ | refine blk_alloc ?_ _)); refine blk_put (cs := #[.int .i64 0, .int .i64 x4_1, .string (⟨#[]⟩ : ByteArray), .int .i64 0]) ?_ 2 _ rfl; (with_reducible repeat (first | refine blk_drewN ?_ _ | refine blk_drew ?_ | refine blk_alloc ?_ _)); exact BK160.out⟩, ⟨by repeat (first | (with_reducible first | exact HB.out | apply below_alloc | apply pw_below_drewN | apply below_drew1 | refine below_set ?_ GE158.out | refine below_set ?_ GE159.out | refine below_set ?_ GE160.out) | exact HB.out)⟩⟩
                                            · replace c50 := Bool.eq_false_iff.mpr c50
                                              subst c50
                                              have H1 : ((warpref9_Con.f kj34 (a0.extract (x4_1 : Int).toNat (x7_34 : Int).toNat)).bind fun t166 => (if t166 = true then (warpref9_Lex.j11 kj34 a0 x4_1 x7_34 x160000_1 0 0 2 x4_1 (a0.extract (x4_1 : Int).toNat (x7_34 : Int).toNat) 0) else (warpref9_Lex.j11 kj34 a0 x4_1 x7_34 x160000_1 0 0 0 x4_1 (a0.extract (x4_1 : Int).toNat (x7_34 : Int).toNat) 0))) = some (r1, r2, r3) := by rw [if_neg (show ¬ (false = true) by decide)] at H; exact H
                                              clear H
                                              have H := H1
                                              clear H1
                                              replace H := Option.bind_eq_some_iff.mp H
                                              obtain ⟨t166, A540, H⟩ := H
                                              replace H : (if t166 = true then (warpref9_Lex.j11 kj34 a0 x4_1 x7_34 x160000_1 0 0 2 x4_1 (a0.extract (x4_1 : Int).toNat (x7_34 : Int).toNat) 0) else (warpref9_Lex.j11 kj34 a0 x4_1 x7_34 x160000_1 0 0 0 x4_1 (a0.extract (x4_1 : Int).toNat (x7_34 : Int).toNat) 0)) = some (r1, r2, r3) := H
                                              have A54 := Aside0.mk A540
                                              clear A540
                                              by_cases c55 : t166 = true
                                              · subst c55
                                                have H1 : (warpref9_Lex.j11 kj34 a0 x4_1 x7_34 x160000_1 0 0 2 x4_1 (a0.extract (x4_1 : Int).toNat (x7_34 : Int).toNat) 0) = some (r1, r2, r3) := by rw [if_pos rfl] at H; exact H
                                                clear H
                                                have H := H1
                                                clear H1
                                                have H' := Aside0.mk H
                                                clear H
                                                have hnb56 := NB160_158.out
                                                have hnc56 := NB158_160.out
                                                have hnb57 := NB160_159.out
                                                have hnc57 := NB159_160.out
                                                have hcz58_0 : wc.cell? ⟨gb160, 0, none⟩ = some (.int .i64 0) := (blk_cell BK160.out 0).trans rfl
                                                have hcz58_1 : wc.cell? ⟨gb160, 1, none⟩ = some (.int .i64 x4_1) := (blk_cell BK160.out 1).trans rfl
                                                have hcz58_2 : wc.cell? ⟨gb160, 2, none⟩ = some (.string (⟨#[]⟩ : ByteArray)) := (blk_cell BK160.out 2).trans rfl
                                                have hcz58_3 : wc.cell? ⟨gb160, 3, none⟩ = some (.int .i64 0) := (blk_cell BK160.out 3).trans rfl
                                                have hfz58_0 := blk_frozen BK160.out 0
                                                have hfz58_1 := blk_frozen BK160.out 1
                                                have hfz58_2 := blk_frozen BK160.out 2
                                                have hfz58_3 := blk_frozen BK160.out 3
                                                go_wp2_with (first | ((with_reducible refine gate_callee (f := 25) rfl ?_); refine goesL_ (some 89) rfl rfl Try.func25 (by kernel_rfl) rfl #[.string (a0.extract (x4_1 : Int).toNat (x7_34 : Int).toNat)] rfl (by (try simp only [List.map_toArray, List.map_cons, List.map_nil]); first | done | rfl | (simp only [List.length_drop, List.length_take]; rfl)) ?_; (with_reducible refine (warpref9_word.calls (a0.extract (x4_1 : Int).toNat (x7_34 : Int).toNat) false _ A44.out).mono ?_); rintro e w' ⟨rfl, ⟨nd, rfl⟩⟩; refine ⟨_, rfl, ?_⟩) | ((with_reducible refine gate_callee (f := 15) rfl ?_); refine goesL_ (some 94) rfl rfl Try.func15 (by kernel_rfl) rfl #[.string (a0.extract (x4_1 : Int).toNat (x7_34 : Int).toNat)] rfl (by (try simp only [List.map_toArray, List.map_cons, List.map_nil]); first | done | rfl | (simp only [List.length_drop, List.length_take]; rfl)) ?_; (with_reducible refine (warpref9_Name.calls kj34 (a0.extract (x4_1 : Int).toNat (x7_34 : Int).toNat) false _ A49.out).mono ?_); rintro e w' ⟨rfl, ⟨nd, rfl⟩⟩; refine ⟨_, rfl, ?_⟩) | ((with_reducible refine gate_callee (f := 17) rfl ?_); refine goesL_ (some 99) rfl rfl Try.func17 (by kernel_rfl) rfl #[.string (a0.extract (x4_1 : Int).toNat (x7_34 : Int).toNat)] rfl (by (try simp only [List.map_toArray, List.map_cons, List.map_nil]); first | done | rfl | (simp only [List.length_drop, List.length_take]; rfl)) ?_; (with_reducible refine (warpref9_Con.calls kj34 (a0.extract (x4_1 : Int).toNat (x7_34 : Int).toNat) true _ A54.out).mono ?_); rintro e w' ⟨rfl, ⟨nd, rfl⟩⟩; refine ⟨_, rfl, ?_⟩))
                                                go_meet
                                                case rel => exact ⟨_, (x7_34), (2), (a0.extract (x4_1 : Int).toNat (x7_34 : Int).toNat), (0), (by first | rfl | (simp; done) | (simp [*]; done)), H', ⟨by have := HK1.out; have := HJ9.out; have := HJ13.out; have := HJ29.out; have := HJ34.out; first | omega | exact Nat.le_refl _⟩, ⟨by (with_reducible repeat (first | apply Kd.R_alloc | apply Kd.R_drewN | apply Kd.R_drew)); exact Kd.R_mono (Kd.R_far (p := ⟨gb160, 0, none⟩) (Kd.R_far (p := ⟨gb160, 2, none⟩) (Kd.R_mono HO_160000.out (fun k_ hk => (⟨hk, hk⟩ : _ ∧ k_ ≠ gb160))) (fun _ hk => hk.2) (.string (a0.extract (x4_1 : Int).toNat (x7_34 : Int).toNat))) (fun _ hk => hk.2) (.int .i64 2)) (fun _ hk => hk.1)⟩, ⟨by (with_reducible repeat (first | refine blk_drewN ?_ _ | refine blk_drew ?_ | refine blk_alloc ?_ _)); refine blk_far ?_ NB158_160.out _; (with_reducible repeat (first | refine blk_drewN ?_ _ | refine blk_drew ?_ | refine blk_alloc ?_ _)); refine blk_far ?_ NB158_160.out _; (with_reducible repeat (first | refine blk_drewN ?_ _ | refine blk_drew ?_ | refine blk_alloc ?_ _)); exact BK158.out⟩, ⟨by (with_reducible repeat (first | refine blk_drewN ?_ _ | refine blk_drew ?_ | refine blk_alloc ?_ _)); refine blk_far ?_ NB159_160.out _; (with_reducible repeat (first | refine blk_drewN ?_ _ | refine blk_drew ?_ | refine blk_alloc ?_ _)); refine blk_far ?_ NB159_160.out _; (with_reducible repeat (first | refine blk_drewN ?_ _ | refine blk_drew ?_ | refine blk_alloc ?_ _)); exact BK159.out⟩, ⟨by (with_reducible repeat (first | refine blk_drewN ?_ _ | refine blk_drew ?_ | refine blk_alloc ?_ _)); refine blk_put (cs := #[.int .i64 0, .int .i64 x4_1, .string (a0.extract (x4_1 : Int).toNat (x7_34 : Int).toNat), .int .i64 0]) ?_ 0 _ rfl; (with_reducible repeat (first | refine blk_drewN ?_ _ | refine blk_drew ?_ | refine blk_alloc ?_ _)); refine blk_put (cs := #[.int .i64 0, .int .i64 x4_1, .string (⟨#[]⟩ : ByteArray), .int .i64 0]) ?_ 2 _ rfl; (with_reducible repeat (first | refine blk_drewN ?_ _ | refine blk_drew ?_ | refine blk_alloc ?_ _)); exact BK160.out⟩, ⟨by repeat (first | (with_reducible first | exact HB.out | apply below_alloc | apply pw_below_drewN | apply below_drew1 | refine below_set ?_ GE158.out | refine below_set ?_ GE159.out | refine below_set ?_ GE160.out) | exact HB.out)⟩⟩
                                              · replace c55 := Bool.eq_false_iff.mpr c55
                                                subst c55
                                                have H1 : (warpref9_Lex.j11 kj34 a0 x4_1 x7_34 x160000_1 0 0 0 x4_1 (a0.extract (x4_1 : Int).toNat (x7_34 : Int).toNat) 0) = some (r1, r2, r3) := by rw [if_neg (show ¬ (false = true) by decide)] at H; exact H
                                                clear H
                                                have H := H1
                                                clear H1
                                                have H' := Aside0.mk H
                                                clear H
                                                have hnb59 := NB160_158.out
                                                have hnc59 := NB158_160.out
                                                have hnb60 := NB160_159.out
                                                have hnc60 := NB159_160.out
                                                have hcz61_0 : wc.cell? ⟨gb160, 0, none⟩ = some (.int .i64 0) := (blk_cell BK160.out 0).trans rfl
                                                have hcz61_1 : wc.cell? ⟨gb160, 1, none⟩ = some (.int .i64 x4_1) := (blk_cell BK160.out 1).trans rfl
                                                have hcz61_2 : wc.cell? ⟨gb160, 2, none⟩ = some (.string (⟨#[]⟩ : ByteArray)) := (blk_cell BK160.out 2).trans rfl
                                                have hcz61_3 : wc.cell? ⟨gb160, 3, none⟩ = some (.int .i64 0) := (blk_cell BK160.out 3).trans rfl
                                                have hfz61_0 := blk_frozen BK160.out 0
                                                have hfz61_1 := blk_frozen BK160.out 1
                                                have hfz61_2 := blk_frozen BK160.out 2
                                                have hfz61_3 := blk_frozen BK160.out 3
                                                go_wp2_with (first | ((with_reducible refine gate_callee (f := 25) rfl ?_); refine goesL_ (some 89) rfl rfl Try.func25 (by kernel_rfl) rfl #[.string (a0.extract (x4_1 : Int).toNat (x7_34 : Int).toNat)] rfl (by (try simp only [List.map_toArray, List.map_cons, List.map_nil]); first | done | rfl | (simp only [List.length_drop, List.length_take]; rfl)) ?_; (with_reducible refine (warpref9_word.calls (a0.extract (x4_1 : Int).toNat (x7_34 : Int).toNat) false _ A44.out).mono ?_); rintro e w' ⟨rfl, ⟨nd, rfl⟩⟩; refine ⟨_, rfl, ?_⟩) | ((with_reducible refine gate_callee (f := 15) rfl ?_); refine goesL_ (some 94) rfl rfl Try.func15 (by kernel_rfl) rfl #[.string (a0.extract (x4_1 : Int).toNat (x7_34 : Int).toNat)] rfl (by (try simp only [List.map_toArray, List.map_cons, List.map_nil]); first | done | rfl | (simp only [List.length_drop, List.length_take]; rfl)) ?_; (with_reducible refine (warpref9_Name.calls kj34 (a0.extract (x4_1 : Int).toNat (x7_34 : Int).toNat) false _ A49.out).mono ?_); rintro e w' ⟨rfl, ⟨nd, rfl⟩⟩; refine ⟨_, rfl, ?_⟩) | ((with_reducible refine gate_callee (f := 17) rfl ?_); refine goesL_ (some 99) rfl rfl Try.func17 (by kernel_rfl) rfl #[.string (a0.extract (x4_1 : Int).toNat (x7_34 : Int).toNat)] rfl (by (try simp only [List.map_toArray, List.map_cons, List.map_nil]); first | done | rfl | (simp only [List.length_drop, List.length_take]; rfl)) ?_; (with_reducible refine (warpref9_Con.calls kj34 (a0.extract (x4_1 : Int).toNat (x7_34 : Int).toNat) false _ A54.out).mono ?_); rintro e w' ⟨rfl, ⟨nd, rfl⟩⟩; refine ⟨_, rfl, ?_⟩))
                                                go_meet
                                                case rel => exact ⟨_, (x7_34), (0), (a0.extract (x4_1 : Int).toNat (x7_34 : Int).toNat), (0), (by first | rfl | (simp; done) | (simp [*]; done)), H', ⟨by have := HK1.out; have := HJ9.out; have := HJ13.out; have := HJ29.out; have := HJ34.out; first | omega | exact Nat.le_refl _⟩, ⟨by (with_reducible repeat (first | apply Kd.R_alloc | apply Kd.R_drewN | apply Kd.R_drew)); exact Kd.R_mono (Kd.R_far (p := ⟨gb160, 2, none⟩) (Kd.R_mono HO_160000.out (fun k_ hk => (⟨hk, hk⟩ : _ ∧ k_ ≠ gb160))) (fun _ hk => hk.2) (.string (a0.extract (x4_1 : Int).toNat (x7_34 : Int).toNat))) (fun _ hk => hk.1)⟩, ⟨by (with_reducible repeat (first | refine blk_drewN ?_ _ | refine blk_drew ?_ | refine blk_alloc ?_ _)); refine blk_far ?_ NB158_160.out _; (with_reducible repeat (first | refine blk_drewN ?_ _ | refine blk_drew ?_ | refine blk_alloc ?_ _)); exact BK158.out⟩, ⟨by (with_reducible repeat (first | refine blk_drewN ?_ _ | refine blk_drew ?_ | refine blk_alloc ?_ _)); refine blk_far ?_ NB159_160.out _; (with_reducible repeat (first | refine blk_drewN ?_ _ | refine blk_drew ?_ | refine blk_alloc ?_ _)); exact BK159.out⟩, ⟨by (with_reducible repeat (first | refine blk_drewN ?_ _ | refine blk_drew ?_ | refine blk_alloc ?_ _)); refine blk_put (cs := #[.int .i64 0, .int .i64 x4_1, .string (⟨#[]⟩ : ByteArray), .int .i64 0]) ?_ 2 _ rfl; (with_reducible repeat (first | refine blk_drewN ?_ _ | refine blk_drew ?_ | refine blk_alloc ?_ _)); exact BK160.out⟩, ⟨by repeat (first | (with_reducible first | exact HB.out | apply below_alloc | apply pw_below_drewN | apply below_drew1 | refine below_set ?_ GE158.out | refine below_set ?_ GE159.out | refine below_set ?_ GE160.out) | exact HB.out)⟩⟩
                                        · rw [if_neg c43] at H
                                          exact absurd H (by simp)
                                      · rw [if_neg c42] at H
                                        exact absurd H (by simp)
                                    · rw [if_neg c41] at H
                                      exact absurd H (by simp)
                              · replace c34 := Bool.eq_false_iff.mpr c34
                                subst c34
                                have H1 : ((warpref9_digit.f (bt a0 x4_1)).bind fun t167 => (if t167 = true then (warpref9_Lex.l3 kj29 a0 x4_1 x4_1 x160000_1 0 0 0 x4_1 (⟨#[]⟩ : ByteArray) 0) else (if (bt a0 x4_1) = 45 then (if (wrap64 (x4_1 + 1)) < (a0.size : Int) then (if 0 ≤ (wrap64 (x4_1 + 1)) then (warpref9_Lex.j9 kj29 a0 x4_1 (bt a0 x4_1) x4_1 ((bt a0 (wrap64 (x4_1 + 1))) == 62) x160000_1 0 0 0 x4_1 (⟨#[]⟩ : ByteArray) 0) else (none)) else (warpref9_Lex.j9 kj29 a0 x4_1 (bt a0 x4_1) x4_1 false x160000_1 0 0 0 x4_1 (⟨#[]⟩ : ByteArray) 0)) else (warpref9_Lex.j9 kj29 a0 x4_1 (bt a0 x4_1) x4_1 false x160000_1 0 0 0 x4_1 (⟨#[]⟩ : ByteArray) 0)))) = some (r1, r2, r3) := by rw [if_neg (show ¬ (false = true) by decide)] at H; exact H
                                clear H
                                have H := H1
                                clear H1
                                replace H := Option.bind_eq_some_iff.mp H
                                obtain ⟨t167, A620, H⟩ := H
                                replace H : (if t167 = true then (warpref9_Lex.l3 kj29 a0 x4_1 x4_1 x160000_1 0 0 0 x4_1 (⟨#[]⟩ : ByteArray) 0) else (if (bt a0 x4_1) = 45 then (if (wrap64 (x4_1 + 1)) < (a0.size : Int) then (if 0 ≤ (wrap64 (x4_1 + 1)) then (warpref9_Lex.j9 kj29 a0 x4_1 (bt a0 x4_1) x4_1 ((bt a0 (wrap64 (x4_1 + 1))) == 62) x160000_1 0 0 0 x4_1 (⟨#[]⟩ : ByteArray) 0) else (none)) else (warpref9_Lex.j9 kj29 a0 x4_1 (bt a0 x4_1) x4_1 false x160000_1 0 0 0 x4_1 (⟨#[]⟩ : ByteArray) 0)) else (warpref9_Lex.j9 kj29 a0 x4_1 (bt a0 x4_1) x4_1 false x160000_1 0 0 0 x4_1 (⟨#[]⟩ : ByteArray) 0))) = some (r1, r2, r3) := H
                                have A62 := Aside0.mk A620
                                clear A620
                                by_cases c63 : t167 = true
                                · subst c63
                                  have H1 : (warpref9_Lex.l3 kj29 a0 x4_1 x4_1 x160000_1 0 0 0 x4_1 (⟨#[]⟩ : ByteArray) 0) = some (r1, r2, r3) := by rw [if_pos rfl] at H; exact H
                                  clear H
                                  have H := H1
                                  clear H1
                                  have HC64 := Aside0.mk H
                                  clear H
                                  go_upto_block 8 with (first | ((with_reducible refine gate_callee (f := 26) rfl ?_); refine goesL_ (some 103) rfl rfl Try.func26 (by kernel_rfl) rfl #[.int .u8 (bt a0 x4_1)] rfl (by (try simp only [List.map_toArray, List.map_cons, List.map_nil]); first | done | rfl | (simp only [List.length_drop, List.length_take]; rfl)) ?_; (with_reducible refine (warpref9_digit.calls (bt a0 x4_1) true _ A62.out).mono ?_); rintro e w' ⟨rfl, ⟨nd, rfl⟩⟩; refine ⟨_, rfl, ?_⟩))
                                  (try simp only [Act.put, List.setIfInBounds_toArray, List.set_cons_zero, List.set_cons_succ])
                                  go_cut [7] (fun v7 wc => ∃ (kq : Nat) (x7_63 : Int), v7 = .int .i64 x7_63 ∧ Aside0 (warpref9_Lex.j8 kq a0 x4_1 x7_63 x160000_1 0 0 0 x4_1 (⟨#[]⟩ : ByteArray) 0 = some (r1, r2, r3)) ∧ Aside0 (kq ≤ kj29) ∧ Aside0 (Kd.R k38 38 wc w.heap.size (fun k_ => k_ ≠ gb160) u160000 x160000_1) ∧ Aside0 (wc.heap[gb158]? = some (.cells #[(.slice none 0 0), .int .i64 x159001_1, .int .i64 x159002_1] 28 (0, 0))) ∧ Aside0 (wc.heap[gb159]? = some (.cells #[u160000, .int .i64 0, .int .i64 0] 28 (0, 0))) ∧ Aside0 (wc.heap[gb160]? = some (.cells #[.int .i64 0, .int .i64 x4_1, .string (⟨#[]⟩ : ByteArray), .int .i64 0] 38 (0, 0))) ∧ Aside0 (Below w.heap.size w wc))
                                  case first => as_aux_lemma =>
                                    have H := HC64.out
                                    clear HC64
                                    have H' := Aside0.mk H
                                    clear H
                                    go_wp2
                                    go_loopg [7] kj29 (fun kq v7 w' => ∃ (x7_5 : Int), v7 = .int .i64 x7_5 ∧ Aside0 (warpref9_Lex.l3 kq a0 x4_1 x7_5 x160000_1 0 0 0 x4_1 (⟨#[]⟩ : ByteArray) 0 = some (r1, r2, r3)) ∧ Aside0 (kq ≤ kj29) ∧ Aside0 (Kd.R k38 38 w' w.heap.size (fun k_ => k_ ≠ gb160) u160000 x160000_1) ∧ Aside0 (w'.heap[gb158]? = some (.cells #[(.slice none 0 0), .int .i64 x159001_1, .int .i64 x159002_1] 28 (0, 0))) ∧ Aside0 (w'.heap[gb159]? = some (.cells #[u160000, .int .i64 0, .int .i64 0] 28 (0, 0))) ∧ Aside0 (w'.heap[gb160]? = some (.cells #[.int .i64 0, .int .i64 x4_1, .string (⟨#[]⟩ : ByteArray), .int .i64 0] 38 (0, 0))) ∧ Aside0 (Below w.heap.size w w'))
                                    case atStart => exact ⟨(x4_1), (by first | rfl | (simp; done) | (simp [*]; done)), H', ⟨Nat.le_refl _⟩, ⟨by (with_reducible repeat (first | apply Kd.R_alloc | apply Kd.R_drewN | apply Kd.R_drew)); exact HO_160000.out⟩, ⟨by (with_reducible repeat (first | refine blk_drewN ?_ _ | refine blk_drew ?_ | refine blk_alloc ?_ _)); exact BK158.out⟩, ⟨by (with_reducible repeat (first | refine blk_drewN ?_ _ | refine blk_drew ?_ | refine blk_alloc ?_ _)); exact BK159.out⟩, ⟨by (with_reducible repeat (first | refine blk_drewN ?_ _ | refine blk_drew ?_ | refine blk_alloc ?_ _)); exact BK160.out⟩, ⟨by repeat (first | (with_reducible first | exact HB.out | apply below_alloc | apply pw_below_drewN | apply below_drew1 | refine below_set ?_ GE158.out | refine below_set ?_ GE159.out | refine below_set ?_ GE160.out) | exact HB.out)⟩⟩
                                    case round => as_aux_lemma =>
                                      clear H'
                                      try clear c1
                                      try clear p1
                                      try clear q1
                                      try clear hx1
                                      try clear c2
                                      try clear c2b0
                                      try clear c2b1
                                      try clear p2
                                      try clear q2
                                      try clear hx2
                                      try clear c3
                                      try clear p3
                                      try clear q3
                                      try clear hx3
                                      try clear c4
                                      try clear c5
                                      try clear c6
                                      try clear p6
                                      try clear c7
                                      try clear c7b0
                                      try clear c8
                                      try clear c8b0
                                      try clear p9
                                      try clear q9
                                      try clear hx9
                                      try clear c11
                                      try clear c11b0
                                      try clear c11b1
                                      try clear c12
                                      try clear c12b0
                                      try clear c12b1
                                      try clear c13
                                      try clear c15
                                      try clear c15b0
                                      try clear c15b1
                                      try clear c16
                                      try clear c16b0
                                      try clear c17
                                      try clear c18
                                      try clear c18b0
                                      try clear p19
                                      try clear q19
                                      try clear hx19
                                      try clear c20
                                      try clear c21
                                      try clear c21b0
                                      try clear c22
                                      try clear c22b0
                                      try clear p23
                                      try clear q23
                                      try clear hx23
                                      try clear c24
                                      try clear c24b0
                                      try clear c24b1
                                      try clear c25
                                      try clear c26
                                      try clear c27
                                      try clear c28
                                      try clear c32
                                      try clear c34
                                      try clear c36
                                      try clear c36b0
                                      try clear c37
                                      try clear c37b0
                                      try clear p38
                                      try clear q38
                                      try clear hx38
                                      try clear c40
                                      try clear c41
                                      try clear c41b0
                                      try clear c41b1
                                      try clear c42
                                      try clear c42b0
                                      try clear c42b1
                                      try clear c43
                                      try clear c43b0
                                      try clear c43b1
                                      try clear c45
                                      try clear c46
                                      try clear c47
                                      try clear c50
                                      try clear c51
                                      try clear c52
                                      try clear c55
                                      try clear c56
                                      try clear c57
                                      try clear c59
                                      try clear c60
                                      try clear c63
                                      try clear p64
                                      try clear hcz29_0
                                      try clear hcz29_1
                                      try clear hcz29_2
                                      try clear hcz29_3
                                      try clear hcz48_0
                                      try clear hcz48_1
                                      try clear hcz48_2
                                      try clear hcz48_3
                                      try clear hcz4_0
                                      try clear hcz4_1
                                      try clear hcz4_2
                                      try clear hcz53_0
                                      try clear hcz53_1
                                      try clear hcz53_2
                                      try clear hcz53_3
                                      try clear hcz58_0
                                      try clear hcz58_1
                                      try clear hcz58_2
                                      try clear hcz58_3
                                      try clear hcz61_0
                                      try clear hcz61_1
                                      try clear hcz61_2
                                      try clear hcz61_3
                                      try clear hfz29_0
                                      try clear hfz29_1
                                      try clear hfz29_2
                                      try clear hfz29_3
                                      try clear hfz48_0
                                      try clear hfz48_1
                                      try clear hfz48_2
                                      try clear hfz48_3
                                      try clear hfz4_0
                                      try clear hfz4_1
                                      try clear hfz4_2
                                      try clear hfz53_0
                                      try clear hfz53_1
                                      try clear hfz53_2
                                      try clear hfz53_3
                                      try clear hfz58_0
                                      try clear hfz58_1
                                      try clear hfz58_2
                                      try clear hfz58_3
                                      try clear hfz61_0
                                      try clear hfz61_1
                                      try clear hfz61_2
                                      try clear hfz61_3
                                      try clear p1
                                      try clear p19
                                      try clear p2
                                      try clear p23
                                      try clear p3
                                      try clear p38
                                      try clear p6
                                      try clear p9
                                      try clear q1
                                      try clear q19
                                      try clear q2
                                      try clear q23
                                      try clear q3
                                      try clear q38
                                      try clear q9
                                      obtain ⟨x7_5, rfl, HA, HK5, HO_160000, BK158, BK159, BK160, HB⟩ := hrel
                                      cases gk with
                                      | zero => exact absurd HA.out (by simp [warpref9_Lex.l3])
                                      | succ k5 =>
                                        have H := HA.out
                                        clear HA
                                        simp only [warpref9_Lex.l3] at H
                                        by_cases c65 : x7_5 < (a0.size : Int)
                                        · rw [if_pos c65] at H
                                          have c65b0 : decide (x7_5 < (a0.size : Int)) = true := decide_eq_true c65
                                          clear c65
                                          (first | rw [c65b0] | (simp only [i64_w, i32_w]; rw [c65b0]) | skip)
                                          by_cases c66 : 0 ≤ x7_5
                                          · rw [if_pos c66] at H
                                            have c66b0 : decide (0 ≤ x7_5) = true := decide_eq_true c66
                                            clear c66
                                            replace H := Option.bind_eq_some_iff.mp H
                                            obtain ⟨t168, A680, H⟩ := H
                                            replace H : (if t168 = true then (warpref9_Lex.l3 k5 a0 x4_1 (wrap64 (x7_5 + 1)) x160000_1 0 0 0 x4_1 (⟨#[]⟩ : ByteArray) 0) else (warpref9_Lex.j8 k5 a0 x4_1 x7_5 x160000_1 0 0 0 x4_1 (⟨#[]⟩ : ByteArray) 0)) = some (r1, r2, r3) := H
                                            have A68 := Aside0.mk A680
                                            clear A680
                                            by_cases c69 : t168 = true
                                            · subst c69
                                              have H1 : (warpref9_Lex.l3 k5 a0 x4_1 (wrap64 (x7_5 + 1)) x160000_1 0 0 0 x4_1 (⟨#[]⟩ : ByteArray) 0) = some (r1, r2, r3) := by rw [if_pos rfl] at H; exact H
                                              clear H
                                              have H := H1
                                              clear H1
                                              have H' := Aside0.mk H
                                              clear H
                                              have p67 : 0 ≤ (x7_5 : Int) := of_decide_eq_true (by first | (with_reducible assumption) | assumption)
                                              have q67 : x7_5 < (a0.size : Int) := of_decide_eq_true (by first | (with_reducible assumption) | assumption)
                                              have hx67 := bt_at a0 x7_5
                                              replace p67 := eq_true p67
                                              replace q67 := eq_true q67
                                              go_wp2_with (first | (go_at_call 26; (with_reducible refine (warpref9_digit.calls (bt a0 x7_5) true _ A68.out).mono ?_); rintro e w' ⟨rfl, ⟨nd, rfl⟩⟩))
                                              go_roundg k5
                                              case measure => have := HK1.out; have := HJ9.out; have := HJ13.out; have := HJ29.out; have := HK5.out; omega
                                              case rel => exact ⟨(wrap64 (x7_5 + 1)), (by first | rfl | (simp; done) | (simp [*]; done)), H', ⟨by have := HK1.out; have := HJ9.out; have := HJ13.out; have := HJ29.out; have := HK5.out; omega⟩, ⟨by (with_reducible repeat (first | apply Kd.R_alloc | apply Kd.R_drewN | apply Kd.R_drew)); exact HO_160000.out⟩, ⟨by (with_reducible repeat (first | refine blk_drewN ?_ _ | refine blk_drew ?_ | refine blk_alloc ?_ _)); exact BK158.out⟩, ⟨by (with_reducible repeat (first | refine blk_drewN ?_ _ | refine blk_drew ?_ | refine blk_alloc ?_ _)); exact BK159.out⟩, ⟨by (with_reducible repeat (first | refine blk_drewN ?_ _ | refine blk_drew ?_ | refine blk_alloc ?_ _)); exact BK160.out⟩, ⟨by repeat (first | (with_reducible first | exact HB.out | apply below_alloc | apply pw_below_drewN | apply below_drew1 | refine below_set ?_ GE158.out | refine below_set ?_ GE159.out | refine below_set ?_ GE160.out) | exact HB.out)⟩⟩
                                            · replace c69 := Bool.eq_false_iff.mpr c69
                                              subst c69
                                              have H1 : (warpref9_Lex.j8 k5 a0 x4_1 x7_5 x160000_1 0 0 0 x4_1 (⟨#[]⟩ : ByteArray) 0) = some (r1, r2, r3) := by rw [if_neg (show ¬ (false = true) by decide)] at H; exact H
                                              clear H
                                              have H := H1
                                              clear H1
                                              have H' := Aside0.mk H
                                              clear H
                                              have p67 : 0 ≤ (x7_5 : Int) := of_decide_eq_true (by first | (with_reducible assumption) | assumption)
                                              have q67 : x7_5 < (a0.size : Int) := of_decide_eq_true (by first | (with_reducible assumption) | assumption)
                                              have hx67 := bt_at a0 x7_5
                                              replace p67 := eq_true p67
                                              replace q67 := eq_true q67
                                              go_wp2_with (first | (go_at_call 26; (with_reducible refine (warpref9_digit.calls (bt a0 x7_5) false _ A68.out).mono ?_); rintro e w' ⟨rfl, ⟨nd, rfl⟩⟩))
                                              go_meet
                                              case rel => exact ⟨_, (x7_5), (by first | rfl | (simp; done) | (simp [*]; done)), H', ⟨by have := HK1.out; have := HJ9.out; have := HJ13.out; have := HJ29.out; have := HK5.out; first | omega | exact Nat.le_refl _⟩, ⟨by (with_reducible repeat (first | apply Kd.R_alloc | apply Kd.R_drewN | apply Kd.R_drew)); exact HO_160000.out⟩, ⟨by (with_reducible repeat (first | refine blk_drewN ?_ _ | refine blk_drew ?_ | refine blk_alloc ?_ _)); exact BK158.out⟩, ⟨by (with_reducible repeat (first | refine blk_drewN ?_ _ | refine blk_drew ?_ | refine blk_alloc ?_ _)); exact BK159.out⟩, ⟨by (with_reducible repeat (first | refine blk_drewN ?_ _ | refine blk_drew ?_ | refine blk_alloc ?_ _)); exact BK160.out⟩, ⟨by repeat (first | (with_reducible first | exact HB.out | apply below_alloc | apply pw_below_drewN | apply below_drew1 | refine below_set ?_ GE158.out | refine below_set ?_ GE159.out | refine below_set ?_ GE160.out) | exact HB.out)⟩⟩
                                          · rw [if_neg c66] at H
                                            exact absurd H (by simp)
                                        · rw [if_neg c65] at H
                                          have c65b0 : decide (x7_5 < (a0.size : Int)) = false := decide_eq_false c65
                                          clear c65
                                          (first | rw [c65b0] | (simp only [i64_w, i32_w]; rw [c65b0]) | skip)
                                          have H' := Aside0.mk H
                                          clear H
                                          go_wp2
                                          go_meet
                                          case rel => exact ⟨_, (x7_5), (by first | rfl | (simp; done) | (simp [*]; done)), H', ⟨by have := HK1.out; have := HJ9.out; have := HJ13.out; have := HJ29.out; have := HK5.out; first | omega | exact Nat.le_refl _⟩, ⟨by (with_reducible repeat (first | apply Kd.R_alloc | apply Kd.R_drewN | apply Kd.R_drew)); exact HO_160000.out⟩, ⟨by (with_reducible repeat (first | refine blk_drewN ?_ _ | refine blk_drew ?_ | refine blk_alloc ?_ _)); exact BK158.out⟩, ⟨by (with_reducible repeat (first | refine blk_drewN ?_ _ | refine blk_drew ?_ | refine blk_alloc ?_ _)); exact BK159.out⟩, ⟨by (with_reducible repeat (first | refine blk_drewN ?_ _ | refine blk_drew ?_ | refine blk_alloc ?_ _)); exact BK160.out⟩, ⟨by repeat (first | (with_reducible first | exact HB.out | apply below_alloc | apply pw_below_drewN | apply below_drew1 | refine below_set ?_ GE158.out | refine below_set ?_ GE159.out | refine below_set ?_ GE160.out) | exact HB.out)⟩⟩
                                  case rest => as_aux_lemma =>
                                    clear HC64
                                    try clear c1
                                    try clear p1
                                    try clear q1
                                    try clear hx1
                                    try clear c2
                                    try clear c2b0
                                    try clear c2b1
                                    try clear p2
                                    try clear q2
                                    try clear hx2
                                    try clear c3
                                    try clear p3
                                    try clear q3
                                    try clear hx3
                                    try clear c4
                                    try clear c5
                                    try clear c6
                                    try clear p6
                                    try clear q6
                                    try clear hx6
                                    try clear c7
                                    try clear c7b0
                                    try clear c8
                                    try clear c8b0
                                    try clear p9
                                    try clear q9
                                    try clear hx9
                                    try clear c11
                                    try clear c11b0
                                    try clear c11b1
                                    try clear c12
                                    try clear c12b0
                                    try clear c12b1
                                    try clear c13
                                    try clear c15
                                    try clear c15b0
                                    try clear c15b1
                                    try clear c16
                                    try clear c16b0
                                    try clear c17
                                    try clear c18
                                    try clear c18b0
                                    try clear p19
                                    try clear q19
                                    try clear hx19
                                    try clear c20
                                    try clear c21
                                    try clear c21b0
                                    try clear c22
                                    try clear c22b0
                                    try clear p23
                                    try clear q23
                                    try clear hx23
                                    try clear c24
                                    try clear c24b0
                                    try clear c24b1
                                    try clear c25
                                    try clear c26
                                    try clear c27
                                    try clear c28
                                    try clear c32
                                    try clear c34
                                    try clear c36
                                    try clear c36b0
                                    try clear c37
                                    try clear c37b0
                                    try clear p38
                                    try clear q38
                                    try clear hx38
                                    try clear c40
                                    try clear c41
                                    try clear c41b0
                                    try clear c41b1
                                    try clear c42
                                    try clear c42b0
                                    try clear c42b1
                                    try clear c43
                                    try clear c43b0
                                    try clear c43b1
                                    try clear c45
                                    try clear c46
                                    try clear c47
                                    try clear c50
                                    try clear c51
                                    try clear c52
                                    try clear c55
                                    try clear c56
                                    try clear c57
                                    try clear c59
                                    try clear c60
                                    try clear c63
                                    try clear p64
                                    try clear c65
                                    try clear c65b0
                                    try clear c66
                                    try clear c66b0
                                    try clear p67
                                    try clear q67
                                    try clear hx67
                                    try clear c69
                                    try clear hcz29_0
                                    try clear hcz29_1
                                    try clear hcz29_2
                                    try clear hcz29_3
                                    try clear hcz48_0
                                    try clear hcz48_1
                                    try clear hcz48_2
                                    try clear hcz48_3
                                    try clear hcz4_0
                                    try clear hcz4_1
                                    try clear hcz4_2
                                    try clear hcz53_0
                                    try clear hcz53_1
                                    try clear hcz53_2
                                    try clear hcz53_3
                                    try clear hcz58_0
                                    try clear hcz58_1
                                    try clear hcz58_2
                                    try clear hcz58_3
                                    try clear hcz61_0
                                    try clear hcz61_1
                                    try clear hcz61_2
                                    try clear hcz61_3
                                    try clear hfz29_0
                                    try clear hfz29_1
                                    try clear hfz29_2
                                    try clear hfz29_3
                                    try clear hfz48_0
                                    try clear hfz48_1
                                    try clear hfz48_2
                                    try clear hfz48_3
                                    try clear hfz4_0
                                    try clear hfz4_1
                                    try clear hfz4_2
                                    try clear hfz53_0
                                    try clear hfz53_1
                                    try clear hfz53_2
                                    try clear hfz53_3
                                    try clear hfz58_0
                                    try clear hfz58_1
                                    try clear hfz58_2
                                    try clear hfz58_3
                                    try clear hfz61_0
                                    try clear hfz61_1
                                    try clear hfz61_2
                                    try clear hfz61_3
                                    try clear p1
                                    try clear p19
                                    try clear p2
                                    try clear p23
                                    try clear p3
                                    try clear p38
                                    try clear p6
                                    try clear p64
                                    try clear p67
                                    try clear p9
                                    try clear q1
                                    try clear q19
                                    try clear q2
                                    try clear q23
                                    try clear q3
                                    try clear q38
                                    try clear q67
                                    try clear q9
                                    obtain ⟨kq, x7_63, rfl, HA, HJ63, HO_160000, BK158, BK159, BK160, HB⟩ := hcut
                                    cases kq with
                                    | zero => exact absurd HA.out (by simp [warpref9_Lex.j8])
                                    | succ kj63 =>
                                      have H := HA.out
                                      clear HA
                                      simp only [warpref9_Lex.j8] at H
                                      by_cases c70 : 0 ≤ x4_1
                                      · rw [if_pos c70] at H
                                        have c70b0 := eq_true c70
                                        have c70b1 : decide (0 ≤ x4_1) = true := decide_eq_true c70
                                        clear c70
                                        by_cases c71 : x4_1 ≤ x7_63
                                        · rw [if_pos c71] at H
                                          have c71b0 := eq_true c71
                                          have c71b1 : decide (x4_1 ≤ x7_63) = true := decide_eq_true c71
                                          clear c71
                                          by_cases c72 : x7_63 ≤ (a0.size : Int)
                                          · rw [if_pos c72] at H
                                            have c72b0 := eq_true c72
                                            have c72b1 : decide (x7_63 ≤ (a0.size : Int)) = true := decide_eq_true c72
                                            clear c72
                                            replace H := Option.bind_eq_some_iff.mp H
                                            obtain ⟨t169, A730, H⟩ := H
                                            replace H : (if t169 ≥ 0 then (warpref9_Lex.j11 kj63 a0 x4_1 x7_63 x160000_1 0 0 3 x4_1 (⟨#[]⟩ : ByteArray) t169) else (warpref9_Lex.j11 kj63 a0 x4_1 x7_63 x160000_1 0 0 0 x4_1 (⟨#[]⟩ : ByteArray) t169)) = some (r1, r2, r3) := H
                                            have A73 := Aside0.mk A730
                                            clear A730
                                            by_cases c74 : t169 ≥ 0
                                            · rw [if_pos c74] at H
                                              have c74b0 : decide (0 ≤ t169) = true := decide_eq_true c74
                                              clear c74
                                              have H' := Aside0.mk H
                                              clear H
                                              go_wp2_with (first | ((with_reducible refine gate_callee (f := 27) rfl ?_); refine goesL_ (some 120) rfl rfl Try.func27 (by kernel_rfl) rfl #[.string (a0.extract (x4_1 : Int).toNat (x7_63 : Int).toNat)] rfl (by (try simp only [List.map_toArray, List.map_cons, List.map_nil]); first | done | rfl | (simp only [List.length_drop, List.length_take]; rfl)) ?_; (with_reducible refine (warpref9_number.calls kj63 (a0.extract (x4_1 : Int).toNat (x7_63 : Int).toNat) t169 _ A73.out).mono ?_); rintro e w' ⟨rfl, ⟨nd, rfl⟩⟩; refine ⟨_, rfl, ?_⟩; (try (rw [drewN_self wc]; generalize hq_ : World.drewN wc _ = wc; have n0_ : Aside0 (Kd.R k38 38 wc w.heap.size (fun k_ => k_ ≠ gb160) u160000 x160000_1) := ⟨by rw [← hq_]; exact (by (with_reducible repeat (first | apply Kd.R_alloc | apply Kd.R_drewN | apply Kd.R_drew)); exact HO_160000.out)⟩; have n1_ : Aside0 (wc.heap[gb158]? = some (.cells #[.slice none 0 0, .int .i64 x159001_1, .int .i64 x159002_1] 28 (0, 0))) := ⟨by rw [← hq_]; exact (by (with_reducible repeat (first | refine blk_drewN ?_ _ | refine blk_drew ?_ | refine blk_alloc ?_ _)); exact BK158.out)⟩; have n2_ : Aside0 (wc.heap[gb159]? = some (.cells #[u160000, .int .i64 0, .int .i64 0] 28 (0, 0))) := ⟨by rw [← hq_]; exact (by (with_reducible repeat (first | refine blk_drewN ?_ _ | refine blk_drew ?_ | refine blk_alloc ?_ _)); exact BK159.out)⟩; have n3_ : Aside0 (wc.heap[gb160]? = some (.cells #[.int .i64 0, .int .i64 x4_1, .string (⟨#[]⟩ : ByteArray), .int .i64 0] 38 (0, 0))) := ⟨by rw [← hq_]; exact (by (with_reducible repeat (first | refine blk_drewN ?_ _ | refine blk_drew ?_ | refine blk_alloc ?_ _)); exact BK160.out)⟩; have n4_ : Aside0 (Below w.heap.size w wc) := ⟨by rw [← hq_]; exact (by repeat (first | (with_reducible first | exact HB.out | apply below_alloc | apply pw_below_drewN | apply below_drew1 | refine below_set ?_ GE158.out | refine below_set ?_ GE159.out | refine below_set ?_ GE160.out) | exact HB.out))⟩; clear HO_160000 BK158 BK159 BK160 HB hq_; have HO_160000 := n0_; have BK158 := n1_; have BK159 := n2_; have BK160 := n3_; have HB := n4_; clear n0_ n1_ n2_ n3_ n4_)); have hnb75 := NB160_158.out; have hnc75 := NB158_160.out; have hnb76 := NB160_159.out; have hnc76 := NB159_160.out; have hcz77_0 : wc.cell? ⟨gb160, 0, none⟩ = some (.int .i64 0) := (blk_cell BK160.out 0).trans rfl; have hcz77_1 : wc.cell? ⟨gb160, 1, none⟩ = some (.int .i64 x4_1) := (blk_cell BK160.out 1).trans rfl; have hcz77_2 : wc.cell? ⟨gb160, 2, none⟩ = some (.string (⟨#[]⟩ : ByteArray)) := (blk_cell BK160.out 2).trans rfl; have hcz77_3 : wc.cell? ⟨gb160, 3, none⟩ = some (.int .i64 0) := (blk_cell BK160.out 3).trans rfl; have hfz77_0 := blk_frozen BK160.out 0; have hfz77_1 := blk_frozen BK160.out 1; have hfz77_2 := blk_frozen BK160.out 2; have hfz77_3 := blk_frozen BK160.out 3))
                                              go_meet
                                              case rel => exact ⟨_, (x7_63), (3), ((⟨#[]⟩ : ByteArray)), (t169), (by first | rfl | (simp; done) | (simp [*]; done)), H', ⟨by have := HK1.out; have := HJ9.out; have := HJ13.out; have := HJ29.out; have := HJ63.out; first | omega | exact Nat.le_refl _⟩, ⟨by (with_reducible repeat (first | apply Kd.R_alloc | apply Kd.R_drewN | apply Kd.R_drew)); exact Kd.R_mono (Kd.R_far (p := ⟨gb160, 0, none⟩) (Kd.R_far (p := ⟨gb160, 3, none⟩) (Kd.R_mono HO_160000.out (fun k_ hk => (⟨hk, hk⟩ : _ ∧ k_ ≠ gb160))) (fun _ hk => hk.2) (.int .i64 t169)) (fun _ hk => hk.2) (.int .i64 3)) (fun _ hk => hk.1)⟩, ⟨by (with_reducible repeat (first | refine blk_drewN ?_ _ | refine blk_drew ?_ | refine blk_alloc ?_ _)); refine blk_far ?_ NB158_160.out _; (with_reducible repeat (first | refine blk_drewN ?_ _ | refine blk_drew ?_ | refine blk_alloc ?_ _)); refine blk_far ?_ NB158_160.out _; (with_reducible repeat (first | refine blk_drewN ?_ _ | refine blk_drew ?_ | refine blk_alloc ?_ _)); exact BK158.out⟩, ⟨by (with_reducible repeat (first | refine blk_drewN ?_ _ | refine blk_drew ?_ | refine blk_alloc ?_ _)); refine blk_far ?_ NB159_160.out _; (with_reducible repeat (first | refine blk_drewN ?_ _ | refine blk_drew ?_ | refine blk_alloc ?_ _)); refine blk_far ?_ NB159_160.out _; (with_reducible repeat (first | refine blk_drewN ?_ _ | refine blk_drew ?_ | refine blk_alloc ?_ _)); exact BK159.out⟩, ⟨by (with_reducible repeat (first | refine blk_drewN ?_ _ | refine blk_drew ?_ | refine blk_alloc ?_ _)); refine blk_put (cs := #[.int .i64 0, .int .i64 x4_1, .string (⟨#[]⟩ : ByteArray), .int .i64 t169]) ?_ 0 _ rfl; (with_reducible repeat (first | refine blk_drewN ?_ _ | refine blk_drew ?_ | refine blk_alloc ?_ _)); refine blk_put (cs := #[.int .i64 0, .int .i64 x4_1, .string (⟨#[]⟩ : ByteArray), .int .i64 0]) ?_ 3 _ rfl; (with_reducible repeat (first | refine blk_drewN ?_ _ | refine blk_drew ?_ | refine blk_alloc ?_ _)); exact BK160.out⟩, ⟨by repeat (first | (with_reducible first | exact HB.out | apply below_alloc | apply pw_below_drewN | apply below_drew1 | refine below_set ?_ GE158.out | refine below_set ?_ GE159.out | refine below_set ?_ GE160.out) | exact HB.out)⟩⟩
                                            · rw [if_neg c74] at H
                                              have c74b0 : decide (0 ≤ t169) = false := decide_eq_false c74
                                              clear c74
                                              have H' := Aside0.mk H
                                              clear H
                                              go_wp2_with (first | ((with_reducible refine gate_callee (f := 27) rfl ?_); refine goesL_ (some 120) rfl rfl Try.func27 (by kernel_rfl) rfl #[.string (a0.extract (x4_1 : Int).toNat (x7_63 : Int).toNat)] rfl (by (try simp only [List.map_toArray, List.map_cons, List.map_nil]); first | done | rfl | (simp only [List.length_drop, List.length_take]; rfl)) ?_; (with_reducible refine (warpref9_number.calls kj63 (a0.extract (x4_1 : Int).toNat (x7_63 : Int).toNat) t169 _ A73.out).mono ?_); rintro e w' ⟨rfl, ⟨nd, rfl⟩⟩; refine ⟨_, rfl, ?_⟩; (try (rw [drewN_self wc]; generalize hq_ : World.drewN wc _ = wc; have n0_ : Aside0 (Kd.R k38 38 wc w.heap.size (fun k_ => k_ ≠ gb160) u160000 x160000_1) := ⟨by rw [← hq_]; exact (by (with_reducible repeat (first | apply Kd.R_alloc | apply Kd.R_drewN | apply Kd.R_drew)); exact HO_160000.out)⟩; have n1_ : Aside0 (wc.heap[gb158]? = some (.cells #[.slice none 0 0, .int .i64 x159001_1, .int .i64 x159002_1] 28 (0, 0))) := ⟨by rw [← hq_]; exact (by (with_reducible repeat (first | refine blk_drewN ?_ _ | refine blk_drew ?_ | refine blk_alloc ?_ _)); exact BK158.out)⟩; have n2_ : Aside0 (wc.heap[gb159]? = some (.cells #[u160000, .int .i64 0, .int .i64 0] 28 (0, 0))) := ⟨by rw [← hq_]; exact (by (with_reducible repeat (first | refine blk_drewN ?_ _ | refine blk_drew ?_ | refine blk_alloc ?_ _)); exact BK159.out)⟩; have n3_ : Aside0 (wc.heap[gb160]? = some (.cells #[.int .i64 0, .int .i64 x4_1, .string (⟨#[]⟩ : ByteArray), .int .i64 0] 38 (0, 0))) := ⟨by rw [← hq_]; exact (by (with_reducible repeat (first | refine blk_drewN ?_ _ | refine blk_drew ?_ | refine blk_alloc ?_ _)); exact BK160.out)⟩; have n4_ : Aside0 (Below w.heap.size w wc) := ⟨by rw [← hq_]; exact (by repeat (first | (with_reducible first | exact HB.out | apply below_alloc | apply pw_below_drewN | apply below_drew1 | refine below_set ?_ GE158.out | refine below_set ?_ GE159.out | refine below_set ?_ GE160.out) | exact HB.out))⟩; clear HO_160000 BK158 BK159 BK160 HB hq_; have HO_160000 := n0_; have BK158 := n1_; have BK159 := n2_; have BK160 := n3_; have HB := n4_; clear n0_ n1_ n2_ n3_ n4_)); have hnb78 := NB160_158.out; have hnc78 := NB158_160.out; have hnb79 := NB160_159.out; have hnc79 := NB159_160.out; have hcz80_0 : wc.cell? ⟨gb160, 0, none⟩ = some (.int .i64 0) := (blk_cell BK160.out 0).trans rfl; have hcz80_1 : wc.cell? ⟨gb160, 1, none⟩ = some (.int .i64 x4_1) := (blk_cell BK160.out 1).trans rfl; have hcz80_2 : wc.cell? ⟨gb160, 2, none⟩ = some (.string (⟨#[]⟩ : ByteArray)) := (blk_cell BK160.out 2).trans rfl; have hcz80_3 : wc.cell? ⟨gb160, 3, none⟩ = some (.int .i64 0) := (blk_cell BK160.out 3).trans rfl; have hfz80_0 := blk_frozen BK160.out 0; have hfz80_1 := blk_frozen BK160.out 1; have hfz80_2 := blk_frozen BK160.out 2; have hfz80_3 := blk_frozen BK160.out 3))
                                              go_meet
                                              case rel => exact ⟨_, (x7_63), (0), ((⟨#[]⟩ : ByteArray)), (t169), (by first | rfl | (simp; done) | (simp [*]; done)), H', ⟨by have := HK1.out; have := HJ9.out; have := HJ13.out; have := HJ29.out; have := HJ63.out; first | omega | exact Nat.le_refl _⟩, ⟨by (with_reducible repeat (first | apply Kd.R_alloc | apply Kd.R_drewN | apply Kd.R_drew)); exact Kd.R_mono (Kd.R_far (p := ⟨gb160, 3, none⟩) (Kd.R_mono HO_160000.out (fun k_ hk => (⟨hk, hk⟩ : _ ∧ k_ ≠ gb160))) (fun _ hk => hk.2) (.int .i64 t169)) (fun _ hk => hk.1)⟩, ⟨by (with_reducible repeat (first | refine blk_drewN ?_ _ | refine blk_drew ?_ | refine blk_alloc ?_ _)); refine blk_far ?_ NB158_160.out _; (with_reducible repeat (first | refine blk_drewN ?_ _ | refine blk_drew ?_ | refine blk_alloc ?_ _)); exact BK158.out⟩, ⟨by (with_reducible repeat (first | refine blk_drewN ?_ _ | refine blk_drew ?_ | refine blk_alloc ?_ _)); refine blk_far ?_ NB159_160.out _; (with_reducible repeat (first | refine blk_drewN ?_ _ | refine blk_drew ?_ | refine blk_alloc ?_ _)); exact BK159.out⟩, ⟨by (with_reducible repeat (first | refine blk_drewN ?_ _ | refine blk_drew ?_ | refine blk_alloc ?_ _)); refine blk_put (cs := #[.int .i64 0, .int .i64 x4_1, .string (⟨#[]⟩ : ByteArray), .int .i64 0]) ?_ 3 _ rfl; (with_reducible repeat (first | refine blk_drewN ?_ _ | refine blk_drew ?_ | refine blk_alloc ?_ _)); exact BK160.out⟩, ⟨by repeat (first | (with_reducible first | exact HB.out | apply below_alloc | apply pw_below_drewN | apply below_drew1 | refine below_set ?_ GE158.out | refine below_set ?_ GE159.out | refine below_set ?_ GE160.out) | exact HB.out)⟩⟩
                                          · rw [if_neg c72] at H
                                            exact absurd H (by simp)
                                        · rw [if_neg c71] at H
                                          exact absurd H (by simp)
                                      · rw [if_neg c70] at H
                                        exact absurd H (by simp)
                                · replace c63 := Bool.eq_false_iff.mpr c63
                                  subst c63
                                  have H1 : (if (bt a0 x4_1) = 45 then (if (wrap64 (x4_1 + 1)) < (a0.size : Int) then (if 0 ≤ (wrap64 (x4_1 + 1)) then (warpref9_Lex.j9 kj29 a0 x4_1 (bt a0 x4_1) x4_1 ((bt a0 (wrap64 (x4_1 + 1))) == 62) x160000_1 0 0 0 x4_1 (⟨#[]⟩ : ByteArray) 0) else (none)) else (warpref9_Lex.j9 kj29 a0 x4_1 (bt a0 x4_1) x4_1 false x160000_1 0 0 0 x4_1 (⟨#[]⟩ : ByteArray) 0)) else (warpref9_Lex.j9 kj29 a0 x4_1 (bt a0 x4_1) x4_1 false x160000_1 0 0 0 x4_1 (⟨#[]⟩ : ByteArray) 0)) = some (r1, r2, r3) := by rw [if_neg (show ¬ (false = true) by decide)] at H; exact H
                                  clear H
                                  have H := H1
                                  clear H1
                                  have HC81 := Aside0.mk H
                                  clear H
                                  go_upto_region 30 with (first | ((with_reducible refine gate_callee (f := 26) rfl ?_); refine goesL_ (some 103) rfl rfl Try.func26 (by kernel_rfl) rfl #[.int .u8 (bt a0 x4_1)] rfl (by (try simp only [List.map_toArray, List.map_cons, List.map_nil]); first | done | rfl | (simp only [List.length_drop, List.length_take]; rfl)) ?_; (with_reducible refine (warpref9_digit.calls (bt a0 x4_1) false _ A62.out).mono ?_); rintro e w' ⟨rfl, ⟨nd, rfl⟩⟩; refine ⟨_, rfl, ?_⟩))
                                  (try simp only [Act.put, List.setIfInBounds_toArray, List.set_cons_zero, List.set_cons_succ])
                                  go_cut [126] (fun v126 wc => ∃ (kq : Nat) (x126_80 : Bool), v126 = .bool x126_80 ∧ Aside0 (warpref9_Lex.j9 kq a0 x4_1 (bt a0 x4_1) x4_1 x126_80 x160000_1 0 0 0 x4_1 (⟨#[]⟩ : ByteArray) 0 = some (r1, r2, r3)) ∧ Aside0 (kq ≤ kj29) ∧ Aside0 (Kd.R k38 38 wc w.heap.size (fun k_ => k_ ≠ gb160) u160000 x160000_1) ∧ Aside0 (wc.heap[gb158]? = some (.cells #[(.slice none 0 0), .int .i64 x159001_1, .int .i64 x159002_1] 28 (0, 0))) ∧ Aside0 (wc.heap[gb159]? = some (.cells #[u160000, .int .i64 0, .int .i64 0] 28 (0, 0))) ∧ Aside0 (wc.heap[gb160]? = some (.cells #[.int .i64 0, .int .i64 x4_1, .string (⟨#[]⟩ : ByteArray), .int .i64 0] 38 (0, 0))) ∧ Aside0 (Below w.heap.size w wc))
                                  case first => as_aux_lemma =>
                                    have H := HC81.out
                                    clear HC81
                                    by_cases c82 : (bt a0 x4_1) = 45
                                    · rw [if_pos c82] at H
                                      have c82b0 : ((bt a0 x4_1) == 45) = true := beq_iff_eq.mpr c82
                                      have c82b1 : ((bt a0 x4_1) != 45) = false := bne_eq_false_iff_eq.mpr c82
                                      clear c82
                                      (first | rw [c82b0] | (simp only [i64_w, i32_w]; rw [c82b0]) | skip)
                                      by_cases c83 : (wrap64 (x4_1 + 1)) < (a0.size : Int)
                                      · rw [if_pos c83] at H
                                        have c83b0 : decide ((wrap64 (x4_1 + 1)) < (a0.size : Int)) = true := decide_eq_true c83
                                        clear c83
                                        obtain ⟨ji84, hji84⟩ : ∃ j_ : Int, (wrap64 (x4_1 + 1)) = j_ := ⟨_, rfl⟩
                                        replace H : (if 0 ≤ (ji84) then (warpref9_Lex.j9 kj29 a0 x4_1 (bt a0 x4_1) x4_1 ((bt a0 (ji84)) == 62) x160000_1 0 0 0 x4_1 (⟨#[]⟩ : ByteArray) 0) else (none)) = some (r1, r2, r3) := by first | (rw [hji84] at H; exact H) | (simp only [hji84] at H ⊢; exact H)
                                        (try rw [hji84] at c83b0)
                                        have hji84w : (IntKind.i64.wrap (x4_1 + 1)) = ji84 := (i64_w _).trans hji84
                                        by_cases c85 : 0 ≤ (ji84)
                                        · rw [if_pos c85] at H
                                          have c85b0 : decide (0 ≤ (ji84)) = true := decide_eq_true c85
                                          clear c85
                                          have H' := Aside0.mk H
                                          clear H
                                          have p86 : 0 ≤ ((ji84) : Int) := of_decide_eq_true (by first | (with_reducible assumption) | assumption)
                                          have q86 : (ji84) < (a0.size : Int) := of_decide_eq_true (by first | (with_reducible assumption) | assumption)
                                          have hx86 := bt_at a0 (ji84)
                                          replace p86 := eq_true p86
                                          replace q86 := eq_true q86
                                          go_wp2
                                          go_meet
                                          case rel => exact ⟨_, (((bt a0 (ji84)) == 62)), (by first | rfl | (simp; done) | (simp only [← hji84] <;> (first | rfl | simp)) | (simp [*]; done)), H', ⟨by have := HK1.out; have := HJ9.out; have := HJ13.out; have := HJ29.out; first | omega | exact Nat.le_refl _⟩, ⟨by (with_reducible repeat (first | apply Kd.R_alloc | apply Kd.R_drewN | apply Kd.R_drew)); exact HO_160000.out⟩, ⟨by (with_reducible repeat (first | refine blk_drewN ?_ _ | refine blk_drew ?_ | refine blk_alloc ?_ _)); exact BK158.out⟩, ⟨by (with_reducible repeat (first | refine blk_drewN ?_ _ | refine blk_drew ?_ | refine blk_alloc ?_ _)); exact BK159.out⟩, ⟨by (with_reducible repeat (first | refine blk_drewN ?_ _ | refine blk_drew ?_ | refine blk_alloc ?_ _)); exact BK160.out⟩, ⟨by repeat (first | (with_reducible first | exact HB.out | apply below_alloc | apply pw_below_drewN | apply below_drew1 | refine below_set ?_ GE158.out | refine below_set ?_ GE159.out | refine below_set ?_ GE160.out) | exact HB.out)⟩⟩
                                        · rw [if_neg c85] at H
                                          exact absurd H (by simp)
                                      · rw [if_neg c83] at H
                                        have c83b0 : decide ((wrap64 (x4_1 + 1)) < (a0.size : Int)) = false := decide_eq_false c83
                                        clear c83
                                        have H' := Aside0.mk H
                                        clear H
                                        go_wp2
                                        go_meet
                                        case rel => exact ⟨_, (false), (by first | rfl | (simp; done) | (simp [*]; done)), H', ⟨by have := HK1.out; have := HJ9.out; have := HJ13.out; have := HJ29.out; first | omega | exact Nat.le_refl _⟩, ⟨by (with_reducible repeat (first | apply Kd.R_alloc | apply Kd.R_drewN | apply Kd.R_drew)); exact HO_160000.out⟩, ⟨by (with_reducible repeat (first | refine blk_drewN ?_ _ | refine blk_drew ?_ | refine blk_alloc ?_ _)); exact BK158.out⟩, ⟨by (with_reducible repeat (first | refine blk_drewN ?_ _ | refine blk_drew ?_ | refine blk_alloc ?_ _)); exact BK159.out⟩, ⟨by (with_reducible repeat (first | refine blk_drewN ?_ _ | refine blk_drew ?_ | refine blk_alloc ?_ _)); exact BK160.out⟩, ⟨by repeat (first | (with_reducible first | exact HB.out | apply below_alloc | apply pw_below_drewN | apply below_drew1 | refine below_set ?_ GE158.out | refine below_set ?_ GE159.out | refine below_set ?_ GE160.out) | exact HB.out)⟩⟩
                                    · rw [if_neg c82] at H
                                      have c82b0 : ((bt a0 x4_1) == 45) = false := beq_eq_false_iff_ne.mpr c82
                                      have c82b1 : ((bt a0 x4_1) != 45) = true := bne_iff_ne.mpr c82
                                      (first | rw [c82b0] | (simp only [i64_w, i32_w]; rw [c82b0]) | skip)
                                      have H' := Aside0.mk H
                                      clear H
                                      go_wp2
                                      go_meet
                                      case rel => exact ⟨_, (false), (by first | rfl | (simp; done) | (simp [*]; done)), H', ⟨by have := HK1.out; have := HJ9.out; have := HJ13.out; have := HJ29.out; first | omega | exact Nat.le_refl _⟩, ⟨by (with_reducible repeat (first | apply Kd.R_alloc | apply Kd.R_drewN | apply Kd.R_drew)); exact HO_160000.out⟩, ⟨by (with_reducible repeat (first | refine blk_drewN ?_ _ | refine blk_drew ?_ | refine blk_alloc ?_ _)); exact BK158.out⟩, ⟨by (with_reducible repeat (first | refine blk_drewN ?_ _ | refine blk_drew ?_ | refine blk_alloc ?_ _)); exact BK159.out⟩, ⟨by (with_reducible repeat (first | refine blk_drewN ?_ _ | refine blk_drew ?_ | refine blk_alloc ?_ _)); exact BK160.out⟩, ⟨by repeat (first | (with_reducible first | exact HB.out | apply below_alloc | apply pw_below_drewN | apply below_drew1 | refine below_set ?_ GE158.out | refine below_set ?_ GE159.out | refine below_set ?_ GE160.out) | exact HB.out)⟩⟩
                                  case rest => as_aux_lemma =>
                                    clear HC81
                                    try clear c1
                                    try clear p1
                                    try clear q1
                                    try clear hx1
                                    try clear c2
                                    try clear c2b0
                                    try clear c2b1
                                    try clear p2
                                    try clear q2
                                    try clear hx2
                                    try clear c3
                                    try clear p3
                                    try clear q3
                                    try clear hx3
                                    try clear c4
                                    try clear c5
                                    try clear c6
                                    try clear p6
                                    try clear q6
                                    try clear hx6
                                    try clear c7
                                    try clear c7b0
                                    try clear c8
                                    try clear c8b0
                                    try clear p8
                                    try clear q8
                                    try clear hx8
                                    try clear p9
                                    try clear q9
                                    try clear hx9
                                    try clear c11
                                    try clear c11b0
                                    try clear c11b1
                                    try clear c12
                                    try clear c12b0
                                    try clear c12b1
                                    try clear c13
                                    try clear c15
                                    try clear c15b0
                                    try clear c15b1
                                    try clear c16
                                    try clear c16b0
                                    try clear c17
                                    try clear c18
                                    try clear c18b0
                                    try clear p19
                                    try clear q19
                                    try clear hx19
                                    try clear c20
                                    try clear c21
                                    try clear c21b0
                                    try clear c22
                                    try clear c22b0
                                    try clear p23
                                    try clear q23
                                    try clear hx23
                                    try clear c24
                                    try clear c24b0
                                    try clear c24b1
                                    try clear c25
                                    try clear c26
                                    try clear c27
                                    try clear c28
                                    try clear c32
                                    try clear c34
                                    try clear c36
                                    try clear c36b0
                                    try clear c37
                                    try clear c37b0
                                    try clear p38
                                    try clear q38
                                    try clear hx38
                                    try clear c40
                                    try clear c41
                                    try clear c41b0
                                    try clear c41b1
                                    try clear c42
                                    try clear c42b0
                                    try clear c42b1
                                    try clear c43
                                    try clear c43b0
                                    try clear c43b1
                                    try clear c45
                                    try clear c46
                                    try clear c47
                                    try clear c50
                                    try clear c51
                                    try clear c52
                                    try clear c55
                                    try clear c56
                                    try clear c57
                                    try clear c59
                                    try clear c60
                                    try clear c63
                                    try clear p64
                                    try clear c65
                                    try clear c65b0
                                    try clear c66
                                    try clear c66b0
                                    try clear p67
                                    try clear q67
                                    try clear hx67
                                    try clear c69
                                    try clear c70
                                    try clear c70b0
                                    try clear c70b1
                                    try clear c71
                                    try clear c71b0
                                    try clear c71b1
                                    try clear c72
                                    try clear c72b0
                                    try clear c72b1
                                    try clear c74
                                    try clear c74b0
                                    try clear c75
                                    try clear c76
                                    try clear c78
                                    try clear c79
                                    try clear c82
                                    try clear c82b0
                                    try clear c82b1
                                    try clear c83
                                    try clear c83b0
                                    try clear c85
                                    try clear c85b0
                                    try clear p86
                                    try clear q86
                                    try clear hx86
                                    try clear hcz29_0
                                    try clear hcz29_1
                                    try clear hcz29_2
                                    try clear hcz29_3
                                    try clear hcz48_0
                                    try clear hcz48_1
                                    try clear hcz48_2
                                    try clear hcz48_3
                                    try clear hcz4_0
                                    try clear hcz4_1
                                    try clear hcz4_2
                                    try clear hcz53_0
                                    try clear hcz53_1
                                    try clear hcz53_2
                                    try clear hcz53_3
                                    try clear hcz58_0
                                    try clear hcz58_1
                                    try clear hcz58_2
                                    try clear hcz58_3
                                    try clear hcz61_0
                                    try clear hcz61_1
                                    try clear hcz61_2
                                    try clear hcz61_3
                                    try clear hcz77_0
                                    try clear hcz77_1
                                    try clear hcz77_2
                                    try clear hcz77_3
                                    try clear hcz80_0
                                    try clear hcz80_1
                                    try clear hcz80_2
                                    try clear hcz80_3
                                    try clear hfz29_0
                                    try clear hfz29_1
                                    try clear hfz29_2
                                    try clear hfz29_3
                                    try clear hfz48_0
                                    try clear hfz48_1
                                    try clear hfz48_2
                                    try clear hfz48_3
                                    try clear hfz4_0
                                    try clear hfz4_1
                                    try clear hfz4_2
                                    try clear hfz53_0
                                    try clear hfz53_1
                                    try clear hfz53_2
                                    try clear hfz53_3
                                    try clear hfz58_0
                                    try clear hfz58_1
                                    try clear hfz58_2
                                    try clear hfz58_3
                                    try clear hfz61_0
                                    try clear hfz61_1
                                    try clear hfz61_2
                                    try clear hfz61_3
                                    try clear hfz77_0
                                    try clear hfz77_1
                                    try clear hfz77_2
                                    try clear hfz77_3
                                    try clear hfz80_0
                                    try clear hfz80_1
                                    try clear hfz80_2
                                    try clear hfz80_3
                                    try clear p1
                                    try clear p19
                                    try clear p2
                                    try clear p23
                                    try clear p3
                                    try clear p38
                                    try clear p6
                                    try clear p64
                                    try clear p67
                                    try clear p86
                                    try clear p9
                                    try clear q1
                                    try clear q19
                                    try clear q2
                                    try clear q23
                                    try clear q3
                                    try clear q38
                                    try clear q6
                                    try clear q67
                                    try clear q86
                                    try clear q9
                                    obtain ⟨kq, x126_80, rfl, HA, HJ80, HO_160000, BK158, BK159, BK160, HB⟩ := hcut
                                    cases kq with
                                    | zero => exact absurd HA.out (by simp [warpref9_Lex.j9])
                                    | succ kj80 =>
                                      have H := HA.out
                                      clear HA
                                      simp only [warpref9_Lex.j9] at H
                                      by_cases c87 : x126_80 = true
                                      · subst c87
                                        have H1 : (warpref9_Lex.j11 kj80 a0 x4_1 (wrap64 (x4_1 + 2)) x160000_1 0 0 5 x4_1 (⟨#[45, 62]⟩ : ByteArray) 0) = some (r1, r2, r3) := by rw [if_pos rfl] at H; exact H
                                        clear H
                                        have H := H1
                                        clear H1
                                        have H' := Aside0.mk H
                                        clear H
                                        have hnb88 := NB160_158.out
                                        have hnc88 := NB158_160.out
                                        have hnb89 := NB160_159.out
                                        have hnc89 := NB159_160.out
                                        have hcz90_0 : wc.cell? ⟨gb160, 0, none⟩ = some (.int .i64 0) := (blk_cell BK160.out 0).trans rfl
                                        have hcz90_1 : wc.cell? ⟨gb160, 1, none⟩ = some (.int .i64 x4_1) := (blk_cell BK160.out 1).trans rfl
                                        have hcz90_2 : wc.cell? ⟨gb160, 2, none⟩ = some (.string (⟨#[]⟩ : ByteArray)) := (blk_cell BK160.out 2).trans rfl
                                        have hcz90_3 : wc.cell? ⟨gb160, 3, none⟩ = some (.int .i64 0) := (blk_cell BK160.out 3).trans rfl
                                        have hfz90_0 := blk_frozen BK160.out 0
                                        have hfz90_1 := blk_frozen BK160.out 1
                                        have hfz90_2 := blk_frozen BK160.out 2
                                        have hfz90_3 := blk_frozen BK160.out 3
                                        go_wp2
                                        go_meet
                                        case rel => exact ⟨_, (wrap64 (x4_1 + 2)), (5), ((⟨#[45, 62]⟩ : ByteArray)), (0), (by first | rfl | (simp; done) | (simp [*]; done)), H', ⟨by have := HK1.out; have := HJ9.out; have := HJ13.out; have := HJ29.out; have := HJ80.out; first | omega | exact Nat.le_refl _⟩, ⟨by (with_reducible repeat (first | apply Kd.R_alloc | apply Kd.R_drewN | apply Kd.R_drew)); exact Kd.R_mono (Kd.R_far (p := ⟨gb160, 2, none⟩) (Kd.R_far (p := ⟨gb160, 0, none⟩) (Kd.R_mono HO_160000.out (fun k_ hk => (⟨hk, hk⟩ : _ ∧ k_ ≠ gb160))) (fun _ hk => hk.2) (.int .i64 5)) (fun _ hk => hk.2) (.string (⟨#[45, 62]⟩ : ByteArray))) (fun _ hk => hk.1)⟩, ⟨by (with_reducible repeat (first | refine blk_drewN ?_ _ | refine blk_drew ?_ | refine blk_alloc ?_ _)); refine blk_far ?_ NB158_160.out _; (with_reducible repeat (first | refine blk_drewN ?_ _ | refine blk_drew ?_ | refine blk_alloc ?_ _)); refine blk_far ?_ NB158_160.out _; (with_reducible repeat (first | refine blk_drewN ?_ _ | refine blk_drew ?_ | refine blk_alloc ?_ _)); exact BK158.out⟩, ⟨by (with_reducible repeat (first | refine blk_drewN ?_ _ | refine blk_drew ?_ | refine blk_alloc ?_ _)); refine blk_far ?_ NB159_160.out _; (with_reducible repeat (first | refine blk_drewN ?_ _ | refine blk_drew ?_ | refine blk_alloc ?_ _)); refine blk_far ?_ NB159_160.out _; (with_reducible repeat (first | refine blk_drewN ?_ _ | refine blk_drew ?_ | refine blk_alloc ?_ _)); exact BK159.out⟩, ⟨by (with_reducible repeat (first | refine blk_drewN ?_ _ | refine blk_drew ?_ | refine blk_alloc ?_ _)); refine blk_put (cs := #[.int .i64 5, .int .i64 x4_1, .string (⟨#[]⟩ : ByteArray), .int .i64 0]) ?_ 2 _ rfl; (with_reducible repeat (first | refine blk_drewN ?_ _ | refine blk_drew ?_ | refine blk_alloc ?_ _)); refine blk_put (cs := #[.int .i64 0, .int .i64 x4_1, .string (⟨#[]⟩ : ByteArray), .int .i64 0]) ?_ 0 _ rfl; (with_reducible repeat (first | refine blk_drewN ?_ _ | refine blk_drew ?_ | refine blk_alloc ?_ _)); exact BK160.out⟩, ⟨by repeat (first | (with_reducible first | exact HB.out | apply below_alloc | apply pw_below_drewN | apply below_drew1 | refine below_set ?_ GE158.out | refine below_set ?_ GE159.out | refine below_set ?_ GE160.out) | exact HB.out)⟩⟩
                                      · replace c87 := Bool.eq_false_iff.mpr c87
                                        subst c87
                                        have H1 : (if (bt a0 x4_1) = 92 then (warpref9_Lex.j10 kj80 a0 x4_1 x4_1 true x160000_1 0 0 0 x4_1 (⟨#[]⟩ : ByteArray) 0) else (if (bt a0 x4_1) = 61 then (warpref9_Lex.j10 kj80 a0 x4_1 x4_1 true x160000_1 0 0 0 x4_1 (⟨#[]⟩ : ByteArray) 0) else (if (bt a0 x4_1) = 59 then (warpref9_Lex.j10 kj80 a0 x4_1 x4_1 true x160000_1 0 0 0 x4_1 (⟨#[]⟩ : ByteArray) 0) else (if (bt a0 x4_1) = 124 then (warpref9_Lex.j10 kj80 a0 x4_1 x4_1 true x160000_1 0 0 0 x4_1 (⟨#[]⟩ : ByteArray) 0) else (if (bt a0 x4_1) = 40 then (warpref9_Lex.j10 kj80 a0 x4_1 x4_1 true x160000_1 0 0 0 x4_1 (⟨#[]⟩ : ByteArray) 0) else (if (bt a0 x4_1) = 41 then (warpref9_Lex.j10 kj80 a0 x4_1 x4_1 true x160000_1 0 0 0 x4_1 (⟨#[]⟩ : ByteArray) 0) else (if (bt a0 x4_1) = 44 then (warpref9_Lex.j10 kj80 a0 x4_1 x4_1 true x160000_1 0 0 0 x4_1 (⟨#[]⟩ : ByteArray) 0) else (if (bt a0 x4_1) = 123 then (warpref9_Lex.j10 kj80 a0 x4_1 x4_1 true x160000_1 0 0 0 x4_1 (⟨#[]⟩ : ByteArray) 0) else (warpref9_Lex.j10 kj80 a0 x4_1 x4_1 ((bt a0 x4_1) == 125) x160000_1 0 0 0 x4_1 (⟨#[]⟩ : ByteArray) 0))))))))) = some (r1, r2, r3) := by rw [if_neg (show ¬ (false = true) by decide)] at H; exact H
                                        clear H
                                        have H := H1
                                        clear H1
                                        have HC91 := Aside0.mk H
                                        clear H
                                        go_upto_region 34 with (fail)
                                        go_cut [147] (fun v147 wc => ∃ (kq : Nat) (x147_90 : Bool), v147 = .bool x147_90 ∧ Aside0 (warpref9_Lex.j10 kq a0 x4_1 x4_1 x147_90 x160000_1 0 0 0 x4_1 (⟨#[]⟩ : ByteArray) 0 = some (r1, r2, r3)) ∧ Aside0 (kq ≤ kj80) ∧ Aside0 (Kd.R k38 38 wc w.heap.size (fun k_ => k_ ≠ gb160) u160000 x160000_1) ∧ Aside0 (wc.heap[gb158]? = some (.cells #[(.slice none 0 0), .int .i64 x159001_1, .int .i64 x159002_1] 28 (0, 0))) ∧ Aside0 (wc.heap[gb159]? = some (.cells #[u160000, .int .i64 0, .int .i64 0] 28 (0, 0))) ∧ Aside0 (wc.heap[gb160]? = some (.cells #[.int .i64 0, .int .i64 x4_1, .string (⟨#[]⟩ : ByteArray), .int .i64 0] 38 (0, 0))) ∧ Aside0 (Below w.heap.size w wc))
                                        case first => as_aux_lemma =>
                                          have H := HC91.out
                                          clear HC91
                                          by_cases c92 : (bt a0 x4_1) = 92
                                          · rw [if_pos c92] at H
                                            have c92b0 : ((bt a0 x4_1) == 92) = true := beq_iff_eq.mpr c92
                                            have c92b1 : ((bt a0 x4_1) != 92) = false := bne_eq_false_iff_eq.mpr c92
                                            clear c92
                                            (first | rw [c92b0] | (simp only [i64_w, i32_w]; rw [c92b0]) | skip)
                                            have H' := Aside0.mk H
                                            clear H
                                            go_wp2
                                            go_meet
                                            case rel => exact ⟨_, (true), (by first | rfl | (simp; done) | (simp [*]; done)), H', ⟨by have := HK1.out; have := HJ9.out; have := HJ13.out; have := HJ29.out; have := HJ80.out; first | omega | exact Nat.le_refl _⟩, ⟨by (with_reducible repeat (first | apply Kd.R_alloc | apply Kd.R_drewN | apply Kd.R_drew)); exact HO_160000.out⟩, ⟨by (with_reducible repeat (first | refine blk_drewN ?_ _ | refine blk_drew ?_ | refine blk_alloc ?_ _)); exact BK158.out⟩, ⟨by (with_reducible repeat (first | refine blk_drewN ?_ _ | refine blk_drew ?_ | refine blk_alloc ?_ _)); exact BK159.out⟩, ⟨by (with_reducible repeat (first | refine blk_drewN ?_ _ | refine blk_drew ?_ | refine blk_alloc ?_ _)); exact BK160.out⟩, ⟨by repeat (first | (with_reducible first | exact HB.out | apply below_alloc | apply pw_below_drewN | apply below_drew1 | refine below_set ?_ GE158.out | refine below_set ?_ GE159.out | refine below_set ?_ GE160.out) | exact HB.out)⟩⟩
                                          · rw [if_neg c92] at H
                                            have c92b0 : ((bt a0 x4_1) == 92) = false := beq_eq_false_iff_ne.mpr c92
                                            have c92b1 : ((bt a0 x4_1) != 92) = true := bne_iff_ne.mpr c92
                                            (first | rw [c92b0] | (simp only [i64_w, i32_w]; rw [c92b0]) | skip)
                                            by_cases c93 : (bt a0 x4_1) = 61
                                            · rw [if_pos c93] at H
                                              have c93b0 : ((bt a0 x4_1) == 61) = true := beq_iff_eq.mpr c93
                                              have c93b1 : ((bt a0 x4_1) != 61) = false := bne_eq_false_iff_eq.mpr c93
                                              clear c93
                                              have H' := Aside0.mk H
                                              clear H
                                              go_wp2
                                              go_meet
                                              case rel => exact ⟨_, (true), (by first | rfl | (simp; done) | (simp [*]; done)), H', ⟨by have := HK1.out; have := HJ9.out; have := HJ13.out; have := HJ29.out; have := HJ80.out; first | omega | exact Nat.le_refl _⟩, ⟨by (with_reducible repeat (first | apply Kd.R_alloc | apply Kd.R_drewN | apply Kd.R_drew)); exact HO_160000.out⟩, ⟨by (with_reducible repeat (first | refine blk_drewN ?_ _ | refine blk_drew ?_ | refine blk_alloc ?_ _)); exact BK158.out⟩, ⟨by (with_reducible repeat (first | refine blk_drewN ?_ _ | refine blk_drew ?_ | refine blk_alloc ?_ _)); exact BK159.out⟩, ⟨by (with_reducible repeat (first | refine blk_drewN ?_ _ | refine blk_drew ?_ | refine blk_alloc ?_ _)); exact BK160.out⟩, ⟨by repeat (first | (with_reducible first | exact HB.out | apply below_alloc | apply pw_below_drewN | apply below_drew1 | refine below_set ?_ GE158.out | refine below_set ?_ GE159.out | refine below_set ?_ GE160.out) | exact HB.out)⟩⟩
                                            · rw [if_neg c93] at H
                                              have c93b0 : ((bt a0 x4_1) == 61) = false := beq_eq_false_iff_ne.mpr c93
                                              have c93b1 : ((bt a0 x4_1) != 61) = true := bne_iff_ne.mpr c93
                                              by_cases c94 : (bt a0 x4_1) = 59
                                              · rw [if_pos c94] at H
                                                have c94b0 : ((bt a0 x4_1) == 59) = true := beq_iff_eq.mpr c94
                                                have c94b1 : ((bt a0 x4_1) != 59) = false := bne_eq_false_iff_eq.mpr c94
                                                clear c94
                                                have H' := Aside0.mk H
                                                clear H
                                                go_wp2
                                                go_meet
                                                case rel => exact ⟨_, (true), (by first | rfl | (simp; done) | (simp [*]; done)), H', ⟨by have := HK1.out; have := HJ9.out; have := HJ13.out; have := HJ29.out; have := HJ80.out; first | omega | exact Nat.le_refl _⟩, ⟨by (with_reducible repeat (first | apply Kd.R_alloc | apply Kd.R_drewN | apply Kd.R_drew)); exact HO_160000.out⟩, ⟨by (with_reducible repeat (first | refine blk_drewN ?_ _ | refine blk_drew ?_ | refine blk_alloc ?_ _)); exact BK158.out⟩, ⟨by (with_reducible repeat (first | refine blk_drewN ?_ _ | refine blk_drew ?_ | refine blk_alloc ?_ _)); exact BK159.out⟩, ⟨by (with_reducible repeat (first | refine blk_drewN ?_ _ | refine blk_drew ?_ | refine blk_alloc ?_ _)); exact BK160.out⟩, ⟨by repeat (first | (with_reducible first | exact HB.out | apply below_alloc | apply pw_below_drewN | apply below_drew1 | refine below_set ?_ GE158.out | refine below_set ?_ GE159.out | refine below_set ?_ GE160.out) | exact HB.out)⟩⟩
                                              · rw [if_neg c94] at H
                                                have c94b0 : ((bt a0 x4_1) == 59) = false := beq_eq_false_iff_ne.mpr c94
                                                have c94b1 : ((bt a0 x4_1) != 59) = true := bne_iff_ne.mpr c94
                                                by_cases c95 : (bt a0 x4_1) = 124
                                                · rw [if_pos c95] at H
                                                  have c95b0 : ((bt a0 x4_1) == 124) = true := beq_iff_eq.mpr c95
                                                  have c95b1 : ((bt a0 x4_1) != 124) = false := bne_eq_false_iff_eq.mpr c95
                                                  clear c95
                                                  have H' := Aside0.mk H
                                                  clear H
                                                  go_wp2
                                                  go_meet
                                                  case rel => exact ⟨_, (true), (by first | rfl | (simp; done) | (simp [*]; done)), H', ⟨by have := HK1.out; have := HJ9.out; have := HJ13.out; have := HJ29.out; have := HJ80.out; first | omega | exact Nat.le_refl _⟩, ⟨by (with_reducible repeat (first | apply Kd.R_alloc | apply Kd.R_drewN | apply Kd.R_drew)); exact HO_160000.out⟩, ⟨by (with_reducible repeat (first | refine blk_drewN ?_ _ | refine blk_drew ?_ | refine blk_alloc ?_ _)); exact BK158.out⟩, ⟨by (with_reducible repeat (first | refine blk_drewN ?_ _ | refine blk_drew ?_ | refine blk_alloc ?_ _)); exact BK159.out⟩, ⟨by (with_reducible repeat (first | refine blk_drewN ?_ _ | refine blk_drew ?_ | refine blk_alloc ?_ _)); exact BK160.out⟩, ⟨by repeat (first | (with_reducible first | exact HB.out | apply below_alloc | apply pw_below_drewN | apply below_drew1 | refine below_set ?_ GE158.out | refine below_set ?_ GE159.out | refine below_set ?_ GE160.out) | exact HB.out)⟩⟩
                                                · rw [if_neg c95] at H
                                                  have c95b0 : ((bt a0 x4_1) == 124) = false := beq_eq_false_iff_ne.mpr c95
                                                  have c95b1 : ((bt a0 x4_1) != 124) = true := bne_iff_ne.mpr c95
                                                  by_cases c96 : (bt a0 x4_1) = 40
                                                  · rw [if_pos c96] at H
                                                    have c96b0 : ((bt a0 x4_1) == 40) = true := beq_iff_eq.mpr c96
                                                    have c96b1 : ((bt a0 x4_1) != 40) = false := bne_eq_false_iff_eq.mpr c96
                                                    clear c96
                                                    have H' := Aside0.mk H
                                                    clear H
                                                    go_wp2
                                                    go_meet
                                                    case rel => exact ⟨_, (true), (by first | rfl | (simp; done) | (simp [*]; done)), H', ⟨by have := HK1.out; have := HJ9.out; have := HJ13.out; have := HJ29.out; have := HJ80.out; first | omega | exact Nat.le_refl _⟩, ⟨by (with_reducible repeat (first | apply Kd.R_alloc | apply Kd.R_drewN | apply Kd.R_drew)); exact HO_160000.out⟩, ⟨by (with_reducible repeat (first | refine blk_drewN ?_ _ | refine blk_drew ?_ | refine blk_alloc ?_ _)); exact BK158.out⟩, ⟨by (with_reducible repeat (first | refine blk_drewN ?_ _ | refine blk_drew ?_ | refine blk_alloc ?_ _)); exact BK159.out⟩, ⟨by (with_reducible repeat (first | refine blk_drewN ?_ _ | refine blk_drew ?_ | refine blk_alloc ?_ _)); exact BK160.out⟩, ⟨by repeat (first | (with_reducible first | exact HB.out | apply below_alloc | apply pw_below_drewN | apply below_drew1 | refine below_set ?_ GE158.out | refine below_set ?_ GE159.out | refine below_set ?_ GE160.out) | exact HB.out)⟩⟩
                                                  · rw [if_neg c96] at H
                                                    have c96b0 : ((bt a0 x4_1) == 40) = false := beq_eq_false_iff_ne.mpr c96
                                                    have c96b1 : ((bt a0 x4_1) != 40) = true := bne_iff_ne.mpr c96
                                                    by_cases c97 : (bt a0 x4_1) = 41
                                                    · rw [if_pos c97] at H
                                                      have c97b0 : ((bt a0 x4_1) == 41) = true := beq_iff_eq.mpr c97
                                                      have c97b1 : ((bt a0 x4_1) != 41) = false := bne_eq_false_iff_eq.mpr c97
                                                      clear c97
                                                      have H' := Aside0.mk H
                                                      clear H
                                                      go_wp2
                                                      go_meet
                                                      case rel => exact ⟨_, (true), (by first | rfl | (simp; done) | (simp [*]; done)), H', ⟨by have := HK1.out; have := HJ9.out; have := HJ13.out; have := HJ29.out; have := HJ80.out; first | omega | exact Nat.le_refl _⟩, ⟨by (with_reducible repeat (first | apply Kd.R_alloc | apply Kd.R_drewN | apply Kd.R_drew)); exact HO_160000.out⟩, ⟨by (with_reducible repeat (first | refine blk_drewN ?_ _ | refine blk_drew ?_ | refine blk_alloc ?_ _)); exact BK158.out⟩, ⟨by (with_reducible repeat (first | refine blk_drewN ?_ _ | refine blk_drew ?_ | refine blk_alloc ?_ _)); exact BK159.out⟩, ⟨by (with_reducible repeat (first | refine blk_drewN ?_ _ | refine blk_drew ?_ | refine blk_alloc ?_ _)); exact BK160.out⟩, ⟨by repeat (first | (with_reducible first | exact HB.out | apply below_alloc | apply pw_below_drewN | apply below_drew1 | refine below_set ?_ GE158.out | refine below_set ?_ GE159.out | refine below_set ?_ GE160.out) | exact HB.out)⟩⟩
                                                    · rw [if_neg c97] at H
                                                      have c97b0 : ((bt a0 x4_1) == 41) = false := beq_eq_false_iff_ne.mpr c97
                                                      have c97b1 : ((bt a0 x4_1) != 41) = true := bne_iff_ne.mpr c97
                                                      by_cases c98 : (bt a0 x4_1) = 44
                                                      · rw [if_pos c98] at H
                                                        have c98b0 : ((bt a0 x4_1) == 44) = true := beq_iff_eq.mpr c98
                                                        have c98b1 : ((bt a0 x4_1) != 44) = false := bne_eq_false_iff_eq.mpr c98
                                                        clear c98
                                                        have H' := Aside0.mk H
                                                        clear H
                                                        go_wp2
                                                        go_meet
                                                        case rel => exact ⟨_, (true), (by first | rfl | (simp; done) | (simp [*]; done)), H', ⟨by have := HK1.out; have := HJ9.out; have := HJ13.out; have := HJ29.out; have := HJ80.out; first | omega | exact Nat.le_refl _⟩, ⟨by (with_reducible repeat (first | apply Kd.R_alloc | apply Kd.R_drewN | apply Kd.R_drew)); exact HO_160000.out⟩, ⟨by (with_reducible repeat (first | refine blk_drewN ?_ _ | refine blk_drew ?_ | refine blk_alloc ?_ _)); exact BK158.out⟩, ⟨by (with_reducible repeat (first | refine blk_drewN ?_ _ | refine blk_drew ?_ | refine blk_alloc ?_ _)); exact BK159.out⟩, ⟨by (with_reducible repeat (first | refine blk_drewN ?_ _ | refine blk_drew ?_ | refine blk_alloc ?_ _)); exact BK160.out⟩, ⟨by repeat (first | (with_reducible first | exact HB.out | apply below_alloc | apply pw_below_drewN | apply below_drew1 | refine below_set ?_ GE158.out | refine below_set ?_ GE159.out | refine below_set ?_ GE160.out) | exact HB.out)⟩⟩
                                                      · rw [if_neg c98] at H
                                                        have c98b0 : ((bt a0 x4_1) == 44) = false := beq_eq_false_iff_ne.mpr c98
                                                        have c98b1 : ((bt a0 x4_1) != 44) = true := bne_iff_ne.mpr c98
                                                        by_cases c99 : (bt a0 x4_1) = 123
                                                        · rw [if_pos c99] at H
                                                          have c99b0 : ((bt a0 x4_1) == 123) = true := beq_iff_eq.mpr c99
                                                          have c99b1 : ((bt a0 x4_1) != 123) = false := bne_eq_false_iff_eq.mpr c99
                                                          clear c99
                                                          have H' := Aside0.mk H
                                                          clear H
                                                          go_wp2
                                                          go_meet
                                                          case rel => exact ⟨_, (true), (by first | rfl | (simp; done) | (simp [*]; done)), H', ⟨by have := HK1.out; have := HJ9.out; have := HJ13.out; have := HJ29.out; have := HJ80.out; first | omega | exact Nat.le_refl _⟩, ⟨by (with_reducible repeat (first | apply Kd.R_alloc | apply Kd.R_drewN | apply Kd.R_drew)); exact HO_160000.out⟩, ⟨by (with_reducible repeat (first | refine blk_drewN ?_ _ | refine blk_drew ?_ | refine blk_alloc ?_ _)); exact BK158.out⟩, ⟨by (with_reducible repeat (first | refine blk_drewN ?_ _ | refine blk_drew ?_ | refine blk_alloc ?_ _)); exact BK159.out⟩, ⟨by (with_reducible repeat (first | refine blk_drewN ?_ _ | refine blk_drew ?_ | refine blk_alloc ?_ _)); exact BK160.out⟩, ⟨by repeat (first | (with_reducible first | exact HB.out | apply below_alloc | apply pw_below_drewN | apply below_drew1 | refine below_set ?_ GE158.out | refine below_set ?_ GE159.out | refine below_set ?_ GE160.out) | exact HB.out)⟩⟩
                                                        · rw [if_neg c99] at H
                                                          have c99b0 : ((bt a0 x4_1) == 123) = false := beq_eq_false_iff_ne.mpr c99
                                                          have c99b1 : ((bt a0 x4_1) != 123) = true := bne_iff_ne.mpr c99
                                                          have H' := Aside0.mk H
                                                          clear H
                                                          go_wp2
                                                          go_meet
                                                          case rel => exact ⟨_, (((bt a0 x4_1) == 125)), (by first | rfl | (simp; done) | (simp [*]; done)), H', ⟨by have := HK1.out; have := HJ9.out; have := HJ13.out; have := HJ29.out; have := HJ80.out; first | omega | exact Nat.le_refl _⟩, ⟨by (with_reducible repeat (first | apply Kd.R_alloc | apply Kd.R_drewN | apply Kd.R_drew)); exact HO_160000.out⟩, ⟨by (with_reducible repeat (first | refine blk_drewN ?_ _ | refine blk_drew ?_ | refine blk_alloc ?_ _)); exact BK158.out⟩, ⟨by (with_reducible repeat (first | refine blk_drewN ?_ _ | refine blk_drew ?_ | refine blk_alloc ?_ _)); exact BK159.out⟩, ⟨by (with_reducible repeat (first | refine blk_drewN ?_ _ | refine blk_drew ?_ | refine blk_alloc ?_ _)); exact BK160.out⟩, ⟨by repeat (first | (with_reducible first | exact HB.out | apply below_alloc | apply pw_below_drewN | apply below_drew1 | refine below_set ?_ GE158.out | refine below_set ?_ GE159.out | refine below_set ?_ GE160.out) | exact HB.out)⟩⟩
                                        case rest => as_aux_lemma =>
                                          clear HC91
                                          try clear c1
                                          try clear p1
                                          try clear q1
                                          try clear hx1
                                          try clear c2
                                          try clear c2b0
                                          try clear c2b1
                                          try clear p2
                                          try clear q2
                                          try clear hx2
                                          try clear c3
                                          try clear p3
                                          try clear q3
                                          try clear hx3
                                          try clear c4
                                          try clear c5
                                          try clear c6
                                          try clear p6
                                          try clear q6
                                          try clear hx6
                                          try clear c7
                                          try clear c7b0
                                          try clear c8
                                          try clear c8b0
                                          try clear p8
                                          try clear q8
                                          try clear hx8
                                          try clear c9
                                          try clear p9
                                          try clear q9
                                          try clear hx9
                                          try clear c11
                                          try clear c11b0
                                          try clear c11b1
                                          try clear c12
                                          try clear c12b0
                                          try clear c12b1
                                          try clear c13
                                          try clear c15
                                          try clear c15b0
                                          try clear c15b1
                                          try clear c16
                                          try clear c16b0
                                          try clear c17
                                          try clear c18
                                          try clear c18b0
                                          try clear p19
                                          try clear q19
                                          try clear hx19
                                          try clear c20
                                          try clear c21
                                          try clear c21b0
                                          try clear c22
                                          try clear c22b0
                                          try clear p23
                                          try clear q23
                                          try clear hx23
                                          try clear c24
                                          try clear c24b0
                                          try clear c24b1
                                          try clear c25
                                          try clear c26
                                          try clear c27
                                          try clear c28
                                          try clear c32
                                          try clear c34
                                          try clear c36
                                          try clear c36b0
                                          try clear c37
                                          try clear c37b0
                                          try clear p38
                                          try clear q38
                                          try clear hx38
                                          try clear c40
                                          try clear c41
                                          try clear c41b0
                                          try clear c41b1
                                          try clear c42
                                          try clear c42b0
                                          try clear c42b1
                                          try clear c43
                                          try clear c43b0
                                          try clear c43b1
                                          try clear c45
                                          try clear c46
                                          try clear c47
                                          try clear c50
                                          try clear c51
                                          try clear c52
                                          try clear c55
                                          try clear c56
                                          try clear c57
                                          try clear c59
                                          try clear c60
                                          try clear c63
                                          try clear p64
                                          try clear c65
                                          try clear c65b0
                                          try clear c66
                                          try clear c66b0
                                          try clear p67
                                          try clear q67
                                          try clear hx67
                                          try clear c69
                                          try clear c70
                                          try clear c70b0
                                          try clear c70b1
                                          try clear c71
                                          try clear c71b0
                                          try clear c71b1
                                          try clear c72
                                          try clear c72b0
                                          try clear c72b1
                                          try clear c74
                                          try clear c74b0
                                          try clear c75
                                          try clear c76
                                          try clear c78
                                          try clear c79
                                          try clear c82
                                          try clear c82b0
                                          try clear c82b1
                                          try clear c83
                                          try clear c83b0
                                          try clear c85
                                          try clear c85b0
                                          try clear p86
                                          try clear q86
                                          try clear hx86
                                          try clear c87
                                          try clear c88
                                          try clear c89
                                          try clear c92
                                          try clear c92b0
                                          try clear c92b1
                                          try clear c93
                                          try clear c93b0
                                          try clear c93b1
                                          try clear c94
                                          try clear c94b0
                                          try clear c94b1
                                          try clear c95
                                          try clear c95b0
                                          try clear c95b1
                                          try clear c96
                                          try clear c96b0
                                          try clear c96b1
                                          try clear c97
                                          try clear c97b0
                                          try clear c97b1
                                          try clear c98
                                          try clear c98b0
                                          try clear c98b1
                                          try clear c99
                                          try clear c99b0
                                          try clear c99b1
                                          try clear hcz29_0
                                          try clear hcz29_1
                                          try clear hcz29_2
                                          try clear hcz29_3
                                          try clear hcz48_0
                                          try clear hcz48_1
                                          try clear hcz48_2
                                          try clear hcz48_3
                                          try clear hcz4_0
                                          try clear hcz4_1
                                          try clear hcz4_2
                                          try clear hcz53_0
                                          try clear hcz53_1
                                          try clear hcz53_2
                                          try clear hcz53_3
                                          try clear hcz58_0
                                          try clear hcz58_1
                                          try clear hcz58_2
                                          try clear hcz58_3
                                          try clear hcz61_0
                                          try clear hcz61_1
                                          try clear hcz61_2
                                          try clear hcz61_3
                                          try clear hcz77_0
                                          try clear hcz77_1
                                          try clear hcz77_2
                                          try clear hcz77_3
                                          try clear hcz80_0
                                          try clear hcz80_1
                                          try clear hcz80_2
                                          try clear hcz80_3
                                          try clear hcz90_0
                                          try clear hcz90_1
                                          try clear hcz90_2
                                          try clear hcz90_3
                                          try clear hfz29_0
                                          try clear hfz29_1
                                          try clear hfz29_2
                                          try clear hfz29_3
                                          try clear hfz48_0
                                          try clear hfz48_1
                                          try clear hfz48_2
                                          try clear hfz48_3
                                          try clear hfz4_0
                                          try clear hfz4_1
                                          try clear hfz4_2
                                          try clear hfz53_0
                                          try clear hfz53_1
                                          try clear hfz53_2
                                          try clear hfz53_3
                                          try clear hfz58_0
                                          try clear hfz58_1
                                          try clear hfz58_2
                                          try clear hfz58_3
                                          try clear hfz61_0
                                          try clear hfz61_1
                                          try clear hfz61_2
                                          try clear hfz61_3
                                          try clear hfz77_0
                                          try clear hfz77_1
                                          try clear hfz77_2
                                          try clear hfz77_3
                                          try clear hfz80_0
                                          try clear hfz80_1
                                          try clear hfz80_2
                                          try clear hfz80_3
                                          try clear hfz90_0
                                          try clear hfz90_1
                                          try clear hfz90_2
                                          try clear hfz90_3
                                          try clear p1
                                          try clear p19
                                          try clear p2
                                          try clear p23
                                          try clear p3
                                          try clear p38
                                          try clear p6
                                          try clear p64
                                          try clear p67
                                          try clear p8
                                          try clear p86
                                          try clear p9
                                          try clear q1
                                          try clear q19
                                          try clear q2
                                          try clear q23
                                          try clear q3
                                          try clear q38
                                          try clear q6
                                          try clear q67
                                          try clear q8
                                          try clear q86
                                          try clear q9
                                          obtain ⟨kq, x147_90, rfl, HA, HJ90, HO_160000, BK158, BK159, BK160, HB⟩ := hcut
                                          cases kq with
                                          | zero => exact absurd HA.out (by simp [warpref9_Lex.j10])
                                          | succ kj90 =>
                                            have H := HA.out
                                            clear HA
                                            simp only [warpref9_Lex.j10] at H
                                            by_cases c100 : x147_90 = true
                                            · subst c100
                                              have H1 : (if 0 ≤ x4_1 then (if x4_1 ≤ (wrap64 (x4_1 + 1)) then (if (wrap64 (x4_1 + 1)) ≤ (a0.size : Int) then (warpref9_Lex.j11 kj90 a0 x4_1 (wrap64 (x4_1 + 1)) x160000_1 0 0 5 x4_1 (a0.extract (x4_1 : Int).toNat ((wrap64 (x4_1 + 1)) : Int).toNat) 0) else (none)) else (none)) else (none)) = some (r1, r2, r3) := by rw [if_pos rfl] at H; exact H
                                              clear H
                                              have H := H1
                                              clear H1
                                              by_cases c101 : 0 ≤ x4_1
                                              · rw [if_pos c101] at H
                                                have c101b0 := eq_true c101
                                                have c101b1 : decide (0 ≤ x4_1) = true := decide_eq_true c101
                                                clear c101
                                                by_cases c102 : x4_1 ≤ (wrap64 (x4_1 + 1))
                                                · rw [if_pos c102] at H
                                                  have c102b0 := eq_true c102
                                                  have c102b1 : decide (x4_1 ≤ (wrap64 (x4_1 + 1))) = true := decide_eq_true c102
                                                  by_cases c103 : (wrap64 (x4_1 + 1)) ≤ (a0.size : Int)
                                                  · rw [if_pos c103] at H
                                                    have c103b0 := eq_true c103
                                                    have c103b1 : decide ((wrap64 (x4_1 + 1)) ≤ (a0.size : Int)) = true := decide_eq_true c103
                                                    have H' := Aside0.mk H
                                                    clear H
                                                    have hnb104 := NB160_158.out
                                                    have hnc104 := NB158_160.out
                                                    have hnb105 := NB160_159.out
                                                    have hnc105 := NB159_160.out
                                                    have hcz106_0 : wc.cell? ⟨gb160, 0, none⟩ = some (.int .i64 0) := (blk_cell BK160.out 0).trans rfl
                                                    have hcz106_1 : wc.cell? ⟨gb160, 1, none⟩ = some (.int .i64 x4_1) := (blk_cell BK160.out 1).trans rfl
                                                    have hcz106_2 : wc.cell? ⟨gb160, 2, none⟩ = some (.string (⟨#[]⟩ : ByteArray)) := (blk_cell BK160.out 2).trans rfl
                                                    have hcz106_3 : wc.cell? ⟨gb160, 3, none⟩ = some (.int .i64 0) := (blk_cell BK160.out 3).trans rfl
                                                    have hfz106_0 := blk_frozen BK160.out 0
                                                    have hfz106_1 := blk_frozen BK160.out 1
                                                    have hfz106_2 := blk_frozen BK160.out 2
                                                    have hfz106_3 := blk_frozen BK160.out 3
                                                    go_wp2
                                                    go_meet
                                                    case rel => exact ⟨_, (wrap64 (x4_1 + 1)), (5), (a0.extract (x4_1 : Int).toNat ((wrap64 (x4_1 + 1)) : Int).toNat), (0), (by first | rfl | (simp; done) | (simp [*]; done)), H', ⟨by have := HK1.out; have := HJ9.out; have := HJ13.out; have := HJ29.out; have := HJ80.out; have := HJ90.out; first | omega | exact Nat.le_refl _⟩, ⟨by (with_reducible repeat (first | apply Kd.R_alloc | apply Kd.R_drewN | apply Kd.R_drew)); exact Kd.R_mono (Kd.R_far (p := ⟨gb160, 2, none⟩) (Kd.R_far (p := ⟨gb160, 0, none⟩) (Kd.R_mono HO_160000.out (fun k_ hk => (⟨hk, hk⟩ : _ ∧ k_ ≠ gb160))) (fun _ hk => hk.2) (.int .i64 5)) (fun _ hk => hk.2) (.string (a0.extract (x4_1 : Int).toNat ((wrap64 (x4_1 + 1)) : Int).toNat))) (fun _ hk => hk.1)⟩, ⟨by (with_reducible repeat (first | refine blk_drewN ?_ _ | refine blk_drew ?_ | refine blk_alloc ?_ _)); refine blk_far ?_ NB158_160.out _; (with_reducible repeat (first | refine blk_drewN ?_ _ | refine blk_drew ?_ | refine blk_alloc ?_ _)); refine blk_far ?_ NB158_160.out _; (with_reducible repeat (first | refine blk_drewN ?_ _ | refine blk_drew ?_ | refine blk_alloc ?_ _)); exact BK158.out⟩, ⟨by (with_reducible repeat (first | refine blk_drewN ?_ _ | refine blk_drew ?_ | refine blk_alloc ?_ _)); refine blk_far ?_ NB159_160.out _; (with_reducible repeat (first | refine blk_drewN ?_ _ | refine blk_drew ?_ | refine blk_alloc ?_ _)); refine blk_far ?_ NB159_160.out _; (with_reducible repeat (first | refine blk_drewN ?_ _ | refine blk_drew ?_ | refine blk_alloc ?_ _)); exact BK159.out⟩, ⟨by (with_reducible repeat (first | refine blk_drewN ?_ _ | refine blk_drew ?_ | refine blk_alloc ?_ _)); refine blk_put (cs := #[.int .i64 5, .int .i64 x4_1, .string (⟨#[]⟩ : ByteArray), .int .i64 0]) ?_ 2 _ rfl; (with_reducible repeat (first | refine blk_drewN ?_ _ | refine blk_drew ?_ | refine blk_alloc ?_ _)); refine blk_put (cs := #[.int .i64 0, .int .i64 x4_1, .string (⟨#[]⟩ : ByteArray), .int .i64 0]) ?_ 0 _ rfl; (with_reducible repeat (first | refine blk_drewN ?_ _ | refine blk_drew ?_ | refine blk_alloc ?_ _)); exact BK160.out⟩, ⟨by repeat (first | (with_reducible first | exact HB.out | apply below_alloc | apply pw_below_drewN | apply below_drew1 | refine below_set ?_ GE158.out | refine below_set ?_ GE159.out | refine below_set ?_ GE160.out) | exact HB.out)⟩⟩
                                                  · rw [if_neg c103] at H
                                                    exact absurd H (by simp)
                                                · rw [if_neg c102] at H
                                                  exact absurd H (by simp)
                                              · rw [if_neg c101] at H
                                                exact absurd H (by simp)
                                            · replace c100 := Bool.eq_false_iff.mpr c100
                                              subst c100
                                              have H1 : (warpref9_Lex.j11 kj90 a0 x4_1 x4_1 x160000_1 0 0 0 x4_1 (⟨#[]⟩ : ByteArray) 0) = some (r1, r2, r3) := by rw [if_neg (show ¬ (false = true) by decide)] at H; exact H
                                              clear H
                                              have H := H1
                                              clear H1
                                              have H' := Aside0.mk H
                                              clear H
                                              go_wp2
                                              go_meet
                                              case rel => exact ⟨_, (x4_1), (0), ((⟨#[]⟩ : ByteArray)), (0), (by first | rfl | (simp; done) | (simp [*]; done)), H', ⟨by have := HK1.out; have := HJ9.out; have := HJ13.out; have := HJ29.out; have := HJ80.out; have := HJ90.out; first | omega | exact Nat.le_refl _⟩, ⟨by (with_reducible repeat (first | apply Kd.R_alloc | apply Kd.R_drewN | apply Kd.R_drew)); exact HO_160000.out⟩, ⟨by (with_reducible repeat (first | refine blk_drewN ?_ _ | refine blk_drew ?_ | refine blk_alloc ?_ _)); exact BK158.out⟩, ⟨by (with_reducible repeat (first | refine blk_drewN ?_ _ | refine blk_drew ?_ | refine blk_alloc ?_ _)); exact BK159.out⟩, ⟨by (with_reducible repeat (first | refine blk_drewN ?_ _ | refine blk_drew ?_ | refine blk_alloc ?_ _)); exact BK160.out⟩, ⟨by repeat (first | (with_reducible first | exact HB.out | apply below_alloc | apply pw_below_drewN | apply below_drew1 | refine below_set ?_ GE158.out | refine below_set ?_ GE159.out | refine below_set ?_ GE160.out) | exact HB.out)⟩⟩
                        case rest => as_aux_lemma =>
                          clear HC25
                          try clear c1
                          try clear p1
                          try clear q1
                          try clear hx1
                          try clear c2
                          try clear c2b0
                          try clear c2b1
                          try clear p2
                          try clear q2
                          try clear hx2
                          try clear c3
                          try clear p3
                          try clear q3
                          try clear hx3
                          try clear c4
                          try clear c5
                          try clear c6
                          try clear p6
                          try clear q6
                          try clear hx6
                          try clear c7
                          try clear c7b0
                          try clear c8
                          try clear c8b0
                          try clear p8
                          try clear q8
                          try clear hx8
                          try clear c9
                          try clear p9
                          try clear q9
                          try clear hx9
                          try clear c10
                          try clear c11
                          try clear c11b0
                          try clear c11b1
                          try clear c12
                          try clear c12b0
                          try clear c12b1
                          try clear c13
                          try clear c15
                          try clear c15b0
                          try clear c15b1
                          try clear c16
                          try clear c16b0
                          try clear c17
                          try clear c18
                          try clear c18b0
                          try clear p19
                          try clear q19
                          try clear hx19
                          try clear c20
                          try clear c21
                          try clear c21b0
                          try clear c22
                          try clear c22b0
                          try clear p23
                          try clear q23
                          try clear hx23
                          try clear c24
                          try clear c24b0
                          try clear c24b1
                          try clear c25
                          try clear c26
                          try clear c27
                          try clear c28
                          try clear c32
                          try clear c34
                          try clear c36
                          try clear c36b0
                          try clear c37
                          try clear c37b0
                          try clear p38
                          try clear q38
                          try clear hx38
                          try clear c40
                          try clear c41
                          try clear c41b0
                          try clear c41b1
                          try clear c42
                          try clear c42b0
                          try clear c42b1
                          try clear c43
                          try clear c43b0
                          try clear c43b1
                          try clear c45
                          try clear c46
                          try clear c47
                          try clear c50
                          try clear c51
                          try clear c52
                          try clear c55
                          try clear c56
                          try clear c57
                          try clear c59
                          try clear c60
                          try clear c63
                          try clear p64
                          try clear c65
                          try clear c65b0
                          try clear c66
                          try clear c66b0
                          try clear p67
                          try clear q67
                          try clear hx67
                          try clear c69
                          try clear c70
                          try clear c70b0
                          try clear c70b1
                          try clear c71
                          try clear c71b0
                          try clear c71b1
                          try clear c72
                          try clear c72b0
                          try clear c72b1
                          try clear c74
                          try clear c74b0
                          try clear c75
                          try clear c76
                          try clear c78
                          try clear c79
                          try clear c82
                          try clear c82b0
                          try clear c82b1
                          try clear c83
                          try clear c83b0
                          try clear c85
                          try clear c85b0
                          try clear p86
                          try clear q86
                          try clear hx86
                          try clear c87
                          try clear c88
                          try clear c89
                          try clear c92
                          try clear c92b0
                          try clear c92b1
                          try clear c93
                          try clear c93b0
                          try clear c93b1
                          try clear c94
                          try clear c94b0
                          try clear c94b1
                          try clear c95
                          try clear c95b0
                          try clear c95b1
                          try clear c96
                          try clear c96b0
                          try clear c96b1
                          try clear c97
                          try clear c97b0
                          try clear c97b1
                          try clear c98
                          try clear c98b0
                          try clear c98b1
                          try clear c99
                          try clear c99b0
                          try clear c99b1
                          try clear c100
                          try clear c101
                          try clear c101b0
                          try clear c101b1
                          try clear c102
                          try clear c102b0
                          try clear c102b1
                          try clear c103
                          try clear c103b0
                          try clear c103b1
                          try clear c104
                          try clear c105
                          try clear hcz106_0
                          try clear hcz106_1
                          try clear hcz106_2
                          try clear hcz106_3
                          try clear hcz29_0
                          try clear hcz29_1
                          try clear hcz29_2
                          try clear hcz29_3
                          try clear hcz48_0
                          try clear hcz48_1
                          try clear hcz48_2
                          try clear hcz48_3
                          try clear hcz4_0
                          try clear hcz4_1
                          try clear hcz4_2
                          try clear hcz53_0
                          try clear hcz53_1
                          try clear hcz53_2
                          try clear hcz53_3
                          try clear hcz58_0
                          try clear hcz58_1
                          try clear hcz58_2
                          try clear hcz58_3
                          try clear hcz61_0
                          try clear hcz61_1
                          try clear hcz61_2
                          try clear hcz61_3
                          try clear hcz77_0
                          try clear hcz77_1
                          try clear hcz77_2
                          try clear hcz77_3
                          try clear hcz80_0
                          try clear hcz80_1
                          try clear hcz80_2
                          try clear hcz80_3
                          try clear hcz90_0
                          try clear hcz90_1
                          try clear hcz90_2
                          try clear hcz90_3
                          try clear hfz106_0
                          try clear hfz106_1
                          try clear hfz106_2
                          try clear hfz106_3
                          try clear hfz29_0
                          try clear hfz29_1
                          try clear hfz29_2
                          try clear hfz29_3
                          try clear hfz48_0
                          try clear hfz48_1
                          try clear hfz48_2
                          try clear hfz48_3
                          try clear hfz4_0
                          try clear hfz4_1
                          try clear hfz4_2
                          try clear hfz53_0
                          try clear hfz53_1
                          try clear hfz53_2
                          try clear hfz53_3
                          try clear hfz58_0
                          try clear hfz58_1
                          try clear hfz58_2
                          try clear hfz58_3
                          try clear hfz61_0
                          try clear hfz61_1
                          try clear hfz61_2
                          try clear hfz61_3
                          try clear hfz77_0
                          try clear hfz77_1
                          try clear hfz77_2
                          try clear hfz77_3
                          try clear hfz80_0
                          try clear hfz80_1
                          try clear hfz80_2
                          try clear hfz80_3
                          try clear hfz90_0
                          try clear hfz90_1
                          try clear hfz90_2
                          try clear hfz90_3
                          try clear p1
                          try clear p19
                          try clear p2
                          try clear p23
                          try clear p3
                          try clear p38
                          try clear p6
                          try clear p64
                          try clear p67
                          try clear p8
                          try clear p86
                          try clear p9
                          try clear q1
                          try clear q19
                          try clear q2
                          try clear q23
                          try clear q3
                          try clear q38
                          try clear q6
                          try clear q67
                          try clear q8
                          try clear q86
                          try clear q9
                          obtain ⟨kq, x7_24, x161000_24, x161002_24, x161003_24, rfl, HA, HJ24, HO_160000, BK158, BK159, BK160, HB⟩ := hcut
                          cases kq with
                          | zero => exact absurd HA.out (by simp [warpref9_Lex.j11])
                          | succ kj24 =>
                            have H := HA.out
                            clear HA
                            simp only [warpref9_Lex.j11] at H
                            by_cases c107 : x161000_24 = 0
                            · rw [if_pos c107] at H
                              have c107b0 : (x161000_24 == 0) = true := beq_iff_eq.mpr c107
                              have c107b1 : (x161000_24 != 0) = false := bne_eq_false_iff_eq.mpr c107
                              clear c107
                              simp only [Option.some.injEq, Prod.mk.injEq] at H
                              obtain ⟨rfl, rfl, rfl⟩ := H
                              have hnb108 := NB160_158.out
                              have hnc108 := NB158_160.out
                              have hnb109 := NB160_159.out
                              have hnc109 := NB159_160.out
                              have hcz110_0 : wc.cell? ⟨gb160, 0, none⟩ = some (.int .i64 x161000_24) := (blk_cell BK160.out 0).trans rfl
                              have hcz110_1 : wc.cell? ⟨gb160, 1, none⟩ = some (.int .i64 x4_1) := (blk_cell BK160.out 1).trans rfl
                              have hcz110_2 : wc.cell? ⟨gb160, 2, none⟩ = some (.string x161002_24) := (blk_cell BK160.out 2).trans rfl
                              have hcz110_3 : wc.cell? ⟨gb160, 3, none⟩ = some (.int .i64 x161003_24) := (blk_cell BK160.out 3).trans rfl
                              have hfz110_0 := blk_frozen BK160.out 0
                              have hfz110_1 := blk_frozen BK160.out 1
                              have hfz110_2 := blk_frozen BK160.out 2
                              have hfz110_3 := blk_frozen BK160.out 3
                              have hnb111 := NB158_159.out
                              have hnc111 := NB159_158.out
                              have hcz112_0 : wc.cell? ⟨gb158, 0, none⟩ = some (.slice none 0 0) := (blk_cell BK158.out 0).trans rfl
                              have hcz112_1 : wc.cell? ⟨gb158, 1, none⟩ = some (.int .i64 x159001_1) := (blk_cell BK158.out 1).trans rfl
                              have hcz112_2 : wc.cell? ⟨gb158, 2, none⟩ = some (.int .i64 x159002_1) := (blk_cell BK158.out 2).trans rfl
                              have hfz112_0 := blk_frozen BK158.out 0
                              have hfz112_1 := blk_frozen BK158.out 1
                              have hfz112_2 := blk_frozen BK158.out 2
                              go_wp2
                              refine bodyPost_ret (results_cell_row rfl _ _ gb158 28 #[.slice none 0 0, .int .i64 3, .int .i64 x4_1] (0, 0) _ rfl (by (with_reducible repeat (first | refine blk_drewN ?_ _ | refine blk_drew ?_ | refine blk_alloc ?_ _)); refine blk_put (cs := #[.slice none 0 0, .int .i64 3, .int .i64 x159002_1]) ?_ 2 _ rfl; (with_reducible repeat (first | refine blk_drewN ?_ _ | refine blk_drew ?_ | refine blk_alloc ?_ _)); refine blk_put (cs := #[.slice none 0 0, .int .i64 x159001_1, .int .i64 x159002_1]) ?_ 1 _ rfl; (with_reducible repeat (first | refine blk_drewN ?_ _ | refine blk_drew ?_ | refine blk_alloc ?_ _)); refine blk_put (cs := #[.slice none 0 0, .int .i64 x159001_1, .int .i64 x159002_1]) ?_ 0 _ rfl; (with_reducible repeat (first | refine blk_drewN ?_ _ | refine blk_drew ?_ | refine blk_alloc ?_ _)); exact BK158.out) Try.underlying28 rfl (by kernel_rfl)) rfl ?_
                              exact ⟨_, by first | rfl | (simp [errW_none, errW_some] <;> rfl) | (simp [*, errW_none, errW_some] <;> rfl), by first | exact Kd.R_nil _ _ _ _ _ | exact Kd.N_nil _ _ _ _ _ | exact Kd.V_nil _ _ _ _ _ | exact Kd.Q_nil _ _ _ _ _ | exact Kd.S_nil _ _ _ _ _, by repeat (first | (with_reducible first | exact HB.out | apply below_alloc | apply pw_below_drewN | apply below_drew1 | refine below_set ?_ GE158.out | refine below_set ?_ GE159.out | refine below_set ?_ GE160.out) | exact HB.out)⟩
                            · rw [if_neg c107] at H
                              have c107b0 : (x161000_24 == 0) = false := beq_eq_false_iff_ne.mpr c107
                              have c107b1 : (x161000_24 != 0) = true := bne_iff_ne.mpr c107
                              by_cases c113 : x160000_1.length < 3518437208883
                              · rw [if_pos c113] at H
                                have LMc113 := Aside0.mk c113
                                clear c113
                                obtain ⟨y170, hy170⟩ : ∃ y_ : List (S38), y_ = (x160000_1 ++ [(⟨x161000_24, x4_1, x161002_24, x161003_24⟩ : S38)]) := ⟨_, rfl⟩
                                replace H : (warpref9_Lex.l0 kj24 a0 x7_24 y170 0 0) = some (r1, r2, r3) := by first | (rw [hy170]; with_reducible exact H) | (have H2_ := (Option.bind_some _ _).symm.trans H; rw [hy170]; with_reducible exact H2_) | (have H2_ := (Option.bind_some _ _).symm.trans H; with_reducible exact H2_) | with_reducible exact H | (rw [hy170]; exact H) | exact H
                                have Ny170 := Aside0.mk hy170
                                clear hy170
                                have H' := Aside0.mk H
                                clear H
                                have hnb114 := NB160_158.out
                                have hnc114 := NB158_160.out
                                have hnb115 := NB160_159.out
                                have hnc115 := NB159_160.out
                                have hcz116_0 : wc.cell? ⟨gb160, 0, none⟩ = some (.int .i64 x161000_24) := (blk_cell BK160.out 0).trans rfl
                                have hcz116_1 : wc.cell? ⟨gb160, 1, none⟩ = some (.int .i64 x4_1) := (blk_cell BK160.out 1).trans rfl
                                have hcz116_2 : wc.cell? ⟨gb160, 2, none⟩ = some (.string x161002_24) := (blk_cell BK160.out 2).trans rfl
                                have hcz116_3 : wc.cell? ⟨gb160, 3, none⟩ = some (.int .i64 x161003_24) := (blk_cell BK160.out 3).trans rfl
                                have hfz116_0 := blk_frozen BK160.out 0
                                have hfz116_1 := blk_frozen BK160.out 1
                                have hfz116_2 := blk_frozen BK160.out 2
                                have hfz116_3 := blk_frozen BK160.out 3
                                have hnb117 := NB159_158.out
                                have hnc117 := NB158_159.out
                                have hcz118_0 : wc.cell? ⟨gb159, 0, none⟩ = some (u160000) := (blk_cell BK159.out 0).trans rfl
                                have hcz118_1 : wc.cell? ⟨gb159, 1, none⟩ = some (.int .i64 0) := (blk_cell BK159.out 1).trans rfl
                                have hcz118_2 : wc.cell? ⟨gb159, 2, none⟩ = some (.int .i64 0) := (blk_cell BK159.out 2).trans rfl
                                have hfz118_0 := blk_frozen BK159.out 0
                                have hfz118_1 := blk_frozen BK159.out 1
                                have hfz118_2 := blk_frozen BK159.out 2
                                go_wp2_with (first | ((with_reducible refine gate_builtin (b := .append) (xs := #[.tmp 196, .tmp 198]) rfl ?_); (try (refine gate_guard (by rfl) ?_; dsimp only)); at_builtin; refine Kd.R_append k38 (w0 := w) w.heap.size rfl (.tmp 196) (.tmp 198) 23 38 (.agg #[(.int .i64 0), (.int .i64 0), (.string ⟨#[]⟩), (.int .i64 0)]) 40 rfl Try.underlying23 info38 rfl (by decide) (by omega) u160000 x160000_1 (⟨x161000_24, x4_1, x161002_24, x161003_24⟩ : S38) [.int .i64 x161000_24, .int .i64 x4_1, .string x161002_24, .int .i64 x161003_24] (fun k_ => k_ ≠ gb160) (fun _ => False) rfl rfl ?aP (fun _ hk => hk.elim) ?aF ?aO ?aB ?aS ?aL ?_; (case aP => exact k38_mkM _ _ _ (⟨x161000_24, x4_1, x161002_24, x161003_24⟩ : S38)); (case aB => exact (by repeat (first | (with_reducible first | exact HB.out | apply below_alloc | apply pw_below_drewN | apply below_drew1 | refine below_set ?_ GE158.out | refine below_set ?_ GE159.out | refine below_set ?_ GE160.out) | exact HB.out))); (case aF => exact (fun k_ hk => Kd.freshB (g := gb160) (o := .cells #[.int .i64 x161000_24, .int .i64 x4_1, .string x161002_24, .int .i64 x161003_24] 38 (0, 0)) (by (with_reducible repeat (first | refine blk_drewN ?_ _ | refine blk_drew ?_ | refine blk_alloc ?_ _)); exact BK160.out) k_ hk)); (case aO => exact (by (with_reducible repeat (first | apply Kd.R_alloc | apply Kd.R_drewN | apply Kd.R_drew)); exact HO_160000.out)); (case aS => exact (below_size (by repeat (first | (with_reducible first | exact HB.out | apply below_alloc | apply pw_below_drewN | apply below_drew1 | refine below_set ?_ GE158.out | refine below_set ?_ GE159.out | refine below_set ?_ GE160.out) | exact HB.out)))); (case aL => have := LMc113.out; omega); intro v171 w119 ho hb hg hat; rw [← Ny170.out] at ho; have n0_ := Aside0.mk (blk_grown (g := gb158) (o := .cells #[.slice none 0 0, .int .i64 x159001_1, .int .i64 x159002_1] 28 (0, 0)) (by (with_reducible repeat (first | refine blk_drewN ?_ _ | refine blk_drew ?_ | refine blk_alloc ?_ _)); exact BK158.out) hg (Kd.R_ne HO_160000.out BK158.out (by decide))); have n1_ := Aside0.mk (blk_grown (g := gb159) (o := .cells #[u160000, .int .i64 0, .int .i64 0] 28 (0, 0)) (by (with_reducible repeat (first | refine blk_drewN ?_ _ | refine blk_drew ?_ | refine blk_alloc ?_ _)); exact BK159.out) hg (Kd.R_ne HO_160000.out BK159.out (by decide))); have n2_ := Aside0.mk (blk_grown (g := gb160) (o := .cells #[.int .i64 x161000_24, .int .i64 x4_1, .string x161002_24, .int .i64 x161003_24] 38 (0, 0)) (by (with_reducible repeat (first | refine blk_drewN ?_ _ | refine blk_drew ?_ | refine blk_alloc ?_ _)); exact BK160.out) hg (Kd.R_away HO_160000.out (fun _ hk => hk))); have n3_ := Aside0.mk (hb); have n4_ := Aside0.mk (ho); clear BK158; clear BK159; clear BK160; clear HB; clear HO_160000; have BK158 := n0_; have BK159 := n1_; have BK160 := n2_; have HB := n3_; have HO172 := n4_; clear n0_ n1_ n2_ n3_ n4_; clear ho hb hg hat; obtain ⟨Ao120, co120, eo120⟩ := Kd.R_slice HO172.out; subst eo120; have hcz121_0 : w119.cell? ⟨gb159, 0, none⟩ = some (u160000) := (blk_cell BK159.out 0).trans rfl; have hcz121_1 : w119.cell? ⟨gb159, 1, none⟩ = some (.int .i64 0) := (blk_cell BK159.out 1).trans rfl; have hcz121_2 : w119.cell? ⟨gb159, 2, none⟩ = some (.int .i64 0) := (blk_cell BK159.out 2).trans rfl; have hfz121_0 := blk_frozen BK159.out 0; have hfz121_1 := blk_frozen BK159.out 1; have hfz121_2 := blk_frozen BK159.out 2))
                                go_roundg kj24
                                case measure => have := HK1.out; have := HJ9.out; have := HJ13.out; have := HJ24.out; omega
                                case rel => exact ⟨(x7_24), (x159001_1), (x159002_1), (y170), (.slice Ao120 y170.length co120), (by first | rfl | (simp; done) | (simp [*]; done)), H', ⟨by have := HK1.out; have := HJ9.out; have := HJ13.out; have := HJ24.out; omega⟩, ⟨by (with_reducible repeat (first | apply Kd.R_alloc | apply Kd.R_drewN | apply Kd.R_drew)); exact Kd.R_mono (Kd.R_far (p := ⟨gb159, 0, none⟩) (Kd.R_types HO172.out BK159.out (by decide)) (fun _ hk => hk.2) (.slice Ao120 y170.length co120)) (fun _ hk => trivial)⟩, ⟨by (with_reducible repeat (first | refine blk_drewN ?_ _ | refine blk_drew ?_ | refine blk_alloc ?_ _)); refine blk_far ?_ NB158_159.out _; (with_reducible repeat (first | refine blk_drewN ?_ _ | refine blk_drew ?_ | refine blk_alloc ?_ _)); exact BK158.out⟩, ⟨by (with_reducible repeat (first | refine blk_drewN ?_ _ | refine blk_drew ?_ | refine blk_alloc ?_ _)); refine blk_put (cs := #[u160000, .int .i64 0, .int .i64 0]) ?_ 0 _ rfl; (with_reducible repeat (first | refine blk_drewN ?_ _ | refine blk_drew ?_ | refine blk_alloc ?_ _)); exact BK159.out⟩, ⟨by repeat (first | (with_reducible first | exact HB.out | apply below_alloc | apply pw_below_drewN | apply below_drew1 | refine below_set ?_ GE158.out | refine below_set ?_ GE159.out | refine below_set ?_ GE160.out) | exact HB.out)⟩⟩
                              · rw [if_neg c113] at H
                                exact absurd H (by simp)
          · rw [if_neg c8] at H
            exact absurd H (by simp)
        · rw [if_neg c7] at H
          have c7b0 : decide (x4_1 < (a0.size : Int)) = false := decide_eq_false c7
          clear c7
          simp only [Option.some.injEq, Prod.mk.injEq] at H
          obtain ⟨rfl, rfl, rfl⟩ := H
          have hnb122 := NB159_158.out
          have hnc122 := NB158_159.out
          have hcz123_0 : wr.cell? ⟨gb159, 0, none⟩ = some (u160000) := (blk_cell BK159.out 0).trans rfl
          have hcz123_1 : wr.cell? ⟨gb159, 1, none⟩ = some (.int .i64 0) := (blk_cell BK159.out 1).trans rfl
          have hcz123_2 : wr.cell? ⟨gb159, 2, none⟩ = some (.int .i64 0) := (blk_cell BK159.out 2).trans rfl
          have hfz123_0 := blk_frozen BK159.out 0
          have hfz123_1 := blk_frozen BK159.out 1
          have hfz123_2 := blk_frozen BK159.out 2
          obtain ⟨Ao124, co124, eo124⟩ := Kd.R_slice HO_160000.out
          subst eo124
          have hcz125_0 : wr.cell? ⟨gb158, 0, none⟩ = some (.slice none 0 0) := (blk_cell BK158.out 0).trans rfl
          have hcz125_1 : wr.cell? ⟨gb158, 1, none⟩ = some (.int .i64 x159001_1) := (blk_cell BK158.out 1).trans rfl
          have hcz125_2 : wr.cell? ⟨gb158, 2, none⟩ = some (.int .i64 x159002_1) := (blk_cell BK158.out 2).trans rfl
          have hfz125_0 := blk_frozen BK158.out 0
          have hfz125_1 := blk_frozen BK158.out 1
          have hfz125_2 := blk_frozen BK158.out 2
          go_wp2
          refine bodyPost_ret (results_cell_row rfl _ _ gb158 28 #[.slice Ao124 x160000_1.length co124, .int .i64 0, .int .i64 0] (0, 0) _ rfl (by (with_reducible repeat (first | refine blk_drewN ?_ _ | refine blk_drew ?_ | refine blk_alloc ?_ _)); refine blk_put (cs := #[.slice Ao124 x160000_1.length co124, .int .i64 0, .int .i64 x159002_1]) ?_ 2 _ rfl; (with_reducible repeat (first | refine blk_drewN ?_ _ | refine blk_drew ?_ | refine blk_alloc ?_ _)); refine blk_put (cs := #[.slice Ao124 x160000_1.length co124, .int .i64 x159001_1, .int .i64 x159002_1]) ?_ 1 _ rfl; (with_reducible repeat (first | refine blk_drewN ?_ _ | refine blk_drew ?_ | refine blk_alloc ?_ _)); refine blk_put (cs := #[.slice none 0 0, .int .i64 x159001_1, .int .i64 x159002_1]) ?_ 0 _ rfl; (with_reducible repeat (first | refine blk_drewN ?_ _ | refine blk_drew ?_ | refine blk_alloc ?_ _)); exact BK158.out) Try.underlying28 rfl (by kernel_rfl)) rfl ?_
          exact ⟨_, by first | rfl | (simp [errW_none, errW_some] <;> rfl) | (simp [*, errW_none, errW_some] <;> rfl), by (with_reducible repeat (first | apply Kd.R_alloc | apply Kd.R_drewN | apply Kd.R_drew)); exact Kd.R_mono (Kd.R_far (p := ⟨gb158, 2, none⟩) (Kd.R_far (p := ⟨gb158, 1, none⟩) (Kd.R_far (p := ⟨gb158, 0, none⟩) (Kd.R_types HO_160000.out BK158.out (by decide)) (fun _ hk => hk.2) (.slice Ao124 x160000_1.length co124)) (fun _ hk => hk.2) (.int .i64 0)) (fun _ hk => hk.2) (.int .i64 0)) (fun _ hk => trivial), by repeat (first | (with_reducible first | exact HB.out | apply below_alloc | apply pw_below_drewN | apply below_drew1 | refine below_set ?_ GE158.out | refine below_set ?_ GE159.out) | exact HB.out)⟩

end Go.Proofs.Ythpnplcagfpngaa.Q
