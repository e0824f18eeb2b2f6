/- Same: a list of tokens is one with itself. -/
import Derived.Test.YthpnplcagfpngaaS4
import Derived.Test.YthpnplcagfpngaaQ13
namespace Go.Proofs.Ythpnplcagfpngaa.Lx
open Go.RowKit Go.Proofs.YthpnplcagfpngaaW.PrintWords Go.Proofs.YthpnplcagfpngaaW.PrintLast Go.Proofs.YthpnplcagfpngaaW.PrintMore
open Go.Proofs.Ythpnplcagfpngaa.Q
set_option linter.unusedVariables false
set_option linter.unusedSimpArgs false
theorem same_l (xs : List S38) (hx : xs.length ≤ 65536) : ∀ (d i : Nat), xs.length - i = d → i ≤ xs.length → Ev (fun k => warplaw9_Same.l0 k xs xs (i : Int)) true := by
  intro d
  induction d with
  | zero =>
    intro i hd hi
    refine Ev.step (f := fun _ => some true) (fun k => ?_) (Ev.now _)
    simp only [warplaw9_Same.l0]
    rw [if_neg (by omega)]
  | succ d ih =>
    intro i hd hi
    refine Ev.step (fun k => ?_) (ih (i + 1) (by omega) (by omega))
    simp only [warplaw9_Same.l0]
    rw [if_pos (by omega), if_pos (by omega), if_pos (by omega), if_neg (by simp), wrap_id (by omega) (by omega)]
    rfl
theorem Same_ev (xs : List S38) (hx : xs.length ≤ 65536) : Ev (fun k => warplaw9_Same.f k xs xs) true :=
  Ev.congr (fun k => by simp only [warplaw9_Same.f]; rw [if_pos trivial]; rfl) (same_l xs hx xs.length 0 (by omega) (by omega))
theorem lexA_len : ∀ (n pos : Nat) (l : List UInt8) (ts : List Tk), l.length ≤ n → lexA pos l = .ok ts → ts.length ≤ l.length := by
  intro n
  induction n with
  | zero =>
    intro pos l ts hn hx
    have : l = [] := List.length_eq_zero_iff.1 (by omega)
    subst this
    rw [lexA_nil] at hx; cases hx; simp
  | succ n ih =>
    intro pos l ts hn hx
    by_cases hne : l = []
    · subst hne; rw [lexA_nil] at hx; cases hx; simp
    · by_cases h0 : (tokL l).2 = 0
      · rw [lexA_err hne h0] at hx; cases hx
      · rw [lexA_cons h0] at hx
        split at hx
        · cases hx
        · rename_i ts' hts
          cases hx
          have := List.length_pos_iff.2 hne
          have h2 := ih _ _ ts' (by simp; omega) hts
          simp at h2 ⊢; omega
theorem lexL_len (l : List UInt8) (ts : List Tk) (h : lexL l = .ok ts) : ts.length ≤ l.length := by
  have := lexA_len _ _ _ _ (Nat.le_refl _) h
  simp at this; omega
end Go.Proofs.Ythpnplcagfpngaa.Lx
