/- Decimal digits: what the reference writes, and what a number's digits tell. -/
import Derived.Test.YthpnplcagfpngaaS4
import Derived.Test.YthpnplcagfpngaaQ18
namespace Go.Proofs.Ythpnplcagfpngaa.Lx
open Go.RowKit Go.Proofs.YthpnplcagfpngaaW.PrintWords Go.Proofs.YthpnplcagfpngaaW.PrintLast Go.Proofs.YthpnplcagfpngaaW.PrintMore
open Go.Proofs.Ythpnplcagfpngaa.Q
set_option linter.unusedVariables false
set_option linter.unusedSimpArgs false
def dg (n : Nat) : UInt8 := UInt8.ofNat (48 + n % 10)
/-- The decimal digits of a number. -/
def digs (n : Nat) : List UInt8 := if h : n < 10 then [dg n] else digs (n / 10) ++ [dg n]
termination_by n
decreasing_by omega
theorem digs_lt {n : Nat} (h : n < 10) : digs n = [dg n] := by rw [digs, dif_pos h]
theorem digs_ge {n : Nat} (h : ¬ n < 10) : digs n = digs (n / 10) ++ [dg n] := by rw [digs, dif_neg h]
theorem dg_nat (n : Nat) : (dg n).toNat = 48 + n % 10 := by
  unfold dg
  rw [UInt8.toNat_ofNat']
  omega
theorem dg_dig (n : Nat) : isDig (dg n) = true := by
  simp only [isDig, dg_nat, Bool.and_eq_true, decide_eq_true_eq]; omega
theorem digs_all (n : Nat) : (digs n).all isDig = true := by
  induction n using digs.induct with
  | case1 n h => rw [digs_lt h]; simp [dg_dig]
  | case2 n h ih => rw [digs_ge h]; simp [ih, dg_dig]
theorem digs_ne (n : Nat) : digs n ≠ [] := by
  by_cases h : n < 10
  · rw [digs_lt h]; simp
  · rw [digs_ge h]; simp
/-- The value of digits behind some. -/
def vstep (n : Nat) (c : UInt8) : Nat := n * 10 + (c.toNat - 48)
def val (n : Nat) (l : List UInt8) : Nat := l.foldl vstep n
theorem val_nil (n : Nat) : val n [] = n := rfl
theorem val_cons (n : Nat) (c : UInt8) (r : List UInt8) : val n (c :: r) = val (vstep n c) r := by unfold val; rw [List.foldl_cons]
theorem val_app (n : Nat) (a b : List UInt8) : val n (a ++ b) = val (val n a) b := by unfold val; rw [List.foldl_append]
theorem val_ge (n : Nat) (l : List UInt8) : n ≤ val n l := by
  induction l generalizing n with
  | nil => rw [val_nil]; omega
  | cons c r ih =>
    have h := ih (vstep n c)
    rw [val_cons]
    unfold vstep at h ⊢
    omega
theorem val_digs (n : Nat) : val 0 (digs n) = n := by
  induction n using digs.induct with
  | case1 n h => rw [digs_lt h, val_cons, val_nil]; unfold vstep; rw [dg_nat]; omega
  | case2 n h ih => rw [digs_ge h, val_app, ih, val_cons, val_nil]; unfold vstep; rw [dg_nat]; omega
theorem dig_nat {c : UInt8} (h : isDig c = true) : 48 ≤ c.toNat ∧ c.toNat ≤ 57 := by
  simpa only [isDig, Bool.and_eq_true, decide_eq_true_eq] using h
theorem numFrom_ok (l : List UInt8) (h : l.all isDig = true) (n : Nat) (hv : val n l ≤ 2147483647) : numFrom (n : Int) l = some ((val n l : Nat) : Int) := by
  induction l generalizing n with
  | nil => rw [val_nil]; unfold numFrom; rfl
  | cons c r ih =>
    simp only [List.all_cons, Bool.and_eq_true] at h
    have hc := dig_nat h.1
    have hg := val_ge (vstep n c) r
    rw [val_cons] at hv ⊢
    have e : (n : Int) * 10 + ((c.toNat : Int) - 48) = ((vstep n c : Nat) : Int) := by unfold vstep; omega
    unfold numFrom
    rw [e, if_neg (by omega)]
    exact ih h.2 _ hv
theorem numFrom_no (l : List UInt8) (h : l.all isDig = true) (n : Nat) (hn : n ≤ 2147483647) (hv : 2147483647 < val n l) : numFrom (n : Int) l = none := by
  induction l generalizing n with
  | nil => rw [val_nil] at hv; omega
  | cons c r ih =>
    simp only [List.all_cons, Bool.and_eq_true] at h
    have hc := dig_nat h.1
    rw [val_cons] at hv
    have e : (n : Int) * 10 + ((c.toNat : Int) - 48) = ((vstep n c : Nat) : Int) := by unfold vstep; omega
    unfold numFrom
    rw [e]
    by_cases hb : 2147483647 < ((vstep n c : Nat) : Int)
    · rw [if_pos hb]
    · rw [if_neg hb]; exact ih h.2 _ (by omega) hv
theorem digs_head (n : Nat) (h0 : n ≠ 0) : hd 48 (digs n) = false := by
  induction n using digs.induct with
  | case1 n h =>
    rw [digs_lt h]
    simp only [hd, beq_eq_false_iff_ne]
    intro e
    have := congrArg UInt8.toNat e
    rw [dg_nat, show (48 : UInt8).toNat = 48 from rfl] at this
    omega
  | case2 n h ih =>
    rw [digs_ge h]
    have := ih (by omega)
    cases hx : digs (n / 10) with
    | nil => exact absurd hx (digs_ne _)
    | cons c r => rw [hx] at this; exact this
theorem numL_digs (n : Nat) (h : n ≤ 2147483647) : numL (digs n) = some (n : Int) := by
  unfold numL
  have h1 := numFrom_ok (digs n) (digs_all n) 0 (by rw [val_digs]; exact h)
  rw [val_digs, show ((0 : Nat) : Int) = 0 from rfl] at h1
  rw [h1]
  by_cases h0 : n = 0
  · subst h0; rw [digs_lt (by omega)]; simp
  · simp only [digs_head n h0, or_true, if_true]
theorem digs_len (n : Nat) (h : n < 10 ^ 15) : (digs n).length ≤ 15 := by
  have key : ∀ (j n : Nat), n < 10 ^ (j + 1) → (digs n).length ≤ j + 1 := by
    intro j
    induction j with
    | zero => intro n h; rw [digs_lt (by omega)]; simp
    | succ j ih =>
      intro n h
      by_cases h10 : n < 10
      · rw [digs_lt h10]; simp
      · rw [digs_ge h10]
        have : n / 10 < 10 ^ (j + 1) := by rw [Nat.pow_succ] at h; omega
        have := ih _ this
        simp; omega
  exact key 14 n h
theorem strOf_dg (n : Nat) (h : n < 10) : strOfNums [wrap64 (48 + (n : Int)) % 256] = ofL [dg n] := by
  rw [wrap_id (by omega) (by omega)]
  unfold dg
  rw [show (48 + (n : Int)) % 256 = ((48 + n % 10 : Nat) : Int) by omega]
  rfl
theorem digits_l : ∀ (d n : Nat) (s : List UInt8), n ≤ d → n < 10 ^ 15 → s.length + (digs n).length ≤ 1000 →
    Ev (fun k => warpref9_Digits.l0 k (n : Int) (ofL s)) (ofL (digs n ++ s)) := by
  intro d
  induction d with
  | zero =>
    intro n s hd hn hs
    have e : n = 0 := by omega
    subst e
    refine Ev.step (f := fun _ => some _) (fun k => ?_) (Ev.now _)
    simp only [warpref9_Digits.l0]
    rw [if_neg (by omega)]
    simp only [Option.bind_some]
    rw [strOf_dg 0 (by omega), if_pos (by rw [ofL_size, ofL_size]; simp only [List.length_cons, List.length_nil]; omega), ofL_append, digs_lt (by omega)]
  | succ d ih =>
    intro n s hd hn hs
    by_cases h : n < 10
    · refine Ev.step (f := fun _ => some _) (fun k => ?_) (Ev.now _)
      simp only [warpref9_Digits.l0]
      rw [if_neg (by omega)]
      simp only [Option.bind_some]
      rw [strOf_dg n h, if_pos (by rw [ofL_size, ofL_size]; simp only [List.length_cons, List.length_nil]; omega), ofL_append, digs_lt h]
    · have hp : (10 : Nat) ^ 15 = 1000000000000000 := rfl
      have e1 : Int.tmod (n : Int) 10 = ((n % 10 : Nat) : Int) := by rw [Int.tmod_eq_emod_of_nonneg (by omega)]; omega
      have e2 : Int.tdiv (n : Int) 10 = ((n / 10 : Nat) : Int) := by rw [Int.tdiv_eq_ediv_of_nonneg (by omega)]; omega
      have e3 : dg (n % 10) = dg n := by unfold dg; rw [Nat.mod_mod]
      refine Ev.step (f := fun k => warpref9_Digits.l0 k ((n / 10 : Nat) : Int) (ofL ([dg n] ++ s))) (fun k => ?_) ?_
      · simp only [warpref9_Digits.l0]
        rw [if_pos (by omega)]
        simp only [Option.bind_some, e1, e2]
        rw [strOf_dg (n % 10) (by omega), if_pos (by rw [ofL_size, ofL_size]; simp only [List.length_cons, List.length_nil]; omega), ofL_append, e3, wrap_id (by omega) (by omega)]
      · rw [digs_ge h] at hs
        refine evIs (ih (n / 10) _ (by omega) (by omega) (by simp at hs ⊢; omega)) ?_
        rw [digs_ge h]; simp
theorem Digits_ev (n : Nat) (h : n < 10 ^ 15) : Ev (fun k => warpref9_Digits.f k (n : Int)) (ofL (digs n)) := by
  have hl := digs_len n h
  refine Ev.congr (f := fun k => warpref9_Digits.l0 k (n : Int) (ofL [])) (fun k => rfl) ?_
  exact evIs (digits_l n n [] (Nat.le_refl _) h (by simp; omega)) (by simp)
end Go.Proofs.Ythpnplcagfpngaa.Lx
