/- What the printed functions of the reference's lexer come to: names, words, numbers. -/
import Derived.Test.YthpnplcagfpngaaS5
import Derived.Test.YthpnplcagfpngaaS7
import Derived.Test.YthpnplcagfpngaaS8
import Derived.Test.YthpnplcagfpngaaQ10
import Derived.Test.YthpnplcagfpngaaQ11
namespace Go.Proofs.Ythpnplcagfpngaa.Lx
open Go.RowKit Go.Proofs.YthpnplcagfpngaaW.PrintWords Go.Proofs.YthpnplcagfpngaaW.PrintLast Go.Proofs.YthpnplcagfpngaaW.PrintMore
open Go.Proofs.Ythpnplcagfpngaa.Q
set_option linter.unusedVariables false
set_option linter.unusedSimpArgs false
theorem rlower (c : UInt8) : warpref9_lower.f (c.toNat : Int) = some (isLow c) := all_bytes (P := fun c => warpref9_lower.f (c.toNat : Int) = some (isLow c)) (by decide +kernel) c
theorem rupper (c : UInt8) : warpref9_upper.f (c.toNat : Int) = some (isUp c) := all_bytes (P := fun c => warpref9_upper.f (c.toNat : Int) = some (isUp c)) (by decide +kernel) c
theorem rdigit (c : UInt8) : warpref9_digit.f (c.toNat : Int) = some (isDig c) := all_bytes (P := fun c => warpref9_digit.f (c.toNat : Int) = some (isDig c)) (by decide +kernel) c
theorem rrest (c : UInt8) : warpref9_rest.f (c.toNat : Int) = some (isRest c) := all_bytes (P := fun c => warpref9_rest.f (c.toNat : Int) = some (isRest c)) (by decide +kernel) c
theorem rword (w : List UInt8) : warpref9_word.f (ofL w) = some (isWord w) := by
  simp only [warpref9_word.f, ofL_toList, isWord, words, List.contains_cons, List.contains_nil]
  repeat' split
  all_goals first | (rename_i h; subst h; rfl) | (simp only [Option.some.injEq]; symm; simp [*])
theorem u8_beq (c q : UInt8) : ((c.toNat : Int) == (q.toNat : Int)) = (c == q) := by
  rw [Bool.eq_iff_iff, beq_iff_eq, beq_iff_eq, ← UInt8.toNat_inj]; omega
theorem rrow_l (w : List UInt8) (hl : Sh w) : ∀ (d i : Nat), w.length - i = d → i ≤ w.length →
    Ev (fun k => warpref9_row.l0 k (ofL w) (i : Int)) ((w.drop i).all isRest && (match w with | [] => false | _ :: _ => true) && decide (w.length ≤ 30)) := by
  intro d
  induction d with
  | zero =>
    intro i hd hi
    have e : w.drop i = [] := List.drop_eq_nil_of_le (by omega)
    refine Ev.step (f := fun _ => some _) (fun k => ?_) (Ev.now _)
    simp only [warpref9_row.l0, ofL_size, ofL_toList]
    rw [if_neg (by omega), e]
    cases w with
    | nil => simp
    | cons c r =>
      rw [if_neg (by simp)]
      simp only [List.all_nil, Bool.true_and, Option.some.injEq, decide_eq_decide]
      omega
  | succ d ih =>
    intro i hd hi
    have hlt : i < w.length := by omega
    have hne : (match w with | [] => false | _ :: _ => true) = true := by cases w with
      | nil => simp at hlt
      | cons c r => rfl
    rw [drop_cons hlt, List.all_cons]
    by_cases hc : isRest (w.getD i 0) = true
    · refine Ev.step (fun k => ?_) (evIs (ih (i + 1) (by omega) (by omega)) (by rw [hc, Bool.true_and]))
      simp only [warpref9_row.l0, ofL_size]
      rw [if_pos (by omega), if_pos (by omega), bt_ofL, rrest, hc]
      simp only [Option.bind_some, if_true]
      rw [wrap_id (by omega) (by omega)]
      rfl
    · have hc' : isRest (w.getD i 0) = false := by simpa only [Bool.not_eq_true] using hc
      refine Ev.step (f := fun _ => some false) (fun k => ?_) (evIs (Ev.now _) (by rw [hc', Bool.false_and, Bool.false_and, Bool.false_and]))
      simp only [warpref9_row.l0, ofL_size]
      rw [if_pos (by omega), if_pos (by omega), bt_ofL, rrest, hc']
      rfl
theorem rrow_ev (w : List UInt8) (hl : Sh w) : Ev (fun k => warpref9_row.f k (ofL w)) (w.all isRest && (match w with | [] => false | _ :: _ => true) && decide (w.length ≤ 30)) :=
  evIs (rrow_l w hl w.length 0 (by omega) (by omega)) (by rw [List.drop_zero])
theorem rname_ev (w : List UInt8) (hl : Sh w) : Ev (fun k => warpref9_Name.f k (ofL w)) (isName w) := by
  refine Ev.bind (rrow_ev w hl) ?_
  cases w with
  | nil => exact Ev.congr (f := fun _ => some false) (fun k => rfl) (Ev.now _)
  | cons c r =>
    by_cases h : ((c :: r).all isRest && decide ((c :: r).length ≤ 30)) = true
    · refine Ev.congr (f := fun k => some (isName (c :: r))) (fun k => ?_) (Ev.now _)
      simp only [Bool.and_true]
      rw [if_pos h, if_pos (by rw [ofL_size]; simp <;> omega), show bt (ofL (c :: r)) 0 = (c.toNat : Int) from bt_ofL (c :: r) 0, rlower, rword]
      simp only [Option.bind_some]
      rw [Bool.and_eq_true] at h
      simp only [isName, rowOf, h.1, h.2, Bool.and_true]
      cases isLow c <;> simp
    · refine Ev.congr (f := fun k => some false) (fun k => ?_) (evIs (Ev.now _) ?_)
      · simp only [Bool.and_true]
        rw [if_neg h]
      · have h' := Bool.eq_false_iff.2 h
        rw [Bool.and_eq_false_iff] at h'
        simp only [isName, rowOf]
        rcases h' with h' | h' <;> rw [h'] <;> simp
theorem rcon_ev (w : List UInt8) (hl : Sh w) : Ev (fun k => warpref9_Con.f k (ofL w)) (isCon w) := by
  refine Ev.bind (rrow_ev w hl) ?_
  cases w with
  | nil => exact Ev.congr (f := fun _ => some false) (fun k => rfl) (Ev.now _)
  | cons c r =>
    by_cases h : ((c :: r).all isRest && decide ((c :: r).length ≤ 30)) = true
    · refine Ev.congr (f := fun k => some (isCon (c :: r))) (fun k => ?_) (Ev.now _)
      simp only [Bool.and_true]
      rw [if_pos h, if_pos (by rw [ofL_size]; simp <;> omega), show bt (ofL (c :: r)) 0 = (c.toNat : Int) from bt_ofL (c :: r) 0, rupper]
      simp only [Option.bind_some]
      rw [Bool.and_eq_true] at h
      simp only [isCon, rowOf, h.1, h.2, Bool.and_true]
    · refine Ev.congr (f := fun k => some false) (fun k => ?_) (evIs (Ev.now _) ?_)
      · simp only [Bool.and_true]
        rw [if_neg h]
      · have h' := Bool.eq_false_iff.2 h
        simp only [isCon, rowOf, Bool.and_assoc]
        rw [h', Bool.and_false]
/-- What the reference's number tells. -/
def numR (l r : List UInt8) (n : Int) : Int := match numFrom n r with
  | none => -1
  | some v => if l.length = 1 ∨ hd 48 l = false then v else -1
theorem rnumber_l (l : List UInt8) (hl : Sh l) (hne : l ≠ []) (hd' : l.all isDig = true) :
    ∀ (d i : Nat) (n : Int), l.length - i = d → i ≤ l.length → 0 ≤ n → n ≤ 2147483647 →
      Ev (fun k => warpref9_number.l0 k (ofL l) n (i : Int)) (numR l (l.drop i) n) := by
  intro d
  induction d with
  | zero =>
    intro i n hd hi h0 h1
    have e : l.drop i = [] := List.drop_eq_nil_of_le (by omega)
    refine Ev.step (f := fun _ => some (if l.length = 1 ∨ Lx.hd 48 l = false then n else -1)) (fun k => ?_) (evIs (Ev.now _) (by simp [e, numR, numFrom]))
    simp only [warpref9_number.l0, ofL_size]
    rw [if_neg (by omega)]
    by_cases h : l.length = 1
    · rw [if_neg (by omega), if_pos (.inl h)]
    · have hp : 0 < l.length := List.length_pos_iff.2 hne
      rw [if_pos (by omega), if_pos (by omega)]
      cases l with
      | nil => simp at hne
      | cons c r =>
        rw [show bt (ofL (c :: r)) 0 = (c.toNat : Int) from bt_ofL (c :: r) 0]
        by_cases hc : c = 48
        · subst hc
          rw [if_pos (by decide), if_neg (by simp [Lx.hd]; intro hr; subst hr; simp at h)]
        · have hc' : ¬ ((c.toNat : Int) = 48) := by
            intro hx; apply hc; rw [← UInt8.toNat_inj]; show c.toNat = 48; omega
          rw [if_neg hc', if_pos (.inr (by simpa [Lx.hd] using hc))]
  | succ d ih =>
    intro i n hd hi h0 h1
    have hlt : i < l.length := by omega
    have hdg : isDig (l.getD i 0) = true := by
      rw [getD_lt hlt]; exact List.all_eq_true.1 hd' _ (List.getElem_mem hlt)
    obtain ⟨v1, v2, v3⟩ := dig_val _ hdg
    rw [drop_cons hlt]
    generalize hc : l.getD i 0 = c at *
    have e1 : wrap64 (n * 10) = n * 10 := wrap_id (by omega) (by omega)
    have e2 : wrap64 (n * 10 + ((c.toNat : Int) - 48)) = n * 10 + ((c.toNat : Int) - 48) := wrap_id (by omega) (by omega)
    refine Ev.step (f := fun k => if n * 10 + ((c.toNat : Int) - 48) > 2147483647 then some (-1) else warpref9_number.l0 k (ofL l) (n * 10 + ((c.toNat : Int) - 48)) ((i + 1 : Nat) : Int)) (fun k => ?_) ?_
    · simp only [warpref9_number.l0, ofL_size]
      rw [if_pos (by omega), if_pos (by omega), bt_ofL, hc, v1, e1, e2, wrap_id (n := (i : Int) + 1) (by omega) (by omega)]
      rfl
    · by_cases hb : n * 10 + ((c.toNat : Int) - 48) > 2147483647
      · exact Ev.congr (f := fun _ => some (-1)) (fun k => by rw [if_pos hb]) (evIs (Ev.now _) (by unfold numR numFrom; rw [if_pos hb]))
      · refine Ev.congr (fun k => by rw [if_neg hb]) (evIs (ih (i + 1) _ (by omega) (by omega) (by omega) (by omega)) ?_)
        unfold numR
        conv => rhs; unfold numFrom
        rw [if_neg (by omega)]
theorem rnumber_ev (l : List UInt8) (hl : Sh l) (hne : l ≠ []) (hd' : l.all isDig = true) : Ev (fun k => warpref9_number.f k (ofL l)) (numR l l 0) := by
  refine Ev.congr (f := fun k => warpref9_number.l0 k (ofL l) 0 ((0 : Nat) : Int)) (fun k => rfl) ?_
  exact evIs (rnumber_l l hl hne hd' l.length 0 0 (by omega) (by omega) (by omega) (by omega)) (by simp)
theorem numFrom_pos : ∀ (l : List UInt8) (n v : Int), l.all isDig = true → 0 ≤ n → numFrom n l = some v → 0 ≤ v
  | [], n, v, _, h0, h => by simp only [numFrom, Option.some.injEq] at h; omega
  | c :: r, n, v, ha, h0, h => by
    simp only [List.all_cons, Bool.and_eq_true] at ha
    obtain ⟨_, v2, _⟩ := dig_val c ha.1
    unfold numFrom at h
    split at h
    · cases h
    · exact numFrom_pos r _ v ha.2 (by omega) h
theorem numR_numL (l : List UInt8) (ha : l.all isDig = true) : (∃ v, numL l = some v ∧ numR l l 0 = v ∧ 0 ≤ v) ∨ (numL l = none ∧ numR l l 0 = -1) := by
  unfold numL numR
  cases h : numFrom 0 l with
  | none => right; exact ⟨rfl, rfl⟩
  | some v =>
    have := numFrom_pos l 0 v ha (by omega) h
    by_cases h2 : l.length = 1 ∨ hd 48 l = false
    · left; exact ⟨v, by simp only [h2, if_true], by simp only [h2, if_true], this⟩
    · right; exact ⟨by simp only [h2, if_false], by simp only [h2, if_false]⟩
end Go.Proofs.Ythpnplcagfpngaa.Lx
