/- LexNumbers: a number is told by its digits; with a nought ahead, or beyond the greatest, it is none. For all inputs. -/
import Derived.Test.YthpnplcagfpngaaQ19
import Derived.Test.YthpnplcagfpngaaS5
import Derived.OpenShut
namespace Go.Proofs.Ythpnplcagfpngaa.Pure
open Go.RowKit Go.Proofs.Ythpnplcagfpngaa.Q Go.Proofs.YthpnplcagfpngaaW.PrintWords Go.Proofs.YthpnplcagfpngaaW.PrintLast
open Go.Proofs.Ythpnplcagfpngaa.Lx
set_option linter.unusedVariables false
set_option linter.unusedSimpArgs false
theorem skip_digs (s r : List UInt8) (h : s.all isDig = true) (hn : s ≠ []) : skipL false (s ++ r) = 0 := by
  cases s with
  | nil => exact absurd rfl hn
  | cons c t =>
    simp only [List.all_cons, Bool.and_eq_true] at h
    have hc := dig_nat h.1
    have h1 : isGap c = false := by
      simp only [isGap, Bool.or_eq_false_iff, beq_eq_false_iff_ne, ne_eq, ← UInt8.toNat_inj, show (32 : UInt8).toNat = 32 from rfl, show (9 : UInt8).toNat = 9 from rfl, show (10 : UInt8).toNat = 10 from rfl]
      omega
    have h2 : (c == 45) = false := by
      simp only [beq_eq_false_iff_ne, ne_eq, ← UInt8.toNat_inj, show (45 : UInt8).toNat = 45 from rfl]
      omega
    simp [skipL, h1, h2]
theorem tok_digs (s r : List UInt8) (h : s.all isDig = true) (hn : s ≠ []) (hr : r = [] ∨ ∃ c t, r = c :: t ∧ isDig c = false) :
    tokL (s ++ r) = match numL s with | some n => (⟨3, 0, [], n⟩, s.length) | none => (⟨0, 0, [], 0⟩, 0) := by
  have hw : (s ++ r).takeWhile isDig = s := by
    rcases hr with rfl | ⟨c, t, rfl, hc⟩
    · rw [List.append_nil]; exact takeWhile_id h
    · rw [List.takeWhile_append_of_pos (by simpa using h), List.takeWhile_cons_of_neg (by simp [hc]), List.append_nil]
  cases s with
  | nil => exact absurd rfl hn
  | cons c t =>
    simp only [List.all_cons, Bool.and_eq_true] at h
    exact tokL_digit c (t ++ r) h.1 _ hw
/-- ' ' ahead and behind. -/
theorem lex_blank (n : Nat) (h : n ≤ 2147483647) : lexL (([32] ++ digs n) ++ [32]) = .ok [⟨3, 1, [], (n : Int)⟩] := by
  have h1 := skip_digs (digs n) [32] (digs_all n) (digs_ne n)
  have ht := tok_digs (digs n) [32] (digs_all n) (digs_ne n) (.inr ⟨32, [], rfl, rfl⟩)
  rw [numL_digs n h] at ht
  have hp : 0 < (digs n).length := List.length_pos_iff.2 (digs_ne n)
  unfold lexL
  rw [show skipL false (([32] ++ digs n) ++ [32]) = skipL false (digs n ++ [32]) + 1 by simp [skipL, isGap], h1]
  rw [show List.drop (0 + 1) (([32] ++ digs n) ++ [32]) = digs n ++ [32] by simp]
  rw [lexA_cons (by rw [ht]; show ¬ (digs n).length = 0; omega), ht]
  simp only [List.drop_left]
  rw [show skipL false [32] = 1 by decide, show ([32] : List UInt8).drop 1 = [] from rfl, lexA_nil]
/-- 'x ' ahead: where the digits are no number, that is the place. -/
theorem lex_x (s : List UInt8) (h : s.all isDig = true) (hn : s ≠ []) (hs : numL s = none) : lexL ([120, 32] ++ s) = .error 2 := by
  have h0 := skip_digs s [] h hn
  rw [List.append_nil] at h0
  have ht := tok_digs s [] h hn (.inl rfl)
  rw [hs, List.append_nil] at ht
  have hx : tokL ([120, 32] ++ s) = (⟨1, 0, [120], 0⟩, 1) := by
    show tokL (120 :: (32 :: s)) = _
    rw [tokL_letter 120 (32 :: s) (by decide) [120] (by rw [List.takeWhile_cons_of_pos (by decide), List.takeWhile_cons_of_neg (by decide)])]
    decide
  unfold lexL
  rw [show skipL false ([120, 32] ++ s) = 0 by simp [skipL, isGap], List.drop_zero, lexA_cons (by rw [hx]; decide), hx]
  show (match lexA (0 + 1 + skipL false (32 :: s)) ((32 :: s).drop (skipL false (32 :: s))) with
    | Except.error e => (Except.error e : Except Nat (List Tk))
    | Except.ok ts => Except.ok (_ :: ts)) = Except.error 2
  rw [show skipL false (32 :: s) = 1 by simp [skipL, isGap, h0]]
  rw [show (32 :: s).drop 1 = s from rfl, lexA_err hn (by rw [ht])]
theorem none_zero (n : Nat) : numL ([48] ++ digs n) = none := by
  unfold numL
  have hl : ([48] ++ digs n).length ≠ 1 := by
    have := List.length_pos_iff.2 (digs_ne n)
    simp; exact digs_ne n
  cases numFrom 0 ([48] ++ digs n) with
  | none => rfl
  | some v => simp only [hl, false_or]; rw [if_neg (by simp [hd])]
theorem none_great (s : List UInt8) (h : s.all isDig = true) (hv : 2147483647 < val 0 s) : numL s = none := by
  unfold numL
  have := numFrom_no s h 0 (by omega) hv
  rw [show (0 : Int) = ((0 : Nat) : Int) from rfl, this]
def nines : List UInt8 := [57, 57, 57, 57, 57, 57, 57, 57, 57, 57, 57]
theorem none_nines (n : Nat) : numL (digs n ++ nines) = none := by
  refine none_great _ (by rw [List.all_append, digs_all]; rfl) ?_
  rw [val_app, val_digs]
  have h1 : ∀ m, vstep m 57 = m * 10 + 9 := fun m => rfl
  unfold nines
  simp only [val_cons, val_nil, h1]
  omega
theorem LexNumbers : warplaw9_LexNumbers.Pure := by
  intro a0 a1 h0 h1
  refine Ev.rounds (g := fun k => warplaw9_LexNumbers.f k a0 a1) ?_
  have b0 := Go.bounds_u32 h0
  have b1 := Go.bounds_u8 h1
  obtain ⟨n, hn, hnl⟩ : ∃ n : Nat, Int.tmod (wrap64 a0) 2147483648 = (n : Int) ∧ n ≤ 2147483647 := by
    rw [wrap_id (by omega) (by omega), Int.tmod_eq_emod_of_nonneg (by omega)]
    exact ⟨(a0 % 2147483648).toNat, by omega, by omega⟩
  obtain ⟨j, hj, hjl⟩ : ∃ j : Nat, Int.tmod a1 3 = (j : Int) ∧ j ≤ 2 := by
    rw [Int.tmod_eq_emod_of_nonneg (by omega)]
    exact ⟨(a1 % 3).toNat, by omega, by omega⟩
  have hp : (10 : Nat) ^ 15 = 1000000000000000 := rfl
  have l1 := digs_len n (by omega)
  have l2 := digs_len (2147483648 + n) (by omega)
  have e2 : wrap64 (2147483648 + (n : Int)) = ((2147483648 + n : Nat) : Int) := by rw [wrap_id (by omega) (by omega)]; omega
  obtain ⟨s, hs, hsl, hsd, hsn, hsv⟩ : ∃ s, rdOf ByteArray.empty [ofL ([48] ++ digs n), ofL (digs (2147483648 + n)), ofL (digs n ++ nines)] (j : Int) = ofL s ∧ s.length ≤ 40 ∧ s.all isDig = true ∧ s ≠ [] ∧ numL s = none := by
    have hj' : j = 0 ∨ j = 1 ∨ j = 2 := by omega
    rcases hj' with rfl | rfl | rfl
    · exact ⟨_, rfl, by simp; omega, by rw [List.all_append, digs_all]; rfl, by simp, none_zero n⟩
    · exact ⟨_, rfl, by omega, digs_all _, digs_ne _, none_great _ (digs_all _) (by rw [val_digs]; omega)⟩
    · exact ⟨_, rfl, by simp [nines]; omega, by rw [List.all_append, digs_all]; rfl, by simp [nines], none_nines n⟩
  refine Ev.congr (f := fun k => (warpref9_Digits.f k (n : Int)).bind fun t283 => (if 1 + t283.size ≤ 9223372036854775807 then (if ((⟨#[32]⟩ : ByteArray) ++ t283).size + 1 ≤ 9223372036854775807 then ((lex_Lex.f k (((⟨#[32]⟩ : ByteArray) ++ t283) ++ (⟨#[32]⟩ : ByteArray))).bind fun bt284 => ((warpref9_Digits.f k ((2147483648 + n : Nat) : Int)).bind fun t289 => (if t283.size + 11 ≤ 9223372036854775807 then ((some (([(⟨#[48]⟩ : ByteArray) ++ t283, t289, t283 ++ (⟨#[57, 57, 57, 57, 57, 57, 57, 57, 57, 57, 57]⟩ : ByteArray)] : List ByteArray) : List ByteArray)).bind fun y290 => (if 0 ≤ (j : Int) then (if (j : Int) < (y290.length : Int) then (if 2 + (rdOf ByteArray.empty y290 (j : Int)).size ≤ 9223372036854775807 then ((lex_Lex.f k ((⟨#[120, 32]⟩ : ByteArray) ++ (rdOf ByteArray.empty y290 (j : Int)))).bind fun bt294 => (if (j : Int) = 2 then (warplaw9_LexNumbers.j0 k (n : Int) bt284.1 bt284.2.1 bt294.2.1 bt294.2.2 ((n : Int) == 0)) else (warplaw9_LexNumbers.j0 k (n : Int) bt284.1 bt284.2.1 bt294.2.1 bt294.2.2 false))) else (none)) else (none)) else (none))) else (none)))) else (none)) else (none))) (fun k => by simp only [warplaw9_LexNumbers.f, hn, hj, e2]) ?_
  refine Ev.bind (Digits_ev n (by omega)) ?_
  have z1 : 1 + (ofL (digs n)).size ≤ 9223372036854775807 := by rw [ofL_size]; omega
  have z2 : ((⟨#[32]⟩ : ByteArray) ++ ofL (digs n)).size + 1 ≤ 9223372036854775807 := by
    rw [show (⟨#[32]⟩ : ByteArray) = ofL [32] from rfl, ofL_append, ofL_size]; simp; omega
  have z3 : (ofL (digs n)).size + 11 ≤ 9223372036854775807 := by rw [ofL_size]; omega
  have c1 : ((⟨#[32]⟩ : ByteArray) ++ ofL (digs n)) ++ (⟨#[32]⟩ : ByteArray) = ofL (([32] ++ digs n) ++ [32]) := by
    rw [show (⟨#[32]⟩ : ByteArray) = ofL [32] from rfl, ofL_append, ofL_append]
  refine Ev.congr (fun k => by rw [if_pos z1, if_pos z2, c1]) ?_
  refine Ev.bind (Lex_ev _ (by simp; omega)) ?_
  rw [lex_blank n hnl]
  refine Ev.bind (Digits_ev (2147483648 + n) (by omega)) ?_
  have c2 : ([(⟨#[48]⟩ : ByteArray) ++ ofL (digs n), ofL (digs (2147483648 + n)), ofL (digs n) ++ (⟨#[57, 57, 57, 57, 57, 57, 57, 57, 57, 57, 57]⟩ : ByteArray)] : List ByteArray) = [ofL ([48] ++ digs n), ofL (digs (2147483648 + n)), ofL (digs n ++ nines)] := by
    rw [show (⟨#[48]⟩ : ByteArray) = ofL [48] from rfl, show (⟨#[57, 57, 57, 57, 57, 57, 57, 57, 57, 57, 57]⟩ : ByteArray) = ofL nines from rfl, ofL_append, ofL_append]
  have c3 : (⟨#[120, 32]⟩ : ByteArray) ++ ofL s = ofL ([120, 32] ++ s) := by
    rw [show (⟨#[120, 32]⟩ : ByteArray) = ofL [120, 32] from rfl, ofL_append]
  have z4 : 2 + (ofL s).size ≤ 9223372036854775807 := by rw [ofL_size]; omega
  have z5 : (j : Int) < (([ofL ([48] ++ digs n), ofL (digs (2147483648 + n)), ofL (digs n ++ nines)] : List ByteArray).length : Int) := by simp only [List.length_cons, List.length_nil]; omega
  refine Ev.congr (f := fun k => (lex_Lex.f k (ofL ([120, 32] ++ s))).bind fun bt294 => (if (j : Int) = 2 then (warplaw9_LexNumbers.j0 k (n : Int) (out [] (.ok [⟨3, 1, [], (n : Int)⟩])).1 (out [] (.ok [⟨3, 1, [], (n : Int)⟩])).2.1 bt294.2.1 bt294.2.2 ((n : Int) == 0)) else (warplaw9_LexNumbers.j0 k (n : Int) (out [] (.ok [⟨3, 1, [], (n : Int)⟩])).1 (out [] (.ok [⟨3, 1, [], (n : Int)⟩])).2.1 bt294.2.1 bt294.2.2 false))) (fun k => ?_) ?_
  · rw [if_pos z3, c2]
    simp only [Option.bind_some]
    rw [if_pos (by omega), if_pos z5, hs, if_pos z4, c3]
  · refine Ev.bind (Lex_ev _ (by simp; omega)) ?_
    rw [lex_x s hsd hsn hsv]
    have last : ∀ b : Bool, Ev (fun k => warplaw9_LexNumbers.j0 k (n : Int) (out [] (.ok [⟨3, 1, [], (n : Int)⟩])).1 (out [] (.ok [⟨3, 1, [], (n : Int)⟩])).2.1 3 2 b) true := by
      intro b
      refine Ev.step (f := fun k => (warplaw9_awake.f k).bind fun t => some t) (fun k => ?_) awake_last
      simp only [warplaw9_LexNumbers.j0, Num_at, Option.bind_some, if_true, out]
      cases b
      · rw [if_neg (by simp), if_pos (by simp), if_pos (by simp), if_pos]
        simp [rd_T38, toS, ofL_toList]
      · rw [if_pos rfl]
    refine Ev.congr (f := fun k => if (j : Int) = 2 then warplaw9_LexNumbers.j0 k (n : Int) (out [] (.ok [⟨3, 1, [], (n : Int)⟩])).1 (out [] (.ok [⟨3, 1, [], (n : Int)⟩])).2.1 3 2 ((n : Int) == 0) else warplaw9_LexNumbers.j0 k (n : Int) (out [] (.ok [⟨3, 1, [], (n : Int)⟩])).1 (out [] (.ok [⟨3, 1, [], (n : Int)⟩])).2.1 3 2 false) (fun k => rfl) ?_
    by_cases h2 : (j : Int) = 2
    · exact Ev.congr (fun k => by rw [if_pos h2]) (last _)
    · exact Ev.congr (fun k => by rw [if_neg h2]) (last _)
end Go.Proofs.Ythpnplcagfpngaa.Pure
