/- What the printed Lex of the reference comes to: the plain words' tokens. -/
import Derived.Test.YthpnplcagfpngaaR1
import Derived.Test.YthpnplcagfpngaaQ12
namespace Go.Proofs.Ythpnplcagfpngaa.Lx
open Go.RowKit Go.Proofs.YthpnplcagfpngaaW.PrintWords Go.Proofs.YthpnplcagfpngaaW.PrintLast Go.Proofs.YthpnplcagfpngaaW.PrintMore
open Go.Proofs.Ythpnplcagfpngaa.Q
set_option linter.unusedVariables false
set_option linter.unusedSimpArgs false
set_option linter.unusedSectionVars false
section
variable (l : List UInt8) (hl : l.length ≤ 65536)
include hl
/-- The loop's words: what is told from place i on, behind some tokens. -/
def At (l : List UInt8) (acc : List S38) (i : Nat) : Prop := Ev (fun k => warpref9_Lex.l0 k (ofL l) (i : Int) acc 0 0) (out acc (lexS i (l.drop i)))
/-- Where no token begins. -/
theorem j11_no (i : Nat) (acc : List S38) (x7 at_ n : Int) (s : ByteArray) (hne : l.drop i ≠ []) (h : (tokL (l.drop i)).2 = 0) :
    Ev (fun k => warpref9_Lex.j11 k (ofL l) (i : Int) x7 acc 0 0 0 at_ s n) (out acc (lexA i (l.drop i))) := by
  rw [lexA_err hne h]
  exact Ev.step (f := fun _ => some (([] : List S38), 3, (i : Int))) (fun k => by simp only [warpref9_Lex.j11]; rw [if_pos trivial]) (Ev.now _)
/-- A token, and on. -/
theorem j11_yes (i : Nat) (acc : List S38) (hi : i < l.length) (ha : acc.length ≤ i) (T : Tk × Nat) (hT : tokL (l.drop i) = T) (h : T.2 ≠ 0) (hk : T.1.kind ≠ 0)
    (hAt : ∀ acc, acc.length ≤ i + T.2 → At l acc (i + T.2)) :
    Ev (fun k => warpref9_Lex.j11 k (ofL l) (i : Int) ((i + T.2 : Nat) : Int) acc 0 0 T.1.kind (i : Int) (ofL T.1.s) T.1.n) (out acc (lexA i (l.drop i))) := by
  have a2 : acc.length < 3518437208883 := Nat.lt_of_le_of_lt ha (Nat.lt_of_lt_of_le hi (Nat.le_trans hl (by decide)))
  have ht := hAt (acc ++ [toS { T.1 with pos := i }]) (by simp; omega)
  unfold At at ht
  refine Ev.step (fun k => ?_) (evIs ht ?_)
  · simp only [warpref9_Lex.j11]
    rw [if_neg hk, if_pos a2]
    rfl
  · rw [lexA_S (l := l.drop i) (by rw [hT]; exact h), hT, List.drop_drop]
    cases lexS (i + T.2) (l.drop (i + T.2)) with
    | error e => rfl
    | ok ts => simp [out]
/-- A row of letters and digits. -/
theorem l2_ev (i : Nat) (acc : List S38) (hi : i < l.length) (R : List S38 × Int × Int)
    (hj : Ev (fun k => warpref9_Lex.j6 k (ofL l) (i : Int) ((i + ((l.drop i).takeWhile isRest).length : Nat) : Int) acc 0 0 0 (i : Int) (ofL []) 0) R) :
    ∀ (d m : Nat), ((l.drop i).takeWhile isRest).length - m = d → m ≤ ((l.drop i).takeWhile isRest).length →
      Ev (fun k => warpref9_Lex.l2 k (ofL l) (i : Int) ((i + m : Nat) : Int) acc 0 0 0 (i : Int) (ofL []) 0) R := by
  have hle := takeWhile_le (p := isRest) (l.drop i)
  rw [List.length_drop] at hle
  intro d
  induction d with
  | zero =>
    intro m hd hm
    have em : m = ((l.drop i).takeWhile isRest).length := by omega
    have hstop : ∀ hlt : i + m < l.length, isRest (l.getD (i + m) 0) = false := by
      intro hlt
      have hq : (l.drop i).dropWhile isRest = l.drop (i + m) := by rw [dropWhile_eq, ← em, List.drop_drop]
      rw [drop_cons hlt] at hq
      have := List.head_dropWhile_not isRest (by rw [hq]; simp : (l.drop i).dropWhile isRest ≠ [])
      simp only [hq, List.head_cons] at this
      exact this
    rw [← em] at hj
    refine Ev.step (fun k => ?_) hj
    simp only [warpref9_Lex.l2, ofL_size]
    by_cases hlt : i + m < l.length
    · rw [if_pos (by omega), if_pos (by omega), bt_ofL, rrest, hstop hlt]
      rfl
    · rw [if_neg (by omega)]
  | succ d ih =>
    intro m hd hm
    have hm' : m < ((l.drop i).takeWhile isRest).length := by omega
    have hpm : i + m < l.length := by omega
    have hc : isRest (l.getD (i + m) 0) = true := by
      have h3 := List.all_eq_true.1 (List.all_takeWhile (p := isRest) (l := l.drop i)) _ (List.getElem_mem hm')
      have h4 : ((l.drop i).takeWhile isRest)[m] = l[i + m] := by
        rw [(List.takeWhile_prefix isRest (l := l.drop i)).getElem hm']; simp
      rw [h4] at h3
      rw [getD_lt hpm]; exact h3
    refine Ev.step (fun k => ?_) (ih (m + 1) (by omega) (by omega))
    simp only [warpref9_Lex.l2, ofL_size]
    rw [if_pos (by omega), if_pos (by omega), bt_ofL, rrest, hc]
    simp only [Option.bind_some, if_true]
    rw [wrap_id (by omega) (by omega)]
    rfl
/-- A row of digits. -/
theorem l3_ev (i : Nat) (acc : List S38) (hi : i < l.length) (R : List S38 × Int × Int)
    (hj : Ev (fun k => warpref9_Lex.j8 k (ofL l) (i : Int) ((i + ((l.drop i).takeWhile isDig).length : Nat) : Int) acc 0 0 0 (i : Int) (ofL []) 0) R) :
    ∀ (d m : Nat), ((l.drop i).takeWhile isDig).length - m = d → m ≤ ((l.drop i).takeWhile isDig).length →
      Ev (fun k => warpref9_Lex.l3 k (ofL l) (i : Int) ((i + m : Nat) : Int) acc 0 0 0 (i : Int) (ofL []) 0) R := by
  have hle := takeWhile_le (p := isDig) (l.drop i)
  rw [List.length_drop] at hle
  intro d
  induction d with
  | zero =>
    intro m hd hm
    have em : m = ((l.drop i).takeWhile isDig).length := by omega
    have hstop : ∀ hlt : i + m < l.length, isDig (l.getD (i + m) 0) = false := by
      intro hlt
      have hq : (l.drop i).dropWhile isDig = l.drop (i + m) := by rw [dropWhile_eq, ← em, List.drop_drop]
      rw [drop_cons hlt] at hq
      have := List.head_dropWhile_not isDig (by rw [hq]; simp : (l.drop i).dropWhile isDig ≠ [])
      simp only [hq, List.head_cons] at this
      exact this
    rw [← em] at hj
    refine Ev.step (fun k => ?_) hj
    simp only [warpref9_Lex.l3, ofL_size]
    by_cases hlt : i + m < l.length
    · rw [if_pos (by omega), if_pos (by omega), bt_ofL, rdigit, hstop hlt]
      rfl
    · rw [if_neg (by omega)]
  | succ d ih =>
    intro m hd hm
    have hm' : m < ((l.drop i).takeWhile isDig).length := by omega
    have hpm : i + m < l.length := by omega
    have hc : isDig (l.getD (i + m) 0) = true := by
      have h3 := List.all_eq_true.1 (List.all_takeWhile (p := isDig) (l := l.drop i)) _ (List.getElem_mem hm')
      have h4 : ((l.drop i).takeWhile isDig)[m] = l[i + m] := by
        rw [(List.takeWhile_prefix isDig (l := l.drop i)).getElem hm']; simp
      rw [h4] at h3
      rw [getD_lt hpm]; exact h3
    refine Ev.step (fun k => ?_) (ih (m + 1) (by omega) (by omega))
    simp only [warpref9_Lex.l3, ofL_size]
    rw [if_pos (by omega), if_pos (by omega), bt_ofL, rdigit, hc]
    simp only [Option.bind_some, if_true]
    rw [wrap_id (by omega) (by omega)]
    rfl
theorem letters_ev (i : Nat) (acc : List S38) (hi : i < l.length) (ha : acc.length ≤ i) (c : UInt8) (r : List UInt8) (hdr : l.drop i = c :: r)
    (hc : (isLow c || isUp c) = true) (hAt : ∀ (n : Nat), 0 < n → i + n ≤ l.length → ∀ acc, acc.length ≤ i + n → At l acc (i + n)) :
    Ev (fun k => warpref9_Lex.l2 k (ofL l) (i : Int) (i : Int) acc 0 0 0 (i : Int) (ofL []) 0) (out acc (lexA i (l.drop i))) := by
  have hle := takeWhile_le (p := isRest) (l.drop i)
  rw [List.length_drop] at hle
  have hne : l.drop i ≠ [] := by rw [hdr]; simp
  refine l2_ev l hl i acc hi _ ?_ _ 0 rfl (Nat.zero_le _)
  have hT := tokL_letter c r hc _ rfl
  rw [← hdr] at hT
  have htk := take_take isRest (l.drop i)
  have hwp : 0 < ((l.drop i).takeWhile isRest).length := by
    rw [hdr, List.takeWhile_cons_of_pos (by simp only [isRest]; rw [hc]; rfl)]; simp
  generalize (l.drop i).takeWhile isRest = w at hle hT htk hwp
  have hsw : Sh w := by unfold Sh; omega
  have hex : (ofL l).extract ((i : Nat) : Int).toNat ((i + w.length : Nat) : Int).toNat = ofL w := by
    rw [Int.toNat_natCast, Int.toNat_natCast, ofL_extract, show i + w.length - i = w.length by omega, htk]
  have base : ∀ k, warpref9_Lex.j6 (k + 1) (ofL l) (i : Int) ((i + w.length : Nat) : Int) acc 0 0 0 (i : Int) (ofL []) 0 =
      ((warpref9_word.f (ofL w)).bind fun t116 => (if t116 = true then (warpref9_Lex.j11 k (ofL l) (i : Int) ((i + w.length : Nat) : Int) acc 0 0 4 (i : Int) (ofL w) 0) else ((warpref9_Name.f k (ofL w)).bind fun t117 => (if t117 = true then (warpref9_Lex.j11 k (ofL l) (i : Int) ((i + w.length : Nat) : Int) acc 0 0 1 (i : Int) (ofL w) 0) else ((warpref9_Con.f k (ofL w)).bind fun t118 => (if t118 = true then (warpref9_Lex.j11 k (ofL l) (i : Int) ((i + w.length : Nat) : Int) acc 0 0 2 (i : Int) (ofL w) 0) else (warpref9_Lex.j11 k (ofL l) (i : Int) ((i + w.length : Nat) : Int) acc 0 0 0 (i : Int) (ofL w) 0))))))) := by
    intro k
    simp only [warpref9_Lex.j6, hex]
    rw [if_pos (by omega), if_pos (by omega), if_pos (by rw [ofL_size]; omega)]
  refine Ev.step base ?_
  refine Ev.congr (f := fun k => if isWord w = true then (warpref9_Lex.j11 k (ofL l) (i : Int) ((i + w.length : Nat) : Int) acc 0 0 4 (i : Int) (ofL w) 0) else ((warpref9_Name.f k (ofL w)).bind fun t117 => (if t117 = true then (warpref9_Lex.j11 k (ofL l) (i : Int) ((i + w.length : Nat) : Int) acc 0 0 1 (i : Int) (ofL w) 0) else ((warpref9_Con.f k (ofL w)).bind fun t118 => (if t118 = true then (warpref9_Lex.j11 k (ofL l) (i : Int) ((i + w.length : Nat) : Int) acc 0 0 2 (i : Int) (ofL w) 0) else (warpref9_Lex.j11 k (ofL l) (i : Int) ((i + w.length : Nat) : Int) acc 0 0 0 (i : Int) (ofL w) 0)))))) (fun k => by rw [rword]; rfl) ?_
  have on := hAt w.length hwp (by omega)
  by_cases h1 : isWord w = true
  · rw [if_pos h1] at hT
    exact Ev.congr (fun k => by rw [if_pos h1]) (j11_yes l hl i acc hi ha (⟨4, 0, w, 0⟩, w.length) hT (by show ¬ w.length = 0; omega) (by simp) on)
  · rw [if_neg h1] at hT
    refine Ev.congr (fun k => by rw [if_neg h1]) (Ev.bind (rname_ev w hsw) ?_)
    by_cases h2 : isName w = true
    · rw [if_pos h2] at hT
      exact Ev.congr (fun k => by rw [if_pos h2]) (j11_yes l hl i acc hi ha (⟨1, 0, w, 0⟩, w.length) hT (by show ¬ w.length = 0; omega) (by simp) on)
    · rw [if_neg h2] at hT
      refine Ev.congr (fun k => by rw [if_neg h2]) (Ev.bind (rcon_ev w hsw) ?_)
      by_cases h3 : isCon w = true
      · rw [if_pos h3] at hT
        exact Ev.congr (fun k => by rw [if_pos h3]) (j11_yes l hl i acc hi ha (⟨2, 0, w, 0⟩, w.length) hT (by show ¬ w.length = 0; omega) (by simp) on)
      · rw [if_neg h3] at hT
        exact Ev.congr (fun k => by rw [if_neg h3]) (j11_no l hl i acc _ _ _ _ hne (by rw [hT]))
theorem digits_ev (i : Nat) (acc : List S38) (hi : i < l.length) (ha : acc.length ≤ i) (c : UInt8) (r : List UInt8) (hdr : l.drop i = c :: r)
    (hc : isDig c = true) (hAt : ∀ (n : Nat), 0 < n → i + n ≤ l.length → ∀ acc, acc.length ≤ i + n → At l acc (i + n)) :
    Ev (fun k => warpref9_Lex.l3 k (ofL l) (i : Int) (i : Int) acc 0 0 0 (i : Int) (ofL []) 0) (out acc (lexA i (l.drop i))) := by
  have hle := takeWhile_le (p := isDig) (l.drop i)
  rw [List.length_drop] at hle
  have hne : l.drop i ≠ [] := by rw [hdr]; simp
  refine l3_ev l hl i acc hi _ ?_ _ 0 rfl (Nat.zero_le _)
  have hT := tokL_digit c r hc _ rfl
  rw [← hdr] at hT
  have htk := take_take isDig (l.drop i)
  have hwn : (l.drop i).takeWhile isDig ≠ [] := by rw [hdr, List.takeWhile_cons_of_pos hc]; simp
  have hwa : ((l.drop i).takeWhile isDig).all isDig = true := List.all_takeWhile
  generalize (l.drop i).takeWhile isDig = w at hle hT htk hwn hwa
  have hwp : 0 < w.length := List.length_pos_iff.2 hwn
  have hsw : Sh w := by unfold Sh; omega
  have hex : (ofL l).extract ((i : Nat) : Int).toNat ((i + w.length : Nat) : Int).toNat = ofL w := by
    rw [Int.toNat_natCast, Int.toNat_natCast, ofL_extract, show i + w.length - i = w.length by omega, htk]
  refine Ev.step (f := fun k => (warpref9_number.f k (ofL w)).bind fun t121 => (if t121 ≥ 0 then (warpref9_Lex.j11 k (ofL l) (i : Int) ((i + w.length : Nat) : Int) acc 0 0 3 (i : Int) (ofL []) t121) else (warpref9_Lex.j11 k (ofL l) (i : Int) ((i + w.length : Nat) : Int) acc 0 0 0 (i : Int) (ofL []) t121))) (fun k => ?_) ?_
  · simp only [warpref9_Lex.j8, hex]
    rw [if_pos (by omega), if_pos (by omega), if_pos (by rw [ofL_size]; omega)]
  · refine Ev.bind (rnumber_ev w hsw hwn hwa) ?_
    rcases numR_numL w hwa with ⟨v, e1, e2, h0⟩ | ⟨e1, e2⟩
    · rw [e1] at hT
      exact Ev.congr (fun k => by rw [e2, if_pos h0]) (j11_yes l hl i acc hi ha (⟨3, 0, [], v⟩, w.length) hT (by show ¬ w.length = 0; omega) (by simp) (hAt w.length hwp (by omega)))
    · rw [e1] at hT
      exact Ev.congr (fun k => by rw [e2, if_neg (by omega)]) (j11_no l hl i acc _ _ _ _ hne (by rw [hT]))
theorem signs_ev (i : Nat) (acc : List S38) (hi : i < l.length) (ha : acc.length ≤ i) (c : UInt8) (r : List UInt8) (hdr : l.drop i = c :: r)
    (h1 : (isLow c || isUp c) = false) (h2 : isDig c = false) (b : Bool) (hb : b = (c == 45 && hd 62 r))
    (hAt : ∀ (n : Nat), 0 < n → i + n ≤ l.length → ∀ acc, acc.length ≤ i + n → At l acc (i + n)) :
    Ev (fun k => warpref9_Lex.j9 k (ofL l) (i : Int) (c.toNat : Int) (i : Int) b acc 0 0 0 (i : Int) (ofL []) 0) (out acc (lexA i (l.drop i))) := by
  have hne : l.drop i ≠ [] := by rw [hdr]; simp
  have hT := tokL_sign c r h1 h2
  rw [← hdr, ← hb] at hT
  have hln : l.length - i = r.length + 1 := by have := congrArg List.length hdr; simpa using this
  cases hbb : b with
  | true =>
    rw [hbb, if_pos rfl] at hT
    have hr : 0 < r.length := by
      rw [hbb, eq_comm, Bool.and_eq_true] at hb
      cases r with
      | nil => simp [hd] at hb
      | cons d t => simp
    refine Ev.step (fun k => ?_) (j11_yes l hl i acc hi ha (⟨5, 0, [45, 62], 0⟩, 2) hT (by simp) (by simp) (hAt 2 (by omega) (by omega)))
    simp only [warpref9_Lex.j9]
    rw [if_pos trivial, wrap_id (by omega) (by omega)]
    rfl
  | false =>
    rw [hbb, if_neg (by simp)] at hT
    have one : ∀ b2 : Bool, b2 = signs1.contains c → Ev (fun k => warpref9_Lex.j10 k (ofL l) (i : Int) (i : Int) b2 acc 0 0 0 (i : Int) (ofL []) 0) (out acc (lexA i (l.drop i))) := by
      intro b2 hb2
      cases hbc : b2 with
      | true =>
        rw [← hb2, hbc, if_pos rfl] at hT
        refine Ev.step (fun k => ?_) (j11_yes l hl i acc hi ha (⟨5, 0, [c], 0⟩, 1) hT (by simp) (by simp) (hAt 1 (by omega) (by omega)))
        simp only [warpref9_Lex.j10]
        have hex : (ofL l).extract ((i : Nat) : Int).toNat ((i + 1 : Nat) : Int).toNat = ofL [c] := by
          rw [Int.toNat_natCast, Int.toNat_natCast, ofL_extract, hdr, show i + 1 - i = 1 by omega]; rfl
        rw [if_pos trivial, if_pos (by omega), wrap_id (by omega) (by omega), if_pos (by omega), if_pos (by rw [ofL_size]; omega)]
        rw [show ((i : Int) + 1) = ((i + 1 : Nat) : Int) by omega, hex]
      | false =>
        rw [← hb2, hbc, if_neg (by simp)] at hT
        refine Ev.step (fun k => ?_) (j11_no l hl i acc (i : Int) (i : Int) 0 (ofL []) hne (by rw [hT]))
        simp only [warpref9_Lex.j10]
        rw [if_neg (by simp)]
    have ne : ∀ (q : UInt8), c ≠ q → ¬ ((c.toNat : Int) = (q.toNat : Int)) := by
      intro q hq hx; apply hq; rw [← UInt8.toNat_inj]; omega
    refine Ev.step (f := fun k => if (c.toNat : Int) = 92 then (warpref9_Lex.j10 k (ofL l) (i : Int) (i : Int) true acc 0 0 0 (i : Int) (ofL []) 0) else (if (c.toNat : Int) = 61 then (warpref9_Lex.j10 k (ofL l) (i : Int) (i : Int) true acc 0 0 0 (i : Int) (ofL []) 0) else (if (c.toNat : Int) = 59 then (warpref9_Lex.j10 k (ofL l) (i : Int) (i : Int) true acc 0 0 0 (i : Int) (ofL []) 0) else (if (c.toNat : Int) = 124 then (warpref9_Lex.j10 k (ofL l) (i : Int) (i : Int) true acc 0 0 0 (i : Int) (ofL []) 0) else (if (c.toNat : Int) = 40 then (warpref9_Lex.j10 k (ofL l) (i : Int) (i : Int) true acc 0 0 0 (i : Int) (ofL []) 0) else (if (c.toNat : Int) = 41 then (warpref9_Lex.j10 k (ofL l) (i : Int) (i : Int) true acc 0 0 0 (i : Int) (ofL []) 0) else (if (c.toNat : Int) = 44 then (warpref9_Lex.j10 k (ofL l) (i : Int) (i : Int) true acc 0 0 0 (i : Int) (ofL []) 0) else (if (c.toNat : Int) = 123 then (warpref9_Lex.j10 k (ofL l) (i : Int) (i : Int) true acc 0 0 0 (i : Int) (ofL []) 0) else (warpref9_Lex.j10 k (ofL l) (i : Int) (i : Int) ((c.toNat : Int) == 125) acc 0 0 0 (i : Int) (ofL []) 0)))))))))
      (fun k => by simp only [warpref9_Lex.j9]; rw [if_neg (by simp)]) ?_
    by_cases g0 : c = 92
    · subst g0; exact Ev.congr (fun k => by rw [if_pos (by decide)]) (one true (by decide))
    refine Ev.congr (fun k => by rw [if_neg (by exact ne 92 g0)]) ?_
    by_cases g1 : c = 61
    · subst g1; exact Ev.congr (fun k => by rw [if_pos (by decide)]) (one true (by decide))
    refine Ev.congr (fun k => by rw [if_neg (by exact ne 61 g1)]) ?_
    by_cases g2 : c = 59
    · subst g2; exact Ev.congr (fun k => by rw [if_pos (by decide)]) (one true (by decide))
    refine Ev.congr (fun k => by rw [if_neg (by exact ne 59 g2)]) ?_
    by_cases g3 : c = 124
    · subst g3; exact Ev.congr (fun k => by rw [if_pos (by decide)]) (one true (by decide))
    refine Ev.congr (fun k => by rw [if_neg (by exact ne 124 g3)]) ?_
    by_cases g4 : c = 40
    · subst g4; exact Ev.congr (fun k => by rw [if_pos (by decide)]) (one true (by decide))
    refine Ev.congr (fun k => by rw [if_neg (by exact ne 40 g4)]) ?_
    by_cases g5 : c = 41
    · subst g5; exact Ev.congr (fun k => by rw [if_pos (by decide)]) (one true (by decide))
    refine Ev.congr (fun k => by rw [if_neg (by exact ne 41 g5)]) ?_
    by_cases g6 : c = 44
    · subst g6; exact Ev.congr (fun k => by rw [if_pos (by decide)]) (one true (by decide))
    refine Ev.congr (fun k => by rw [if_neg (by exact ne 44 g6)]) ?_
    by_cases g7 : c = 123
    · subst g7; exact Ev.congr (fun k => by rw [if_pos (by decide)]) (one true (by decide))
    refine Ev.congr (fun k => by rw [if_neg (by exact ne 123 g7)]) ?_
    refine one _ ?_
    by_cases g8 : c = 125
    · subst g8; decide
    · rw [show ((c.toNat : Int) == 125) = false from beq_eq_false_iff_ne.2 (ne 125 g8)]
      simp [signs1, g0, g1, g2, g3, g4, g5, g6, g7, g8]
/-- A remark, to its line's end. -/
theorem remark_ev (acc : List S38) (i : Nat) (hAt : ∀ p, i < p → p ≤ l.length → At l acc p) : ∀ (d p : Nat), l.length - p = d → i < p → p ≤ l.length →
    Ev (fun k => warpref9_Lex.l1 k (ofL l) (p : Int) acc 0 0) (out acc (lexA (p + skipL true (l.drop p)) ((l.drop p).drop (skipL true (l.drop p))))) := by
  intro d
  induction d with
  | zero =>
    intro p hd hip hp
    have e : l.drop p = [] := List.drop_eq_nil_of_le (by omega)
    have ht := hAt p hip hp
    unfold At at ht
    refine Ev.step (fun k => ?_) (evIs ht ?_)
    · simp only [warpref9_Lex.l1, ofL_size]
      rw [if_neg (by omega)]
    · rw [e]; simp [lexS, skipL]
  | succ d ih =>
    intro p hd hip hp
    have hlt : p < l.length := by omega
    by_cases hc : l.getD p 0 = 10
    · have ht := hAt p hip hp
      unfold At at ht
      refine Ev.step (fun k => ?_) (evIs ht ?_)
      · simp only [warpref9_Lex.l1, ofL_size]
        rw [if_pos (by omega), if_pos (by omega), bt_ofL, hc, if_pos (by decide)]
      · rw [drop_cons hlt, hc]
        simp [lexS, skipL, isGap]
    · have hx : ¬ (((l.getD p 0).toNat : Int) = 10) := by
        intro hx; apply hc; rw [← UInt8.toNat_inj]; show (l.getD p 0).toNat = 10; omega
      refine Ev.step (fun k => ?_) (evIs (ih (p + 1) (by omega) (by omega) (by omega)) ?_)
      · simp only [warpref9_Lex.l1, ofL_size]
        rw [if_pos (by omega), if_pos (by omega), bt_ofL, if_neg hx, wrap_id (by omega) (by omega)]
        rfl
      · rw [drop_cons hlt]
        have : skipL true (l.getD p 0 :: l.drop (p + 1)) = skipL true (l.drop (p + 1)) + 1 := by
          simp only [skipL]; rw [if_neg (by simpa using hc)]
        rw [this, List.drop_succ_cons]
        congr 2
        omega
theorem all_ev : ∀ (d i : Nat) (acc : List S38), l.length - i ≤ d → i ≤ l.length → acc.length ≤ i → At l acc i := by
  intro d
  induction d with
  | zero =>
    intro i acc hdd hi ha
    have e : l.drop i = [] := List.drop_eq_nil_of_le (by omega)
    unfold At
    refine Ev.step (f := fun _ => some (acc, 0, 0)) (fun k => by simp only [warpref9_Lex.l0, ofL_size]; rw [if_neg (by omega)]) (evIs (Ev.now _) ?_)
    rw [e, lexS_nil]; simp [out]
  | succ d ih =>
    intro i acc hdd hi ha
    by_cases hlt : i < l.length
    · have hdr := drop_cons hlt
      generalize hcg : l.getD i 0 = c at hdr
      generalize hrg : l.drop (i + 1) = r at hdr
      have hbt : bt (ofL l) (i : Int) = (c.toNat : Int) := by rw [bt_ofL, hcg]
      have ne : ∀ (q : UInt8), c ≠ q → ¬ ((c.toNat : Int) = (q.toNat : Int)) := by
        intro q hq hx; apply hq; rw [← UInt8.toNat_inj]; omega
      unfold At
      -- the blanks' test
      have first : ∀ R, Ev (fun k => warpref9_Lex.j1 k (ofL l) (i : Int) (c.toNat : Int) (isGap c) acc 0 0) R → Ev (fun k => warpref9_Lex.l0 k (ofL l) (i : Int) acc 0 0) R := by
        intro R h
        refine Ev.step (f := fun k => if (c.toNat : Int) = 32 then (warpref9_Lex.j1 k (ofL l) (i : Int) (c.toNat : Int) true acc 0 0) else (if (c.toNat : Int) = 9 then (warpref9_Lex.j1 k (ofL l) (i : Int) (c.toNat : Int) true acc 0 0) else (warpref9_Lex.j1 k (ofL l) (i : Int) (c.toNat : Int) ((c.toNat : Int) == 10) acc 0 0))) (fun k => ?_) ?_
        · simp only [warpref9_Lex.l0, ofL_size, hbt]
          rw [if_pos (by omega), if_pos (by omega)]
        · by_cases g1 : c = 32
          · subst g1; exact Ev.congr (fun k => by rw [if_pos (by decide)]; rfl) h
          refine Ev.congr (fun k => by rw [if_neg (by exact ne 32 g1)]) ?_
          by_cases g2 : c = 9
          · subst g2; exact Ev.congr (fun k => by rw [if_pos (by decide)]; rfl) h
          refine Ev.congr (fun k => by rw [if_neg (by exact ne 9 g2)]) ?_
          by_cases g3 : c = 10
          · subst g3; exact h
          rw [show isGap c = false by simp [isGap, g1, g2, g3]] at h
          exact Ev.congr (fun k => by rw [show ((c.toNat : Int) == 10) = false from beq_eq_false_iff_ne.2 (ne 10 g3)]) h
      refine first _ ?_
      by_cases hgap : isGap c = true
      · rw [hgap]
        have ht := ih (i + 1) acc (by omega) (by omega) (by omega)
        unfold At at ht
        refine Ev.step (fun k => ?_) (evIs ht ?_)
        · simp only [warpref9_Lex.j1]
          rw [if_pos trivial, wrap_id (by omega) (by omega)]
          rfl
        · unfold lexS
          rw [hdr, hrg, show skipL false (c :: r) = skipL false r + 1 by simp only [skipL]; rw [if_pos hgap], List.drop_succ_cons]
          congr 2
          omega
      · have hgap' : isGap c = false := by simpa only [Bool.not_eq_true] using hgap
        rw [hgap']
        -- is it a remark?
        have hnext : ∀ q : UInt8, hd q r = (decide (i + 1 < l.length) && (l.getD (i + 1) 0 == q)) := by
          intro q
          rw [← hrg]
          by_cases h1 : i + 1 < l.length
          · rw [drop_cons h1]; simp [hd, h1]
          · rw [List.drop_eq_nil_of_le (by omega)]; simp [hd, h1]
        have w1 : wrap64 ((i : Int) + 1) = ((i + 1 : Nat) : Int) := by rw [wrap_id (by omega) (by omega)]; rfl
        have second : ∀ R, Ev (fun k => warpref9_Lex.j2 k (ofL l) (i : Int) (c.toNat : Int) (c == 45 && hd 45 r) acc 0 0) R → Ev (fun k => warpref9_Lex.j1 k (ofL l) (i : Int) (c.toNat : Int) false acc 0 0) R := by
          intro R h
          refine Ev.step (fun k => ?_) h
          simp only [warpref9_Lex.j1, w1, ofL_size]
          rw [if_neg (by simp)]
          by_cases g : c = 45
          · subst g
            rw [if_pos (by decide), hnext 45]
            by_cases h1 : i + 1 < l.length
            · rw [if_pos (by omega), if_pos (by omega), bt_ofL, show (((l.getD (i + 1) 0).toNat : Int) == 45) = (l.getD (i + 1) 0 == 45) from u8_beq _ 45]
              simp only [h1, decide_true, Bool.true_and]
              rfl
            · rw [if_neg (by omega)]
              simp only [h1, decide_false, Bool.false_and, Bool.and_false]
          · rw [if_neg (by exact ne 45 g), beq_eq_false_iff_ne.2 g, Bool.false_and]
        refine second _ ?_
        by_cases hrem : (c == 45 && hd 45 r) = true
        · rw [hrem]
          have hc45 : c = 45 := by rw [Bool.and_eq_true] at hrem; simpa using hrem.1
          have hr1 : i + 1 < l.length := by
            rw [Bool.and_eq_true, hnext 45, Bool.and_eq_true] at hrem
            simpa using hrem.2.1
          have ht := remark_ev l hl acc i (fun p h1 h2 => ih p acc (by omega) h2 (by omega)) _ (i + 1) rfl (by omega) (by omega)
          refine Ev.step (f := fun k => warpref9_Lex.l1 k (ofL l) (i : Int) acc 0 0) (fun k => by simp only [warpref9_Lex.j2]; rw [if_pos trivial]) ?_
          refine Ev.step (fun k => ?_) (evIs ht ?_)
          · simp only [warpref9_Lex.l1, ofL_size, hbt]
            rw [if_pos (by omega), if_pos (by omega), if_neg (by rw [hc45]; decide), w1]
          · rw [hrg]
            unfold lexS
            rw [hdr, show skipL false (c :: r) = skipL true r + 1 by simp only [skipL]; rw [if_neg hgap, if_pos hrem], List.drop_succ_cons]
            congr 2
            omega
        · have hrem' : (c == 45 && hd 45 r) = false := by simpa only [Bool.not_eq_true] using hrem
          rw [hrem']
          have hskip : skipL false (l.drop i) = 0 := by rw [hdr]; simp only [skipL]; rw [if_neg hgap, if_neg hrem]
          have hlex : lexS i (l.drop i) = lexA i (l.drop i) := by unfold lexS; rw [hskip, List.drop_zero, Nat.add_zero]
          rw [hlex]
          have hAt : ∀ (n : Nat), 0 < n → i + n ≤ l.length → ∀ acc, acc.length ≤ i + n → At l acc (i + n) := fun n h1 h2 acc h3 => ih (i + n) acc (by omega) h2 h3
          have third : ∀ R, Ev (fun k => warpref9_Lex.j4 k (ofL l) (i : Int) (c.toNat : Int) (i : Int) (isLow c || isUp c) acc 0 0 0 (i : Int) (ofL []) 0) R → Ev (fun k => warpref9_Lex.j2 k (ofL l) (i : Int) (c.toNat : Int) false acc 0 0) R := by
            intro R h
            refine Ev.step (fun k => ?_) h
            simp only [warpref9_Lex.j2, rlower, rupper, Option.bind_some]
            rw [if_neg (by simp)]
            cases isLow c
            · rw [if_neg (by simp), Bool.false_or]; rfl
            · rw [if_pos rfl, Bool.true_or]; rfl
          refine third _ ?_
          by_cases hlet : (isLow c || isUp c) = true
          · rw [hlet]
            refine Ev.step (fun k => ?_) (letters_ev l hl i acc hlt ha c r hdr hlet hAt)
            simp only [warpref9_Lex.j4]
            rw [if_pos trivial]
          · have hlet' : (isLow c || isUp c) = false := by simpa only [Bool.not_eq_true] using hlet
            rw [hlet']
            by_cases hdg : isDig c = true
            · refine Ev.step (fun k => ?_) (digits_ev l hl i acc hlt ha c r hdr hdg hAt)
              simp only [warpref9_Lex.j4, rdigit, Option.bind_some]
              rw [if_neg (by simp), if_pos hdg]
            · have hdg' : isDig c = false := by simpa only [Bool.not_eq_true] using hdg
              refine Ev.step (fun k => ?_) (signs_ev l hl i acc hlt ha c r hdr hlet' hdg' (c == 45 && hd 62 r) rfl hAt)
              simp only [warpref9_Lex.j4, rdigit, Option.bind_some, w1, ofL_size]
              rw [if_neg (by simp), if_neg hdg]
              by_cases g : c = 45
              · subst g
                rw [if_pos (by decide), hnext 62]
                by_cases h1 : i + 1 < l.length
                · rw [if_pos (by omega), if_pos (by omega), bt_ofL, show (((l.getD (i + 1) 0).toNat : Int) == 62) = (l.getD (i + 1) 0 == 62) from u8_beq _ 62]
                  simp only [h1, decide_true, Bool.true_and]
                  rfl
                · rw [if_neg (by omega)]
                  simp only [h1, decide_false, Bool.false_and, Bool.and_false]
              · rw [if_neg (by exact ne 45 g), beq_eq_false_iff_ne.2 g, Bool.false_and]
    · have e : l.drop i = [] := List.drop_eq_nil_of_le (by omega)
      unfold At
      refine Ev.step (f := fun _ => some (acc, 0, 0)) (fun k => by simp only [warpref9_Lex.l0, ofL_size]; rw [if_neg (by omega)]) (evIs (Ev.now _) ?_)
      rw [e, lexS_nil]; simp [out]
theorem rLex_ev : Ev (fun k => warpref9_Lex.f k (ofL l)) (out [] (lexL l)) := by
  have h := all_ev l hl l.length 0 [] (by omega) (by omega) (by simp)
  unfold At at h
  refine Ev.congr (fun k => ?_) (evIs h (by rw [List.drop_zero, lexL_S]))
  simp only [warpref9_Lex.f, ofL_size]
  rw [if_neg (by omega)]
  rfl
end
end Go.Proofs.Ythpnplcagfpngaa.Lx
