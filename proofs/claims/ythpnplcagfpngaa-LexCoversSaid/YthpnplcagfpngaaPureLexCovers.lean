/- LexCovers: tokens stand one behind the other, each where its text stands; what is between are blanks and remarks alone. For all inputs. -/
import Derived.Test.YthpnplcagfpngaaQ21
import Derived.Test.YthpnplcagfpngaaS6
namespace Go.Proofs.Ythpnplcagfpngaa.Pure
open Go.RowKit Go.Proofs.Ythpnplcagfpngaa.Q Go.Proofs.YthpnplcagfpngaaW.PrintWords Go.Proofs.YthpnplcagfpngaaW.PrintLast
open Go.Proofs.Ythpnplcagfpngaa.Lx
set_option linter.unusedVariables false
set_option linter.unusedSimpArgs false
/-- A token's text stands where it is; a number's are all the digits there. -/
theorem tok_text (l : List UInt8) (h : (tokL l).2 ≠ 0) :
    ((tokL l).1.s ≠ [] ∧ (tokL l).2 = (tokL l).1.s.length ∧ l.take (tokL l).2 = (tokL l).1.s) ∨ ((tokL l).1.s = [] ∧ (tokL l).2 = (l.takeWhile isDig).length) := by
  cases l with
  | nil => simp [tokL] at h
  | cons c r =>
    by_cases h1 : (isLow c || isUp c) = true
    · left
      have hr : isRest c = true := by
        simp only [isRest]; rw [h1]; rfl
      have hne : (c :: r).takeWhile isRest ≠ [] := by rw [List.takeWhile_cons_of_pos hr]; simp
      have ht := take_take isRest (c :: r)
      have e := tokL_letter c r h1 _ rfl
      generalize (c :: r).takeWhile isRest = w at hne ht e
      rw [e] at h ⊢
      split
      · exact ⟨hne, rfl, ht⟩
      · split
        · exact ⟨hne, rfl, ht⟩
        · split
          · exact ⟨hne, rfl, ht⟩
          · rename_i a b c; rw [if_neg a, if_neg b, if_neg c] at h; exact absurd rfl h
    · by_cases h2 : isDig c = true
      · right
        have e := tokL_digit c r h2 _ rfl
        rw [e] at h ⊢
        cases hn : numL ((c :: r).takeWhile isDig) with
        | none => rw [hn] at h; exact absurd rfl h
        | some v => exact ⟨rfl, rfl⟩
      · left
        have e := tokL_sign c r (by simpa using h1) (by simpa using h2)
        rw [e] at h ⊢
        split
        · rename_i hh
          cases r with
          | nil => simp [hd] at hh
          | cons d t =>
            simp only [hd, Bool.and_eq_true, beq_iff_eq] at hh
            obtain ⟨rfl, rfl⟩ := hh
            exact ⟨by simp, rfl, rfl⟩
        · split
          · exact ⟨by simp, rfl, rfl⟩
          · rename_i a b; rw [if_neg a, if_neg b] at h; exact absurd rfl h
theorem rd_mid (pre ts : List Tk) (t : Tk) : rd_T38 ((pre ++ t :: ts).map toS) (pre.length : Int) = toS t := by
  unfold rd_T38
  rw [Int.toNat_natCast, getD_lt (by simp)]
  simp
section
variable (s : List UInt8) (hs : s.length ≤ 2000)
include hs
/-- How long a number is: all its digits. -/
theorem digits_ev (toks : List S38) (e i f0 n : Int) (p : Nat) (hp : p < s.length) :
    ∀ (d m : Nat), ((s.drop p).takeWhile isDig).length - m ≤ d → 1 ≤ m → m ≤ ((s.drop p).takeWhile isDig).length →
      Ev (fun k => warplaw9_LexCovers.j3 k (ofL s) toks e i ((((s.drop p).takeWhile isDig).length : Nat) : Int) f0 (p : Int) (ofL []) n) true →
      Ev (fun k => warplaw9_LexCovers.l1 k (ofL s) toks e i (m : Int) f0 (p : Int) (ofL []) n) true := by
  have hle := takeWhile_le (p := isDig) (s.drop p)
  rw [List.length_drop] at hle
  intro d
  induction d with
  | zero =>
    intro m hd h1 h2 hk
    have em : m = ((s.drop p).takeWhile isDig).length := by omega
    have hstop : ∀ hlt : p + m < s.length, isDig (s.getD (p + m) 0) = false := by
      intro hlt
      have hq : (s.drop p).dropWhile isDig = s.drop (p + m) := by rw [dropWhile_eq, ← em, List.drop_drop]
      rw [drop_cons hlt] at hq
      have := List.head_dropWhile_not isDig (by rw [hq]; simp : (s.drop p).dropWhile isDig ≠ [])
      simp only [hq, List.head_cons] at this
      exact this
    rw [← em] at hk
    refine Ev.step (fun k => ?_) hk
    simp only [warplaw9_LexCovers.l1]
    rw [if_neg (by omega), if_pos (by rw [ofL_toList]), wrap_id (n := (p : Int) + (m : Int)) (by omega) (by omega)]
    by_cases hlt : p + m < s.length
    · have hb := hstop hlt
      have hbt : bt (ofL s) ((p : Int) + (m : Int)) = ((s.getD (p + m) 0).toNat : Int) := bt_ofL s (p + m)
      rw [if_pos (by rw [ofL_size]; omega), if_pos (by omega), hbt]
      by_cases h48 : ((s.getD (p + m) 0).toNat : Int) ≥ 48
      · rw [if_pos h48, if_neg (by
          simp only [isDig, Bool.and_eq_false_iff, decide_eq_false_iff_not] at hb
          omega)]
      · rw [if_neg h48]
    · rw [if_neg (by rw [ofL_size]; omega)]
  | succ d ih =>
    intro m hd h1 h2 hk
    by_cases hlt : m = ((s.drop p).takeWhile isDig).length
    · exact ih m (by omega) h1 h2 hk
    · have hm : m < ((s.drop p).takeWhile isDig).length := by omega
      have hpm : p + m < s.length := by omega
      have hdig : isDig (s.getD (p + m) 0) = true := by
        have ha : ((s.drop p).takeWhile isDig).all isDig = true := List.all_takeWhile
        have h3 := List.all_eq_true.1 ha _ (List.getElem_mem hm)
        have h4 : ((s.drop p).takeWhile isDig)[m] = s[p + m] := by
          have hpr := List.takeWhile_prefix isDig (l := s.drop p)
          have := hpr.getElem hm
          rw [this]; simp
        rw [h4] at h3
        rw [getD_lt hpm]; exact h3
      have hbt : bt (ofL s) ((p : Int) + (m : Int)) = ((s.getD (p + m) 0).toNat : Int) := bt_ofL s (p + m)
      have hr : 48 ≤ (s.getD (p + m) 0).toNat ∧ (s.getD (p + m) 0).toNat ≤ 57 := by simpa only [isDig, Bool.and_eq_true, decide_eq_true_eq] using hdig
      refine Ev.step (fun k => ?_) (ih (m + 1) (by omega) (by omega) (by omega) hk)
      simp only [warplaw9_LexCovers.l1]
      rw [if_neg (by omega), if_pos (by rw [ofL_toList]), wrap_id (n := (p : Int) + (m : Int)) (by omega) (by omega), if_pos (by rw [ofL_size]; omega), if_pos (by omega), hbt, if_pos (by omega), if_pos (by omega), wrap_id (n := (m : Int) + 1) (by omega) (by omega)]
      rfl
theorem covers_l : ∀ (ts pre : List Tk) (e : Nat), e ≤ s.length → pre.length ≤ 2000 → pre.length + ts.length ≤ 2000 →
    lexA (e + skipL false (s.drop e)) (s.drop (e + skipL false (s.drop e))) = .ok ts →
    Ev (fun k => warplaw9_LexCovers.l0 k (ofL s) ((pre ++ ts).map toS) (e : Int) (pre.length : Int)) true := by
  intro ts
  induction ts with
  | nil =>
    intro pre e he hp _ hx
    have hg := skipL_le false (s.drop e)
    rw [List.length_drop] at hg
    have hnil : s.drop (e + skipL false (s.drop e)) = [] := by
      by_cases hc : s.drop (e + skipL false (s.drop e)) = []
      · exact hc
      · by_cases h0 : (tokL (s.drop (e + skipL false (s.drop e)))).2 = 0
        · rw [lexA_err hc h0] at hx; cases hx
        · rw [lexA_cons h0] at hx
          split at hx <;> cases hx
    have hall : skipL false (s.drop e) = s.length - e := by
      have := congrArg List.length hnil
      simp at this
      omega
    have hlex : lexL (s.drop e) = .ok [] := by
      have := lex_gap (s.drop e)
      rw [hall, List.take_of_length_le (by simp)] at this
      exact this
    have hL := Lex_ev (s.drop e) (by simp; omega)
    rw [hlex] at hL
    refine Ev.step (f := fun k => (lex_Lex.f k (ofL (s.drop e))).bind fun bt344 => ((warplaw1_Num.f bt344.2.1).bind fun t349 => (if t349 = 0 then (if (bt344.1.length : Int) = 0 then ((warplaw9_awake.f k).bind fun t350 => (some t350)) else (some false)) else (some false)))) (fun k => ?_) ?_
    · simp only [warplaw9_LexCovers.l0]
      rw [if_neg (by simp), if_pos (by omega), if_pos (by rw [ofL_size]; omega), Int.toNat_natCast, extract_end]
    · exact Ev.bind hL awake_last
  | cons t ts ih =>
    intro pre e he hp hc hx
    have hg := skipL_le false (s.drop e)
    rw [List.length_drop] at hg
    have hlex := lex_gap (s.drop e)
    generalize hge : skipL false (s.drop e) = g at hx hg hlex
    have hne : s.drop (e + g) ≠ [] := by
      intro h; rw [h, lexA_nil] at hx; cases hx
    have hlt : e + g < s.length := by
      have := List.length_pos_iff.2 hne
      simp at this; omega
    have h0 : (tokL (s.drop (e + g))).2 ≠ 0 := by
      intro h; rw [lexA_err hne h] at hx; cases hx
    have hle := tokL_le (s.drop (e + g))
    have htx := tok_text (s.drop (e + g)) h0
    rw [lexA_cons h0] at hx
    generalize hT : tokL (s.drop (e + g)) = T at hx h0 hle htx
    rw [List.length_drop] at hle
    rw [List.drop_drop, List.drop_drop] at hx
    obtain ⟨ht, hx2⟩ : t = { T.1 with pos := e + g } ∧ lexA (e + g + T.2 + skipL false (s.drop (e + g + T.2))) (s.drop (e + g + T.2 + skipL false (s.drop (e + g + T.2)))) = .ok ts := by
      split at hx
      · cases hx
      · rename_i ts' hts
        simp only [Except.ok.injEq, List.cons.injEq] at hx
        exact ⟨hx.1.symm, by rw [hts, hx.2]⟩
    have key := ih (pre ++ [t]) (e + g + T.2) (by omega) (by simp at hc ⊢; omega) (by simp at hc ⊢; omega) hx2
    rw [List.append_assoc, List.singleton_append, List.length_append, List.length_singleton] at key
    have hL := Lex_ev ((s.drop e).take g) (by simp; omega)
    rw [hlex] at hL
    have hj4 : ∀ m : Int, m = (T.2 : Int) → Ev (fun k => warplaw9_LexCovers.j4 k (ofL s) ((pre ++ t :: ts).map toS) (e : Int) (pre.length : Int) m false T.1.kind ((e + g : Nat) : Int) (ofL T.1.s) T.1.n) true := by
      intro m hm
      subst hm
      refine Ev.step (f := fun k => (lex_Lex.f k (ofL ((s.drop e).take g))).bind fun bt353 => ((warplaw1_Num.f bt353.2.1).bind fun t358 => (if t358 = 0 then (if (bt353.1.length : Int) = 0 then (warplaw9_LexCovers.l0 k (ofL s) ((pre ++ t :: ts).map toS) ((e + g + T.2 : Nat) : Int) ((pre.length + 1 : Nat) : Int)) else (some false)) else (some false)))) (fun k => ?_) ?_
      · simp only [warplaw9_LexCovers.j4]
        rw [if_neg (by simp), if_pos (by omega), if_pos (by omega), if_pos (by rw [ofL_size]; omega), Int.toNat_natCast, Int.toNat_natCast, ofL_extract, show e + g - e = g by omega, wrap_id (by omega) (by omega), wrap_id (by omega) (by omega)]
        rfl
      · exact Ev.bind hL key
    have hj3 : Ev (fun k => warplaw9_LexCovers.j3 k (ofL s) ((pre ++ t :: ts).map toS) (e : Int) (pre.length : Int) (T.2 : Int) T.1.kind ((e + g : Nat) : Int) (ofL T.1.s) T.1.n) true := by
      refine Ev.step (fun k => ?_) (hj4 _ rfl)
      simp only [warplaw9_LexCovers.j3]
      rw [wrap_id (by omega) (by omega), if_neg (by rw [ofL_size]; omega)]
      rcases htx with ⟨a, b, c⟩ | ⟨a, b⟩
      · rw [if_neg (by rw [ofL_toList]; exact a), if_pos (by omega), if_pos (by omega), if_pos (by rw [ofL_size]; omega), Int.toNat_natCast, show (((e + g : Nat) : Int) + (T.2 : Int)).toNat = e + g + T.2 by omega, ofL_extract, ofL_toList, ofL_toList, show e + g + T.2 - (e + g) = T.2 by omega, c]
        simp
      · rw [if_pos (by rw [ofL_toList]; exact a)]
    have hl1 : Ev (fun k => warplaw9_LexCovers.l1 k (ofL s) ((pre ++ t :: ts).map toS) (e : Int) (pre.length : Int) ((ofL T.1.s).size : Int) T.1.kind ((e + g : Nat) : Int) (ofL T.1.s) T.1.n) true := by
      rcases htx with ⟨a, b, c⟩ | ⟨a, b⟩
      · have hpos := List.length_pos_iff.2 a
        rw [ofL_size, ← b]
        refine Ev.step (fun k => ?_) hj3
        simp only [warplaw9_LexCovers.l1]
        rw [if_neg (by omega), if_neg (by rw [ofL_toList]; exact a)]
      · rw [a] at hj3 ⊢
        rw [b] at hj3 h0
        have hd1 := digits_ev s hs ((pre ++ t :: ts).map toS) (e : Int) (pre.length : Int) T.1.kind T.1.n (e + g) hlt _ 1 (Nat.le_refl _) (Nat.le_refl _) (by omega) hj3
        refine Ev.step (fun k => ?_) hd1
        simp only [warplaw9_LexCovers.l1]
        rw [ofL_size, if_pos (by simp), show wrap64 (((([] : List UInt8).length : Nat) : Int) + 1) = ((1 : Nat) : Int) by rw [List.length_nil, wrap_id (by omega) (by omega)]; rfl]
    have hrd := rd_mid pre ts t
    rw [ht] at hrd
    refine Ev.step (f := fun k => warplaw9_LexCovers.j1 k (ofL s) ((pre ++ t :: ts).map toS) (e : Int) (pre.length : Int) false T.1.kind ((e + g : Nat) : Int) (ofL T.1.s) T.1.n) (fun k => ?_) ?_
    · simp only [warplaw9_LexCovers.l0]
      rw [if_pos (by simp; omega), if_pos (by omega), ht, hrd]
      rw [if_neg (by show ¬ (((e + g : Nat) : Int) < (e : Int)); omega), decide_eq_false (by show ¬ (((e + g : Nat) : Int) ≥ ((ofL s).size : Int)); rw [ofL_size]; omega)]
      rfl
    · refine Ev.step (fun k => ?_) hl1
      simp only [warplaw9_LexCovers.j1]
      rw [if_neg (by simp)]
omit hs in
theorem lexA_len : ∀ (n pos : Nat) (l : List UInt8) (ts : List Tk), l.length ≤ n → lexA pos l = .ok ts → ts.length ≤ l.length := by
  intro n
  induction n with
  | zero =>
    intro pos l ts hn hx
    have : l = [] := List.length_eq_zero_iff.1 (by omega)
    subst this
    rw [lexA_nil] at hx; cases hx; simp
  | succ n ih =>
    intro pos l ts hn hx
    by_cases hne : l = []
    · subst hne; rw [lexA_nil] at hx; cases hx; simp
    · by_cases h0 : (tokL l).2 = 0
      · rw [lexA_err hne h0] at hx; cases hx
      · rw [lexA_cons h0] at hx
        split at hx
        · cases hx
        · rename_i ts' hts
          cases hx
          have := List.length_pos_iff.2 hne
          have h2 := ih _ _ ts' (by simp; omega) hts
          simp at h2 ⊢; omega
omit hs in
theorem lexA_err_lt : ∀ (n pos e : Nat) (l : List UInt8), l.length ≤ n → lexA pos l = .error e → pos ≤ e ∧ e < pos + l.length := by
  intro n
  induction n with
  | zero =>
    intro pos e l hn hx
    have : l = [] := List.length_eq_zero_iff.1 (by omega)
    subst this
    rw [lexA_nil] at hx; cases hx
  | succ n ih =>
    intro pos e l hn hx
    by_cases hne : l = []
    · subst hne; rw [lexA_nil] at hx; cases hx
    · have hpos := List.length_pos_iff.2 hne
      by_cases h0 : (tokL l).2 = 0
      · rw [lexA_err hne h0] at hx; cases hx; omega
      · rw [lexA_cons h0] at hx
        have hle := tokL_le l
        have hsk := skipL_le false (l.drop (tokL l).2)
        split at hx
        · rename_i e' hts
          cases hx
          have h2 := ih _ _ _ (by simp; omega) hts
          simp at h2 hsk; omega
        · cases hx
end
theorem LexCovers : warplaw9_LexCovers.Pure := by
  intro l0 hm hb hw
  refine Ev.rounds (g := fun k => warplaw9_LexCovers.f k l0) ?_
  obtain ⟨s, hs, _, hW⟩ := Words_ev l0 hw
  have hL := Lex_ev s (by omega)
  refine Ev.congr (f := fun k => (warplaw9_Words.f k l0).bind fun t336 => ((lex_Lex.f k t336).bind fun bt337 => (if bt337.2.1 = 0 then (warplaw9_LexCovers.l0 k t336 bt337.1 0 0) else (if bt337.2.2 ≥ 0 then (if bt337.2.2 < (t336.size : Int) then (if (bt337.1.length : Int) = 0 then ((warplaw9_awake.f k).bind fun t343 => (some t343)) else (some false)) else (some false)) else (some false))))) (fun k => rfl) ?_
  refine Ev.bind hW (Ev.bind hL ?_)
  have hsk := skipL_le false s
  cases hx : lexL s with
  | error e =>
    have he := lexA_err_lt _ _ _ _ (Nat.le_refl _) hx
    simp only [List.length_drop] at he
    refine Ev.congr (fun k => ?_) awake_last
    show (if (3 : Int) = 0 then _ else if (e : Int) ≥ 0 then (if (e : Int) < ((ofL s).size : Int) then (if ((([] : List S38).length : Nat) : Int) = 0 then _ else _) else _) else _) = _
    rw [if_neg (by omega), if_pos (by omega), if_pos (by rw [ofL_size]; omega), if_pos (by simp)]
  | ok ts =>
    have hlen := lexA_len _ _ _ _ (Nat.le_refl _) hx
    simp only [List.length_drop] at hlen
    have := covers_l s hs ts [] 0 (by omega) (by simp) (by simp; omega) (by simpa [lexL] using hx)
    refine Ev.congr (fun k => ?_) this
    simp only [out, List.nil_append, if_true]
    rfl
end Go.Proofs.Ythpnplcagfpngaa.Pure
