/- Plain Lean: a text, a line end, and another text: the tokens of the one, then those of the other, further on. -/
import Derived.Test.YthpnplcagfpngaaS1
namespace Go.Proofs.Ythpnplcagfpngaa.Lx
set_option linter.unusedVariables false
set_option linter.unusedSimpArgs false
/-- The tokens of a text that may begin with what goes. -/
def lexS (pos : Nat) (l : List UInt8) : Except Nat (List Tk) := lexA (pos + skipL false l) (l.drop (skipL false l))
theorem lexL_S (l : List UInt8) : lexL l = lexS 0 l := by unfold lexL lexS; rw [Nat.zero_add]
theorem lexA_S {pos : Nat} {l : List UInt8} (h : (tokL l).2 ≠ 0) : lexA pos l = match lexS (pos + (tokL l).2) (l.drop (tokL l).2) with
    | .error e => .error e
    | .ok ts => .ok ({ (tokL l).1 with pos := pos } :: ts) := lexA_cons h
def shift (d : Nat) (t : Tk) : Tk := { t with pos := t.pos + d }
def shiftE (d : Nat) (x : Except Nat (List Tk)) : Except Nat (List Tk) := match x with
  | .error e => .error (e + d)
  | .ok ts => .ok (ts.map (shift d))
theorem lexA_shift (d : Nat) : ∀ (n pos : Nat) (l : List UInt8), l.length ≤ n → lexA (pos + d) l = shiftE d (lexA pos l) := by
  intro n
  induction n with
  | zero =>
    intro pos l hn
    have : l = [] := List.length_eq_zero_iff.1 (by omega)
    subst this
    rw [lexA_nil, lexA_nil]; rfl
  | succ n ih =>
    intro pos l hn
    by_cases hne : l = []
    · subst hne; rw [lexA_nil, lexA_nil]; rfl
    · have hp := List.length_pos_iff.2 hne
      by_cases h0 : (tokL l).2 = 0
      · rw [lexA_err hne h0, lexA_err hne h0]; rfl
      · rw [lexA_cons h0, lexA_cons h0]
        have e : pos + d + (tokL l).2 + skipL false (l.drop (tokL l).2) = pos + (tokL l).2 + skipL false (l.drop (tokL l).2) + d := by omega
        rw [e, ih _ _ (by simp; omega)]
        cases lexA (pos + (tokL l).2 + skipL false (l.drop (tokL l).2)) ((l.drop (tokL l).2).drop (skipL false (l.drop (tokL l).2))) with
        | error e => rfl
        | ok ts => simp [shiftE, shift]
theorem lexS_shift (d pos : Nat) (l : List UInt8) : lexS (pos + d) l = shiftE d (lexS pos l) := by
  unfold lexS
  rw [← lexA_shift d _ _ _ (Nat.le_refl _)]
  congr 1
  omega
theorem lexS_at (pos : Nat) (l : List UInt8) : lexS pos l = shiftE pos (lexL l) := by
  rw [lexL_S, ← lexS_shift, Nat.zero_add]
theorem lexS_nil (pos : Nat) : lexS pos [] = .ok [] := by unfold lexS; simp [skipL, lexA_nil]
/-- Behind a text that goes as a whole. -/
theorem lexS_gap (g : List UInt8) (hg : ∀ b, skipL false (g ++ b) = g.length + skipL false b) (pos : Nat) (b : List UInt8) : lexS pos (g ++ b) = lexS (pos + g.length) b := by
  unfold lexS
  rw [hg, ← Nat.add_assoc, ← List.drop_drop, List.drop_left]
/-! ### a line end parts -/
theorem take_sep (p : UInt8 → Bool) (hp : p 10 = false) (l r : List UInt8) : (l ++ 10 :: r).takeWhile p = l.takeWhile p := by
  induction l with
  | nil => rw [List.nil_append, List.takeWhile_cons_of_neg (by simp [hp])]; rfl
  | cons c t ih =>
    rw [List.cons_append]
    by_cases h : p c = true
    · rw [List.takeWhile_cons_of_pos h, List.takeWhile_cons_of_pos h, ih]
    · rw [List.takeWhile_cons_of_neg h, List.takeWhile_cons_of_neg h]
theorem hd_sep (n : UInt8) (hn : (10 == n) = false) (l r : List UInt8) : hd n (l ++ 10 :: r) = hd n l := by
  cases l with
  | nil => simp only [List.nil_append, hd, hn]
  | cons c t => rfl
theorem tok_sep (l r : List UInt8) (hl : l ≠ []) : tokL (l ++ 10 :: r) = tokL l := by
  cases l with
  | nil => exact absurd rfl hl
  | cons c t =>
    have h1 := take_sep isRest (by decide) (c :: t) r
    have h2 := take_sep isDig (by decide) (c :: t) r
    have h3 := hd_sep 62 (by decide) t r
    rw [List.cons_append] at h1 h2 ⊢
    simp only [tokL, h1, h2, h3]
theorem skip_sep (l r : List UInt8) : ∀ b, skipL b (l ++ 10 :: r) = if skipL b l = l.length then l.length + (1 + skipL false r) else skipL b l := by
  induction l with
  | nil => intro b; cases b <;> simp [skipL, isGap] <;> omega
  | cons c t ih =>
    have h3 := hd_sep 45 (by decide) t r
    have fin : ∀ b, skipL b (c :: (t ++ 10 :: r)) = skipL false (t ++ 10 :: r) + 1 → skipL b (c :: t) = skipL false t + 1 →
        skipL b (c :: (t ++ 10 :: r)) = if skipL b (c :: t) = (c :: t).length then (c :: t).length + (1 + skipL false r) else skipL b (c :: t) := by
      intro b e1 e2
      rw [e1, e2, ih, List.length_cons]
      by_cases e : skipL false t = t.length
      · rw [if_pos e, if_pos (by omega)]; omega
      · rw [if_neg e, if_neg (by omega)]
    have fin2 : ∀ b, skipL b (c :: (t ++ 10 :: r)) = skipL true (t ++ 10 :: r) + 1 → skipL b (c :: t) = skipL true t + 1 →
        skipL b (c :: (t ++ 10 :: r)) = if skipL b (c :: t) = (c :: t).length then (c :: t).length + (1 + skipL false r) else skipL b (c :: t) := by
      intro b e1 e2
      rw [e1, e2, ih, List.length_cons]
      by_cases e : skipL true t = t.length
      · rw [if_pos e, if_pos (by omega)]; omega
      · rw [if_neg e, if_neg (by omega)]
    intro b
    rw [List.cons_append]
    cases b
    · by_cases g1 : isGap c = true
      · exact fin false (by simp only [skipL]; rw [if_pos g1]) (by simp only [skipL]; rw [if_pos g1])
      · by_cases g2 : (c == 45 && hd 45 t) = true
        · exact fin2 false (by simp only [skipL, h3]; rw [if_neg g1, if_pos g2]) (by simp only [skipL]; rw [if_neg g1, if_pos g2])
        · have e1 : skipL false (c :: (t ++ 10 :: r)) = 0 := by simp only [skipL, h3]; rw [if_neg g1, if_neg g2]
          have e2 : skipL false (c :: t) = 0 := by simp only [skipL]; rw [if_neg g1, if_neg g2]
          rw [e1, e2, List.length_cons, if_neg (by omega)]
    · by_cases g1 : (c == 10) = true
      · exact fin true (by simp only [skipL]; rw [if_pos g1]) (by simp only [skipL]; rw [if_pos g1])
      · exact fin2 true (by simp only [skipL]; rw [if_neg g1]) (by simp only [skipL]; rw [if_neg g1])
/-- The tokens of one text, then those of another. -/
def joinE (x y : Except Nat (List Tk)) : Except Nat (List Tk) := match x with
  | .error e => .error e
  | .ok ts => match y with
    | .error e => .error e
    | .ok us => .ok (ts ++ us)
theorem join_nil (y : Except Nat (List Tk)) : joinE (.ok []) y = y := by cases y <;> rfl
theorem lexS_join (r : List UInt8) : ∀ (n pos : Nat) (l : List UInt8), l.length ≤ n → lexS pos (l ++ 10 :: r) = joinE (lexS pos l) (lexS (pos + l.length + 1) r) := by
  intro n
  induction n with
  | zero =>
    intro pos l hn
    have : l = [] := List.length_eq_zero_iff.1 (by omega)
    subst this
    rw [lexS_nil, join_nil, List.nil_append]
    have := lexS_gap [10] (fun b => by simp [skipL, isGap]; omega) pos r
    exact this
  | succ n ih =>
    intro pos l hn
    have hle := skipL_le false l
    by_cases hs : skipL false l = l.length
    · have e1 : lexS pos l = .ok [] := by
        unfold lexS
        rw [hs, List.drop_length, lexA_nil]
      rw [e1, join_nil]
      unfold lexS
      rw [skip_sep, if_pos hs]
      have e2 : (l ++ 10 :: r).drop (l.length + (1 + skipL false r)) = r.drop (skipL false r) := by
        rw [← List.drop_drop, List.drop_left, show 1 + skipL false r = skipL false r + 1 by omega, List.drop_succ_cons]
      rw [e2]
      congr 1
      omega
    · have hlt : skipL false l < l.length := by omega
      have hne : l.drop (skipL false l) ≠ [] := by
        intro h; have := congrArg List.length h; simp at this; omega
      have ed : (l ++ 10 :: r).drop (skipL false l) = l.drop (skipL false l) ++ 10 :: r := by
        rw [List.drop_append_of_le_length (by omega)]
      have step : lexS pos (l ++ 10 :: r) = lexA (pos + skipL false l) (l.drop (skipL false l) ++ 10 :: r) := by
        unfold lexS
        rw [skip_sep, if_neg hs, ed]
      rw [step]
      have step2 : lexS pos l = lexA (pos + skipL false l) (l.drop (skipL false l)) := rfl
      rw [step2]
      have hdl : (l.drop (skipL false l)).length = l.length - skipL false l := List.length_drop
      generalize l.drop (skipL false l) = l' at hne hdl
      generalize skipL false l = g at hlt hdl
      have htok := tok_sep l' r hne
      have htl := tokL_le l'
      by_cases h0 : (tokL l').2 = 0
      · rw [lexA_err hne h0, lexA_err (by simp) (by rw [htok]; exact h0)]; rfl
      · rw [lexA_S (l := l' ++ 10 :: r) (by rw [htok]; exact h0), lexA_S h0, htok, List.drop_append_of_le_length htl]
        rw [ih _ _ (by simp; omega)]
        have e3 : pos + g + (tokL l').2 + (l'.drop (tokL l').2).length + 1 = pos + l.length + 1 := by simp; omega
        rw [e3]
        cases lexS (pos + g + (tokL l').2) (l'.drop (tokL l').2) with
        | error e => rfl
        | ok ts =>
          cases lexS (pos + l.length + 1) r with
          | error e => rfl
          | ok us => rfl
end Go.Proofs.Ythpnplcagfpngaa.Lx
