/-
  Texts by numbers, lexed by pieces; rules for what is parsed without a fault; Bare. Conditions stand in the theorems.
-/
import Derived.Test.YtoapgongbackaaaDoorEE
import Derived.Test.YtoapgongbackaaaDoorEJ
import Derived.Test.YtoapgongbackaaaDoorEC
import Derived.Test.YtoapgongbackaaaDoorEF
set_option linter.unusedVariables false
set_option linter.unusedSimpArgs false
/-! G1: texts in pieces, and their tokens without places. -/
namespace Go.Proofs.YtoapgongbackaaaDoor.V
open Go Go.Proofs
open Go.Proofs.YtoapgongbackaaaDoor.Lx
set_option maxRecDepth 100000

/-- A token without its place. -/
abbrev Bt := Int × List UInt8 × Int
def bk (t : Tk) : Bt := (t.kind, t.s, t.n)
/-- What follows doesn't go on with a row. -/
def Sep (r : List UInt8) : Prop := ∀ c r', r = c :: r' → isRest c = false
/-- A text's tokens, whatever follows (cl), or whatever follows that doesn't go on with a row. -/
def LxT (cl : Bool) (l : List UInt8) (bl : List Bt) : Prop :=
  ∀ (pos : Nat) (r : List UInt8), (cl = false → Sep r) → ∃ ts : List Tk, ts.map bk = bl ∧ lexS pos (l ++ r) = joinE (.ok ts) (lexS (pos + l.length) r)
theorem joinE_assoc (a b : List Tk) (x : Except Nat (List Tk)) : joinE (.ok a) (joinE (.ok b) x) = joinE (.ok (a ++ b)) x := by
  cases x with
  | error e => rfl
  | ok ts => simp [joinE]
theorem LxT.app {c1 c2 : Bool} {l1 l2 : List UInt8} {b1 b2 : List Bt} (h1 : LxT c1 l1 b1) (h2 : LxT c2 l2 b2) (hs : c1 = false → ∃ c t, l2 = c :: t ∧ isRest c = false) : LxT c2 (l1 ++ l2) (b1 ++ b2) := by
  intro pos r hr
  obtain ⟨t1, e1, f1⟩ := h1 pos (l2 ++ r) (fun hc c r' he => by
    obtain ⟨c', t, rfl, hc'⟩ := hs hc
    simp only [List.cons_append, List.cons.injEq] at he
    rw [← he.1]; exact hc')
  obtain ⟨t2, e2, f2⟩ := h2 (pos + l1.length) r hr
  refine ⟨t1 ++ t2, by rw [List.map_append, e1, e2], ?_⟩
  rw [List.append_assoc, f1, f2, joinE_assoc, List.length_append, Nat.add_assoc]
theorem LxT.nil : LxT true [] [] := fun pos r _ => ⟨[], rfl, by rw [join_nil]; rfl⟩
theorem LxT.weak {c : Bool} {l : List UInt8} {bl : List Bt} (h : LxT c l bl) : LxT false l bl := fun pos r hr => h pos r fun _ => hr rfl
theorem LxT.gap (c : UInt8) (h : isGap c = true) : LxT true [c] [] := fun pos r _ => ⟨[], rfl, by
  rw [join_nil]
  exact lexS_gap [c] (fun b => by simp [skipL, h]; omega) pos r⟩
theorem tw_app (p : UInt8 → Bool) (w r : List UInt8) (hw : w.all p = true) (hr : ∀ c r', r = c :: r' → p c = false) : (w ++ r).takeWhile p = w := by
  induction w with
  | nil =>
    cases r with
    | nil => rfl
    | cons c r => simp [hr c r rfl]
  | cons x w ih =>
    simp only [List.all_cons, Bool.and_eq_true] at hw
    simp [hw.1, ih hw.2]
theorem tw_all (p : UInt8 → Bool) (w : List UInt8) (h : (w.takeWhile p).length = w.length) : w.all p = true := by
  have := all_take p w
  exact (this ▸ h : w.all p = true)
theorem dig_rest {c : UInt8} (h : isRest c = false) : isDig c = false := by
  cases hd : isDig c with
  | false => rfl
  | true => simp [isRest, hd] at h
/-- A token stands as it stands alone. -/
theorem tok_app {w r : List UInt8} {t : Tk} (h : tokL w = (t, w.length)) (hne : w ≠ []) (hs : t.kind ≠ 5 → Sep r) : tokL (w ++ r) = (t, w.length) := by
  cases w with
  | nil => exact absurd rfl hne
  | cons c w =>
    rw [List.cons_append]
    simp only [tokL] at h ⊢
    by_cases h1 : (isLow c || isUp c) = true
    · rw [if_pos h1] at h ⊢
      have hk : ((c :: w).takeWhile isRest).length = (c :: w).length ∧ t.kind ≠ 5 := by
        by_cases g1 : isWord ((c :: w).takeWhile isRest) = true
        · rw [if_pos g1] at h; simp only [Prod.mk.injEq] at h; obtain ⟨rfl, h5⟩ := h; exact ⟨h5, by simp⟩
        · rw [if_neg g1] at h
          by_cases g2 : isName ((c :: w).takeWhile isRest) = true
          · rw [if_pos g2] at h; simp only [Prod.mk.injEq] at h; obtain ⟨rfl, h5⟩ := h; exact ⟨h5, by simp⟩
          · rw [if_neg g2] at h
            by_cases g3 : isCon ((c :: w).takeWhile isRest) = true
            · rw [if_pos g3] at h; simp only [Prod.mk.injEq] at h; obtain ⟨rfl, h5⟩ := h; exact ⟨h5, by simp⟩
            · rw [if_neg g3] at h; cases h
      have ha := tw_all isRest (c :: w) hk.1
      have e1 : (c :: (w ++ r)).takeWhile isRest = c :: w := tw_app isRest (c :: w) r ha (hs hk.2)
      have e2 : (c :: w).takeWhile isRest = c :: w := by simpa using tw_app isRest (c :: w) [] ha (by simp)
      rw [e1]
      rw [e2] at h
      exact h
    · rw [if_neg h1] at h ⊢
      by_cases h2 : isDig c = true
      · rw [if_pos h2] at h ⊢
        have hk : ((c :: w).takeWhile isDig).length = (c :: w).length ∧ t.kind ≠ 5 := by
          revert h
          cases numL ((c :: w).takeWhile isDig) with
          | none => intro h; cases h
          | some n => intro h; simp only [Prod.mk.injEq] at h; obtain ⟨rfl, h5⟩ := h; exact ⟨h5, by simp⟩
        have ha := tw_all isDig (c :: w) hk.1
        have e1 : (c :: (w ++ r)).takeWhile isDig = c :: w := tw_app isDig (c :: w) r ha (fun c' r' e => dig_rest (hs hk.2 c' r' e))
        have e2 : (c :: w).takeWhile isDig = c :: w := by simpa using tw_app isDig (c :: w) [] ha (by simp)
        rw [e1]
        rw [e2] at h
        exact h
      · rw [if_neg h2] at h ⊢
        by_cases h3 : (c == 45 && hd 62 w) = true
        · rw [if_pos h3] at h
          cases w with
          | nil => simp [hd] at h3
          | cons d w =>
            have h3' : (c == 45 && hd 62 (d :: w ++ r)) = true := h3
            rw [if_pos h3']
            exact h
        · rw [if_neg h3] at h
          by_cases h4 : signs1.contains c = true
          · rw [if_pos h4] at h
            have h3' : ¬ (c == 45 && hd 62 (w ++ r)) = true := by
              intro h5
              simp only [Bool.and_eq_true, beq_iff_eq] at h5
              rw [h5.1] at h4
              exact absurd h4 (by decide)
            rw [if_neg h3', if_pos h4]
            exact h
          · rw [if_neg h4] at h; cases h
theorem skip_tok {w : List UInt8} {t : Tk} (h : tokL w = (t, w.length)) (hne : w ≠ []) (r : List UInt8) : skipL false (w ++ r) = 0 := by
  cases w with
  | nil => exact absurd rfl hne
  | cons c w =>
    have hg : isGap c = false := by
      cases hg : isGap c with
      | false => rfl
      | true =>
        exfalso
        have hc : c = 32 ∨ c = 9 ∨ c = 10 := by simpa [isGap, or_assoc] using hg
        have : tokL (c :: w) = (⟨0, 0, [], 0⟩, 0) := by rcases hc with rfl | rfl | rfl <;> rfl
        rw [this] at h
        cases h
    have hc : (c == 45 && hd 45 (w ++ r)) = false := by
      cases hc : (c == 45 && hd 45 (w ++ r)) with
      | false => rfl
      | true =>
        exfalso
        simp only [Bool.and_eq_true, beq_iff_eq] at hc
        obtain ⟨rfl, hc⟩ := hc
        cases w with
        | nil => cases h
        | cons d w =>
          have hd' : d = 45 := by simpa [hd] using hc
          subst hd'
          cases h
    simp only [List.cons_append, skipL, hg, hc, Bool.false_eq_true, if_false]
theorem LxT.tok {w : List UInt8} {t : Tk} (h : tokL w = (t, w.length)) (hne : w ≠ []) : LxT (decide (t.kind = 5)) w [bk t] := by
  intro pos r hr
  have ht := tok_app h hne (r := r) fun hk => hr (decide_eq_false hk)
  have hsk := skip_tok h hne r
  have hl : w.length ≠ 0 := fun e => hne (List.length_eq_zero_iff.1 e)
  refine ⟨[{ t with pos := pos }], rfl, ?_⟩
  have e : lexS pos (w ++ r) = lexA pos (w ++ r) := by
    unfold lexS
    rw [hsk, List.drop_zero, Nat.add_zero]
  rw [e, lexA_S (by rw [ht]; exact hl), ht, List.drop_left]
  cases lexS (pos + w.length) r with
  | error e => rfl
  | ok ts => rfl
/-- The tokens of pieces, and whether anything may follow. -/
def goCh : List (List UInt8) → Option (List Bt × Bool)
  | [] => some ([], true)
  | w :: cs => match goCh cs with
    | none => none
    | some (bl, c) => match w with
      | [32] => some (bl, c)
      | [10] => some (bl, c)
      | w => match decide ((tokL w).2 = w.length) && !w.isEmpty with
        | false => none
        | true => match decide ((tokL w).1.kind = 5), cs with
          | true, _ => some (bk (tokL w).1 :: bl, c)
          | false, [] => some ([bk (tokL w).1], false)
          | false, [] :: _ => none
          | false, (x :: _) :: _ => match isRest x with
            | true => none
            | false => some (bk (tokL w).1 :: bl, c)
theorem goCh_lx : ∀ {cs : List (List UInt8)} {bl : List Bt} {c : Bool}, goCh cs = some (bl, c) → LxT c cs.flatten bl
  | [], bl, c, h => by
    simp only [goCh, Option.some.injEq, Prod.mk.injEq] at h
    obtain ⟨rfl, rfl⟩ := h
    exact .nil
  | w :: cs, bl, c, h => by
    unfold goCh at h
    split at h
    · cases h
    · rename_i bl' c' h'
      have ih := goCh_lx h'
      rw [List.flatten_cons]
      split at h
      · cases h
        have := (LxT.gap 32 rfl).app ih (fun h => by cases h)
        exact this
      · cases h
        have := (LxT.gap 10 rfl).app ih (fun h => by cases h)
        exact this
      · split at h
        · cases h
        · rename_i hw
          simp only [Bool.and_eq_true, decide_eq_true_eq, Bool.not_eq_true', List.isEmpty_eq_false_iff] at hw
          have ht := LxT.tok (w := w) (t := (tokL w).1) (Prod.ext rfl hw.1) hw.2
          split at h
          · rename_i hk
            rw [hk] at ht
            cases h
            exact ht.app ih (fun h => by cases h)
          · rename_i hk
            rw [hk] at ht
            cases h
            rw [List.flatten_nil, List.append_nil]
            exact ht
          · cases h
          · rename_i x y z hk
            split at h
            · cases h
            · rename_i hx
              rw [hk] at ht
              cases h
              exact ht.app ih fun _ => ⟨x, _, rfl, hx⟩
end Go.Proofs.YtoapgongbackaaaDoor.V

/-! G2: runs of the parser that end well: states, tokens, names. -/
namespace Go.Proofs.YtoapgongbackaaaDoor.V
open Go Go.Proofs
open Go.Proofs.YtoapgongbackaaaDoor.Lx
set_option maxRecDepth 100000

/-- The parser ahead of such tokens. -/
def sT : List Tok → PS
  | [] => ⟨noTok, [], false, 0⟩
  | t :: r => ⟨t, r, false, 0⟩
def bt (t : Tok) : Bt := (t.k, t.s.data.toList, t.n)
theorem bt_toT (t : Tk) : bt (toT t) = bk t := rfl
theorem bt_map (l : List Tk) : (l.map toT).map bt = l.map bk := by simp [bt_toT, Function.comp_def]
/-- What a token without a place says. -/
def isBt (b : Bt) (x : Sg) : Bool := isS ⟨b.1, 0, ofL b.2.1, b.2.2⟩ x
theorem isS_bt (t : Tok) (x : Sg) : isS t x = isBt (bt t) x := by
  obtain ⟨k, a, s, n⟩ := t
  simp only [isBt, bt, of_data]
  rfl
theorem isS_of {t : Tok} {b : Bt} {x : Sg} {v : Bool} (h : bt t = b) (hx : isBt b x = v) : isS t x = v := by rw [isS_bt, h, hx]
theorem s_of {t : Tok} {b : Bt} (h : bt t = b) : t.s = ofL b.2.1 := by
  rw [← h]
  exact (of_data t.s).symm
theorem n_of {t : Tok} {b : Bt} (h : bt t = b) : t.n = b.2.2 := by rw [← h]; rfl
theorem k_of {t : Tok} {b : Bt} (h : bt t = b) : t.k = b.1 := by rw [← h]; rfl
def begT (t : Tok) : Bool := isS t nameS || (isS t conS || (isS t intS || (isS t trueS || (isS t falseS || isS t lpar))))
def begB (b : Bt) : Bool := isBt b nameS || (isBt b conS || (isBt b intS || (isBt b trueS || (isBt b falseS || isBt b lpar))))
theorem beg_bt (t : Tok) : begT t = begB (bt t) := by simp only [begT, begB, isS_bt]
theorem isS_uniq {t : Tok} {x y : Sg} (h : isS t x = true) (hk : (decide (x.k = y.k) && decide (x.s = y.s)) = false) : isS t y = false := by
  cases hy : isS t y with
  | false => rfl
  | true =>
    unfold isS at h hy
    simp only [Bool.and_eq_true, decide_eq_true_eq] at h hy
    rw [← h.1, ← hy.1, ← h.2, ← hy.2] at hk
    simp at hk
theorem beg_not {t : Tok} (h : begT t = true) : isS t lamS = false ∧ isS t letS = false ∧ isS t ifS = false ∧ isS t caseS = false := by
  simp only [begT, Bool.or_eq_true] at h
  rcases h with h | h | h | h | h | h <;> exact ⟨isS_uniq h (by decide), isS_uniq h (by decide), isS_uniq h (by decide), isS_uniq h (by decide)⟩

theorem bad_S (m : List Tok) : (sT m).bad = false := by cases m <;> rfl
theorem t_S (t : Tok) (m : List Tok) : (sT (t :: m)).t = t := rfl
theorem take_S {t : Tok} {m : List Tok} (hm : m ≠ []) : takeP (sT (t :: m)) = sT m := by
  cases m with
  | nil => exact absurd rfl hm
  | cons x m => rfl
theorem next_S (t : Tok) (m : List Tok) (x : Sg) : nextP (sT (t :: m)) x = isS t x := rfl
theorem need_S {t : Tok} {m : List Tok} {x : Sg} (h : isS t x = true) (hm : m ≠ []) : needP (sT (t :: m)) x = (t, sT m) := by
  unfold needP
  rw [next_S, h]
  simp only [take_S hm]
  rfl
theorem skip_T {t : Tok} {m : List Tok} {x : Sg} (h : isS t x = true) (hm : m ≠ []) : skipP (sT (t :: m)) x = (true, sT m) := by
  unfold skipP
  rw [next_S, h]
  simp only [take_S hm]
theorem skip_F {t : Tok} {m : List Tok} {x : Sg} (h : isS t x = false) : skipP (sT (t :: m)) x = (false, sT (t :: m)) := by
  unfold skipP
  rw [next_S, h]
theorem begins_S (t : Tok) (m : List Tok) : beginsP (sT (t :: m)) = begT t := rfl
theorem more_S {t : Tok} {m : List Tok} {n : Nat} (h : n < 8) : moreP (sT (t :: m)) (n : Int) = skipP (sT (t :: m)) comma := by
  unfold moreP
  rw [decide_eq_false (by omega)]
theorem name_S {t : Tok} (h : t.k = 1) : isS t nameS = true := by
  obtain ⟨k, a, s, n⟩ := t
  simp only at h
  subst h
  rfl
theorem name_F {t : Tok} (h : t.k ≠ 1) : isS t nameS = false := by
  obtain ⟨k, a, s, n⟩ := t
  simp only at h
  have : (ofP ⟨k, a, s, n⟩).k = k := by
    unfold ofP
    split
    · rfl
    · split <;> rfl
  simp [isS, this, nameS, h]
theorem names_P : ∀ (ns : List Tok) {x : Tok} {m : List Tok}, (∀ t ∈ ns, t.k = 1) → x.k ≠ 1 → namesP (sT (ns ++ x :: m)) = some (ns, sT (x :: m))
  | [], x, m, _, hx => by
    show namesL (fun t r => ⟨t, r, false, 0⟩) x m = _
    have h : nextP ⟨x, m, false, 0⟩ ⟨1, .empty⟩ = false := name_F hx
    cases m with
    | nil => simp only [namesL, h]; rfl
    | cons y m => simp only [namesL, h]; rfl
  | t :: ns, x, m, hn, hx => by
    have ih := names_P ns (x := x) (m := m) (fun t ht => hn t (List.mem_cons_of_mem _ ht)) hx
    have h : ∀ r, nextP ⟨t, r, false, 0⟩ ⟨1, .empty⟩ = true := fun r => name_S (hn t (List.mem_cons_self ..))
    show namesL (fun t r => ⟨t, r, false, 0⟩) t (ns ++ x :: m) = _
    cases ns with
    | nil =>
      simp only [List.nil_append, namesL, h]
      have : namesL (fun t r => ⟨t, r, false, 0⟩) x m = some ([], sT (x :: m)) := ih
      rw [this]; rfl
    | cons y ns =>
      simp only [List.cons_append, namesL, h]
      have : namesL (fun t r => ⟨t, r, false, 0⟩) y (ns ++ x :: m) = some (y :: ns, sT (x :: m)) := ih
      rw [this]; rfl
theorem names_S {ns : List Tok} {x : Tok} {m : List Tok} (hn : ∀ t ∈ ns, t.k = 1) (hx : x.k ≠ 1) (hl : (ns ++ x :: m).length ≤ 4294967296) : namesG (sT (ns ++ x :: m)) = some (ns, sT (x :: m)) := by
  unfold namesG
  rw [names_P ns hn hx]
  have h1 : (sT (ns ++ x :: m)).r.length ≤ 4294967296 := by
    cases ns with
    | nil => simp only [List.nil_append, List.length_cons, sT] at hl ⊢; omega
    | cons y ns => simp only [List.cons_append, List.length_cons, sT] at hl ⊢; omega
  have h2 : ns.length ≤ 4294967296 := by
    simp only [List.length_append, List.length_cons] at hl
    omega
  simp only [decide_eq_true (And.intro h1 h2)]

mutual
def bareE : Exp → Exp
  | .mk k _ s n ks al => .mk k 0 s n (bareEs ks) (bareAs al)
def bareEs : List Exp → List Exp
  | [] => []
  | e :: l => bareE e :: bareEs l
def bareA : Alt → Alt
  | .mk _ c vs b => .mk 0 c vs (bareE b)
def bareAs : List Alt → List Alt
  | [] => []
  | a :: l => bareA a :: bareAs l
end
theorem bareAs_append : ∀ a b : List Alt, bareAs (a ++ b) = bareAs a ++ bareAs b
  | [], b => rfl
  | x :: a, b => by simp [bareAs, bareAs_append a b]
def lamB (ss : List ByteArray) (b : Exp) : Exp := ss.foldr (fun s b => .mk 6 0 s 0 [b] []) b
theorem bare_lams (l : List Tok) (a : Int) (b : Exp) : bareE (lamsP l a b) = lamB (l.map (·.s)) (bareE b) := by
  induction l with
  | nil => rfl
  | cons t l ih =>
    show bareE (.mk 6 a t.s 0 [lamsP l a b] []) = .mk 6 0 t.s 0 [lamB (l.map (·.s)) (bareE b)] []
    simp only [bareE, bareEs, bareAs, ih]
def nmB (s : List UInt8) : Bt := (1, s, 0)
theorem names_bt {l : List Tok} {ns : List (List UInt8)} (h : l.map bt = ns.map nmB) : (∀ t ∈ l, t.k = 1) ∧ l.map (·.s) = ns.map ofL := by
  induction l generalizing ns with
  | nil =>
    cases ns with
    | nil => exact ⟨by simp, rfl⟩
    | cons n ns => cases h
  | cons t l ih =>
    cases ns with
    | nil => cases h
    | cons n ns =>
      simp only [List.map_cons, List.cons.injEq] at h
      obtain ⟨i1, i2⟩ := ih h.2
      refine ⟨?_, ?_⟩
      · intro x hx
        rcases List.mem_cons.1 hx with rfl | hx
        · exact k_of h.1
        · exact i1 x hx
      · simp only [List.map_cons, i2, s_of h.1]
        rfl
/-- What may follow an expression. -/
def FolE (m : List Tok) : Prop := ∃ t m', m = t :: m' ∧ begT t = false
theorem FolE.ne {m : List Tok} (h : FolE m) : m ≠ [] := by obtain ⟨t, m', rfl, -⟩ := h; exact List.cons_ne_nil _ _
theorem fol_of {t : Tok} {m : List Tok} {b : Bt} (h : bt t = b) (hb : begB b = false) : FolE (t :: m) := ⟨t, m, rfl, by rw [beg_bt, h, hb]⟩
/-- Tokens that are an expression, an atom. -/
def IsE (bl : List Bt) (T : Exp) : Prop := ∀ (l m : List Tok), l.map bt = bl → FolE m → (l ++ m).length ≤ 4294967296 →
  ∃ k0, k0 + 1 ≤ 5 * l.length ∧ ∀ k, k0 ≤ k → ∃ e, exprP k (sT (l ++ m)) = some (e, sT m) ∧ bareE e = T
def IsA (bl : List Bt) (T : Exp) : Prop := (∃ b bl', bl = b :: bl' ∧ begB b = true) ∧ ∀ (l m : List Tok), l.map bt = bl → m ≠ [] → (l ++ m).length ≤ 4294967296 →
  ∃ k0, k0 + 3 ≤ 5 * l.length ∧ ∀ k, k0 ≤ k → ∃ e, atomP k (sT (l ++ m)) = some (e, sT m) ∧ bareE e = T
end Go.Proofs.YtoapgongbackaaaDoor.V

/-! G3: rules for atoms and expressions. -/
namespace Go.Proofs.YtoapgongbackaaaDoor.V
open Go Go.Proofs
open Go.Proofs.YtoapgongbackaaaDoor.Lx
set_option maxRecDepth 100000

theorem map1 {l : List Tok} {b : Bt} (h : l.map bt = [b]) : ∃ t, l = [t] ∧ bt t = b := by
  cases l with
  | nil => cases h
  | cons t l =>
    simp only [List.map_cons, List.cons.injEq, List.map_eq_nil_iff] at h
    obtain ⟨h, rfl⟩ := h
    exact ⟨t, rfl, h⟩
theorem mapc {l : List Tok} {b : Bt} {bl : List Bt} (h : l.map bt = b :: bl) : ∃ t l', l = t :: l' ∧ bt t = b ∧ l'.map bt = bl := by
  cases l with
  | nil => cases h
  | cons t l =>
    simp only [List.map_cons, List.cons.injEq] at h
    exact ⟨t, l, rfl, h.1, h.2⟩
theorem mapa {l : List Tok} {b1 b2 : List Bt} (h : l.map bt = b1 ++ b2) : ∃ l1 l2, l = l1 ++ l2 ∧ l1.map bt = b1 ∧ l2.map bt = b2 := by
  obtain ⟨l1, l2, rfl, h1, h2⟩ := List.map_eq_append_iff.1 h
  exact ⟨l1, l2, rfl, h1, h2⟩

/-! ### atoms -/
theorem atom_leaf {b : Bt} {T : Exp} (hb : begB b = true) (h : ∀ (t : Tok) (m : List Tok) (k : Nat), bt t = b → m ≠ [] → ∃ e, atomP (k + 1) (sT (t :: m)) = some (e, sT m) ∧ bareE e = T) : IsA [b] T := by
  refine ⟨⟨b, [], rfl, hb⟩, fun l m hl hm _ => ?_⟩
  obtain ⟨t, rfl, ht⟩ := map1 hl
  refine ⟨1, by simp, fun k hk => ?_⟩
  obtain ⟨k, rfl⟩ : ∃ j, k = j + 1 := ⟨k - 1, by omega⟩
  exact h t m k ht hm
theorem IsA.name (s : List UInt8) : IsA [(1, s, 0)] (.mk 1 0 (ofL s) 0 [] []) := atom_leaf rfl fun t m k ht hm => by
  have hb : begT t = true := by rw [beg_bt, ht]; rfl
  have h1 : isS t nameS = true := isS_of ht rfl
  refine ⟨.mk 1 t.at_ t.s 0 [] [], by simp only [atomP, begins_S, hb, t_S, h1, take_S hm], ?_⟩
  simp only [bareE, bareEs, bareAs, s_of ht]
theorem IsA.con (s : List UInt8) : IsA [(2, s, 0)] (.mk 2 0 (ofL s) 0 [] []) := atom_leaf rfl fun t m k ht hm => by
  have hb : begT t = true := by rw [beg_bt, ht]; rfl
  have h1 : isS t nameS = false := isS_of ht rfl
  have h2 : isS t conS = true := isS_of ht rfl
  refine ⟨.mk 2 t.at_ t.s 0 [] [], by simp only [atomP, begins_S, hb, t_S, h1, h2, take_S hm], ?_⟩
  simp only [bareE, bareEs, bareAs, s_of ht]
theorem IsA.int (n : Int) : IsA [(3, [], n)] (.mk 3 0 .empty n [] []) := atom_leaf rfl fun t m k ht hm => by
  have hb : begT t = true := by rw [beg_bt, ht]; rfl
  have h1 : isS t nameS = false := isS_of ht rfl
  have h2 : isS t conS = false := isS_of ht rfl
  have h3 : isS t intS = true := isS_of ht rfl
  refine ⟨.mk 3 t.at_ .empty t.n [] [], by simp only [atomP, begins_S, hb, t_S, h1, h2, h3, take_S hm], ?_⟩
  simp only [bareE, bareEs, bareAs, n_of ht]
theorem IsA.true : IsA [(4, [116, 114, 117, 101], 0)] (.mk 4 0 .empty 1 [] []) := atom_leaf (by decide) fun t m k ht hm => by
  have hb : begT t = Bool.true := by rw [beg_bt, ht]; decide
  have h1 : isS t nameS = Bool.false := isS_of ht (by decide)
  have h2 : isS t conS = Bool.false := isS_of ht (by decide)
  have h3 : isS t intS = Bool.false := isS_of ht (by decide)
  have h4 : isS t trueS = Bool.true := isS_of ht (by decide)
  refine ⟨.mk 4 t.at_ .empty 1 [] [], by simp only [atomP, begins_S, hb, t_S, h1, h2, h3, h4, take_S hm], ?_⟩
  simp only [bareE, bareEs, bareAs]
theorem IsA.false : IsA [(4, [102, 97, 108, 115, 101], 0)] (.mk 4 0 .empty 0 [] []) := atom_leaf (by decide) fun t m k ht hm => by
  have hb : begT t = Bool.true := by rw [beg_bt, ht]; decide
  have h1 : isS t nameS = Bool.false := isS_of ht (by decide)
  have h2 : isS t conS = Bool.false := isS_of ht (by decide)
  have h3 : isS t intS = Bool.false := isS_of ht (by decide)
  have h4 : isS t trueS = Bool.false := isS_of ht (by decide)
  have h5 : isS t falseS = Bool.true := isS_of ht (by decide)
  refine ⟨.mk 4 t.at_ .empty 0 [] [], by simp only [atomP, begins_S, hb, t_S, h1, h2, h3, h4, h5, take_S hm], ?_⟩
  simp only [bareE, bareEs, bareAs]
def bL : Bt := (5, [40], 0)
def bR : Bt := (5, [41], 0)
def bC : Bt := (5, [44], 0)
def bA : Bt := (5, [45, 62], 0)
def bQ : Bt := (5, [61], 0)
def bS : Bt := (5, [59], 0)
def bB : Bt := (5, [92], 0)
def bO : Bt := (5, [123], 0)
def bE : Bt := (5, [125], 0)
def kLet : Bt := (4, [108, 101, 116], 0)
def kIn : Bt := (4, [105, 110], 0)
def kIf : Bt := (4, [105, 102], 0)
def kThen : Bt := (4, [116, 104, 101, 110], 0)
def kElse : Bt := (4, [101, 108, 115, 101], 0)
def kCase : Bt := (4, [99, 97, 115, 101], 0)
def kOf : Bt := (4, [111, 102], 0)
theorem kids_end {k : Nat} {t : Tok} {m : List Tok} {acc : List Exp} (h : isS t comma = false) (hn : acc.length < 8) : kidsE (k + 1) acc (sT (t :: m)) = some (acc, sT (t :: m)) := by
  simp only [kidsE, more_S hn, skip_F h]
theorem kids_comma {k : Nat} {t : Tok} {m : List Tok} {acc : List Exp} (h : isS t comma = true) (hm : m ≠ []) (hn : acc.length < 8) :
    kidsE (k + 1) acc (sT (t :: m)) = match exprP k (sT m) with | none => none | some (e, s1) => kidsE k (acc ++ [e]) s1 := by
  simp only [kidsE, more_S hn, skip_T h hm]
  rfl
theorem atom_par {k : Nat} {t : Tok} {m : List Tok} (ht : bt t = bL) (hm : m ≠ []) : atomP (k + 1) (sT (t :: m)) = match exprP k (sT m) with
    | none => none
    | some (e, s1) => match kidsE k [e] s1 with
      | none => none
      | some (l, s2) => match l with
        | [e] => some (e, (needP s2 rpar).2)
        | l => some (.mk 8 t.at_ .empty 0 l [], (needP s2 rpar).2) := by
  have hb : begT t = true := by rw [beg_bt, ht]; decide
  have h1 : isS t nameS = false := isS_of ht (by decide)
  have h2 : isS t conS = false := isS_of ht (by decide)
  have h3 : isS t intS = false := isS_of ht (by decide)
  have h4 : isS t trueS = false := isS_of ht (by decide)
  have h5 : isS t falseS = false := isS_of ht (by decide)
  simp only [atomP, begins_S, hb, t_S, h1, h2, h3, h4, h5, take_S hm]
  rfl
theorem IsA.par {bl : List Bt} {T : Exp} (h : IsE bl T) : IsA (bL :: (bl ++ [bR])) T := by
  refine ⟨⟨_, _, rfl, by decide⟩, fun l m hl hm hlen => ?_⟩
  obtain ⟨t1, l1, rfl, ht1, hl1⟩ := mapc hl
  obtain ⟨l2, l3, rfl, hl2, hl3⟩ := mapa hl1
  obtain ⟨t2, rfl, ht2⟩ := map1 hl3
  have e1 : t1 :: (l2 ++ [t2]) ++ m = t1 :: (l2 ++ t2 :: m) := by simp
  rw [e1] at hlen ⊢
  obtain ⟨k0, q0, h0⟩ := h l2 (t2 :: m) hl2 (fol_of ht2 (by decide)) (by simp only [List.length_cons] at hlen ⊢; omega)
  refine ⟨k0 + 2, by (simp only [List.length_append, List.length_cons, List.length_nil] at *; omega), fun k hk => ?_⟩
  obtain ⟨k, rfl⟩ : ∃ j, k = j + 1 := ⟨k - 1, by omega⟩
  obtain ⟨e, he, hT⟩ := h0 k (by omega)
  obtain ⟨k, rfl⟩ : ∃ j, k = j + 1 := ⟨k - 1, by omega⟩
  refine ⟨e, ?_, hT⟩
  rw [atom_par ht1 (by simp), he]
  simp only [kids_end (acc := [e]) (isS_of ht2 (by decide : isBt bR comma = Bool.false)) (show 1 < 8 by decide)]
  rw [need_S (isS_of ht2 (by decide)) hm]
theorem IsA.pair {b1 b2 : List Bt} {T1 T2 : Exp} (h1 : IsE b1 T1) (h2 : IsE b2 T2) : IsA (bL :: (b1 ++ bC :: (b2 ++ [bR]))) (.mk 8 0 .empty 0 [T1, T2] []) := by
  refine ⟨⟨_, _, rfl, by decide⟩, fun l m hl hm hlen => ?_⟩
  obtain ⟨t1, l1, rfl, ht1, hl1⟩ := mapc hl
  obtain ⟨l2, l3, rfl, hl2, hl3⟩ := mapa hl1
  obtain ⟨t2, l4, rfl, ht2, hl4⟩ := mapc hl3
  obtain ⟨l5, l6, rfl, hl5, hl6⟩ := mapa hl4
  obtain ⟨t3, rfl, ht3⟩ := map1 hl6
  have e1 : t1 :: (l2 ++ t2 :: (l5 ++ [t3])) ++ m = t1 :: (l2 ++ t2 :: (l5 ++ t3 :: m)) := by simp
  rw [e1] at hlen ⊢
  have e3 : (t1 :: (l2 ++ t2 :: (l5 ++ t3 :: m))).length = l2.length + l5.length + m.length + 3 := by simp only [List.length_cons, List.length_append]; omega
  rw [e3] at hlen
  obtain ⟨k1, q1, g1⟩ := h1 l2 (t2 :: (l5 ++ t3 :: m)) hl2 (fol_of ht2 (by decide)) (by simp only [List.length_cons, List.length_append]; omega)
  obtain ⟨k2, q2, g2⟩ := h2 l5 (t3 :: m) hl5 (fol_of ht3 (by decide)) (by simp only [List.length_cons, List.length_append]; omega)
  refine ⟨k1 + k2 + 3, by (simp only [List.length_append, List.length_cons, List.length_nil] at *; omega), fun k hk => ?_⟩
  obtain ⟨k, rfl⟩ : ∃ j, k = j + 1 := ⟨k - 1, by omega⟩
  obtain ⟨e, he, hT⟩ := g1 k (by omega)
  obtain ⟨k, rfl⟩ : ∃ j, k = j + 1 := ⟨k - 1, by omega⟩
  obtain ⟨f, hf, hU⟩ := g2 k (by omega)
  obtain ⟨k, rfl⟩ : ∃ j, k = j + 1 := ⟨k - 1, by omega⟩
  refine ⟨.mk 8 t1.at_ .empty 0 [e, f] [], ?_, by simp only [bareE, bareEs, bareAs, hT, hU]⟩
  rw [atom_par ht1 (by simp), he]
  simp only [kids_comma (acc := [e]) (isS_of ht2 (by decide : isBt bC comma = Bool.true)) (show l5 ++ t3 :: m ≠ [] by simp) (show 1 < 8 by decide), hf]
  simp only [List.cons_append, List.nil_append, kids_end (acc := [e, f]) (isS_of ht3 (by decide : isBt bR comma = Bool.false)) (show 2 < 8 by decide)]
  rw [need_S (isS_of ht3 (by decide)) hm]

/-! ### applications -/
theorem head_beg {b : Bt} {bl : List Bt} {l m : List Tok} (hl : l.map bt = b :: bl) (hb : begB b = true) : ∃ t l', l = t :: l' ∧ begT t = true := by
  obtain ⟨t, l', rfl, ht, -⟩ := mapc hl
  exact ⟨t, l', rfl, by rw [beg_bt, ht, hb]⟩
theorem IsA.run {bl : List Bt} {T : Exp} (h : IsA bl T) (l m : List Tok) (hl : l.map bt = bl) (hm : m ≠ []) (hlen : (l ++ m).length ≤ 4294967296) :
    ∃ k0, k0 + 3 ≤ 5 * l.length ∧ ∀ k, k0 ≤ k → ∃ e, bareE e = T ∧ exprP (k + 1) (sT (l ++ m)) = appP k e (sT m) := by
  obtain ⟨⟨b, bl', rfl, hb⟩, h⟩ := h
  obtain ⟨k0, q0, h0⟩ := h l m hl hm hlen
  refine ⟨k0, by (simp only [List.length_append, List.length_cons, List.length_nil] at *; omega), fun k hk => ?_⟩
  obtain ⟨e, he, hT⟩ := h0 k hk
  refine ⟨e, hT, ?_⟩
  obtain ⟨t, l', rfl, hbt⟩ := head_beg (m := m) hl hb
  obtain ⟨g1, g2, g3, g4⟩ := beg_not hbt
  rw [List.cons_append] at he ⊢
  simp only [exprP, bad_S, next_S, g1, g2, g3, g4, he]
theorem IsA.app {bl : List Bt} {T : Exp} (h : IsA bl T) (l m : List Tok) (hl : l.map bt = bl) (hm : m ≠ []) (hlen : (l ++ m).length ≤ 4294967296) :
    ∃ k0, k0 + 3 ≤ 5 * l.length ∧ ∀ k, k0 ≤ k → ∃ a, bareE a = T ∧ ∀ e, appP (k + 1) e (sT (l ++ m)) = appP k (.mk 5 e.at_ .empty 0 [e, a] []) (sT m) := by
  obtain ⟨⟨b, bl', rfl, hb⟩, h⟩ := h
  obtain ⟨k0, q0, h0⟩ := h l m hl hm hlen
  refine ⟨k0, by (simp only [List.length_append, List.length_cons, List.length_nil] at *; omega), fun k hk => ?_⟩
  obtain ⟨e, he, hT⟩ := h0 k hk
  refine ⟨e, hT, fun f => ?_⟩
  obtain ⟨t, l', rfl, hbt⟩ := head_beg (m := m) hl hb
  rw [List.cons_append] at he ⊢
  simp only [appP, begins_S, hbt, he]
theorem app_end {m : List Tok} (h : FolE m) (k : Nat) (e : Exp) : appP (k + 1) e (sT m) = some (e, sT m) := by
  obtain ⟨t, m', rfl, ht⟩ := h
  simp only [appP, begins_S, ht]
theorem IsE.atom {bl : List Bt} {T : Exp} (h : IsA bl T) : IsE bl T := fun l m hl hm hlen => by
  obtain ⟨k0, q0, h0⟩ := h.run l m hl hm.ne hlen
  refine ⟨k0 + 2, by (simp only [List.length_append, List.length_cons, List.length_nil] at *; omega), fun k hk => ?_⟩
  obtain ⟨k, rfl⟩ : ∃ j, k = j + 1 := ⟨k - 1, by omega⟩
  obtain ⟨e, hT, he⟩ := h0 k (by omega)
  obtain ⟨k, rfl⟩ : ∃ j, k = j + 1 := ⟨k - 1, by omega⟩
  exact ⟨e, by rw [he, app_end hm], hT⟩
theorem IsE.app2 {b1 b2 : List Bt} {T1 T2 : Exp} (h1 : IsA b1 T1) (h2 : IsA b2 T2) : IsE (b1 ++ b2) (.mk 5 0 .empty 0 [T1, T2] []) := fun l m hl hm hlen => by
  obtain ⟨l1, l2, rfl, hl1, hl2⟩ := mapa hl
  rw [List.append_assoc] at hlen ⊢
  obtain ⟨k1, q1, g1⟩ := h1.run l1 (l2 ++ m) hl1 (by simp [hm.ne]) hlen
  obtain ⟨k2, q2, g2⟩ := h2.app l2 m hl2 hm.ne (by simp only [List.length_append] at hlen ⊢; omega)
  refine ⟨k1 + k2 + 3, by (simp only [List.length_append, List.length_cons, List.length_nil] at *; omega), fun k hk => ?_⟩
  obtain ⟨k, rfl⟩ : ∃ j, k = j + 3 := ⟨k - 3, by omega⟩
  obtain ⟨e, hT, he⟩ := g1 (k + 2) (by omega)
  obtain ⟨a, hU, ha⟩ := g2 (k + 1) (by omega)
  refine ⟨_, by rw [he, ha, app_end hm], ?_⟩
  simp only [bareE, bareEs, bareAs, hT, hU]
theorem IsE.app3 {b1 b2 b3 : List Bt} {T1 T2 T3 : Exp} (h1 : IsA b1 T1) (h2 : IsA b2 T2) (h3 : IsA b3 T3) : IsE (b1 ++ b2 ++ b3) (.mk 5 0 .empty 0 [.mk 5 0 .empty 0 [T1, T2] [], T3] []) := fun l m hl hm hlen => by
  obtain ⟨l12, l3, rfl, hl12, hl3⟩ := mapa hl
  obtain ⟨l1, l2, rfl, hl1, hl2⟩ := mapa hl12
  have e1 : l1 ++ l2 ++ l3 ++ m = l1 ++ (l2 ++ (l3 ++ m)) := by simp
  rw [e1] at hlen ⊢
  obtain ⟨k1, q1, g1⟩ := h1.run l1 (l2 ++ (l3 ++ m)) hl1 (by simp [hm.ne]) hlen
  obtain ⟨k2, q2, g2⟩ := h2.app l2 (l3 ++ m) hl2 (by simp [hm.ne]) (by simp only [List.length_append] at hlen ⊢; omega)
  obtain ⟨k3, q3, g3⟩ := h3.app l3 m hl3 hm.ne (by simp only [List.length_append] at hlen ⊢; omega)
  refine ⟨k1 + k2 + k3 + 4, by (simp only [List.length_append, List.length_cons, List.length_nil] at *; omega), fun k hk => ?_⟩
  obtain ⟨k, rfl⟩ : ∃ j, k = j + 4 := ⟨k - 4, by omega⟩
  obtain ⟨e, hT, he⟩ := g1 (k + 3) (by omega)
  obtain ⟨a, hU, ha⟩ := g2 (k + 2) (by omega)
  obtain ⟨b, hV, hb⟩ := g3 (k + 1) (by omega)
  refine ⟨_, by rw [he, ha, hb, app_end hm], ?_⟩
  simp only [bareE, bareEs, bareAs, hT, hU, hV]
end Go.Proofs.YtoapgongbackaaaDoor.V

/-! G4: rules for functions, lets, ifs, cases. -/
namespace Go.Proofs.YtoapgongbackaaaDoor.V
open Go Go.Proofs
open Go.Proofs.YtoapgongbackaaaDoor.Lx
set_option maxRecDepth 100000

theorem expr_lam {k : Nat} {t : Tok} {m : List Tok} (h : isS t lamS = true) (hm : m ≠ []) : exprP (k + 1) (sT (t :: m)) = match namesG (needP (sT m) nameS).2 with
    | none => none
    | some (l, s3) => match exprP k (needP s3 arrow).2 with
      | none => none
      | some (b, s4) => some (lamsP ((needP (sT m) nameS).1 :: l) t.at_ b, s4) := by
  simp only [exprP, bad_S, next_S, h, t_S, take_S hm]
  rfl
theorem expr_let {k : Nat} {t : Tok} {m : List Tok} (h1 : isS t lamS = false) (h : isS t letS = true) (hm : m ≠ []) : exprP (k + 1) (sT (t :: m)) = match boundP k (needP (sT m) nameS).1 (needP (sT m) nameS).2 with
    | none => none
    | some (a, s2) => match exprP k (needP s2 inS).2 with
      | none => none
      | some (b, s3) => some (.mk 7 t.at_ (needP (sT m) nameS).1.s 0 [a, b] [], s3) := by
  simp only [exprP, bad_S, next_S, h1, h, t_S, take_S hm]
  rfl
theorem expr_if {k : Nat} {t : Tok} {m : List Tok} (h1 : isS t lamS = false) (h2 : isS t letS = false) (h : isS t ifS = true) (hm : m ≠ []) : exprP (k + 1) (sT (t :: m)) = match exprP k (sT m) with
    | none => none
    | some (a, s1) => match exprP k (needP s1 thenS).2 with
      | none => none
      | some (b, s2) => match exprP k (needP s2 elseS).2 with
        | none => none
        | some (c, s3) => some (.mk 9 t.at_ .empty 0 [a, b, c] [], s3) := by
  simp only [exprP, bad_S, next_S, h1, h2, h, t_S, take_S hm]
  rfl
theorem expr_case {k : Nat} {t : Tok} {m : List Tok} (h1 : isS t lamS = false) (h2 : isS t letS = false) (h3 : isS t ifS = false) (h : isS t caseS = true) (hm : m ≠ []) : exprP (k + 1) (sT (t :: m)) = match exprP k (sT m) with
    | none => none
    | some (e, s1) => match altsP k (!(needP (needP s1 ofS).2 lbrace).2.bad) [] (needP (needP s1 ofS).2 lbrace).2 with
      | none => none
      | some (l, s2) => some (.mk 10 t.at_ .empty 0 [e] l, (needP s2 rbrace).2) := by
  simp only [exprP, bad_S, next_S, h1, h2, h3, h, t_S, take_S hm]
  rfl
theorem arrow_k {t : Tok} (h : bt t = bA) : t.k ≠ 1 := by rw [k_of h]; decide
theorem eq_k {t : Tok} (h : bt t = bQ) : t.k ≠ 1 := by rw [k_of h]; decide
theorem IsE.lam {bl : List Bt} {T : Exp} (n : List UInt8) (ns : List (List UInt8)) (h : IsE bl T) : IsE (bB :: nmB n :: (ns.map nmB ++ bA :: bl)) (lamB (ofL n :: ns.map ofL) T) := fun l m hl hm hlen => by
  obtain ⟨t1, l1, rfl, ht1, hl1⟩ := mapc hl
  obtain ⟨t2, l2, rfl, ht2, hl2⟩ := mapc hl1
  obtain ⟨l3, l4, rfl, hl3, hl4⟩ := mapa hl2
  obtain ⟨t3, l5, rfl, ht3, hl5⟩ := mapc hl4
  obtain ⟨hn1, hn2⟩ := names_bt hl3
  have e1 : t1 :: t2 :: (l3 ++ t3 :: l5) ++ m = t1 :: t2 :: (l3 ++ t3 :: (l5 ++ m)) := by simp
  rw [e1] at hlen ⊢
  have e3 : (t1 :: t2 :: (l3 ++ t3 :: (l5 ++ m))).length = l3.length + (l5 ++ m).length + 3 := by simp only [List.length_cons, List.length_append]; omega
  rw [e3] at hlen
  obtain ⟨k0, q0, h0⟩ := h l5 m hl5 hm (by omega)
  refine ⟨k0 + 1, by (simp only [List.length_append, List.length_cons, List.length_nil] at *; omega), fun k hk => ?_⟩
  obtain ⟨k, rfl⟩ : ∃ j, k = j + 1 := ⟨k - 1, by omega⟩
  obtain ⟨e, he, hT⟩ := h0 k (by omega)
  refine ⟨lamsP (t2 :: l3) t1.at_ e, ?_, ?_⟩
  · rw [expr_lam (isS_of ht1 (by decide)) (by simp), need_S (isS_of ht2 rfl) (by simp)]
    simp only [names_S hn1 (arrow_k ht3) (show (l3 ++ t3 :: (l5 ++ m)).length ≤ 4294967296 by simp only [List.length_append, List.length_cons] at hlen ⊢; omega)]
    rw [need_S (isS_of ht3 (by decide)) (by simp [hm.ne])]
    simp only [he]
  · rw [bare_lams, hT, List.map_cons, hn2, s_of ht2]
    rfl
theorem bound_run {bl : List Bt} {T : Exp} (ns : List (List UInt8)) (h : IsE bl T) (l m : List Tok) (hl : l.map bt = ns.map nmB ++ bQ :: bl) (hm : FolE m) (hlen : (l ++ m).length ≤ 4294967296) :
    ∃ k0, k0 + 1 ≤ 5 * l.length ∧ ∀ k, k0 ≤ k → ∀ t : Tok, ∃ e, boundP (k + 1) t (sT (l ++ m)) = some (e, sT m) ∧ bareE e = lamB (ns.map ofL) T := by
  obtain ⟨l3, l4, rfl, hl3, hl4⟩ := mapa hl
  obtain ⟨t3, l5, rfl, ht3, hl5⟩ := mapc hl4
  obtain ⟨hn1, hn2⟩ := names_bt hl3
  have e1 : l3 ++ t3 :: l5 ++ m = l3 ++ t3 :: (l5 ++ m) := by simp
  rw [e1] at hlen ⊢
  obtain ⟨k0, q0, h0⟩ := h l5 m hl5 hm (by simp only [List.length_append, List.length_cons] at hlen ⊢; omega)
  refine ⟨k0, by (simp only [List.length_append, List.length_cons, List.length_nil] at *; omega), fun k hk t => ?_⟩
  obtain ⟨e, he, hT⟩ := h0 k (by omega)
  refine ⟨lamsP l3 t.at_ e, ?_, ?_⟩
  · simp only [boundP, names_S hn1 (eq_k ht3) hlen]
    rw [need_S (isS_of ht3 (by decide)) (by simp [hm.ne])]
    simp only [he]
  · rw [bare_lams, hT, hn2]
theorem IsE.let {b1 b2 : List Bt} {T1 T2 : Exp} (n : List UInt8) (ns : List (List UInt8)) (h1 : IsE b1 T1) (h2 : IsE b2 T2) :
    IsE (kLet :: nmB n :: (ns.map nmB ++ bQ :: b1 ++ kIn :: b2)) (.mk 7 0 (ofL n) 0 [lamB (ns.map ofL) T1, T2] []) := fun l m hl hm hlen => by
  obtain ⟨t1, l1, rfl, ht1, hl1⟩ := mapc hl
  obtain ⟨t2, l2, rfl, ht2, hl2⟩ := mapc hl1
  obtain ⟨l3, l4, rfl, hl3, hl4⟩ := mapa hl2
  obtain ⟨t3, l5, rfl, ht3, hl5⟩ := mapc hl4
  have e1 : t1 :: t2 :: (l3 ++ t3 :: l5) ++ m = t1 :: t2 :: (l3 ++ t3 :: (l5 ++ m)) := by simp
  rw [e1] at hlen ⊢
  have e3 : (t1 :: t2 :: (l3 ++ t3 :: (l5 ++ m))).length = l3.length + (l5 ++ m).length + 3 := by simp only [List.length_cons, List.length_append]; omega
  rw [e3] at hlen
  obtain ⟨k1, q1, g1⟩ := bound_run ns h1 l3 (t3 :: (l5 ++ m)) hl3 (fol_of ht3 (by decide)) (by simp only [List.length_append, List.length_cons] at hlen ⊢; omega)
  obtain ⟨k2, q2, g2⟩ := h2 l5 m hl5 hm (by omega)
  refine ⟨k1 + k2 + 2, by (simp only [List.length_append, List.length_cons, List.length_nil] at *; omega), fun k hk => ?_⟩
  obtain ⟨k, rfl⟩ : ∃ j, k = j + 1 := ⟨k - 1, by omega⟩
  obtain ⟨b, hb, hU⟩ := g2 k (by omega)
  obtain ⟨k, rfl⟩ : ∃ j, k = j + 1 := ⟨k - 1, by omega⟩
  obtain ⟨a, ha, hT⟩ := g1 k (by omega) t2
  refine ⟨.mk 7 t1.at_ t2.s 0 [a, b] [], ?_, ?_⟩
  · rw [expr_let (isS_of ht1 (by decide)) (isS_of ht1 (by decide)) (by simp), need_S (isS_of ht2 rfl) (by simp)]
    simp only [ha]
    rw [need_S (isS_of ht3 (by decide)) (by simp [hm.ne])]
    simp only [hb]
  · simp only [bareE, bareEs, bareAs, hT, hU, s_of ht2]
    rfl
theorem IsE.ite {b1 b2 b3 : List Bt} {T1 T2 T3 : Exp} (h1 : IsE b1 T1) (h2 : IsE b2 T2) (h3 : IsE b3 T3) :
    IsE (kIf :: (b1 ++ kThen :: (b2 ++ kElse :: b3))) (.mk 9 0 .empty 0 [T1, T2, T3] []) := fun l m hl hm hlen => by
  obtain ⟨t1, l1, rfl, ht1, hl1⟩ := mapc hl
  obtain ⟨l2, l3, rfl, hl2, hl3⟩ := mapa hl1
  obtain ⟨t2, l4, rfl, ht2, hl4⟩ := mapc hl3
  obtain ⟨l5, l6, rfl, hl5, hl6⟩ := mapa hl4
  obtain ⟨t3, l7, rfl, ht3, hl7⟩ := mapc hl6
  have e1 : t1 :: (l2 ++ t2 :: (l5 ++ t3 :: l7)) ++ m = t1 :: (l2 ++ t2 :: (l5 ++ t3 :: (l7 ++ m))) := by simp
  rw [e1] at hlen ⊢
  have e3 : (t1 :: (l2 ++ t2 :: (l5 ++ t3 :: (l7 ++ m)))).length = l2.length + l5.length + (l7 ++ m).length + 3 := by simp only [List.length_cons, List.length_append]; omega
  rw [e3] at hlen
  obtain ⟨k1, q1, g1⟩ := h1 l2 (t2 :: (l5 ++ t3 :: (l7 ++ m))) hl2 (fol_of ht2 (by decide)) (by simp only [List.length_append, List.length_cons] at hlen ⊢; omega)
  obtain ⟨k2, q2, g2⟩ := h2 l5 (t3 :: (l7 ++ m)) hl5 (fol_of ht3 (by decide)) (by simp only [List.length_append, List.length_cons] at hlen ⊢; omega)
  obtain ⟨k3, q3, g3⟩ := h3 l7 m hl7 hm (by omega)
  refine ⟨k1 + k2 + k3 + 1, by (simp only [List.length_append, List.length_cons, List.length_nil] at *; omega), fun k hk => ?_⟩
  obtain ⟨k, rfl⟩ : ∃ j, k = j + 1 := ⟨k - 1, by omega⟩
  obtain ⟨a, ha, hT⟩ := g1 k (by omega)
  obtain ⟨b, hb, hU⟩ := g2 k (by omega)
  obtain ⟨c, hc, hV⟩ := g3 k (by omega)
  refine ⟨.mk 9 t1.at_ .empty 0 [a, b, c] [], ?_, by simp only [bareE, bareEs, bareAs, hT, hU, hV]⟩
  rw [expr_if (isS_of ht1 (by decide)) (isS_of ht1 (by decide)) (isS_of ht1 (by decide)) (by simp), ha]
  simp only
  rw [need_S (isS_of ht2 (by decide)) (by simp)]
  simp only [hb]
  rw [need_S (isS_of ht3 (by decide)) (by simp [hm.ne])]
  simp only [hc]
/-- Tokens that are alternatives. -/
def IsL (bl : List Bt) (As : List Alt) : Prop := ∀ (l m : List Tok), l.map bt = bl → (∃ t m', m = t :: m' ∧ begT t = false ∧ isS t semi = false) → (l ++ m).length ≤ 4294967296 →
  ∃ k0, k0 + 1 ≤ 5 * l.length ∧ ∀ k, k0 ≤ k → ∀ acc, ∃ r, altsP k true acc (sT (l ++ m)) = some (acc ++ r, sT m) ∧ bareAs r = As
theorem alt_run {bl : List Bt} {T : Exp} (c : List UInt8) (ns : List (List UInt8)) (h : IsE bl T) (l m : List Tok) (hl : l.map bt = (2, c, 0) :: (ns.map nmB ++ bA :: bl)) (hm : FolE m) (hlen : (l ++ m).length ≤ 4294967296) :
    ∃ k0, k0 + 3 ≤ 5 * l.length ∧ ∀ k, k0 ≤ k → ∃ r, bareA r = .mk 0 (ofL c) (ns.map ofL) T ∧ ∀ acc, altsP (k + 1) true acc (sT (l ++ m)) = altsP k (skipP (sT m) semi).1 (acc ++ [r]) (skipP (sT m) semi).2 := by
  obtain ⟨t1, l1, rfl, ht1, hl1⟩ := mapc hl
  obtain ⟨l2, l3, rfl, hl2, hl3⟩ := mapa hl1
  obtain ⟨t2, l4, rfl, ht2, hl4⟩ := mapc hl3
  obtain ⟨hn1, hn2⟩ := names_bt hl2
  have e1 : t1 :: (l2 ++ t2 :: l4) ++ m = t1 :: (l2 ++ t2 :: (l4 ++ m)) := by simp
  rw [e1] at hlen ⊢
  have hlen' : (l2 ++ t2 :: (l4 ++ m)).length ≤ 4294967296 := by simp only [List.length_append, List.length_cons] at hlen ⊢; omega
  obtain ⟨k0, q0, h0⟩ := h l4 m hl4 hm (by simp only [List.length_append, List.length_cons] at hlen' ⊢; omega)
  refine ⟨k0, by (simp only [List.length_append, List.length_cons, List.length_nil] at *; omega), fun k hk => ?_⟩
  obtain ⟨e, he, hT⟩ := h0 k hk
  refine ⟨.mk t1.at_ t1.s (l2.map (·.s)) e, ?_, fun acc => ?_⟩
  · simp only [bareA, hT, s_of ht1, hn2]
  · simp only [altsP]
    rw [need_S (isS_of ht1 rfl) (by simp)]
    simp only [names_S hn1 (arrow_k ht2) hlen']
    rw [need_S (isS_of ht2 (by decide)) (by simp [hm.ne])]
    simp only [he]
theorem IsL.one {bl : List Bt} {T : Exp} (c : List UInt8) (ns : List (List UInt8)) (h : IsE bl T) : IsL ((2, c, 0) :: (ns.map nmB ++ bA :: bl)) [.mk 0 (ofL c) (ns.map ofL) T] := fun l m hl hm hlen => by
  obtain ⟨t, m', rfl, hb, hs⟩ := hm
  obtain ⟨k0, q0, h0⟩ := alt_run c ns h l (t :: m') hl ⟨t, m', rfl, hb⟩ hlen
  refine ⟨k0 + 2, by (simp only [List.length_append, List.length_cons, List.length_nil] at *; omega), fun k hk acc => ?_⟩
  obtain ⟨k, rfl⟩ : ∃ j, k = j + 2 := ⟨k - 2, by omega⟩
  obtain ⟨r, hr, hk⟩ := h0 (k + 1) (by omega)
  refine ⟨[r], ?_, by simp only [bareAs, hr]⟩
  rw [hk, skip_F hs]
  simp only [altsP]
theorem IsL.cons {bl b2 : List Bt} {T : Exp} {As : List Alt} (c : List UInt8) (ns : List (List UInt8)) (h : IsE bl T) (h2 : IsL b2 As) : IsL ((2, c, 0) :: (ns.map nmB ++ bA :: bl) ++ bS :: b2) (.mk 0 (ofL c) (ns.map ofL) T :: As) := fun l m hl hm hlen => by
  obtain ⟨l1, l2, rfl, hl1, hl2⟩ := mapa hl
  obtain ⟨t2, l3, rfl, ht2, hl3⟩ := mapc hl2
  have e1 : l1 ++ t2 :: l3 ++ m = l1 ++ t2 :: (l3 ++ m) := by simp
  rw [e1] at hlen ⊢
  obtain ⟨k1, q1, g1⟩ := alt_run c ns h l1 (t2 :: (l3 ++ m)) hl1 (fol_of ht2 (by decide)) hlen
  obtain ⟨k2, q2, g2⟩ := h2 l3 m hl3 hm (by simp only [List.length_append, List.length_cons] at hlen ⊢; omega)
  refine ⟨k1 + k2 + 1, by (simp only [List.length_append, List.length_cons, List.length_nil] at *; omega), fun k hk acc => ?_⟩
  obtain ⟨k, rfl⟩ : ∃ j, k = j + 1 := ⟨k - 1, by omega⟩
  obtain ⟨r, hr, hk1⟩ := g1 k (by omega)
  obtain ⟨rs, hrs, hAs⟩ := g2 k (by omega) (acc ++ [r])
  have hne : l3 ++ m ≠ [] := by obtain ⟨t, m', rfl, -⟩ := hm; simp
  refine ⟨r :: rs, ?_, by simp only [bareAs, hr, hAs]⟩
  rw [hk1, skip_T (isS_of ht2 (by decide)) hne]
  simp only [hrs, List.append_assoc, List.cons_append, List.nil_append]
theorem IsE.case {b1 b2 : List Bt} {T : Exp} {As : List Alt} (h1 : IsE b1 T) (h2 : IsL b2 As) : IsE (kCase :: (b1 ++ kOf :: bO :: (b2 ++ [bE]))) (.mk 10 0 .empty 0 [T] As) := fun l m hl hm hlen => by
  obtain ⟨t1, l1, rfl, ht1, hl1⟩ := mapc hl
  obtain ⟨l2, l3, rfl, hl2, hl3⟩ := mapa hl1
  obtain ⟨t2, l4, rfl, ht2, hl4⟩ := mapc hl3
  obtain ⟨t3, l5, rfl, ht3, hl5⟩ := mapc hl4
  obtain ⟨l6, l7, rfl, hl6, hl7⟩ := mapa hl5
  obtain ⟨t4, rfl, ht4⟩ := map1 hl7
  have e1 : t1 :: (l2 ++ t2 :: t3 :: (l6 ++ [t4])) ++ m = t1 :: (l2 ++ t2 :: t3 :: (l6 ++ t4 :: m)) := by simp
  rw [e1] at hlen ⊢
  have e3 : (t1 :: (l2 ++ t2 :: t3 :: (l6 ++ t4 :: m))).length = l2.length + (l6 ++ t4 :: m).length + 3 := by simp only [List.length_cons, List.length_append]; omega
  rw [e3] at hlen
  obtain ⟨k1, q1, g1⟩ := h1 l2 (t2 :: t3 :: (l6 ++ t4 :: m)) hl2 (fol_of ht2 (by decide)) (by simp only [List.length_append, List.length_cons] at hlen ⊢; omega)
  obtain ⟨k2, q2, g2⟩ := h2 l6 (t4 :: m) hl6 ⟨t4, m, rfl, by rw [beg_bt, ht4]; decide, isS_of ht4 (by decide)⟩ (by omega)
  refine ⟨k1 + k2 + 1, by (simp only [List.length_append, List.length_cons, List.length_nil] at *; omega), fun k hk => ?_⟩
  obtain ⟨k, rfl⟩ : ∃ j, k = j + 1 := ⟨k - 1, by omega⟩
  obtain ⟨e, he, hT⟩ := g1 k (by omega)
  obtain ⟨r, hr, hAs⟩ := g2 k (by omega) []
  refine ⟨.mk 10 t1.at_ .empty 0 [e] r, ?_, by simp only [bareE, bareEs, hT, hAs]⟩
  rw [expr_case (isS_of ht1 (by decide)) (isS_of ht1 (by decide)) (isS_of ht1 (by decide)) (isS_of ht1 (by decide)) (by simp), he]
  simp only
  rw [need_S (isS_of ht2 (by decide)) (by simp)]
  simp only
  rw [need_S (isS_of ht3 (by decide)) (by simp)]
  simp only [bad_S, Bool.not_false, hr, List.nil_append]
  rw [need_S (isS_of ht4 (by decide)) hm.ne]
end Go.Proofs.YtoapgongbackaaaDoor.V

/-! G5: the texts by numbers are atoms and expressions, not deep. -/
namespace Go.Proofs.YtoapgongbackaaaDoor.V
open Go Go.Proofs
open Go.Proofs.YtoapgongbackaaaDoor.Lx
set_option maxRecDepth 100000

abbrev Dp (T : Exp) (n : Nat) : Prop := 0 ≤ deepE T ∧ deepE T ≤ (n : Int)
theorem mx_le {a b n : Int} (h1 : 0 ≤ a ∧ a ≤ n) (h2 : 0 ≤ b ∧ b ≤ n) : 0 ≤ mx a b ∧ mx a b ≤ n := by unfold mx; split <;> omega
theorem deepEs_le {n : Int} : ∀ {l : List Exp} {a : Int}, 0 ≤ a ∧ a ≤ n → (∀ e ∈ l, 0 ≤ deepE e ∧ deepE e ≤ n) → 0 ≤ deepEs a l ∧ deepEs a l ≤ n
  | [], a, h, _ => by simpa [deepEs] using h
  | e :: l, a, h, hl => by
    rw [deepEs]
    exact deepEs_le (mx_le h (hl e (List.mem_cons_self ..))) fun x hx => hl x (List.mem_cons_of_mem _ hx)
theorem deepAs_le {n : Int} : ∀ {l : List Alt} {a : Int}, 0 ≤ a ∧ a ≤ n → (∀ e ∈ l, 0 ≤ deepA e ∧ deepA e ≤ n) → 0 ≤ deepAs a l ∧ deepAs a l ≤ n
  | [], a, h, _ => by simpa [deepAs] using h
  | e :: l, a, h, hl => by
    rw [deepAs]
    exact deepAs_le (mx_le h (hl e (List.mem_cons_self ..))) fun x hx => hl x (List.mem_cons_of_mem _ hx)
theorem Dp.mk {k a m : Int} {s : ByteArray} {ks : List Exp} {al : List Alt} {n : Nat} (hn : n ≤ 1000) (hk : ∀ e ∈ ks, Dp e n) (ha : ∀ x ∈ al, 0 ≤ deepA x ∧ deepA x ≤ (n : Int)) : Dp (.mk k a s m ks al) (n + 1) := by
  have h1 := deepEs_le (n := (n : Int)) (a := 0) (by omega) hk
  have h2 := deepAs_le (n := (n : Int)) h1 ha
  unfold Dp
  rw [deepE, i64_id (by omega) (by omega)]
  omega
theorem Dp.mono {T : Exp} {n m : Nat} (h : Dp T n) (hm : n ≤ m) : Dp T m := ⟨h.1, by have := h.2; omega⟩
theorem Dp.lamB {T : Exp} {n : Nat} (h : Dp T n) : ∀ (ss : List ByteArray), n + ss.length ≤ 1000 → Dp (lamB ss T) (n + ss.length)
  | [], _ => h
  | s :: ss, hl => by
    have ih := Dp.lamB h ss (by simp only [List.length_cons] at hl; omega)
    have := Dp.mk (k := 6) (a := 0) (m := 0) (s := s) (ks := [V.lamB ss T]) (al := []) (n := n + ss.length) (by simp only [List.length_cons] at hl; omega) (by simpa using ih) (by simp)
    simp only [List.length_cons]
    exact this
theorem one_mem {p : Exp → Prop} {a : Exp} (h : p a) : ∀ e ∈ [a], p e := by simpa using h
theorem two_mem {p : Exp → Prop} {a b : Exp} (h1 : p a) (h2 : p b) : ∀ e ∈ [a, b], p e := by simp [h1, h2]
theorem three_mem {p : Exp → Prop} {a b c : Exp} (h1 : p a) (h2 : p b) (h3 : p c) : ∀ e ∈ [a, b, c], p e := by simp [h1, h2, h3]
theorem no_alt {p : Alt → Prop} : ∀ x ∈ ([] : List Alt), p x := by simp

/-- A text that is an expression, an atom, so deep at most. -/
def GE (x : List UInt8) (n : Nat) : Prop := ∃ bl T, LxT false x bl ∧ IsE bl T ∧ Dp T n
def GA (x : List UInt8) (n : Nat) : Prop := ∃ bl T, LxT false x bl ∧ IsA bl T ∧ Dp T n
theorem GA.expr {x : List UInt8} {n : Nat} (h : GA x n) : GE x n := by
  obtain ⟨bl, T, h1, h2, h3⟩ := h
  exact ⟨bl, T, h1, .atom h2, h3⟩
theorem GE.mono {x : List UInt8} {n m : Nat} (h : GE x n) (hm : n ≤ m) : GE x m := by
  obtain ⟨bl, T, h1, h2, h3⟩ := h
  exact ⟨bl, T, h1, h2, h3.mono hm⟩
theorem GA.mono {x : List UInt8} {n m : Nat} (h : GA x n) (hm : n ≤ m) : GA x m := by
  obtain ⟨bl, T, h1, h2, h3⟩ := h
  exact ⟨bl, T, h1, h2, h3.mono hm⟩
theorem leaf_dp (k m : Int) (s : ByteArray) : Dp (.mk k 0 s m [] []) 1 := Dp.mk (n := 0) (by decide) (by simp) no_alt
theorem GA.x : GA [120] 1 := ⟨_, _, goCh_lx (cs := [[120]]) (c := false) (bl := [nmB [120]]) (by kernel_rfl), .name [120], leaf_dp ..⟩
theorem a_names : ∀ i : Nat, i < 5 → ∃ s, LxT false (tabG aNames i) [nmB s]
  | 0, _ => ⟨_, goCh_lx (cs := [[120]]) (c := false) (bl := [nmB [120]]) (by kernel_rfl)⟩
  | 1, _ => ⟨_, goCh_lx (cs := [[121]]) (c := false) (bl := [nmB [121]]) (by kernel_rfl)⟩
  | 2, _ => ⟨_, goCh_lx (cs := [[102]]) (c := false) (bl := [nmB [102]]) (by kernel_rfl)⟩
  | 3, _ => ⟨_, goCh_lx (cs := [[103]]) (c := false) (bl := [nmB [103]]) (by kernel_rfl)⟩
  | 4, _ => ⟨_, goCh_lx (cs := [[105, 100]]) (c := false) (bl := [nmB [105, 100]]) (by kernel_rfl)⟩
  | i + 5, h => absurd h (by omega)
theorem a_cons : ∀ i : Nat, i < 5 → ∃ s, LxT false (tabG aCons i) [(2, s, 0)]
  | 0, _ => ⟨_, goCh_lx (cs := [[78, 105, 108]]) (c := false) (bl := [(2, [78, 105, 108], 0)]) (by kernel_rfl)⟩
  | 1, _ => ⟨_, goCh_lx (cs := [[67, 111, 110, 115]]) (c := false) (bl := [(2, [67, 111, 110, 115], 0)]) (by kernel_rfl)⟩
  | 2, _ => ⟨_, goCh_lx (cs := [[83, 111, 109, 101]]) (c := false) (bl := [(2, [83, 111, 109, 101], 0)]) (by kernel_rfl)⟩
  | 3, _ => ⟨_, goCh_lx (cs := [[78, 111, 110, 101]]) (c := false) (bl := [(2, [78, 111, 110, 101], 0)]) (by kernel_rfl)⟩
  | 4, _ => ⟨_, goCh_lx (cs := [[79, 100, 100]]) (c := false) (bl := [(2, [79, 100, 100], 0)]) (by kernel_rfl)⟩
  | i + 5, h => absurd h (by omega)
theorem a_bools : ∀ i : Nat, i < 2 → GA (tabG aBools i) 1
  | 0, _ => ⟨_, _, goCh_lx (cs := [[116, 114, 117, 101]]) (c := false) (bl := [(4, [116, 114, 117, 101], 0)]) (by kernel_rfl), .true, leaf_dp ..⟩
  | 1, _ => ⟨_, _, goCh_lx (cs := [[102, 97, 108, 115, 101]]) (c := false) (bl := [(4, [102, 97, 108, 115, 101], 0)]) (by kernel_rfl), .false, leaf_dp ..⟩
  | i + 2, h => absurd h (by omega)
def digB (n : Nat) : Bool := match goCh [digG n] with
  | some ([(k, s, _)], false) => decide (k = 3) && s.isEmpty
  | _ => false
theorem digB_ok : (List.range 256).all digB = true := by kernel_rfl
theorem a_digs (n : Nat) (h : n < 256) : GA (digG n) 1 := by
  have := List.all_eq_true.1 digB_ok n (List.mem_range.2 h)
  unfold digB at this
  split at this
  · rename_i k s v hg
    simp only [Bool.and_eq_true, decide_eq_true_eq, List.isEmpty_iff] at this
    obtain ⟨rfl, rfl⟩ := this
    have hl := goCh_lx hg
    rw [List.flatten_cons, List.flatten_nil, List.append_nil] at hl
    exact ⟨_, _, hl, .int v, leaf_dp ..⟩
  · cases this
theorem e_lam : ∀ i j : Nat, i < 3 → j < 3 → ∃ (n : List UInt8) (ns : List (List UInt8)), ns.length ≤ 2 ∧ LxT true ([92] ++ tabG eLam i ++ tabG eLam2 j ++ [32, 45, 62, 32]) (bB :: nmB n :: (ns.map nmB ++ [bA]))
  | 0, 0, _, _ => ⟨[120], [], by decide, goCh_lx (cs := [[92], [120], [32], [45, 62], [32]]) (by kernel_rfl)⟩
  | 0, 1, _, _ => ⟨[120], [[103]], by decide, goCh_lx (cs := [[92], [120], [32], [103], [32], [45, 62], [32]]) (by kernel_rfl)⟩
  | 0, 2, _, _ => ⟨[120], [[120], [121]], by decide, goCh_lx (cs := [[92], [120], [32], [120], [32], [121], [32], [45, 62], [32]]) (by kernel_rfl)⟩
  | 1, 0, _, _ => ⟨[121], [], by decide, goCh_lx (cs := [[92], [121], [32], [45, 62], [32]]) (by kernel_rfl)⟩
  | 1, 1, _, _ => ⟨[121], [[103]], by decide, goCh_lx (cs := [[92], [121], [32], [103], [32], [45, 62], [32]]) (by kernel_rfl)⟩
  | 1, 2, _, _ => ⟨[121], [[120], [121]], by decide, goCh_lx (cs := [[92], [121], [32], [120], [32], [121], [32], [45, 62], [32]]) (by kernel_rfl)⟩
  | 2, 0, _, _ => ⟨[102], [], by decide, goCh_lx (cs := [[92], [102], [32], [45, 62], [32]]) (by kernel_rfl)⟩
  | 2, 1, _, _ => ⟨[102], [[103]], by decide, goCh_lx (cs := [[92], [102], [32], [103], [32], [45, 62], [32]]) (by kernel_rfl)⟩
  | 2, 2, _, _ => ⟨[102], [[120], [121]], by decide, goCh_lx (cs := [[92], [102], [32], [120], [32], [121], [32], [45, 62], [32]]) (by kernel_rfl)⟩
  | i + 3, _, h, _ => absurd h (by omega)
  | 0, j + 3, _, h => absurd h (by omega)
  | 1, j + 3, _, h => absurd h (by omega)
  | 2, j + 3, _, h => absurd h (by omega)
theorem e_let : ∀ i : Nat, i < 3 → ∃ (n : List UInt8) (ns : List (List UInt8)), ns.length ≤ 2 ∧ LxT true ([108, 101, 116, 32] ++ tabG eLet i ++ [32, 61, 32]) (kLet :: nmB n :: (ns.map nmB ++ [bQ]))
  | 0, _ => ⟨[105, 100], [[120]], by decide, goCh_lx (cs := [[108, 101, 116], [32], [105, 100], [32], [120], [32], [61], [32]]) (by kernel_rfl)⟩
  | 1, _ => ⟨[121], [], by decide, goCh_lx (cs := [[108, 101, 116], [32], [121], [32], [61], [32]]) (by kernel_rfl)⟩
  | 2, _ => ⟨[102], [[120], [121]], by decide, goCh_lx (cs := [[108, 101, 116], [32], [102], [32], [120], [32], [121], [32], [61], [32]]) (by kernel_rfl)⟩
  | i + 3, h => absurd h (by omega)
theorem e_pat : ∀ i : Nat, i < 3 → ∃ (c : List UInt8) (ns : List (List UInt8)), LxT true (tabG ePat i) ((2, c, 0) :: (ns.map nmB ++ [bA]))
  | 0, _ => ⟨[67, 111, 110, 115], [[120], [121]], goCh_lx (cs := [[67, 111, 110, 115], [32], [120], [32], [121], [32], [45, 62], [32]]) (by kernel_rfl)⟩
  | 1, _ => ⟨[83, 111, 109, 101], [[120]], goCh_lx (cs := [[83, 111, 109, 101], [32], [120], [32], [45, 62], [32]]) (by kernel_rfl)⟩
  | 2, _ => ⟨[78, 105, 108], [], goCh_lx (cs := [[78, 105, 108], [32], [45, 62], [32]]) (by kernel_rfl)⟩
  | i + 3, h => absurd h (by omega)
/-- What comes behind a case's first alternative. -/
theorem e_alt : ∀ j : Nat, j < 3 → ∃ bl, LxT true (tabG eAlt j ++ [125]) (bl ++ [bE]) ∧ (∃ c t, tabG eAlt j ++ [125] = c :: t ∧ isRest c = false) ∧
    ∀ {b1 : List Bt} {T : Exp} (c : List UInt8) (ns : List (List UInt8)), IsE b1 T → ∃ As, IsL ((2, c, 0) :: (ns.map nmB ++ bA :: b1) ++ bl) As ∧ ∀ n : Nat, 2 ≤ n → Dp T n → ∀ x ∈ As, 0 ≤ deepA x ∧ deepA x ≤ (n : Int)
  | 0, _ => ⟨[], goCh_lx (cs := [[125]]) (by kernel_rfl), ⟨_, _, rfl, by decide⟩, fun c ns h => ⟨_, by rw [List.append_nil]; exact IsL.one c ns h, fun n _ hd x hx => by
      rw [List.mem_singleton] at hx
      subst hx
      simpa [deepA] using hd⟩⟩
  | 1, _ => ⟨bS :: (2, [78, 111, 110, 101], 0) :: bA :: [nmB [121]], goCh_lx (cs := [[59], [32], [78, 111, 110, 101], [32], [45, 62], [32], [121], [125]]) (by kernel_rfl), ⟨_, _, rfl, by decide⟩, fun c ns h => ⟨_, IsL.cons c ns h (IsL.one [78, 111, 110, 101] [] (.atom (.name [121]))), fun n h2 hd x hx => by
      simp only [List.mem_cons, List.not_mem_nil, or_false] at hx
      rcases hx with rfl | rfl
      · simpa [deepA] using hd
      · exact (leaf_dp 1 0 (ofL [121])).mono (by omega : 1 ≤ n)⟩⟩
  | 2, _ => ⟨bS :: (2, [78, 105, 108], 0) :: bA :: [nmB [102], nmB [120]], goCh_lx (cs := [[59], [32], [78, 105, 108], [32], [45, 62], [32], [102], [32], [120], [125]]) (by kernel_rfl), ⟨_, _, rfl, by decide⟩, fun c ns h => ⟨_, IsL.cons c ns h (IsL.one [78, 105, 108] [] (IsE.app2 (.name [102]) (.name [120]))), fun n h2 hd x hx => by
      simp only [List.mem_cons, List.not_mem_nil, or_false] at hx
      rcases hx with rfl | rfl
      · simpa [deepA] using hd
      · exact (Dp.mk (k := 5) (a := 0) (m := 0) (s := .empty) (al := []) (n := 1) (by decide) (two_mem (leaf_dp 1 0 (ofL [102])) (leaf_dp 1 0 (ofL [120]))) no_alt).mono h2⟩⟩
  | j + 3, h => absurd h (by omega)

theorem atomS_ga {E A : List UInt8 → List UInt8} {n : Nat} (h1 : 1 ≤ n) (hn : n ≤ 900) (hE : ∀ ns, GE (E ns) n) (hA : ∀ ns, GA (A ns) n) (ns : List UInt8) : GA (atomS E A ns) (n + 1) := by
  have par : ∀ t, GA ([40] ++ E t ++ [41]) (n + 1) := fun t => by
    obtain ⟨b1, T1, l1, e1, d1⟩ := hE t
    refine ⟨[bL] ++ b1 ++ [bR], T1, ?_, IsA.par e1, d1.mono (by omega)⟩
    exact (((goCh_lx (cs := [[40]]) (c := true) (bl := [bL]) (by kernel_rfl)).app l1 (fun h => by cases h)).app (goCh_lx (cs := [[41]]) (c := true) (bl := [bR]) (by kernel_rfl)) (fun _ => ⟨_, _, rfl, by decide⟩)).weak
  unfold atomS
  split
  · exact GA.x.mono (by omega)
  · rename_i b t
    have hb : b.toNat < 256 := b.toNat_lt
    split
    · obtain ⟨s, hs⟩ := a_names (b.toNat / 8 % 5) (Nat.mod_lt _ (by decide))
      exact ⟨_, _, hs, .name s, (leaf_dp ..).mono (by omega)⟩
    · obtain ⟨s, hs⟩ := a_names (b.toNat / 8 % 5) (Nat.mod_lt _ (by decide))
      exact ⟨_, _, hs, .name s, (leaf_dp ..).mono (by omega)⟩
    · obtain ⟨s, hs⟩ := a_cons (b.toNat / 8 % 5) (Nat.mod_lt _ (by decide))
      exact ⟨_, _, hs, .con s, (leaf_dp ..).mono (by omega)⟩
    · exact (a_digs b.toNat hb).mono (by omega)
    · exact (a_bools (b.toNat / 8 % 2) (Nat.mod_lt _ (by decide))).mono (by omega)
    · obtain ⟨b1, T1, l1, e1, d1⟩ := hE t
      obtain ⟨b2, T2, l2, e2, d2⟩ := hA (halfG (b :: t))
      refine ⟨[bL] ++ b1 ++ [bC] ++ b2 ++ [bR], .mk 8 0 .empty 0 [T1, T2] [], ?_, ?_, Dp.mk (by omega) (two_mem d1 d2) no_alt⟩
      · exact (((((goCh_lx (cs := [[40]]) (c := true) (bl := [bL]) (by kernel_rfl)).app l1 (fun h => by cases h)).app (goCh_lx (cs := [[44], [32]]) (c := true) (bl := [bC]) (by kernel_rfl)) (fun _ => ⟨_, _, rfl, by decide⟩)).app l2 (fun h => by cases h)).app (goCh_lx (cs := [[41]]) (c := true) (bl := [bR]) (by kernel_rfl)) (fun _ => ⟨_, _, rfl, by decide⟩)).weak
      · have := IsA.pair e1 (IsE.atom e2)
        simpa only [List.append_assoc, List.cons_append, List.nil_append] using this
    · exact par t
theorem exprS_ge {E A A' : List UInt8 → List UInt8} {n : Nat} (h1 : 1 ≤ n) (hn : n ≤ 900) (hE : ∀ ns, GE (E ns) n) (hA : ∀ ns, GA (A ns) n) (hA' : ∀ ns, GA (A' ns) (n + 1)) (ns : List UInt8) : GE (exprS E A A' ns) (n + 3) := by
  have sp : LxT true [32] [] := goCh_lx (cs := [[32]]) (by kernel_rfl)
  have spc : ∀ t, ∃ c r, [32] ++ t = c :: r ∧ isRest c = false := fun t => ⟨32, t, rfl, by decide⟩
  unfold exprS
  split
  · exact GA.x.expr.mono (by omega)
  · rename_i b t
    have lam : GE ([92] ++ tabG eLam (b.toNat / 10 % 3) ++ tabG eLam2 (b.toNat / 30 % 3) ++ [32, 45, 62, 32] ++ E t) (n + 3) := by
      obtain ⟨x, xs, hxs, lx⟩ := e_lam (b.toNat / 10 % 3) (b.toNat / 30 % 3) (Nat.mod_lt _ (by decide)) (Nat.mod_lt _ (by decide))
      obtain ⟨b1, T1, l1, e1, d1⟩ := hE t
      refine ⟨_, lamB (ofL x :: xs.map ofL) T1, lx.app l1 (fun h => by cases h), ?_, (Dp.lamB d1 (ofL x :: xs.map ofL) (by simp only [List.length_cons, List.length_map]; omega)).mono (by simp only [List.length_cons, List.length_map]; omega)⟩
      have := IsE.lam x xs e1
      simpa only [List.append_assoc, List.cons_append, List.nil_append] using this
    have app2 : GE (A t ++ [32] ++ A (halfG (b :: t))) (n + 3) := by
      obtain ⟨b1, T1, l1, e1, d1⟩ := hA t
      obtain ⟨b2, T2, l2, e2, d2⟩ := hA (halfG (b :: t))
      refine ⟨b1 ++ [] ++ b2, .mk 5 0 .empty 0 [T1, T2] [], (l1.app sp (fun _ => ⟨_, _, rfl, by decide⟩)).app l2 (fun h => by cases h), ?_, (Dp.mk (by omega) (two_mem d1 d2) no_alt).mono (by omega)⟩
      rw [List.append_nil]
      exact IsE.app2 e1 e2
    split
    · exact lam
    · exact lam
    · obtain ⟨x, xs, hxs, lx⟩ := e_let (b.toNat / 10 % 3) (Nat.mod_lt _ (by decide))
      obtain ⟨b1, T1, l1, e1, d1⟩ := hE t
      obtain ⟨b2, T2, l2, e2, d2⟩ := hE (halfG (b :: t))
      refine ⟨_, .mk 7 0 (ofL x) 0 [lamB (xs.map ofL) T1, T2] [], ((lx.app l1 (fun h => by cases h)).app (goCh_lx (cs := [[32], [105, 110], [32]]) (c := true) (bl := [kIn]) (by kernel_rfl)) (fun _ => ⟨_, _, rfl, by decide⟩)).app l2 (fun h => by cases h), ?_, Dp.mk (n := n + 2) (by omega) (two_mem ((Dp.lamB d1 (xs.map ofL) (by simp only [List.length_map]; omega)).mono (by simp only [List.length_map]; omega)) (d2.mono (by omega))) no_alt⟩
      have := IsE.let x xs e1 e2
      simpa only [List.append_assoc, List.cons_append, List.nil_append] using this
    · obtain ⟨b1, T1, l1, e1, d1⟩ := hE t
      obtain ⟨b2, T2, l2, e2, d2⟩ := hA (halfG (b :: t))
      obtain ⟨b3, T3, l3, e3, d3⟩ := hE (halfG (b :: t))
      refine ⟨_, .mk 9 0 .empty 0 [T1, T2, T3] [], (((((goCh_lx (cs := [[105, 102], [32]]) (c := true) (bl := [kIf]) (by kernel_rfl)).app l1 (fun h => by cases h)).app (goCh_lx (cs := [[32], [116, 104, 101, 110], [32]]) (c := true) (bl := [kThen]) (by kernel_rfl)) (fun _ => ⟨_, _, rfl, by decide⟩)).app l2 (fun h => by cases h)).app (goCh_lx (cs := [[32], [101, 108, 115, 101], [32]]) (c := true) (bl := [kElse]) (by kernel_rfl)) (fun _ => ⟨_, _, rfl, by decide⟩)).app l3 (fun h => by cases h), ?_, (Dp.mk (by omega) (three_mem d1 d2 d3) no_alt).mono (by omega)⟩
      have := IsE.ite e1 (IsE.atom e2) e3
      simpa only [List.append_assoc, List.cons_append, List.nil_append] using this
    · obtain ⟨c, ns, lp⟩ := e_pat (b.toNat / 10 % 3) (Nat.mod_lt _ (by decide))
      obtain ⟨ba, la, hst, hal⟩ := e_alt (b.toNat / 30 % 3) (Nat.mod_lt _ (by decide))
      obtain ⟨b1, T1, l1, e1, d1⟩ := hE t
      obtain ⟨b2, T2, l2, e2, d2⟩ := hE (halfG (b :: t))
      obtain ⟨As, hAs, hd⟩ := hal c ns e2
      have lx := (((((goCh_lx (cs := [[99, 97, 115, 101], [32]]) (c := true) (bl := [kCase]) (by kernel_rfl)).app l1 (fun h => by cases h)).app (goCh_lx (cs := [[32], [111, 102], [32], [123]]) (c := true) (bl := [kOf, bO]) (by kernel_rfl)) (fun _ => ⟨_, _, rfl, by decide⟩)).app lp (fun h => by cases h)).app l2 (fun h => by cases h)).app la (fun _ => hst)
      rw [← List.append_assoc] at lx
      refine ⟨_, .mk 10 0 .empty 0 [T1] As, lx.weak, ?_, (Dp.mk (n := n + 1) (by omega) (one_mem (d1.mono (by omega))) (hd (n + 1) (by omega) (d2.mono (by omega)))).mono (by omega)⟩
      have := IsE.case e1 hAs
      simpa only [List.append_assoc, List.cons_append, List.nil_append] using this
    · exact app2
    · exact app2
    · obtain ⟨b1, T1, l1, e1, d1⟩ := hA t
      obtain ⟨b2, T2, l2, e2, d2⟩ := hA (halfG (b :: t))
      obtain ⟨b3, T3, l3, e3, d3⟩ := hA (halfG t)
      refine ⟨b1 ++ [] ++ b2 ++ [] ++ b3, .mk 5 0 .empty 0 [.mk 5 0 .empty 0 [T1, T2] [], T3] [], (((l1.app sp (fun _ => ⟨_, _, rfl, by decide⟩)).app l2 (fun h => by cases h)).app sp (fun _ => ⟨_, _, rfl, by decide⟩)).app l3 (fun h => by cases h), ?_, (Dp.mk (n := n + 1) (by omega) (two_mem (Dp.mk (by omega) (two_mem d1 d2) no_alt) (d3.mono (by omega))) no_alt).mono (by omega)⟩
      rw [List.append_nil, List.append_nil]
      exact IsE.app3 e1 e2 e3
    · exact ((hA' (b :: t)).expr).mono (by omega)
theorem genS_ge : ∀ d : Nat, d ≤ 8 → (∀ ns, GE (exprG d ns) (3 * d + 1)) ∧ ∀ ns, GA (atomG d ns) (3 * d + 1)
  | 0, _ => ⟨fun _ => GA.x.expr, fun _ => GA.x⟩
  | d + 1, h => by
    obtain ⟨h1, h2⟩ := genS_ge d (by omega)
    have h3 : ∀ ns, GA (atomG (d + 1) ns) (3 * d + 1 + 1) := fun ns => atomS_ga (by omega) (by omega) h1 h2 ns
    exact ⟨fun ns => exprS_ge (A' := atomG (d + 1)) (by omega) (by omega) h1 h2 h3 ns, fun ns => (h3 ns).mono (by omega)⟩
/-- The text of an expression by numbers is an expression, twenty-five deep at most. -/
theorem ExprG_ge (ns : List UInt8) : GE (ExprG ns) 25 := (genS_ge 8 (by decide)).1 ns
end Go.Proofs.YtoapgongbackaaaDoor.V

/-! B1: the reference's bare. -/
namespace Go.Proofs.YtoapgongbackaaaDoor.V
open Go Go.Proofs
set_option maxRecDepth 100000

theorem bareEs_append : ∀ a b : List Exp, bareEs (a ++ b) = bareEs a ++ bareEs b
  | [], b => rfl
  | x :: a, b => by simp [bareEs, bareEs_append a b]
theorem bareEs_len : ∀ a : List Exp, (bareEs a).length = a.length
  | [] => rfl
  | x :: a => by simp [bareEs, bareEs_len a]
theorem bareAs_len : ∀ a : List Alt, (bareAs a).length = a.length
  | [] => rfl
  | x :: a => by simp [bareAs, bareAs_len a]
mutual
theorem deep_bare : ∀ e : Exp, deepE (bareE e) = deepE e
  | .mk k a s n ks al => by simp only [bareE, deepE, deepEs_bare ks, deepAs_bare al]
theorem deepEs_bare : ∀ (l : List Exp) (x : Int), deepEs x (bareEs l) = deepEs x l
  | [], x => rfl
  | e :: l, x => by simp only [bareEs, deepEs, deep_bare e, deepEs_bare l]
theorem deepA_bare : ∀ a : Alt, deepA (bareA a) = deepA a
  | .mk a c vs b => by simp only [bareA, deepA, deep_bare b]
theorem deepAs_bare : ∀ (l : List Alt) (x : Int), deepAs x (bareAs l) = deepAs x l
  | [], x => rfl
  | e :: l, x => by simp only [bareAs, deepAs, deepA_bare e, deepAs_bare l]
end
mutual
theorem fine_bare : ∀ e : Exp, fineE e → fineE (bareE e)
  | .mk k a s n ks al, h => by
    obtain ⟨h1, h2, h3, h4⟩ := h
    exact ⟨by rw [bareEs_len]; exact h1, by rw [bareAs_len]; exact h2, fines_bare ks h3, fineas_bare al h4⟩
theorem fines_bare : ∀ l : List Exp, fineEs l → fineEs (bareEs l)
  | [], _ => trivial
  | e :: l, h => ⟨fine_bare e h.1, fines_bare l h.2⟩
theorem finea_bare : ∀ a : Alt, fineA a → fineA (bareA a)
  | .mk a c vs b, h => ⟨h.1, fine_bare b h.2⟩
theorem fineas_bare : ∀ l : List Alt, fineAs l → fineAs (bareAs l)
  | [], _ => trivial
  | e :: l, h => ⟨finea_bare e h.1, fineas_bare l h.2⟩
end
theorem take_bareEs {l : List Exp} {m : Nat} {t : Exp} (h : l[m]? = some t) : bareEs (l.take (m + 1)) = bareEs (l.take m) ++ [bareE t] := by
  rw [List.take_add_one, h, bareEs_append]
  rfl
theorem take_bareAs {l : List Alt} {m : Nat} {t : Alt} (h : l[m]? = some t) : bareAs (l.take (m + 1)) = bareAs (l.take m) ++ [bareA t] := by
  rw [List.take_add_one, h, bareAs_append]
  rfl
set_option maxHeartbeats 4000000 in
theorem bare_ct : ∀ (n : Nat) (e : Exp), SizeOf.sizeOf e < n → fineE e → Ct 38 [.val (.agg (exC e))] [.val (.agg (exC (bareE e)))] []
  | 0, _, h, _ => absurd h (Nat.not_lt_zero _)
  | n + 1, .mk k at_ s nn kids alts, h, hf => by
    obtain ⟨hf1, hf2, hf3, hf4⟩ := hf
    refine ct Tryd.func38 (by kernel_rfl) ?_
    unfold bareE
    conv => whnf
    refine ⟨fun j st => ∃ m i, j = kids.length - m ∧ m ≤ kids.length ∧ i = ((m : Nat) : Int) ∧
      st = ⟨[(4, .one (.v (.int .i64 i))), (1, .one (.ptr 1 0 0)), (2, .one (.ptr 2 0 0)), (3, .one (.ptr 3 0 0))], [(1, ⟨0, 53, exC (.mk k at_ s nn kids alts)⟩), (2, ⟨0, 53, [.v (.int .i64 0), .v (.int .i64 0), .v (.string .empty), .v (.int .i64 0), .nil 53 6, .nil 96 9]⟩), (3, ⟨0, 53, [.v (.int .i64 k), .v (.int .i64 0), .v (.string s), .v (.int .i64 nn), .sl 53 6 (exsC (bareEs (kids.take m))) (some (30, 0)), .nil 96 9]⟩)], [(30, ⟨0, 53, 6, true⟩)]⟩,
      ⟨_, _, wk [4, 1, 2, 3] [1, 2, 3] [] [] [] [(3, 4, 30, 53, 6)] rfl, 0, 0, rfl, Nat.zero_le _, rfl, rfl⟩, ?_⟩
    rintro j st ⟨m, i, rfl, hm, rfl, rfl⟩
    have hacc : (exsC (bareEs (kids.take m))).length ≤ 4294967296 := by
      rw [exsC_length, bareEs_len]
      simp only [List.length_take]
      omega
    conv => whnf
    cases hlt : decide (((m : Nat) : Int) < ((exsC kids).length : Int))
    · have : m = kids.length := by simp [exsC_length] at hlt; omega
      subst this
      rw [List.take_length]
      conv => whnf
      refine ⟨fun j st => ∃ m i, j = alts.length - m ∧ m ≤ alts.length ∧ i = ((m : Nat) : Int) ∧
        st = ⟨[(5, .one (.v (.int .i64 i))), (1, .one (.ptr 1 0 0)), (2, .one (.ptr 2 0 0)), (3, .one (.ptr 3 0 0))], [(1, ⟨0, 53, exC (.mk k at_ s nn kids alts)⟩), (2, ⟨0, 53, [.v (.int .i64 0), .v (.int .i64 0), .v (.string .empty), .v (.int .i64 0), .nil 53 6, .nil 96 9]⟩), (3, ⟨0, 53, [.v (.int .i64 k), .v (.int .i64 0), .v (.string s), .v (.int .i64 nn), .sl 53 6 (exsC (bareEs kids)) (some (30, 0)), .sl 96 9 (altsC (bareAs (alts.take m))) (some (55, 0))]⟩)], [(30, ⟨0, 53, 6, true⟩), (55, ⟨0, 96, 9, true⟩)]⟩,
        ⟨_, _, wk [5, 1, 2, 3] [1, 2, 3] [30] [] [] [(3, 5, 55, 96, 9)] rfl, 0, 0, rfl, Nat.zero_le _, rfl, rfl⟩, ?_⟩
      rintro j st ⟨m, i, rfl, hm, rfl, rfl⟩
      have hacc2 : (altsC (bareAs (alts.take m))).length ≤ 4294967296 := by
        rw [altsC_length, bareAs_len]
        simp only [List.length_take]
        omega
      conv => whnf
      cases hlt : decide (((m : Nat) : Int) < ((altsC alts).length : Int))
      · have : m = alts.length := by simp [altsC_length] at hlt; omega
        subst this
        rw [List.take_length]
        conv => whnf
        exact ⟨rfl, rfl⟩
      · have hm2 : m < alts.length := by simpa [altsC_length] using hlt
        have hsz : SizeOf.sizeOf alts[m] < n := by
          have := List.sizeOf_lt_of_mem (List.getElem_mem hm2)
          simp at h
          omega
        have hg := get_alts (List.getElem?_eq_getElem hm2)
        have hft := fineAs_get hf4 (List.getElem?_eq_getElem hm2)
        have htk := take_bareAs (List.getElem?_eq_getElem hm2)
        generalize alts[m] = t2 at hsz hg hft htk
        obtain ⟨a2, s2, names2, b2⟩ := t2
        have hsz2 : SizeOf.sizeOf b2 < n := by simp at hsz; omega
        obtain ⟨k3, a3, s3, n3, kids3, alts3⟩ := b2
        conv => whnf
        refine ⟨_, hg, ?_⟩
        conv => whnf
        refine ⟨_, _, bare_ct n _ hsz2 hft.2, ?_⟩
        conv => whnf
        refine ⟨by simp [lim]; omega, ?_⟩
        conv => whnf
        refine ⟨by kernel_rfl, ?_⟩
        conv => whnf
        refine ⟨_, _, ?_, wk [5, 1, 2, 3] [1, 2, 3] [30, 55] [] [] [] rfl, m + 1, _, rfl, hm2, i64_id (x := (m : Int) + 1) (by omega) (by omega), by rw [htk, altsC_append]; rfl⟩
        omega
    · have hm2 : m < kids.length := by simpa [exsC_length] using hlt
      have hsz : SizeOf.sizeOf kids[m] < n := by
        have := List.sizeOf_lt_of_mem (List.getElem_mem hm2)
        simp at h
        omega
      have hg := get_exs (List.getElem?_eq_getElem hm2)
      have hft := fineEs_get hf3 (List.getElem?_eq_getElem hm2)
      have htk := take_bareEs (List.getElem?_eq_getElem hm2)
      generalize kids[m] = t2 at hsz hg hft htk
      obtain ⟨k3, a3, s3, n3, kids3, alts3⟩ := t2
      conv => whnf
      refine ⟨_, hg, ?_⟩
      conv => whnf
      refine ⟨_, _, bare_ct n _ hsz hft, ?_⟩
      conv => whnf
      refine ⟨by simp [lim]; omega, ?_⟩
      conv => whnf
      refine ⟨by kernel_rfl, ?_⟩
      conv => whnf
      refine ⟨_, _, ?_, wk [4, 1, 2, 3] [1, 2, 3] [30] [] [] [] rfl, m + 1, _, rfl, hm2, i64_id (x := (m : Int) + 1) (by omega) (by omega), by rw [htk, exsC_append]; rfl⟩
      omega
end Go.Proofs.YtoapgongbackaaaDoor.V

/-! G6: programs: a let; the end; a text that is one let. -/
namespace Go.Proofs.YtoapgongbackaaaDoor.V
open Go Go.Proofs
open Go.Proofs.YtoapgongbackaaaDoor.Lx
set_option maxRecDepth 100000

theorem prog_end {k : Nat} {p : ProgD} {t : Tok} {m : List Tok} (h : t.k = 0) : progP (k + 1) p (sT (t :: m)) = some (p, sT (t :: m)) := by
  have h0 : decide ((sT (t :: m)).t.k = 0) = true := decide_eq_true h
  simp only [progP, bad_S, h0]
theorem prog_let {k : Nat} {p : ProgD} {t : Tok} {m : List Tok} (h : bt t = kLet) (hm : m ≠ []) : progP (k + 1) p (sT (t :: m)) = match boundP k (needP (sT m) nameS).1 (needP (sT m) nameS).2 with
    | none => none
    | some (b, s1) => progP k ⟨p.datas, p.binds ++ [⟨(needP (sT m) nameS).1.s, (needP (sT m) nameS).1.at_, b⟩]⟩ (needP s1 semi).2 := by
  have h0 : decide ((sT (t :: m)).t.k = 0) = false := decide_eq_false (by rw [t_S, k_of h]; decide)
  have h1 : isS t dataS = false := isS_of h (by decide)
  have h2 : isS t letS = true := isS_of h (by decide)
  simp only [progP, bad_S, h0, next_S, h1, h2, take_S hm]
  rfl
/-- The tokens of a let. -/
def letB (n : List UInt8) (ns : List (List UInt8)) (bl : List Bt) : List Bt := kLet :: nmB n :: (ns.map nmB ++ bQ :: bl ++ [bS])
theorem bind_run {bl : List Bt} {T : Exp} (n : List UInt8) (ns : List (List UInt8)) (h : IsE bl T) (l m : List Tok) (hl : l.map bt = letB n ns bl) (hm : m ≠ []) (hlen : (l ++ m).length ≤ 4294967296) :
    ∃ k0, k0 + 1 ≤ 5 * l.length ∧ ∀ k, k0 ≤ k → ∃ e, bareE e = lamB (ns.map ofL) T ∧ ∀ p, progP (k + 1) p (sT (l ++ m)) = progP k ⟨p.datas, p.binds ++ [⟨ofL n, (l.getD 1 noTok).at_, e⟩]⟩ (sT m) := by
  obtain ⟨t1, l1, rfl, ht1, hl1⟩ := mapc hl
  obtain ⟨t2, l2, rfl, ht2, hl2⟩ := mapc hl1
  obtain ⟨l3, l4, rfl, hl3, hl4⟩ := mapa hl2
  obtain ⟨t3, rfl, ht3⟩ := map1 hl4
  have e1 : t1 :: t2 :: (l3 ++ [t3]) ++ m = t1 :: t2 :: (l3 ++ t3 :: m) := by simp
  rw [e1] at hlen ⊢
  obtain ⟨k0, q0, h0⟩ := bound_run ns h l3 (t3 :: m) hl3 (fol_of ht3 (by decide)) (by simp only [List.length_cons] at hlen ⊢; omega)
  refine ⟨k0 + 1, by simp only [List.length_append, List.length_cons, List.length_nil]; omega, fun k hk => ?_⟩
  obtain ⟨k, rfl⟩ : ∃ j, k = j + 1 := ⟨k - 1, by omega⟩
  obtain ⟨e, he, hT⟩ := h0 k (by omega) t2
  refine ⟨e, hT, fun p => ?_⟩
  rw [prog_let ht1 (by simp), need_S (isS_of ht2 rfl) (by simp)]
  simp only [he]
  rw [need_S (isS_of ht3 (by decide)) hm, s_of ht2]
  rfl
theorem lex_of {x : List UInt8} {bl : List Bt} {c : Bool} (hx : LxT c x bl) : ∃ ts : List Tk, ts.map bk = bl ∧ lexL x = .ok ts := by
  obtain ⟨ts, h1, h2⟩ := hx 0 [] (fun _ c r h => by cases h)
  refine ⟨ts, h1, ?_⟩
  rw [List.append_nil, lexS_nil] at h2
  rw [lexL_S, h2]
  simp [joinE]
theorem parse_eq {k : Nat} {x : List UInt8} {ts : List Tk} (h : lexL x = .ok ts) : parseK k x = match progP k ⟨[], []⟩ (sT (ts.map toT ++ [endT x.length])) with
    | none => none
    | some (p, s) => match s.bad with
      | true => some (⟨[], []⟩, 4, s.at_)
      | false => match decide (0 ≤ deepestP p) with
        | true => some (⟨[], []⟩, 5, deepestP p)
        | false => some (p, 0, 0) := by
  have hs : startP (ts.map toT) x.length = sT (ts.map toT ++ [endT x.length]) := by cases ts <;> rfl
  unfold parseK
  rw [h]
  simp only [hs]
  rfl
theorem low_none : ∀ (bs : List BindD), (∀ b ∈ bs, deepE b.body ≤ 60) → ∀ a, lowB a bs = a
  | [], _, a => rfl
  | b :: bs, h, a => by
    rw [lowB, decide_eq_false (by have := h b (List.mem_cons_self ..); omega)]
    exact low_none bs (fun x hx => h x (List.mem_cons_of_mem _ hx)) a
/-- A text that is one let. -/
theorem one_let {x : List UInt8} {n : List UInt8} {ns : List (List UInt8)} {bl : List Bt} {T : Exp} {d : Nat} (hx : LxT true x (letB n ns bl)) (h : IsE bl T) (hd : Dp T d) (hb : d + ns.length ≤ 60) (hlen : x.length ≤ 65536) :
    ∃ b : BindD, parseK 1000000 x = some (⟨[], [b]⟩, 0, 0) ∧ b.s = ofL n ∧ bareE b.body = lamB (ns.map ofL) T := by
  obtain ⟨ts, h1, h2⟩ := lex_of hx
  have hln := lexL_len x ts h2
  have hbt : (ts.map toT).map bt = letB n ns bl := by rw [bt_map, h1]
  obtain ⟨k0, q0, h0⟩ := bind_run n ns h (ts.map toT) [endT x.length] hbt (by simp) (by simp only [List.length_append, List.length_map, List.length_cons, List.length_nil]; omega)
  rw [List.length_map] at q0
  obtain ⟨e, he, hr⟩ := h0 999999 (by omega)
  refine ⟨⟨ofL n, ((ts.map toT).getD 1 noTok).at_, e⟩, ?_, rfl, he⟩
  have hde : deepE e ≤ 60 := by
    rw [← deep_bare, he]
    have := (Dp.lamB hd (ns.map ofL) (by simp only [List.length_map]; omega)).2
    simp only [List.length_map] at this
    omega
  have hlow : deepestP ⟨[], [⟨ofL n, ((ts.map toT).getD 1 noTok).at_, e⟩]⟩ = -1 := by
    unfold deepestP
    rw [low_none _ (by simpa using hde)]
    rfl
  rw [parse_eq h2, hr, prog_end (k := 999998) rfl]
  simp only [List.nil_append, bad_S, hlow]
  rfl
end Go.Proofs.YtoapgongbackaaaDoor.V

/-! G7: how long the texts by numbers are; brackets. -/
namespace Go.Proofs.YtoapgongbackaaaDoor.V
open Go Go.Proofs
open Go.Proofs.YtoapgongbackaaaDoor.Lx
set_option maxRecDepth 100000

theorem tab_len_le (b : Nat) {t : List (List UInt8)} (h : (t.all fun l => Nat.ble l.length b) = true) (i : Nat) : (tabG t i).length ≤ b := by
  unfold tabG
  cases hi : t[i]? with
  | none => simp
  | some l => exact Nat.le_of_ble_eq_true (List.all_eq_true.1 h l (List.mem_of_getElem? hi))
theorem atomS_len2 {E A : List UInt8 → List UInt8} {m n : Nat} (h1 : 1 ≤ m) (h2 : 1 ≤ n) (hE : ∀ ns, (E ns).length ≤ m) (hA : ∀ ns, (A ns).length ≤ n) (ns : List UInt8) : (atomS E A ns).length ≤ 4 + m + n := by
  unfold atomS
  split
  · simp only [List.length_cons, List.length_nil]; omega
  · rename_i b t
    have f0 := hE t
    have f1 := hA (halfG (b :: t))
    have g0 := tab_len_le 2 (t := aNames) (by decide) (b.toNat / 8 % 5)
    have g1 := tab_len_le 4 (t := aCons) (by decide) (b.toNat / 8 % 5)
    have g2 := tab_len_le 5 (t := aBools) (by decide) (b.toNat / 8 % 2)
    have g3 := digF_len 3 b.toNat []
    simp only [List.length_nil] at g3
    split <;> (try simp only [List.length_append, List.length_cons, List.length_nil, digG]) <;> omega
theorem exprS_len2 {E A A' : List UInt8 → List UInt8} {m n : Nat} (h1 : 1 ≤ m) (h2 : n ≤ m) (hE : ∀ ns, (E ns).length ≤ m) (hA : ∀ ns, (A ns).length ≤ n) (hA' : ∀ ns, (A' ns).length ≤ 4 + m + n) (ns : List UInt8) : (exprS E A A' ns).length ≤ max (16 + 2 * m + n) (35 + 2 * m) := by
  unfold exprS
  split
  · simp only [List.length_cons, List.length_nil]; omega
  · rename_i b t
    have f0 := hE t
    have f1 := hE (halfG (b :: t))
    have f2 := hA t
    have f3 := hA (halfG (b :: t))
    have f4 := hA (halfG t)
    have f5 := hA' (b :: t)
    have g0 := tab_len_le 1 (t := eLam) (by decide) (b.toNat / 10 % 3)
    have g1 := tab_len_le 4 (t := eLam2) (by decide) (b.toNat / 30 % 3)
    have g2 := tab_len_le 5 (t := eLet) (by decide) (b.toNat / 10 % 3)
    have g3 := tab_len_le 12 (t := ePat) (by decide) (b.toNat / 10 % 3)
    have g4 := tab_len_le 12 (t := eAlt) (by decide) (b.toNat / 30 % 3)
    split <;> (try simp only [List.length_append, List.length_cons, List.length_nil]) <;> omega
def boundG : Nat → Nat × Nat
  | 0 => (1, 1)
  | d + 1 => (max (16 + 2 * (boundG d).1 + (boundG d).2) (35 + 2 * (boundG d).1), 4 + (boundG d).1 + (boundG d).2)
theorem boundG_ok : ∀ d, 1 ≤ (boundG d).2 ∧ (boundG d).2 ≤ (boundG d).1
  | 0 => by decide
  | d + 1 => by
    have := boundG_ok d
    simp only [boundG]
    omega
theorem genS_len2 : ∀ d : Nat, (∀ ns, (exprG d ns).length ≤ (boundG d).1) ∧ ∀ ns, (atomG d ns).length ≤ (boundG d).2
  | 0 => ⟨fun ns => by simp [exprG, genS, boundG], fun ns => by simp [atomG, genS, boundG]⟩
  | d + 1 => by
    obtain ⟨h1, h2⟩ := genS_len2 d
    obtain ⟨g1, g2⟩ := boundG_ok d
    have h3 : ∀ ns, (atomG (d + 1) ns).length ≤ 4 + (boundG d).1 + (boundG d).2 := fun ns => atomS_len2 (by omega) g1 h1 h2 ns
    exact ⟨fun ns => exprS_len2 (A' := atomG (d + 1)) (by omega) g2 h1 h2 h3 ns, h3⟩
theorem ExprG_len2 (ns : List UInt8) : (ExprG ns).length ≤ 34821 := Nat.le_trans ((genS_len2 8).1 ns) (by decide)

/-! ### brackets -/
def repG (j : Nat) (w : List UInt8) : List UInt8 := (List.replicate j w).flatten
theorem repG_succ (j : Nat) (w : List UInt8) : repG (j + 1) w = repG j w ++ w := by
  unfold repG
  rw [List.replicate_succ', List.flatten_append]
  simp
theorem repG_succ' (j : Nat) (w : List UInt8) : repG (j + 1) w = w ++ repG j w := by
  unfold repG
  rw [List.replicate_succ, List.flatten_cons]
theorem repG_len (j : Nat) (w : List UInt8) : (repG j w).length = j * w.length := by
  induction j with
  | zero => simp [repG]
  | succ j ih => rw [repG_succ, List.length_append, ih, Nat.succ_mul]
def brA : List UInt8 := [40, 32]
def brB : List UInt8 := [32, 45, 45, 32, 114, 10, 41]
theorem lx_rem : LxT true [32, 45, 45, 32, 114, 10] [] := fun pos r _ => ⟨[], rfl, by
  rw [join_nil]
  exact lexS_gap [32, 45, 45, 32, 114, 10] (fun b => by simp [skipL, isGap, hd]; omega) pos r⟩
theorem lx_brB : LxT true brB [bR] := lx_rem.app (goCh_lx (cs := [[41]]) (c := true) (bl := [bR]) (by kernel_rfl)) (fun h => by cases h)
theorem lx_brA : LxT true brA [bL] := goCh_lx (cs := [[40], [32]]) (by kernel_rfl)
/-- A text that is an expression with this tree. -/
def XE (T : Exp) (x : List UInt8) : Prop := ∃ bl, LxT false x bl ∧ IsE bl T
theorem XE.br {T : Exp} {x : List UInt8} (h : XE T x) : XE T (brA ++ x ++ brB) := by
  obtain ⟨bl, h1, h2⟩ := h
  refine ⟨_, ((lx_brA.app h1 (fun h => by cases h)).app lx_brB (fun _ => ⟨_, _, rfl, by decide⟩)).weak, ?_⟩
  have := IsE.atom (IsA.par h2)
  simpa only [List.append_assoc, List.cons_append, List.nil_append] using this
theorem XE.many {T : Exp} : ∀ (j : Nat) {x : List UInt8}, XE T x → XE T (repG j brA ++ x ++ repG j brB)
  | 0, x, h => by simpa [repG] using h
  | j + 1, x, h => by
    have := XE.many j h.br
    rw [repG_succ, repG_succ']
    simpa only [List.append_assoc] using this
def qLet : List UInt8 := [108, 101, 116, 32, 113, 32, 61, 32]
/-- A let of one name, whose body is such a text. -/
theorem oneQ {T : Exp} {x : List UInt8} {d : Nat} (h : XE T x) (hd : Dp T d) (hb : d ≤ 60) (hlen : x.length ≤ 65000) :
    ∃ b : BindD, parseK 1000000 (qLet ++ x ++ [59]) = some (⟨[], [b]⟩, 0, 0) ∧ b.s = ofL [113] ∧ bareE b.body = T := by
  obtain ⟨bl, h1, h2⟩ := h
  have hx : LxT true (qLet ++ x ++ [59]) (letB [113] [] bl) := by
    have := ((goCh_lx (cs := [[108, 101, 116], [32], [113], [32], [61], [32]]) (c := true) (bl := [kLet, nmB [113], bQ]) (by kernel_rfl)).app h1 (fun h => by cases h)).app (goCh_lx (cs := [[59]]) (c := true) (bl := [bS]) (by kernel_rfl)) (fun _ => ⟨_, _, rfl, by decide⟩)
    exact this
  obtain ⟨b, hb1, hb2, hb3⟩ := one_let hx h2 hd (by simpa using hb) (by simp only [List.length_append, qLet, List.length_cons, List.length_nil]; omega)
  exact ⟨b, hb1, hb2, hb3⟩
end Go.Proofs.YtoapgongbackaaaDoor.V

/-! B2: the reference's Bare. -/
namespace Go.Proofs.YtoapgongbackaaaDoor.V
open Go Go.Proofs
set_option maxRecDepth 100000

def bareC (c : ConD) : ConD := ⟨c.s, 0, c.args⟩
def bareD (d : DataD) : DataD := ⟨d.s, 0, d.vars, d.cons.map bareC⟩
def bareB (b : BindD) : BindD := ⟨b.s, 0, bareE b.body⟩
def bareP (p : ProgD) : ProgD := ⟨p.datas.map bareD, p.binds.map bareB⟩
theorem bareP_fine {p : ProgD} (h : FineP p) : FineP (bareP p) where
  binds := by simpa [bareP] using h.binds
  datas := by simpa [bareP] using h.datas
  bodies := by
    intro b hb
    obtain ⟨c, hc, rfl⟩ := List.mem_map.1 hb
    exact fine_bare _ (h.bodies c hc)
  cons := by
    intro d hd
    obtain ⟨c, hc, rfl⟩ := List.mem_map.1 hd
    simpa [bareD] using h.cons c hc
  args := by
    intro d hd c hc
    obtain ⟨d', hd', rfl⟩ := List.mem_map.1 hd
    obtain ⟨c', hc', rfl⟩ := List.mem_map.1 hc
    exact h.args d' hd' c' hc'
theorem take_map {α β γ : Type} {g : α → β} {f : β → γ} {l : List α} {m : Nat} {x : α} (h : l[m]? = some x) : (((l.take (m + 1)).map g).map f) = ((l.take m).map g).map f ++ [f (g x)] := by
  rw [List.take_add_one, h]
  simp
set_option maxHeartbeats 8000000 in
theorem bareP_ct {p : ProgD} (hp : FineP p) : Ct 19 [.val (.agg (progC p))] [.val (.agg (progC (bareP p)))] [] := by
  refine ct Tryd.func19 (by kernel_rfl) ?_
  obtain ⟨ds, bs⟩ := p
  obtain ⟨f1, f2, f3, f4, f5⟩ := hp
  unfold bareP
  simp only at f1 f2 f3 f4 f5 ⊢
  conv => whnf
  refine ⟨fun j st => ∃ m i, j = ds.length - m ∧ m ≤ ds.length ∧ i = ((m : Nat) : Int) ∧
    st = ⟨[(4, .one (.v (.int .i64 i))), (1, .one (.ptr 1 0 0)), (2, .one (.ptr 2 0 0)), (3, .one (.ptr 3 0 0))],
      [(1, ⟨0, 26, progC ⟨ds, bs⟩⟩), (2, ⟨0, 26, [.nil 62 4, .nil 55 8]⟩), (3, ⟨0, 26, [.sl 62 4 (((ds.take m).map bareD).map dataC) (some (63, 0)), .nil 55 8]⟩)], [(63, ⟨0, 62, 4, true⟩)]⟩,
    ⟨_, _, wk [4, 1, 2, 3] [1, 2, 3] [] [] [] [(3, 0, 63, 62, 4)] rfl, 0, 0, rfl, Nat.zero_le _, rfl, rfl⟩, ?_⟩
  rintro j st ⟨m, i, rfl, hm, rfl, rfl⟩
  have hacc : (((ds.take m).map bareD).map dataC).length ≤ 4294967296 := by
    simp only [List.length_map, List.length_take]
    omega
  conv => whnf
  cases hlt : decide (((m : Nat) : Int) < ((ds.map dataC).length : Int))
  · have : m = ds.length := by simp at hlt; omega
    subst this
    rw [List.take_length]
    conv => whnf
    refine ⟨fun j st => ∃ m i, j = bs.length - m ∧ m ≤ bs.length ∧ i = ((m : Nat) : Int) ∧
      st = ⟨[(8, .one (.v (.int .i64 i))), (1, .one (.ptr 1 0 0)), (2, .one (.ptr 2 0 0)), (3, .one (.ptr 3 0 0))],
        [(1, ⟨0, 26, progC ⟨ds, bs⟩⟩), (2, ⟨0, 26, [.nil 62 4, .nil 55 8]⟩), (3, ⟨0, 26, [.sl 62 4 ((ds.map bareD).map dataC) (some (63, 0)), .sl 55 8 (((bs.take m).map bareB).map bindC) (some (89, 0))]⟩)], [(63, ⟨0, 62, 4, true⟩), (89, ⟨0, 55, 8, true⟩)]⟩,
      ⟨_, _, wk [8, 1, 2, 3] [1, 2, 3] [63] [] [] [(3, 1, 89, 55, 8)] rfl, 0, 0, rfl, Nat.zero_le _, rfl, rfl⟩, ?_⟩
    rintro j st ⟨m, i, rfl, hm, rfl, rfl⟩
    have hacc2 : (((bs.take m).map bareB).map bindC).length ≤ 4294967296 := by
      simp only [List.length_map, List.length_take]
      omega
    conv => whnf
    cases hlt : decide (((m : Nat) : Int) < ((bs.map bindC).length : Int))
    · have : m = bs.length := by simp at hlt; omega
      subst this
      rw [List.take_length]
      conv => whnf
      exact ⟨rfl, rfl⟩
    · have hm2 : m < bs.length := by simpa using hlt
      have hg : 0 ≤ (m : Int) ∧ (bs.map bindC)[((m : Nat) : Int).toNat]? = some (bindC bs[m]) := get_map (List.getElem?_eq_getElem hm2)
      have htk := take_map (g := bareB) (f := bindC) (List.getElem?_eq_getElem hm2)
      have hfb := f3 bs[m] (List.getElem_mem hm2)
      generalize bs[m] = t2 at hg htk hfb
      obtain ⟨s2, a2, k3, a3, s3, n3, kids3, alts3⟩ := t2
      conv => whnf
      refine ⟨_, hg, ?_⟩
      conv => whnf
      refine ⟨_, hg, ?_⟩
      conv => whnf
      refine ⟨_, _, bare_ct _ _ (Nat.lt_succ_self _) hfb, ?_⟩
      conv => whnf
      refine ⟨by simp [lim]; omega, ?_⟩
      conv => whnf
      refine ⟨by kernel_rfl, ?_⟩
      conv => whnf
      refine ⟨_, _, ?_, wk [8, 1, 2, 3] [1, 2, 3] [63, 89] [] [] [] rfl, m + 1, _, rfl, hm2, i64_id (x := (m : Int) + 1) (by omega) (by omega), by rw [htk]; rfl⟩
      omega
  · have hm2 : m < ds.length := by simpa using hlt
    have hg : 0 ≤ (m : Int) ∧ (ds.map dataC)[((m : Nat) : Int).toNat]? = some (dataC ds[m]) := get_map (List.getElem?_eq_getElem hm2)
    have htk := take_map (g := bareD) (f := dataC) (List.getElem?_eq_getElem hm2)
    have hfc := (f4 ds[m] (List.getElem_mem hm2)).1
    generalize ds[m] = t2 at hg htk hfc
    obtain ⟨s2, a2, vs2, cs2⟩ := t2
    simp only at hfc
    conv => whnf
    refine ⟨_, hg, ?_⟩
    conv => whnf
    refine ⟨_, hg, ?_⟩
    conv => whnf
    refine ⟨by kernel_rfl, ?_⟩
    conv => whnf
    refine ⟨fun j st => ∃ m2 i2, j = cs2.length - m2 ∧ m2 ≤ cs2.length ∧ i2 = ((m2 : Nat) : Int) ∧
      st = ⟨[(6, .one (.v (.int .i64 i2))), (4, .one (.v (.int .i64 (m : Int)))), (1, .one (.ptr 1 0 0)), (2, .one (.ptr 2 0 0)), (3, .one (.ptr 3 0 0)), (5, .one (.ptr 5 0 0))],
        [(1, ⟨0, 26, progC ⟨ds, bs⟩⟩), (2, ⟨0, 26, [.nil 62 4, .nil 55 8]⟩), (3, ⟨0, 26, [.sl 62 4 (((ds.take m).map bareD).map dataC) (some (63, 0)), .nil 55 8]⟩), (5, ⟨0, 62, [.v (.string s2), .v (.int .i64 0), .sl 9 1 (vs2.map str) none, .sl 64 3 (((cs2.take m2).map bareC).map conC) (some (57, 0))]⟩)], [(63, ⟨0, 62, 4, true⟩), (57, ⟨0, 64, 3, true⟩)]⟩,
      ⟨_, _, wk [6, 4, 1, 2, 3, 5] [1, 2, 3, 5] [63] [] [] [(5, 3, 57, 64, 3)] rfl, 0, 0, rfl, Nat.zero_le _, rfl, rfl⟩, ?_⟩
    rintro j st ⟨m2, i2, rfl, hmm, rfl, rfl⟩
    have hacc3 : (((cs2.take m2).map bareC).map conC).length ≤ 4294967296 := by
      simp only [List.length_map, List.length_take]
      omega
    conv => whnf
    refine ⟨_, hg, ?_⟩
    conv => whnf
    cases hlt2 : decide (((m2 : Nat) : Int) < ((cs2.map conC).length : Int))
    · have : m2 = cs2.length := by simp at hlt2; omega
      subst this
      rw [List.take_length]
      conv => whnf
      refine ⟨by simp [lim]; omega, ?_⟩
      conv => whnf
      refine ⟨_, _, ?_, wk [4, 1, 2, 3] [1, 2, 3] [63] [] [] [] rfl, m + 1, _, rfl, hm2, i64_id (x := (m : Int) + 1) (by omega) (by omega), by rw [htk]; rfl⟩
      omega
    · have hm3 : m2 < cs2.length := by simpa using hlt2
      have hg2 : 0 ≤ (m2 : Int) ∧ (cs2.map conC)[((m2 : Nat) : Int).toNat]? = some (conC cs2[m2]) := get_map (List.getElem?_eq_getElem hm3)
      have htk2 := take_map (g := bareC) (f := conC) (List.getElem?_eq_getElem hm3)
      generalize cs2[m2] = c2 at hg2 htk2
      obtain ⟨s4, a4, args4⟩ := c2
      conv => whnf
      refine ⟨_, hg, ?_⟩
      conv => whnf
      refine ⟨_, hg2, ?_⟩
      conv => whnf
      refine ⟨by simp [lim]; omega, ?_⟩
      conv => whnf
      refine ⟨_, _, ?_, wk [6, 4, 1, 2, 3, 5] [1, 2, 3, 5] [63, 57] [] [] [] rfl, m2 + 1, _, rfl, hm3, i64_id (x := (m2 : Int) + 1) (by omega) (by omega), by rw [htk2]; rfl⟩
      omega
end Go.Proofs.YtoapgongbackaaaDoor.V
