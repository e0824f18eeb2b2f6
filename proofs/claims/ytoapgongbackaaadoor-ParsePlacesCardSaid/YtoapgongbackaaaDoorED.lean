/-
  What the functions of package parse come to, each by one theorem (Ct: a call's results). Conditions stand in the theorems (lists of tokens are short).
-/
import Derived.Test.YtoapgongbackaaaDoorEC
set_option linter.unusedVariables false
set_option linter.unusedSimpArgs false
/-! U1: the program's parser: its small parts. -/
namespace Go.Proofs.YtoapgongbackaaaDoor.V
open Go Go.Proofs
set_option maxRecDepth 100000

structure Tok where
  k : Int
  at_ : Int
  s : ByteArray
  n : Int
@[reducible] def tok (t : Tok) : List AC := [.v (.int .i64 t.k), .v (.int .i64 t.at_), .v (.string t.s), .v (.int .i64 t.n)]
structure Sg where
  k : Int
  s : ByteArray
@[reducible] def sgn (x : Sg) : List AC := [.v (.int .i64 x.k), .v (.string x.s)]
/-- The parser: the token that comes next, those behind it. -/
structure PS where
  t : Tok
  r : List Tok
  bad : Bool
  at_ : Int
@[reducible] def par (s : PS) : List AC := [.sl 74 4 (tok s.t :: s.r.map tok) none, .v (.bool s.bad), .v (.int .i64 s.at_)]
@[reducible] def parA (s : PS) : Arg := .box 76 (par s)

def ofP (t : Tok) : Sg := if t.k = 4 then ⟨t.k, t.s⟩ else if t.k = 5 then ⟨t.k, t.s⟩ else ⟨t.k, .empty⟩
theorem of_ct (t : Tok) : Ct 96 [.val (.agg (tok t))] [.val (.agg (sgn (ofP t)))] [] := by
  refine ct Tryd.func96 (by kernel_rfl) ?_
  unfold ofP
  conv => whnf
  cases h : decide (t.k = 4)
  · rw [if_neg (of_decide_eq_false h)]
    conv => whnf
    cases h' : decide (t.k = 5)
    · rw [if_neg (of_decide_eq_false h')]
      conv => whnf
      exact ⟨rfl, rfl⟩
    · rw [if_pos (of_decide_eq_true h')]
      conv => whnf
      exact ⟨rfl, rfl⟩
  · rw [if_pos (of_decide_eq_true h)]
    conv => whnf
    exact ⟨rfl, rfl⟩
theorem word_ct (s : ByteArray) : Ct 44 [.val (.one (.v (.string s)))] [.val (.agg (sgn ⟨4, s⟩))] [] := by
  refine ct Tryd.func44 (by kernel_rfl) ?_
  conv => whnf
  exact ⟨rfl, rfl⟩
theorem mark_ct (s : ByteArray) : Ct 48 [.val (.one (.v (.string s)))] [.val (.agg (sgn ⟨5, s⟩))] [] := by
  refine ct Tryd.func48 (by kernel_rfl) ?_
  conv => whnf
  exact ⟨rfl, rfl⟩
def failP (s : PS) : PS := match s.bad with
  | true => s
  | false => { s with bad := true, at_ := s.t.at_ }
theorem fail_ct (s : PS) : Ct 49 [parA s] [] [par (failP s)] := by
  obtain ⟨t, r, bad, a⟩ := s
  refine ct Tryd.func49 (by kernel_rfl) ?_
  cases bad
  · conv => whnf
    refine ⟨_, ⟨by decide, rfl⟩, ?_⟩
    conv => whnf
    exact ⟨rfl, rfl⟩
  · conv => whnf
    exact ⟨rfl, rfl⟩
def nextP (s : PS) (x : Sg) : Bool := match s.bad with
  | true => false
  | false => decide ((ofP s.t).k = x.k) && decide ((ofP s.t).s = x.s)
theorem next_ct (s : PS) (x : Sg) : Ct 80 [parA s, .val (.agg (sgn x))] [.val (.one (.v (.bool (nextP s x))))] [par s] := by
  obtain ⟨t, r, bad, a⟩ := s
  refine ct Tryd.func80 (by kernel_rfl) ?_
  cases bad
  · conv => whnf
    refine ⟨_, ⟨by decide, rfl⟩, ?_⟩
    conv => whnf
    refine ⟨_, _, of_ct t, ?_⟩
    conv => whnf
    refine ⟨by kernel_rfl, ?_⟩
    conv => whnf
    exact ⟨rfl, rfl⟩
  · conv => whnf
    refine ⟨by kernel_rfl, ?_⟩
    conv => whnf
    exact ⟨rfl, rfl⟩
def takeP (s : PS) : PS := match s.r with
  | [] => s
  | t :: r => { s with t := t, r := r }
theorem take_ct (s : PS) : Ct 81 [parA s] [.val (.agg (tok s.t))] [par (takeP s)] := by
  obtain ⟨t, r, bad, a⟩ := s
  refine ct Tryd.func81 (by kernel_rfl) ?_
  conv => whnf
  refine ⟨_, ⟨by decide, rfl⟩, ?_⟩
  conv => whnf
  cases r with
  | nil =>
    conv => whnf
    exact ⟨rfl, rfl⟩
  | cons t2 r =>
    have h : decide ((1 : Int) < (((tok t :: (t2 :: r).map tok).length : Nat) : Int)) = true := by simp; omega
    rw [h]
    conv => whnf
    refine ⟨by simp; omega, ?_⟩
    conv => whnf
    exact ⟨rfl, rfl⟩
def skipP (s : PS) (x : Sg) : Bool × PS := match nextP s x with
  | true => (true, takeP s)
  | false => (false, s)
theorem skip_ct (s : PS) (x : Sg) : Ct 43 [parA s, .val (.agg (sgn x))] [.val (.one (.v (.bool (skipP s x).1)))] [par (skipP s x).2] := by
  refine ct Tryd.func43 (by kernel_rfl) ?_
  unfold skipP
  conv => whnf
  refine ⟨_, _, next_ct s x, ?_⟩
  cases hn : nextP s x
  · conv => whnf
    exact ⟨rfl, rfl⟩
  · conv => whnf
    refine ⟨_, _, take_ct s, ?_⟩
    conv => whnf
    exact ⟨rfl, rfl⟩
def noTok : Tok := ⟨0, 0, .empty, 0⟩
def needP (s : PS) (x : Sg) : Tok × PS := match nextP s x with
  | true => (s.t, takeP s)
  | false => (noTok, failP s)
theorem need_ct (s : PS) (x : Sg) : Ct 46 [parA s, .val (.agg (sgn x))] [.val (.agg (tok (needP s x).1))] [par (needP s x).2] := by
  refine ct Tryd.func46 (by kernel_rfl) ?_
  unfold needP
  conv => whnf
  refine ⟨_, _, next_ct s x, ?_⟩
  cases hn : nextP s x
  · conv => whnf
    refine ⟨_, _, fail_ct s, ?_⟩
    conv => whnf
    exact ⟨rfl, rfl⟩
  · conv => whnf
    refine ⟨_, _, take_ct s, ?_⟩
    conv => whnf
    exact ⟨rfl, rfl⟩
/-- Names, as many as come. -/
def namesL (k : Tok → List Tok → PS) : Tok → List Tok → Option (List Tok × PS)
  | t, [] => match nextP (k t []) ⟨1, .empty⟩ with
    | true => none
    | false => some ([], k t [])
  | t, t' :: r => match nextP (k t (t' :: r)) ⟨1, .empty⟩ with
    | true => (namesL k t' r).map fun x => (t :: x.1, x.2)
    | false => some ([], k t (t' :: r))
def namesP (s : PS) : Option (List Tok × PS) := namesL (fun t r => ⟨t, r, s.bad, s.at_⟩) s.t s.r
theorem names_ct (s : PS) (l : List Tok) (s' : PS) (hB : s.r.length ≤ 4294967296) (h : namesP s = some (l, s')) : Ct 83 [parA s] [.row 74 4 (l.map tok)] [par s'] := by
  refine ct Tryd.func83 (by kernel_rfl) ?_
  conv => whnf
  refine ⟨fun n st => ∃ acc s1 l2, n = s1.r.length ∧ namesP s1 = some (l2, s') ∧ l = acc ++ l2 ∧ acc.length + s1.r.length ≤ 4294967296 ∧
    st = ⟨[(3, .one (.sl 74 4 (acc.map tok) (some (11, 0)))), (0, .one (.ptr 0 0 0))], [(0, ⟨0, 76, par s1⟩)], [(11, ⟨0, 74, 4, true⟩)]⟩,
    ⟨_, _, wk [3, 0] [0] [] [] [(3, 11, 74, 4)] [] rfl, [], s, l, rfl, h, rfl, by simpa using hB, rfl⟩, ?_⟩
  rintro n st ⟨acc, s1, l2, rfl, h1, rfl, hb, rfl⟩
  conv => whnf
  refine ⟨_, _, next_ct s1 ⟨1, .empty⟩, ?_⟩
  obtain ⟨t, r, b, a⟩ := s1
  cases hn : nextP ⟨t, r, b, a⟩ ⟨1, .empty⟩
  · conv => whnf
    have : l2 = [] ∧ s' = ⟨t, r, b, a⟩ := by
      unfold namesP at h1
      cases r <;> simp only [namesL, hn, Option.some.injEq, Prod.mk.injEq] at h1 <;> exact ⟨h1.1.symm, h1.2.symm⟩
    obtain ⟨rfl, rfl⟩ := this
    rw [List.append_nil]
    exact ⟨rfl, rfl⟩
  · conv => whnf
    refine ⟨_, _, take_ct ⟨t, r, b, a⟩, ?_⟩
    cases r with
    | nil => simp only [namesP, namesL, hn] at h1; cases h1
    | cons t2 r =>
      simp only [namesP, namesL, hn, Option.map_eq_some_iff] at h1
      obtain ⟨⟨l3, s3⟩, h2, h3⟩ := h1
      simp only [Prod.mk.injEq] at h3
      obtain ⟨rfl, rfl⟩ := h3
      conv => whnf
      refine ⟨by simp [lim] at hb ⊢; omega, ?_⟩
      conv => whnf
      refine ⟨_, _, ?_, wk [3, 0] [0] [11] [] [] [] rfl, acc ++ [t], ⟨t2, r, b, a⟩, l3, rfl, h2, by simp, by simp at hb ⊢; omega, by rw [List.map_append]; rfl⟩
      simp
end Go.Proofs.YtoapgongbackaaaDoor.V

/-! U2: the program's parser: types. -/
namespace Go.Proofs.YtoapgongbackaaaDoor.V
open Go Go.Proofs
set_option maxRecDepth 100000

theorem i64_id {x : Int} (h1 : -9223372036854775808 ≤ x) (h2 : x ≤ 9223372036854775807) : IntKind.i64.wrap x = x := by
  simp only [IntKind.wrap, IntKind.bits, IntKind.signed]
  simp only [Bool.true_and]
  split
  · rename_i h; simp only [ge_iff_le, decide_eq_true_eq] at h; omega
  · rename_i h; simp only [ge_iff_le, decide_eq_true_eq] at h; omega
@[reducible] def str (s : ByteArray) : List AC := [.v (.string s)]
theorem get_map {α : Type} {f : α → List AC} {l : List α} {m : Nat} {x : α} (h : l[m]? = some x) : 0 ≤ (m : Int) ∧ (l.map f)[((m : Nat) : Int).toNat]? = some (f x) := ⟨by omega, by simp [h]⟩
theorem texts_ct (l : List Tok) (hB : l.length ≤ 4294967296) : Ct 82 [.val (.one (.sl 74 4 (l.map tok) none))] [.row 9 1 ((l.map (·.s)).map str)] [] := by
  refine ct Tryd.func82 (by kernel_rfl) ?_
  conv => whnf
  refine ⟨fun n st => ∃ m i, n = l.length - m ∧ m ≤ l.length ∧ i = ((m : Nat) : Int) ∧
    st = ⟨[(8, .one (.v (.int .i64 i))), (7, .one (.v (.int .i64 ((l.map tok).length : Int)))), (6, .one (.sl 74 4 (l.map tok) none)), (3, .one (.sl 9 1 (((l.take m).map (·.s)).map str) (some (16, 0))))], [], [(16, ⟨0, 9, 1, true⟩)]⟩,
    ⟨_, _, wk [8, 7, 6, 3] [] [] [] [(3, 16, 9, 1)] [] rfl, 0, 0, rfl, Nat.zero_le _, rfl, rfl⟩, ?_⟩
  rintro n st ⟨m, i, rfl, hm, rfl, rfl⟩
  conv => whnf
  cases hlt : decide (((m : Nat) : Int) < ((l.map tok).length : Int))
  · conv => whnf
    have : m = l.length := by simp at hlt; omega
    subst this
    rw [List.take_length]
    exact ⟨rfl, rfl⟩
  · conv => whnf
    have hm2 : m < l.length := by simpa using hlt
    refine ⟨_, get_map (List.getElem?_eq_getElem hm2), ?_⟩
    conv => whnf
    refine ⟨by simp [lim]; omega, ?_⟩
    conv => whnf
    refine ⟨_, _, ?_, wk [8, 7, 6, 3] [] [16] [] [] [] rfl, m + 1, _, rfl, hm2, i64_id (x := (m : Int) + 1) (by omega) (by omega), ?_⟩
    · omega
    · rw [List.take_succ_eq_append_getElem hm2, List.map_append, List.map_append]; rfl
def markS (s : ByteArray) : Sg := ⟨5, s⟩
def lpar : Sg := ⟨5, ⟨#[40]⟩⟩
def rpar : Sg := ⟨5, ⟨#[41]⟩⟩
def comma : Sg := ⟨5, ⟨#[44]⟩⟩
def arrow : Sg := ⟨5, ⟨#[45, 62]⟩⟩
def nameS : Sg := ⟨1, .empty⟩
def conS : Sg := ⟨2, .empty⟩
def atomicP (s : PS) : Bool := nextP s nameS || nextP s conS || nextP s lpar
theorem atomic_ct (s : PS) : Ct 84 [parA s] [.val (.one (.v (.bool (atomicP s))))] [par s] := by
  refine ct Tryd.func84 (by kernel_rfl) ?_
  unfold atomicP
  conv => whnf
  refine ⟨_, _, next_ct s nameS, ?_⟩
  cases h1 : nextP s nameS
  · conv => whnf
    refine ⟨_, _, next_ct s conS, ?_⟩
    cases h2 : nextP s conS
    · conv => whnf
      refine ⟨_, _, mark_ct _, ?_⟩
      conv => whnf
      refine ⟨_, _, next_ct s lpar, ?_⟩
      conv => whnf
      exact ⟨rfl, rfl⟩
    · conv => whnf
      exact ⟨rfl, rfl⟩
  · conv => whnf
    exact ⟨rfl, rfl⟩
/-- Whether a further part of a bracket comes, behind so many. -/
def moreP (s : PS) (n : Int) : Bool × PS := match decide (8 ≤ n) with
  | true => match nextP s comma with
    | true => skipP (failP s) comma
    | false => skipP s comma
  | false => skipP s comma
theorem more_ct (s : PS) (n : Int) : Ct 99 [parA s, .val (.one (.v (.int .i64 n)))] [.val (.one (.v (.bool (moreP s n).1)))] [par (moreP s n).2] := by
  refine ct Tryd.func99 (by kernel_rfl) ?_
  unfold moreP
  conv => whnf
  cases h1 : decide (8 ≤ n)
  · conv => whnf
    refine ⟨_, _, mark_ct _, ?_⟩
    conv => whnf
    refine ⟨_, _, skip_ct s comma, ?_⟩
    conv => whnf
    exact ⟨rfl, rfl⟩
  · conv => whnf
    refine ⟨_, _, mark_ct _, ?_⟩
    conv => whnf
    refine ⟨_, _, next_ct s comma, ?_⟩
    cases h2 : nextP s comma
    · conv => whnf
      refine ⟨_, _, mark_ct _, ?_⟩
      conv => whnf
      refine ⟨_, _, skip_ct s comma, ?_⟩
      conv => whnf
      exact ⟨rfl, rfl⟩
    · conv => whnf
      refine ⟨_, _, fail_ct s, ?_⟩
      conv => whnf
      refine ⟨_, _, mark_ct _, ?_⟩
      conv => whnf
      refine ⟨_, _, skip_ct (failP s) comma, ?_⟩
      conv => whnf
      exact ⟨rfl, rfl⟩
/-- The place of a text among some, from a place on. -/
def indexFrom (v : ByteArray) : List ByteArray → Nat → Int
  | [], _ => -1
  | x :: xs, i => match decide (v = x) with
    | true => i
    | false => indexFrom v xs (i + 1)
theorem index_ct (l : List ByteArray) (v : ByteArray) (hB : l.length ≤ 4294967296) : Ct 97 [.val (.one (.sl 9 1 (l.map str) none)), .val (.one (.v (.string v)))] [.val (.one (.v (.int .i64 (indexFrom v l 0))))] [] := by
  refine ct Tryd.func97 (by kernel_rfl) ?_
  conv => whnf
  refine ⟨fun n st => ∃ m i, n = l.length - m ∧ m ≤ l.length ∧ i = ((m : Nat) : Int) ∧ indexFrom v l 0 = indexFrom v (l.drop m) m ∧
    st = ⟨[(8, .one (.v (.int .i64 i))), (7, .one (.v (.int .i64 ((l.map str).length : Int)))), (6, .one (.sl 9 1 (l.map str) none)), (0, .one (.sl 9 1 (l.map str) none)), (1, .one (.v (.string v)))], [], []⟩,
    ⟨_, _, wk [8, 7, 6, 0, 1] [] [] [] [] [] rfl, 0, 0, rfl, Nat.zero_le _, rfl, rfl, rfl⟩, ?_⟩
  rintro n st ⟨m, i, rfl, hm, rfl, hix, rfl⟩
  conv => whnf
  cases hlt : decide (((m : Nat) : Int) < ((l.map str).length : Int))
  · conv => whnf
    have : m = l.length := by simp at hlt; omega
    subst this
    rw [hix, List.drop_length]
    exact ⟨rfl, rfl⟩
  · have hm2 : m < l.length := by simpa using hlt
    rw [List.drop_eq_getElem_cons hm2] at hix
    simp only [indexFrom] at hix
    conv => whnf
    refine ⟨_, get_map (List.getElem?_eq_getElem hm2), ?_⟩
    conv => whnf
    cases he : decide (v = l[m])
    · rw [he] at hix
      conv => whnf
      refine ⟨_, _, ?_, wk [8, 7, 6, 0, 1] [] [] [] [] [] rfl, m + 1, _, rfl, hm2, i64_id (x := (m : Int) + 1) (by omega) (by omega), hix, rfl⟩
      omega
    · rw [he] at hix
      conv => whnf
      rw [hix]
      exact ⟨rfl, rfl⟩
end Go.Proofs.YtoapgongbackaaaDoor.V

/-! U3: the program's parser: types, with brackets and arrows. -/
namespace Go.Proofs.YtoapgongbackaaaDoor.V
open Go Go.Proofs
set_option maxRecDepth 100000

inductive Ty where
  | mk (k n : Int) (s : ByteArray) (kids : List Ty)
mutual
def tyC : Ty → List AC
  | .mk k n s kids => [.v (.int .i64 k), .v (.int .i64 n), .v (.string s), .sl 59 4 (tysC kids) none]
def tysC : List Ty → List (List AC)
  | [] => []
  | t :: l => tyC t :: tysC l
end
theorem tysC_append : ∀ (l l' : List Ty), tysC (l ++ l') = tysC l ++ tysC l'
  | [], _ => rfl
  | t :: l, l' => by simp [tysC, tysC_append l l']
theorem tysC_length : ∀ l : List Ty, (tysC l).length = l.length
  | [] => rfl
  | t :: l => by simp [tysC, tysC_length l]
theorem tysC_get : ∀ {l : List Ty} {i : Nat} {t : Ty}, l[i]? = some t → (tysC l)[i]? = some (tyC t)
  | [], _, _, h => by simp at h
  | t :: l, 0, _, h => by simp at h; subst h; rfl
  | t :: l, i + 1, _, h => by simpa [tysC] using tysC_get (l := l) (by simpa using h)
def commaT : ByteArray := ⟨#[44]⟩
def arrowT : ByteArray := ⟨#[45, 62]⟩
mutual
def atypeP : Nat → List ByteArray → PS → Option (Ty × PS)
  | 0, _, _ => none
  | k + 1, vars, s => match nextP s nameS with
    | true => match decide (0 ≤ indexFrom s.t.s vars 0) with
      | true => some (.mk 1 (indexFrom s.t.s vars 0) .empty [], takeP s)
      | false => some (.mk 1 (-1) s.t.s [], takeP s)
    | false => match nextP s conS with
      | true => some (.mk 2 0 s.t.s [], takeP s)
      | false => match (needP s lpar).2.bad with
        | true => some (.mk 0 0 .empty [], (needP s lpar).2)
        | false => match typP k vars (needP s lpar).2 with
          | none => none
          | some (t, s2) => match atypesP k vars [t] s2 with
            | none => none
            | some (l, s3) => match l with
              | [t] => some (t, (needP s3 rpar).2)
              | l => some (.mk 2 0 commaT l, (needP s3 rpar).2)
def atypesP : Nat → List ByteArray → List Ty → PS → Option (List Ty × PS)
  | 0, _, _, _ => none
  | k + 1, vars, acc, s => match (moreP s acc.length).1 with
    | false => some (acc, (moreP s acc.length).2)
    | true => match typP k vars (moreP s acc.length).2 with
      | none => none
      | some (t, s2) => atypesP k vars (acc ++ [t]) s2
def typP : Nat → List ByteArray → PS → Option (Ty × PS)
  | 0, _, _ => none
  | k + 1, vars, s => match nextP s conS with
    | true => match kidsP k vars [] (takeP s) with
      | none => none
      | some (ks, s1) => tailP k vars (.mk 2 0 s.t.s ks) s1
    | false => match atypeP k vars s with
      | none => none
      | some (t, s1) => tailP k vars t s1
def tailP : Nat → List ByteArray → Ty → PS → Option (Ty × PS)
  | 0, _, _, _ => none
  | k + 1, vars, t, s => match (skipP s arrow).1 with
    | false => some (t, (skipP s arrow).2)
    | true => match typP k vars (skipP s arrow).2 with
      | none => none
      | some (u, s3) => some (.mk 2 0 arrowT [t, u], s3)
def kidsP : Nat → List ByteArray → List Ty → PS → Option (List Ty × PS)
  | 0, _, _, _ => none
  | k + 1, vars, acc, s => match atomicP s with
    | false => some (acc, s)
    | true => match atypeP k vars s with
      | none => none
      | some (t, s1) => kidsP k vars (acc ++ [t]) s1
end
abbrev varsA (vars : List ByteArray) : Arg := .val (.one (.sl 9 1 (vars.map str) none))
theorem ty_ct : ∀ (k : Nat), k ≤ 4294967296 → (∀ vars s t s', vars.length ≤ 4294967296 → atypeP k vars s = some (t, s') → Ct 85 [parA s, varsA vars] [.val (.agg (tyC t))] [par s']) ∧
    ∀ vars s t s', vars.length ≤ 4294967296 → typP k vars s = some (t, s') → Ct 98 [parA s, varsA vars] [.val (.agg (tyC t))] [par s'] := by
  intro k
  induction k using Nat.strongRecOn with
  | _ k ih =>
    intro hk
    constructor
    · intro vars s t s' hv h
      cases k with
      | zero => simp [atypeP] at h
      | succ k =>
        refine ct Tryd.func85 (by kernel_rfl) ?_
        unfold atypeP at h
        conv => whnf
        refine ⟨_, _, next_ct s nameS, ?_⟩
        cases h1 : nextP s nameS
        · rw [h1] at h
          simp only at h
          conv => whnf
          refine ⟨_, _, next_ct s conS, ?_⟩
          cases h2 : nextP s conS
          · rw [h2] at h
            simp only at h
            conv => whnf
            refine ⟨_, _, mark_ct _, ?_⟩
            conv => whnf
            refine ⟨_, _, need_ct s lpar, ?_⟩
            generalize (needP s lpar).2 = s1 at h
            obtain ⟨t1, r1, b1, a1⟩ := s1
            cases b1
            · simp only at h
              split at h
              · cases h
              · rename_i t2 s2 h3
                split at h
                · cases h
                · rename_i l s3 h4
                  conv => whnf
                  obtain ⟨k2, n2, st2, ks2⟩ := t2
                  refine ⟨_, _, (ih k (by omega) (by omega)).2 vars _ _ _ hv h3, ?_⟩
                  conv => whnf
                  refine ⟨fun j st => ∃ acc s5, j ≤ k ∧ atypesP j vars acc s5 = some (l, s3) ∧ acc.length + j ≤ 4294967296 + 4294967296 ∧
                    st = ⟨[(7, .one (.sl 59 4 (tysC acc) (some (53, 0)))), (0, .one (.ptr 0 0 0)), (1, .one (.sl 9 1 (vars.map str) none)), (4, .one (.ptr 4 0 0))],
                      [(0, ⟨0, 76, par s5⟩), (4, ⟨0, 59, [.v (.int .i64 0), .v (.int .i64 0), .v (.string .empty), .nil 59 4]⟩)], [(53, ⟨0, 59, 4, true⟩)]⟩,
                    ⟨_, _, wk [7, 0, 1, 4] [0, 4] [43] [(43, 53)] [] [] rfl, [.mk k2 n2 st2 ks2], s2, Nat.le_refl k, h4, by simp; omega, rfl⟩, ?_⟩
                  rintro j st ⟨acc, s5, hj, h5, hlen, rfl⟩
                  conv => whnf
                  refine ⟨_, _, more_ct s5 ((tysC acc).length : Int), ?_⟩
                  cases j with
                  | zero => simp [atypesP] at h5
                  | succ j =>
                    rw [tysC_length]
                    unfold atypesP at h5
                    cases hm : (moreP s5 (acc.length : Int)).1
                    · rw [hm] at h5
                      simp only [Option.some.injEq, Prod.mk.injEq] at h5
                      obtain ⟨rfl, h6⟩ := h5
                      conv => whnf
                      refine ⟨_, _, mark_ct _, ?_⟩
                      rw [h6]
                      conv => whnf
                      refine ⟨_, _, need_ct s3 rpar, ?_⟩
                      conv => whnf
                      cases hl : decide (((tysC acc).length : Int) = 1)
                      · have hne : acc.length ≠ 1 := by have := of_decide_eq_false hl; rw [tysC_length] at this; omega
                        split at h
                        · simp at hne
                        · simp only [Option.some.injEq, Prod.mk.injEq] at h
                          obtain ⟨rfl, rfl⟩ := h
                          conv => whnf
                          exact ⟨rfl, rfl⟩
                      · have he : acc.length = 1 := by have := of_decide_eq_true hl; rw [tysC_length] at this; omega
                        match acc, he with
                        | [.mk k3 n3 st3 ks3], _ =>
                          simp only [Option.some.injEq, Prod.mk.injEq] at h
                          obtain ⟨rfl, rfl⟩ := h
                          conv => whnf
                          refine ⟨_, ⟨by decide, rfl⟩, ?_⟩
                          conv => whnf
                          exact ⟨rfl, rfl⟩
                    · rw [hm] at h5
                      simp only at h5
                      split at h5
                      · cases h5
                      · rename_i t6 s6 h6
                        obtain ⟨k6, n6, st6, ks6⟩ := t6
                        conv => whnf
                        refine ⟨_, _, (ih j (by omega) (by omega)).2 vars _ _ _ hv h6, ?_⟩
                        conv => whnf
                        refine ⟨by rw [tysC_length]; simp [lim]; omega, ?_⟩
                        conv => whnf
                        refine ⟨j, _, Nat.lt_succ_self j, wk [7, 0, 1, 4] [0, 4] [53] [] [] [] rfl, _, s6, by omega, h5, by simp; omega, by rw [tysC_append]; rfl⟩
            · simp only [Option.some.injEq, Prod.mk.injEq] at h
              obtain ⟨rfl, rfl⟩ := h
              conv => whnf
              exact ⟨rfl, rfl⟩
          · rw [h2] at h
            simp only [Option.some.injEq, Prod.mk.injEq] at h
            obtain ⟨rfl, rfl⟩ := h
            conv => whnf
            refine ⟨_, _, take_ct s, ?_⟩
            conv => whnf
            exact ⟨rfl, rfl⟩
        · rw [h1] at h
          simp only at h
          conv => whnf
          refine ⟨_, _, take_ct s, ?_⟩
          conv => whnf
          refine ⟨_, _, index_ct vars s.t.s hv, ?_⟩
          conv => whnf
          cases h2 : decide (0 ≤ indexFrom s.t.s vars 0)
          · rw [h2] at h
            simp only [Option.some.injEq, Prod.mk.injEq] at h
            obtain ⟨rfl, rfl⟩ := h
            conv => whnf
            exact ⟨rfl, rfl⟩
          · rw [h2] at h
            simp only [Option.some.injEq, Prod.mk.injEq] at h
            obtain ⟨rfl, rfl⟩ := h
            conv => whnf
            exact ⟨rfl, rfl⟩
    · intro vars s t s' hv h
      cases k with
      | zero => simp [typP] at h
      | succ k =>
        refine ct Tryd.func98 (by kernel_rfl) ?_
        unfold typP at h
        -- behind the first part
        conv => whnf
        refine ⟨_, _, next_ct s conS, ?_⟩
        cases h1 : nextP s conS
        · rw [h1] at h
          simp only at h
          split at h
          · cases h
          · rename_i t1 s1 h2
            obtain ⟨k1, n1, st1, ks1⟩ := t1
            conv => whnf
            refine ⟨_, _, (ih k (by omega) (by omega)).1 vars _ _ _ hv h2, ?_⟩
            conv => whnf
            refine ⟨_, _, mark_ct _, ?_⟩
            conv => whnf
            refine ⟨_, _, skip_ct s1 arrow, ?_⟩
            cases k with
            | zero => simp [tailP] at h
            | succ k =>
              unfold tailP at h
              cases h3 : (skipP s1 arrow).1
              · rw [h3] at h
                simp only [Option.some.injEq, Prod.mk.injEq] at h
                obtain ⟨rfl, rfl⟩ := h
                conv => whnf
                exact ⟨rfl, rfl⟩
              · rw [h3] at h
                simp only at h
                split at h
                · cases h
                · rename_i t4 s4 h4
                  simp only [Option.some.injEq, Prod.mk.injEq] at h
                  obtain ⟨rfl, rfl⟩ := h
                  obtain ⟨k4, n4, st4, ks4⟩ := t4
                  conv => whnf
                  refine ⟨_, _, (ih k (by omega) (by omega)).2 vars _ _ _ hv h4, ?_⟩
                  conv => whnf
                  refine ⟨by kernel_rfl, ?_⟩
                  conv => whnf
                  exact ⟨rfl, rfl⟩
        · rw [h1] at h
          simp only at h
          split at h
          · cases h
          · rename_i ks1 s1 h2
            conv => whnf
            refine ⟨_, _, take_ct s, ?_⟩
            conv => whnf
            refine ⟨fun j st => ∃ acc s5, j ≤ k ∧ kidsP j vars acc s5 = some (ks1, s1) ∧ acc.length + j ≤ 4294967296 + 4294967296 ∧
              st = ⟨[(0, .one (.ptr 0 0 0)), (1, .one (.sl 9 1 (vars.map str) none)), (4, .one (.ptr 4 0 0)), (5, .one (.ptr 5 0 0))],
                [(0, ⟨0, 76, par s5⟩), (4, ⟨0, 59, [.v (.int .i64 0), .v (.int .i64 0), .v (.string .empty), .nil 59 4]⟩), (5, ⟨0, 59, [.v (.int .i64 2), .v (.int .i64 0), .v (.string s.t.s), .sl 59 4 (tysC acc) (some (21, 0))]⟩)], [(21, ⟨0, 59, 4, true⟩)]⟩,
              ⟨_, _, wk [0, 1, 4, 5] [0, 4, 5] [] [] [] [(5, 3, 21, 59, 4)] rfl, [], takeP s, Nat.le_refl k, h2, by simp; omega, rfl⟩, ?_⟩
            rintro j st ⟨acc, s5, hj, h5, hlen, rfl⟩
            conv => whnf
            refine ⟨_, _, atomic_ct s5, ?_⟩
            cases j with
            | zero => simp [kidsP] at h5
            | succ j =>
              unfold kidsP at h5
              cases hm : atomicP s5
              · rw [hm] at h5
                simp only [Option.some.injEq, Prod.mk.injEq] at h5
                obtain ⟨rfl, rfl⟩ := h5
                conv => whnf
                refine ⟨_, _, mark_ct _, ?_⟩
                conv => whnf
                refine ⟨_, _, skip_ct s5 arrow, ?_⟩
                cases k with
                | zero => simp [tailP] at h
                | succ k =>
                  unfold tailP at h
                  cases h3 : (skipP s5 arrow).1
                  · rw [h3] at h
                    simp only [Option.some.injEq, Prod.mk.injEq] at h
                    obtain ⟨rfl, rfl⟩ := h
                    conv => whnf
                    exact ⟨rfl, rfl⟩
                  · rw [h3] at h
                    simp only at h
                    split at h
                    · cases h
                    · rename_i t4 s4 h4
                      simp only [Option.some.injEq, Prod.mk.injEq] at h
                      obtain ⟨rfl, rfl⟩ := h
                      obtain ⟨k4, n4, st4, ks4⟩ := t4
                      conv => whnf
                      refine ⟨_, _, (ih k (by omega) (by omega)).2 vars _ _ _ hv h4, ?_⟩
                      conv => whnf
                      refine ⟨by kernel_rfl, ?_⟩
                      conv => whnf
                      exact ⟨rfl, rfl⟩
              · rw [hm] at h5
                simp only at h5
                split at h5
                · cases h5
                · rename_i t6 s6 h6
                  obtain ⟨k6, n6, st6, ks6⟩ := t6
                  conv => whnf
                  refine ⟨_, _, (ih j (by omega) (by omega)).1 vars _ _ _ hv h6, ?_⟩
                  conv => whnf
                  refine ⟨by rw [tysC_length]; simp [lim]; omega, ?_⟩
                  conv => whnf
                  refine ⟨by kernel_rfl, ?_⟩
                  conv => whnf
                  refine ⟨j, _, Nat.lt_succ_self j, wk [0, 1, 4, 5] [0, 4, 5] [21] [] [] [] rfl, _, s6, by omega, h5, by simp; omega, by rw [tysC_append]; rfl⟩
end Go.Proofs.YtoapgongbackaaaDoor.V

/-! U4: the program's parser: expressions. -/
namespace Go.Proofs.YtoapgongbackaaaDoor.V
open Go Go.Proofs
set_option maxRecDepth 100000

mutual
inductive Exp where
  | mk (k at_ : Int) (s : ByteArray) (n : Int) (kids : List Exp) (alts : List Alt)
inductive Alt where
  | mk (at_ : Int) (s : ByteArray) (names : List ByteArray) (body : Exp)
end
mutual
def exC : Exp → List AC
  | .mk k a s n kids alts => [.v (.int .i64 k), .v (.int .i64 a), .v (.string s), .v (.int .i64 n), .sl 53 6 (exsC kids) none, .sl 96 9 (altsC alts) none]
def exsC : List Exp → List (List AC)
  | [] => []
  | t :: l => exC t :: exsC l
def altC : Alt → List AC
  | .mk a s names body => .v (.int .i64 a) :: .v (.string s) :: .sl 9 1 (names.map str) none :: exC body
def altsC : List Alt → List (List AC)
  | [] => []
  | t :: l => altC t :: altsC l
end
theorem exsC_append : ∀ (l l' : List Exp), exsC (l ++ l') = exsC l ++ exsC l'
  | [], _ => rfl
  | t :: l, l' => by simp [exsC, exsC_append l l']
theorem exsC_length : ∀ l : List Exp, (exsC l).length = l.length
  | [] => rfl
  | t :: l => by simp [exsC, exsC_length l]
theorem exsC_get : ∀ {l : List Exp} {i : Nat} {t : Exp}, l[i]? = some t → (exsC l)[i]? = some (exC t)
  | [], _, _, h => by simp at h
  | t :: l, 0, _, h => by simp at h; subst h; rfl
  | t :: l, i + 1, _, h => by simpa [exsC] using exsC_get (l := l) (by simpa using h)
theorem altsC_append : ∀ (l l' : List Alt), altsC (l ++ l') = altsC l ++ altsC l'
  | [], _ => rfl
  | t :: l, l' => by simp [altsC, altsC_append l l']
theorem altsC_length : ∀ l : List Alt, (altsC l).length = l.length
  | [] => rfl
  | t :: l => by simp [altsC, altsC_length l]
theorem altsC_get : ∀ {l : List Alt} {i : Nat} {t : Alt}, l[i]? = some t → (altsC l)[i]? = some (altC t)
  | [], _, _, h => by simp at h
  | t :: l, 0, _, h => by simp at h; subst h; rfl
  | t :: l, i + 1, _, h => by simpa [altsC] using altsC_get (l := l) (by simpa using h)
def noExp : Exp := .mk 0 0 .empty 0 [] []
def intS : Sg := ⟨3, .empty⟩
def trueS : Sg := ⟨4, ⟨#[116, 114, 117, 101]⟩⟩
def falseS : Sg := ⟨4, ⟨#[102, 97, 108, 115, 101]⟩⟩
def isS (t : Tok) (x : Sg) : Bool := decide ((ofP t).k = x.k) && decide ((ofP t).s = x.s)
def beginsP (s : PS) : Bool := match s.bad with
  | true => false
  | false => isS s.t nameS || (isS s.t conS || (isS s.t intS || (isS s.t trueS || (isS s.t falseS || isS s.t lpar))))
theorem begins_ct (s : PS) : Ct 102 [parA s] [.val (.one (.v (.bool (beginsP s))))] [par s] := by
  obtain ⟨t, r, bad, a⟩ := s
  refine ct Tryd.func102 (by kernel_rfl) ?_
  unfold beginsP
  cases bad
  · conv => whnf
    refine ⟨_, ⟨by decide, rfl⟩, ?_⟩
    conv => whnf
    refine ⟨_, _, of_ct t, ?_⟩
    conv => whnf
    cases h_nameS : (decide ((ofP t).k = 1) && decide ((ofP t).s = ByteArray.empty))
    rotate_left
    · rw [show isS t nameS = true from h_nameS]
      conv => whnf
      exact ⟨rfl, rfl⟩
    rw [show isS t nameS = false from h_nameS]
    conv => whnf
    cases h_conS : (decide ((ofP t).k = 2) && decide ((ofP t).s = ByteArray.empty))
    rotate_left
    · rw [show isS t conS = true from h_conS]
      conv => whnf
      exact ⟨rfl, rfl⟩
    rw [show isS t conS = false from h_conS]
    conv => whnf
    cases h_intS : (decide ((ofP t).k = 3) && decide ((ofP t).s = ByteArray.empty))
    rotate_left
    · rw [show isS t intS = true from h_intS]
      conv => whnf
      exact ⟨rfl, rfl⟩
    rw [show isS t intS = false from h_intS]
    conv => whnf
    refine ⟨_, _, word_ct _, ?_⟩
    conv => whnf
    cases h_trueS : (decide ((ofP t).k = 4) && decide ((ofP t).s = ⟨#[116, 114, 117, 101]⟩))
    rotate_left
    · rw [show isS t trueS = true from h_trueS]
      conv => whnf
      exact ⟨rfl, rfl⟩
    rw [show isS t trueS = false from h_trueS]
    conv => whnf
    refine ⟨_, _, word_ct _, ?_⟩
    conv => whnf
    cases h_falseS : (decide ((ofP t).k = 4) && decide ((ofP t).s = ⟨#[102, 97, 108, 115, 101]⟩))
    rotate_left
    · rw [show isS t falseS = true from h_falseS]
      conv => whnf
      exact ⟨rfl, rfl⟩
    rw [show isS t falseS = false from h_falseS]
    conv => whnf
    refine ⟨_, _, mark_ct _, ?_⟩
    conv => whnf
    cases h_lpar : (decide ((ofP t).k = 5) && decide ((ofP t).s = ⟨#[40]⟩))
    rotate_left
    · rw [show isS t lpar = true from h_lpar]
      conv => whnf
      exact ⟨rfl, rfl⟩
    rw [show isS t lpar = false from h_lpar]
    conv => whnf
    exact ⟨rfl, rfl⟩
  · conv => whnf
    exact ⟨rfl, rfl⟩
end Go.Proofs.YtoapgongbackaaaDoor.V

/-! UK: slices.Backward, by what its rounds do. -/
namespace Go.Proofs.YtoapgongbackaaaDoor.V
open Go Go.Proofs
set_option maxRecDepth 100000

theorem backward_ct (xs : List (List AC)) : Ct 100 [.val (.one (.sl 74 4 xs none))] [.val (.one (.clo 104 [.ref [.sl 74 4 xs none] 0]))] [] := by
  intro H w us hfz hG hargs hnd
  match us, hargs with
  | [u], hargs =>
  refine calls_of_wp Tryd.func100 rfl ?_
  have hr := rel0 (H := H) (w := w) (a := { tmps := #[u] ++ Array.replicate (Tryd.f100.ntmps - 1) undef, defers := [] }) (N := 4) (ts := [(0, .one (.sl 74 4 xs none))]) hfz rfl rfl (by
    intro t v hf
    simp only [find_cons, find] at hf
    split at hf
    · rename_i h; have h := beq_true h; subst h; cases hf; exact hargs.1
    · cases hf)
  refine evC_good (T := T) (J := J) (G := G) E hG (bodyOf Tryd.f100) (by kernel_rfl) _ (fun ex s => (ex = .ret ∧ find 2 s.tmps = some (.one (.clo 104 [.ptr 1 0 0]))) ∧ find 1 s.boxes = some ⟨0, 69, [.sl 74 4 xs none]⟩) _ _ _ _ hr ?_ _ ?_
  · conv => whnf
    exact ⟨⟨rfl, rfl⟩, rfl⟩
  · rintro ex s κ' H' a' w' h ⟨⟨rfl, h2⟩, h3⟩
    obtain ⟨hnb, hin0, vs, hin1, hin2⟩ := h.box 1 _ h3
    have hb1 : ¬ κ'.blk 1 0 < w.heap.size := h.pb 1 _ h3
    simp only at hin0 hin1 hin2
    generalize hbb : κ'.blk 1 0 = b1 at hb1 hin0 hin1
    have hc : Cs Con.no H' [.sl 74 4 xs none] vs := keepL_r rfl hin2
    let H2 : Fz := fun b i => if b = b1 then vs[i]? else H' b i
    have hle : Fz.le H' H2 := fun b i v hv => by
      by_cases e : b = b1
      · subst e; rw [hin0 i] at hv; cases hv
      · simp [H2, e, hv]
    have hfz2 : FzOk H2 w' := fun b i v hv => by
      by_cases e : b = b1
      · subst e
        simp only [H2, if_true] at hv
        unfold World.cell?
        simp only [hin1]
        simpa using hv
      · simp only [H2, e, if_false] at hv
        exact h.fz b i v hv
    have hkb : ∀ b, b < w.heap.size → H2 b = H b := fun b hb => by
      funext i
      have e : b ≠ b1 := by omega
      simp only [H2, e, if_false]
      exact congrFun (h.hk b hb) i
    have ht := h.tmps 2 _ h2
    cases ht with
    | one _ _ ht =>
    generalize hu : a'.tmps.getD 2 undef = uu at ht
    cases ht with
    | clo _ _ ws hl hrr =>
    match ws, hl with
    | [v1], _ =>
    have h1 := hrr 0 _ v1 rfl rfl
    cases h1 with
    | ptr _ _ _ _ =>
    obtain ⟨vv, hvv⟩ : ∃ vv, vv = Value.func (.func 104) #[] #[.pointer (some ⟨κ'.blk 1 0, 0, none⟩)] := ⟨_, rfl⟩
    refine ⟨h.defers, valueOf [vv], ?_, valueOf [vv], H2, rfl, { le := Fz.le_trans h.h0 hle, fz := hfz2, keep := fun b hb _ => ⟨h.keep b hb, hkb b hb⟩, outs := trivial, grown := h.grown, os := h.os, tape := h.tape, output := h.output, res := ⟨[vv], ⟨?_, trivial⟩, rfl⟩ }⟩
    · show (results Tryd.f100 a'.tmps).run Tryd.prog w' = _
      refine results_run (us := [vv]) rfl ?_
      intro j v u hv hu'
      match j, hv with
      | 0, hv =>
        cases hv
        cases hu'
        show (pure (a'.tmps.getD 2 undef) : Sem Value).run Tryd.prog w' = _
        rw [hu, ← hvv]
        rfl
    · rw [hvv]
      refine .one _ _ (.clo 104 _ [_] rfl fun j c u hj hu' => ?_)
      match j, hj with
      | 0, hj =>
        cases hj
        cases hu'
        rw [hbb]
        refine .ref _ 0 b1 0 vs hc.1 (fun j u hj => ?_) (fun j c u hj hu' => (hc.2 j c u hj hu').mono (Con.le_refl _) hle)
        simp [H2, hj]
end Go.Proofs.YtoapgongbackaaaDoor.V

/-! UK2: slices.Backward's rounds. -/
namespace Go.Proofs.YtoapgongbackaaaDoor.V
open Go Go.Proofs
set_option maxRecDepth 100000

def ts104 (xs : List (List AC)) (yl : Value) (i : Int) : List (Nat × AV) := [(0, .one (.v yl)), (1, .one (.ref [.sl 74 4 xs none] 0)), (3, .one (.v (.int .i64 i)))]
def In104 (xs : List (List AC)) (yl : Value) (Jv : Nat → Fz → World → Prop) (i : Nat) (a : Act) (w : World) : Prop :=
  ∃ H, Jv i H w ∧ a.tmps.size = 19 ∧ a.defers = [] ∧ ∀ t v, find t (ts104 xs yl ((i : Int) - 1)) = some v → AVr Con.no H v (a.tmps.getD t undef)
theorem find3 {α : Type} {t : Nat} {v : α} {x0 x1 x3 : α} (h : find t [(0, x0), (1, x1), (3, x3)] = some v) : (t = 0 ∧ v = x0) ∨ (t = 1 ∧ v = x1) ∨ (t = 3 ∧ v = x3) := by
  simp only [find] at h
  split at h
  · rename_i h0; cases h; exact .inl ⟨(beq_true h0).symm, rfl⟩
  · split at h
    · rename_i h0; cases h; exact .inr (.inl ⟨(beq_true h0).symm, rfl⟩)
    · split at h
      · rename_i h0; cases h; exact .inr (.inr ⟨(beq_true h0).symm, rfl⟩)
      · cases h
theorem in104 {xs : List (List AC)} {yl : Value} {Jv : Nat → Fz → World → Prop} (hst : ∀ i H w H' w', Jv i H w → Later H w H' w' → Jv i H' w') {i : Nat} {H H' : Fz} {w w' : World} {κ : Con} {s : St} {a : Act} (hJ : Jv i H w)
    (h : Rel { W0 := w, H0 := H, Pr := fun b => b < w.heap.size, N := 19, A := 0, ab := fun _ => 0, lt := fun _ h => h } κ H' s a w') {z : Int} (hz : z = (i : Int) - 1)
    (hf : find 0 s.tmps = some (.one (.v yl)) ∧ find 1 s.tmps = some (.one (.ref [.sl 74 4 xs none] 0)) ∧ find 3 s.tmps = some (.one (.v (.int .i64 z)))) : In104 xs yl Jv i a w' := by
  refine ⟨H', hst _ _ _ _ _ hJ (later_of h), h.size, h.defers, fun t v ht => ?_⟩
  rcases find3 ht with ⟨rfl, rfl⟩ | ⟨rfl, rfl⟩ | ⟨rfl, rfl⟩
  · exact keepA_r rfl (h.tmps _ _ hf.1)
  · exact keepA_r rfl (h.tmps _ _ hf.2.1)
  · exact keepA_r rfl (h.tmps _ _ (hz ▸ hf.2.2))
def mu104 (a : Act) : Nat := match a.tmps.getD 3 undef with
  | .int _ z => (z + 1).toNat
  | _ => 0
theorem mu_in {xs : List (List AC)} {yl : Value} {Jv : Nat → Fz → World → Prop} {i : Nat} {a : Act} {w : World} (h : In104 xs yl Jv i a w) : mu104 a = i := by
  obtain ⟨H, -, -, -, ht⟩ := h
  have := (inv_v (ht 3 _ rfl)).1
  unfold mu104
  rw [this]
  simp

noncomputable def c104a : Code := match bodyOf Tryd.f104 with
  | .seq a _ => a
  | _ => .skip
noncomputable def c104b : Code := match bodyOf Tryd.f104 with
  | .seq _ (.block _ (.loop b)) => b
  | _ => .skip
noncomputable def c104c : Code := match c104b with
  | .seq a _ => a
  | _ => .skip
noncomputable def c104d : Code := match c104b with
  | .seq _ (.seq (.block _ d) _) => d
  | _ => .skip
noncomputable def c104e : Code := match c104b with
  | .seq _ (.seq _ e) => e
  | _ => .skip
noncomputable def ops104 : Array Oper := match c104d with
  | .seq (.region _ ops _) _ => ops
  | _ => #[]
noncomputable def o6 : Oper := ops104.toList.getD 6 default
noncomputable def o7 : Oper := ops104.toList.getD 7 default
theorem c104d_eq : c104d = .seq (.region 3 ops104 false) (.cond (.tmp 18) .ret .skip) := rfl
theorem h6 : ops104[6]? = some o6 := rfl
theorem h7 : ops104[7]? = some o7 := rfl
theorem range104 : List.range ops104.size = List.range' 0 6 ++ [6, 7] := by kernel_rfl
theorem nd104 : noDefer ops104 = true := by kernel_rfl
theorem ok104 : ops104.toList.all (okOp 19 0) = true := by kernel_rfl
theorem o6_op : o6.op = .call { callee := .value (.tmp 11), args := #[.tmp 12, .tmp 16], argTypes := #[3, 74] } := rfl
theorem o7_op : o7.op = .unOp .not 4 (.tmp 17) := rfl
theorem run6 {P : Program} {a : Act} {w : World} {l : Nat} {n : Next} {x y : Value} (h11 : a.tmps.getD 11 undef = .func (.yield l) #[] #[]) (h12 : a.tmps.getD 12 undef = x) (h16 : a.tmps.getD 16 undef = y) (hy : (Instr.yield l #[x, y]).run P w = .ok n w) : (execOp a.eval o6).run P w = .ok n w := by
  unfold execOp
  rw [o6_op]
  simp [resolve, Act.eval, h11, h12, h16, Deferred.ofValue, invoke, go_sem, hy]
theorem run7 {P : Program} {a : Act} {w : World} (h17 : a.tmps.getD 17 undef = .bool true) : (execOp a.eval o7).run P w = .ok (.value (.bool false)) w := by
  unfold execOp
  rw [o7_op]
  simp [Act.eval, h17, go_sem]
  rfl
theorem c104_ : bodyOf Tryd.f104 = .seq c104a (.block 0 (.loop (.seq c104c (.seq (.block 1 c104d) c104e)))) := rfl
theorem getD_args (us : List Value) (n j : Nat) (u : Value) (h : us[j]? = some u) : (us.toArray ++ Array.replicate n undef).getD j undef = u := by
  have hlt := (List.getElem?_eq_some_iff.1 h).1
  rw [Array.getD_eq_getD_getElem?, Array.getElem?_append_left (by simpa using hlt)]
  simp [h]
theorem back_it {xs : List (List AC)} (hlen : xs.length ≤ 8589934592) (hxs : ∀ cs ∈ xs, ∃ t : Tok, cs = tok t) {l : Nat} {ptr : Value} (Jv : Nat → Fz → World → Prop)
    (hst : ∀ i H w H' w', Jv i H w → Later H w H' w' → Jv i H' w') (hfz : ∀ i H w, Jv i H w → FzOk H w) (hGl : ∀ i H w, Jv i H w → GlobOk G H)
    (hp : ∀ i H w, Jv i H w → ACr Con.no H (.ref [.sl 74 4 xs none] 0) ptr)
    (hround : ∀ i H w cs us, Jv (i + 1) H w → xs[i]? = some cs → Cs Con.no H cs us → YieldAt Fence.wide 0 Tryd.prog l #[.int .i64 i, .agg us.toArray] w fun e w' => e = .returned (.bool true) ∧ ∃ H', Fz.le H H' ∧ Jv i H' w')
    {H : Fz} {w : World} (h0 : Jv xs.length H w) : CallsIn Fence.wide 0 Tryd.prog 104 #[.func (.yield l) #[] #[], ptr] w fun e w' => (∃ v, e = .returned v) ∧ ∃ H', Jv 0 H' w' := by
  refine callsIn_of_wp (c := .seq c104a (.block 0 (.loop (.seq c104c (.seq (.block 1 c104d) c104e))))) Tryd.func104 rfl trivial ?_
  generalize hyl : Value.func (.yield l) #[] #[] = yl
  have hyc : yl.oneCell' = true := by rw [← hyl]; rfl
  suffices key : ∀ a : Act, a.tmps.size = 19 → a.defers = [] → a.tmps.getD 0 undef = yl → a.tmps.getD 1 undef = ptr → (Code.seq c104a (.block 0 (.loop (.seq c104c (.seq (.block 1 c104d) c104e))))).wpIn Fence.wide 0 Tryd.prog (bodyPost Tryd.prog Tryd.f104 fun e w' => (∃ v, e = .returned v) ∧ ∃ H', Jv 0 H' w') a w by
    refine key _ ?_ rfl (getD_args [yl, ptr] _ 0 yl rfl) (getD_args [yl, ptr] _ 1 ptr rfl)
    simp only [Array.size_append, Array.size_replicate]
    kernel_rfl
  intro a hs hd ha hb
  have hr := rel0 (H := H) (w := w) (a := a) (N := 19) (ts := [(0, .one (.v yl)), (1, .one (.ref [.sl 74 4 xs none] 0))]) (hfz _ _ _ h0) hs hd (by
    intro t v hf
    simp only [find] at hf
    split at hf
    · rename_i h; have h := beq_true h; subst h; cases hf; rw [ha]; exact .one _ _ (.v _ hyc)
    · split at hf
      · rename_i h; have h := beq_true h; subst h; cases hf; rw [hb]; exact .one _ _ (hp _ _ _ h0)
      · cases hf)
  clear ha hb hs hd
  refine wpIn_seq (wpIn_wide.2 (evC_good (T := T) (J := J) (G := G) E (hGl _ _ _ h0) c104a (by kernel_rfl) _ (fun ex s => ex = .normal ∧ ∃ z, z = (xs.length : Int) - 1 ∧ (find 0 s.tmps = some (.one (.v yl)) ∧ find 1 s.tmps = some (.one (.ref [.sl 74 4 xs none] 0)) ∧ find 3 s.tmps = some (.one (.v (.int .i64 z))))) _ _ _ _ hr ?_ _ ?_))
  · conv => whnf
    exact ⟨rfl, _, i64_id (by omega) (by omega), rfl, rfl, rfl⟩
  · rintro ex s κ' H' a' w' h ⟨rfl, z, hz, hf⟩
    refine wpIn_block (wpIn_loop (fun a w => ∃ i, i ≤ xs.length ∧ In104 xs yl Jv i a w) (fun a _ => mu104 a) ⟨_, Nat.le_refl _, in104 hst h0 h hz hf⟩ ?_)
    clear hr h hf hz h0
    rintro a w ⟨i, hi, hin⟩
    have hmu := mu_in hin
    obtain ⟨H1, hJ, hs, hd, ht⟩ := hin
    have hr1 := rel0 (H := H1) (w := w) (a := a) (hfz _ _ _ hJ) hs hd ht
    refine wpIn_seq (wpIn_wide.2 (evC_good (T := T) (J := J) (G := G) E (hGl _ _ _ hJ) c104c (by kernel_rfl) _ (fun ex s => (ex = if i = 0 then .exit 0 else .normal) ∧ (find 0 s.tmps = some (.one (.v yl)) ∧ find 1 s.tmps = some (.one (.ref [.sl 74 4 xs none] 0)) ∧ find 3 s.tmps = some (.one (.v (.int .i64 ((i : Int) - 1)))))) _ _ _ _ hr1 ?_ _ ?_))
    · conv => whnf
      cases hc : decide ((0 : Int) ≤ ((i : Nat) : Int) - 1)
      · conv => whnf
        have : i = 0 := by simp at hc; omega
        exact ⟨by rw [if_pos this], rfl, rfl, rfl⟩
      · conv => whnf
        have : i ≠ 0 := by simp at hc; omega
        exact ⟨by rw [if_neg this], rfl, rfl, rfl⟩
    · rintro ex s κ' H' a' w' h ⟨rfl, hf⟩
      have hin := in104 hst hJ h rfl hf
      clear h hf hr1 hJ hs hd ht
      match i, hin with
      | 0, hin =>
        obtain ⟨H1, hJ, hs, hd, ht⟩ := hin
        exact ⟨hd, _, results_run (us := []) rfl (by simp), ⟨_, rfl⟩, H1, hJ⟩
      | i + 1, hin =>
        obtain ⟨H1, hJ, hs, hd, ht⟩ := hin
        have hr1 := rel0 (H := H1) (w := w') (a := a') (hfz _ _ _ hJ) hs hd ht
        show Code.wpIn _ _ _ (Code.seq (.block 1 c104d) c104e) _ a' w'
        refine wpIn_seq (wpIn_block ?_)
        rw [c104d_eq]
        refine wpIn_seq (wpIn_region ?_)
        rw [range104]
        have hnx : xs[i]? = some (xs[i]'(by omega)) := List.getElem?_eq_getElem (by omega)
        generalize xs[i]'(by omega) = cs at hnx
        have hpre := evS_pre (T := T) (J := J) (G := G) (P := Tryd.prog) E (hGl _ _ _ hJ) (fun o ho => List.all_eq_true.1 ok104 o ho) (Q := fun e a w => e = .normal ∧ ∃ s κ H', Rel { W0 := w', H0 := H1, Pr := fun b => b < w'.heap.size, N := 19, A := 0, ab := fun _ => 0, lt := fun _ h => h } κ H' s a w ∧
            ((find 0 s.tmps = some (.one (.v yl)) ∧ find 1 s.tmps = some (.one (.ref [.sl 74 4 xs none] 0)) ∧ find 3 s.tmps = some (.one (.v (.int .i64 i)))) ∧ find 11 s.tmps = some (.one (.v yl)) ∧ find 12 s.tmps = some (.one (.v (.int .i64 i))) ∧ find 16 s.tmps = some (.agg cs)))
          (K := fun s => (find 0 s.tmps = some (.one (.v yl)) ∧ find 1 s.tmps = some (.one (.ref [.sl 74 4 xs none] 0)) ∧ find 3 s.tmps = some (.one (.v (.int .i64 i)))) ∧ find 11 s.tmps = some (.one (.v yl)) ∧ find 12 s.tmps = some (.one (.v (.int .i64 i))) ∧ find 16 s.tmps = some (.agg cs))
          (ops104.toList.take 6) 0 ⟨ops104.toList.drop 6, by simp⟩ _ _ _ _ _ hr1 ?_ (fun s κ H a w h1 h2 => ⟨rfl, s, κ, H, h1, h2⟩)
        · have := opsIn_of (r := none) (n := 0) (P := Tryd.prog) (noDefer_r nd104) [] (js := [6, 7]) (Q := Exit.then ((Code.cond (.tmp 18) .ret .skip).wpIn Fence.wide 0 Tryd.prog (Exit.inBlock 1 (Exit.then (c104e.wpIn Fence.wide 0 Tryd.prog (Exit.then (fun a' w' => (∃ i, i ≤ xs.length ∧ In104 xs yl Jv i a' w') ∧ mu104 a' < mu104 a) (Exit.inBlock 0 (bodyPost Tryd.prog Tryd.f104 fun e w' => (∃ v, e = .returned v) ∧ ∃ H', Jv 0 H' w')))) (Exit.then (fun a' w' => (∃ i, i ≤ xs.length ∧ In104 xs yl Jv i a' w') ∧ mu104 a' < mu104 a) (Exit.inBlock 0 (bodyPost Tryd.prog Tryd.f104 fun e w' => (∃ v, e = .returned v) ∧ ∃ H', Jv 0 H' w')))))) (Exit.inBlock 1 (Exit.then (c104e.wpIn Fence.wide 0 Tryd.prog (Exit.then (fun a' w' => (∃ i, i ≤ xs.length ∧ In104 xs yl Jv i a' w') ∧ mu104 a' < mu104 a) (Exit.inBlock 0 (bodyPost Tryd.prog Tryd.f104 fun e w' => (∃ v, e = .returned v) ∧ ∃ H', Jv 0 H' w')))) (Exit.then (fun a' w' => (∃ i, i ≤ xs.length ∧ In104 xs yl Jv i a' w') ∧ mu104 a' < mu104 a) (Exit.inBlock 0 (bodyPost Tryd.prog Tryd.f104 fun e w' => (∃ v, e = .returned v) ∧ ∃ H', Jv 0 H' w')))))) ?_ (List.range' 0 6) a' w' hpre
          · rw [List.append_nil] at this
            exact this
          · rintro a2 w2 ⟨s2, κ2, H2, h2, hf2, h11, h12, h16⟩
            rw [List.append_nil]
            have hJ2 := hst _ _ _ _ _ hJ (later_of h2)
            have e11 := (inv_v (h2.tmps _ _ h11)).1
            have e12 := (inv_v (h2.tmps _ _ h12)).1
            have e16 := h2.tmps _ _ h16
            have e1 := keepA_r rfl (h2.tmps _ _ hf2.2.1)
            have e0 := (inv_v (h2.tmps _ _ hf2.1)).1
            have e3 := (inv_v (h2.tmps _ _ hf2.2.2)).1
            generalize h16v : a2.tmps.getD 16 undef = v16 at e16
            cases e16 with
            | agg _ us hcs =>
            have hcs' : Cs Con.no H2 cs us := by obtain ⟨t, rfl⟩ := hxs cs (List.mem_of_getElem? hnx); exact keepL_r rfl hcs
            obtain ⟨fn, tmps, assign, body, hy, hrd⟩ := hround i H2 w2 cs us hJ2 hnx hcs'
            have hq := run6 (P := Tryd.prog) (e11.trans hyl.symm) e12 h16v hy
            unfold wpOpsIn
            simp only [h6]
            rw [if_pos (show Region.wanted o6 _ = true from rfl)]
            refine ⟨fun _ _ => trivial, ?_⟩
            rw [show Fence.round (FR none) = none from rfl, Oper.semAt_none, hq, Oper.uponIn_round]
            refine ⟨fun hd => by simp [Fence.wide] at hd, RoundIn.mono hrd ?_⟩
            rintro e w3 ⟨rfl, H3, hle, hJ3⟩
            show wpOpsIn (FR none) 0 Tryd.prog ops104 _ [7] (a2.put (some 17) (.bool true)) w3
            have hsz2 : a2.tmps.size = 19 := h2.size
            unfold wpOpsIn
            simp only [h7]
            rw [if_pos (show Region.wanted o7 _ = true from rfl)]
            refine ⟨fun _ _ => trivial, ?_⟩
            rw [show Fence.round (FR none) = none from rfl, Oper.semAt_none, run7 (by simp [Act.put, hsz2]), Oper.uponIn_value]
            show (Code.cond (.tmp 18) .ret .skip).wpIn Fence.wide 0 Tryd.prog _ ((a2.put (some 17) (.bool true)).put (some 18) (.bool false)) w3
            refine wpIn_cond_false (by simp [Act.put, Act.eval, hsz2]) (wpIn_skip ?_)
            show c104e.wpIn Fence.wide 0 Tryd.prog _ ((a2.put (some 17) (.bool true)).put (some 18) (.bool false)) w3
            have hr3 := rel0 (H := H3) (w := w3) (a := (a2.put (some 17) (.bool true)).put (some 18) (.bool false)) (N := 19) (ts := ts104 xs yl i) (hfz _ _ _ hJ3) (by simp [Act.put, hsz2]) h2.defers (fun t v ht => by
              have e : ∀ t, t ≠ 17 → t ≠ 18 → ((a2.put (some 17) (.bool true)).put (some 18) (.bool false)).tmps.getD t undef = a2.tmps.getD t undef := fun t h1 h2 => by
                simp [Act.put, Array.getD_eq_getD_getElem?, Array.getElem?_setIfInBounds, Ne.symm h1, Ne.symm h2]
              rcases find3 ht with ⟨rfl, rfl⟩ | ⟨rfl, rfl⟩ | ⟨rfl, rfl⟩
              · rw [e _ (by decide) (by decide), e0]; exact .one _ _ (.v _ hyc)
              · rw [e _ (by decide) (by decide)]; exact e1.mono (Con.le_refl _) hle
              · rw [e _ (by decide) (by decide), e3]; exact .one _ _ (.v _ rfl))
            refine wpIn_wide.2 (evC_good (T := T) (J := J) (G := G) E (hGl _ _ _ hJ3) c104e (by kernel_rfl) _ (fun ex s => ex = .normal ∧ ∃ z, z = (i : Int) - 1 ∧ (find 0 s.tmps = some (.one (.v yl)) ∧ find 1 s.tmps = some (.one (.ref [.sl 74 4 xs none] 0)) ∧ find 3 s.tmps = some (.one (.v (.int .i64 z))))) _ _ _ _ hr3 ?_ _ ?_)
            · conv => whnf
              exact ⟨rfl, _, i64_id (by omega) (by omega), rfl, rfl, rfl⟩
            · rintro ex s κ' H' a' w' h ⟨rfl, z, hz, hf⟩
              have hin := in104 hst hJ3 h hz hf
              refine ⟨⟨i, by omega, hin⟩, ?_⟩
              rw [mu_in hin, hmu]
              omega
        · have ez : ((i + 1 : Nat) : Int) - 1 = (i : Int) := by omega
          rw [ez]
          subst hyl
          obtain ⟨t, rfl⟩ := hxs cs (List.mem_of_getElem? hnx)
          conv => whnf
          refine ⟨_, ⟨by omega, hnx⟩, ?_⟩
          conv => whnf
          exact ⟨⟨rfl, rfl, rfl⟩, rfl, rfl, rfl⟩
end Go.Proofs.YtoapgongbackaaaDoor.V

/-! UL: the program's lams: names ahead of a body. -/
namespace Go.Proofs.YtoapgongbackaaaDoor.V
open Go Go.Proofs
set_option maxRecDepth 100000

def lamsP (l : List Tok) (a : Int) (b : Exp) : Exp := l.foldr (fun t b => .mk 6 a t.s 0 [b] []) b

noncomputable def c86a : Code := match bodyOf Tryd.f86 with
  | .seq a _ => a
  | _ => .skip
noncomputable def c86b : Code := match bodyOf Tryd.f86 with
  | .seq _ (.seq (.seq b _) _) => b
  | _ => .skip
noncomputable def c86l : Code := match bodyOf Tryd.f86 with
  | .seq _ (.seq (.seq _ (.block _ l)) _) => l
  | _ => .skip
noncomputable def ops86a : Array Oper := match c86l with
  | .rangeFunc _ _ (.region _ ops _) _ => ops
  | _ => #[]
noncomputable def ops86b : Array Oper := match c86l with
  | .rangeFunc _ _ _ (.block _ (.region _ ops _)) => ops
  | _ => #[]
noncomputable def ops86c : Array Oper := match bodyOf Tryd.f86 with
  | .seq _ (.seq _ (.seq (.region _ ops _) _)) => ops
  | _ => #[]
theorem c86l_eq : c86l = .rangeFunc (.tmp 10) #[11, 12] (.region 2 ops86a false) (.block 1 (.region 3 ops86b false)) := rfl
theorem ok86a : ops86a.toList.all (okOp 20 7) = true := by kernel_rfl
theorem ok86b : ops86b.toList.all (okOp 20 7) = true := by kernel_rfl
theorem ok86c : ops86c.toList.all (okOp 20 7) = true := by kernel_rfl
theorem nd86a : noDefer ops86a = true := by kernel_rfl
theorem nd86b : noDefer ops86b = true := by kernel_rfl
theorem nd86c : noDefer ops86c = true := by kernel_rfl

def ts86 (l : List Tok) : List (Nat × AV) := [(10, .one (.clo 104 [.ref [.sl 74 4 (l.map tok) none] 0])), (4, .one (.ptr 4 0 0)), (5, .one (.ptr 5 0 0)), (6, .one (.ptr 6 0 0))]
def cells5 : Exp → AC → List AC
  | .mk k a s n kids _, c5 => [.v (.int .i64 k), .v (.int .i64 a), .v (.string s), .v (.int .i64 n), .sl 53 6 (exsC kids) none, c5]
def Alts5 : Exp → AC → Prop
  | .mk _ _ _ _ _ alts, c5 => (c5 = .nil 96 9 ∧ alts = []) ∨ c5 = .sl 96 9 (altsC alts) none
def bs86 (a : Int) (b : Exp) (c5 : AC) : List (Nat × Box) := [(4, ⟨0, 3, [.v (.int .i64 a)]⟩), (5, ⟨0, 53, cells5 b c5⟩), (6, ⟨0, 53, [.v (.int .i64 0), .v (.int .i64 0), .v (.string .empty), .v (.int .i64 0), .nil 53 6, .nil 96 9]⟩)]
theorem parts86 (l : List Tok) (a : Int) (b : Exp) : evC Tryd.prog T J G c86a ⟨(args0 0 [.val (.one (.sl 74 4 (l.map tok) none)), .val (.one (.v (.int .i64 a))), .val (.agg (exC b))]).1, (args0 0 [.val (.one (.sl 74 4 (l.map tok) none)), .val (.one (.v (.int .i64 a))), .val (.agg (exC b))]).2, []⟩
    fun ex s => ex = .normal ∧ evC Tryd.prog T J G c86b s fun ex s => ex = .normal ∧ ∃ c5, Alts5 b c5 ∧ Wk s ⟨ts86 l, bs86 a b c5, []⟩ := by
  obtain ⟨k, a', s, n, kids, alts⟩ := b
  conv => whnf
  refine ⟨rfl, ?_⟩
  conv => whnf
  refine ⟨_, _, backward_ct _, ?_⟩
  conv => whnf
  exact ⟨rfl, .sl 96 9 (altsC alts) none, .inr rfl, wk [10, 4, 5, 6] [4, 5, 6] [] [] [] [] rfl⟩
theorem assign86 (l : List Tok) (a : Int) (b : Exp) {c5 : AC} (h : Alts5 b c5) (t : Tok) (i : Int) : evS Tryd.prog T J G ops86a ops86a.toList ⟨(12, .agg (tok t)) :: (11, .one (.v (.int .i64 i))) :: ts86 l, bs86 a b c5, []⟩
    fun s => Wk s ⟨(8, .one (.ptr 8 0 0)) :: ts86 l, bs86 a b c5 ++ [(8, ⟨0, 74, tok t⟩)], []⟩ := by
  obtain ⟨k, a', s, n, kids, alts⟩ := b
  rcases h with ⟨rfl, rfl⟩ | rfl
  · conv => whnf
    exact wk [8, 10, 4, 5, 6] [4, 5, 6, 8] [] [] [] [] rfl
  · conv => whnf
    exact wk [8, 10, 4, 5, 6] [4, 5, 6, 8] [] [] [] [] rfl
theorem body86 (l : List Tok) (a : Int) (b : Exp) {c5 : AC} (h : Alts5 b c5) (t : Tok) : evS Tryd.prog T J G ops86b ops86b.toList ⟨(8, .one (.ptr 8 0 0)) :: ts86 l, bs86 a b c5 ++ [(8, ⟨0, 74, tok t⟩)], []⟩
    fun s => ∃ c5, Alts5 (.mk 6 a t.s 0 [b] []) c5 ∧ Wk s ⟨ts86 l, bs86 a (.mk 6 a t.s 0 [b] []) c5, []⟩ := by
  obtain ⟨k, a', s, n, kids, alts⟩ := b
  rcases h with ⟨rfl, rfl⟩ | rfl
  · conv => whnf
    exact ⟨.nil 96 9, .inl ⟨rfl, rfl⟩, wk [10, 4, 5, 6] [4, 5, 6] [] [] [] [] rfl⟩
  · conv => whnf
    exact ⟨.nil 96 9, .inl ⟨rfl, rfl⟩, wk [10, 4, 5, 6] [4, 5, 6] [] [] [] [] rfl⟩
theorem end86 (l : List Tok) (a : Int) (b : Exp) {c5 : AC} (h : Alts5 b c5) : evS Tryd.prog T J G ops86c ops86c.toList ⟨ts86 l, bs86 a b c5, []⟩
    fun s => (resP T Tryd.f86.results.toList s fun rs' => finP (args0 0 [.val (.one (.sl 74 4 (l.map tok) none)), .val (.one (.v (.int .i64 a))), .val (.agg (exC b))]).2 s fun css' => rs' = [.val (.agg (exC b))] ∧ css' = []) ∧ ∀ d, d < 3 → find d s.boxes = none := by
  obtain ⟨k, a', s, n, kids, alts⟩ := b
  rcases h with ⟨rfl, rfl⟩ | rfl
  · conv => whnf
    refine ⟨?_, fun d hd => ?_⟩
    · conv => whnf
      exact ⟨rfl, rfl⟩
    · match d, hd with
      | 0, _ => rfl
      | 1, _ => rfl
      | 2, _ => rfl
  · conv => whnf
    refine ⟨?_, fun d hd => ?_⟩
    · conv => whnf
      exact ⟨rfl, rfl⟩
    · match d, hd with
      | 0, _ => rfl
      | 1, _ => rfl
      | 2, _ => rfl
theorem none86 (l : List Tok) (a : Int) (b : Exp) (c5 : AC) (t : Tok) : ∀ d, d < 3 → find d (bs86 a b c5 ++ [(8, ⟨0, 74, tok t⟩)]) = none
  | 0, _ => rfl
  | 1, _ => rfl
  | 2, _ => rfl
theorem none86' (l : List Tok) (a : Int) (b : Exp) (c5 : AC) : ∀ d, d < 3 → find d (bs86 a b c5) = none
  | 0, _ => rfl
  | 1, _ => rfl
  | 2, _ => rfl
theorem clo_mono {κ κ' : Con} {H H' : Fz} {xs : List (List AC)} {u : Value} (h : AVr κ H (.one (.clo 104 [.ref [.sl 74 4 xs none] 0])) u) (hH : Fz.le H H') : AVr κ' H' (.one (.clo 104 [.ref [.sl 74 4 xs none] 0])) u := by
  cases h with
  | one _ _ h =>
  cases h with
  | clo _ _ us hl hr =>
  match us, hl with
  | [p], _ =>
  have h1 := hr 0 _ p rfl rfl
  refine .one _ _ (.clo 104 _ [p] rfl fun j c u hj hu => ?_)
  match j, hj with
  | 0, hj =>
    cases hj
    cases hu
    exact (keepC_r rfl h1).mono (Con.no_le _) hH
theorem find4 {l : List Tok} {t : Nat} {v : AV} (h : find t (ts86 l) = some v) : (t = 10 ∧ v = .one (.clo 104 [.ref [.sl 74 4 (l.map tok) none] 0])) ∨ (t = 4 ∧ v = .one (.ptr 4 0 0)) ∨ (t = 5 ∧ v = .one (.ptr 5 0 0)) ∨ (t = 6 ∧ v = .one (.ptr 6 0 0)) := by
  simp only [find, ts86] at h
  split at h
  · rename_i h0; cases h; exact .inl ⟨(beq_true h0).symm, rfl⟩
  · split at h
    · rename_i h0; cases h; exact .inr (.inl ⟨(beq_true h0).symm, rfl⟩)
    · split at h
      · rename_i h0; cases h; exact .inr (.inr (.inl ⟨(beq_true h0).symm, rfl⟩))
      · split at h
        · rename_i h0; cases h; exact .inr (.inr (.inr ⟨(beq_true h0).symm, rfl⟩))
        · cases h

theorem enters {P : Program} {f : FuncId} {fn : Func} {c : Code} (hf : P.funcs[f]? = some fn) (hname : (fn.name == "runtime.NumGoroutine") = false) (hb : fn.body = some c) (args : Array Value) (w : World) : (callFunc f args).run P w = .ok (.enter f args) w := by
  have h1 : fn.name ≠ "runtime.NumGoroutine" := by simpa using hname
  simp [callFunc, hf, h1, hb, mark]
theorem zip86 (ts : Array Value) (x y : Value) : Array.foldl (fun (tmps : Array Value) (p : Tmp × Value) => match p with | (t, a) => tmps.setIfInBounds t a) ts ((#[11, 12] : Array Tmp).zip #[x, y]) = (ts.setIfInBounds 11 x).setIfInBounds 12 y := by
  simp [Array.zip]
/-- Between two rounds: i names are left. -/
structure Jv86 (X : Ctx) (l : List Tok) (a : Int) (b : Exp) (a0 : Act) (L D : Nat) (rec : Loop) (i : Nat) (H : Fz) (w : World) : Prop where
  st : ∃ κ c5, Alts5 (lamsP (l.drop i) a b) c5 ∧ Rel X κ H ⟨ts86 l, bs86 a (lamsP (l.drop i) a b) c5, []⟩ a0 w
  lp : w.heap[L]? = some (.loop rec)
  df : w.heap[D]? = some (.deferred (some []))
theorem lamsP_step {l : List Tok} {i : Nat} {t : Tok} (h : l[i]? = some t) (a : Int) (b : Exp) : lamsP (l.drop i) a b = .mk 6 a t.s 0 [lamsP (l.drop (i + 1)) a b] [] := by
  rw [List.drop_eq_getElem?_toList_append, h]
  rfl

theorem lams_ct (l : List Tok) (hl : l.length ≤ 8589934592) (a : Int) (b : Exp) : Ct 86 [.val (.one (.sl 74 4 (l.map tok) none)), .val (.one (.v (.int .i64 a))), .val (.agg (exC b))] [.val (.agg (exC (lamsP l a b)))] [] := by
  refine CT_ofM (T := T) (J := J) E (c := .seq c86a (.seq (.seq c86b (.block 0 c86l)) (.seq (.region 4 ops86c false) .ret))) Tryd.func86 rfl rfl ?_
  intro X κ H ac w hG hN hA h
  refine wpIn_seq (wpIn_wide.2 (evC_good (T := T) (J := J) (G := G) E hG c86a (by rw [hN, hA]; kernel_rfl) _ _ _ _ _ _ h (parts86 l a b) _ ?_))
  rintro ex s κ H ac w h ⟨rfl, he⟩
  refine wpIn_seq (wpIn_seq (wpIn_wide.2 (evC_good (T := T) (J := J) (G := G) E hG c86b (by rw [hN, hA]; kernel_rfl) _ _ _ _ _ _ h he _ ?_)))
  clear h he
  rintro ex s κ H ac w h0 ⟨rfl, c5, hc5, hwk⟩
  obtain ⟨κ, h⟩ := hwk X κ H ac w h0
  clear h0 hwk s
  have hG1 : GlobOk G H := hG.mono h.h0
  show (Code.block 0 c86l).wpIn _ _ _ _ _ _
  refine wpIn_block ?_
  rw [c86l_eq]
  refine wpIn_rangeFunc fun fn _ => ?_
  have ht := h.tmps 10 _ rfl
  cases ht with
  | one _ _ ht =>
  generalize hu : ac.tmps.getD 10 undef = uu at ht
  cases ht with
  | clo _ _ us hl1 hr1 =>
  match us, hl1 with
  | [ptr], _ =>
  have hptr := hr1 0 _ ptr rfl rfl
  have hnp : ∀ {k : Nat}, ¬ X.Pr (w.heap.size + k) := fun {k} hp => by
    have := X.lt _ hp
    have := h.grown
    omega
  obtain ⟨rec, hrec⟩ : ∃ rec : LoopState → Option Code → Loop, rec = fun st pe => { state := st, pending := pe, fn, tmps := ac.tmps, params := #[11, 12], assign := .region 2 ops86a false, body := .block 1 (.region 3 ops86b false), defers := w.heap.size } := ⟨_, rfl⟩
  obtain ⟨W1, hW1⟩ : ∃ W1, (w.alloc (.deferred (some []))).alloc (.loop (rec .ready none)) = W1 := ⟨_, rfl⟩
  have hL1 : W1.heap[w.heap.size + 1]? = some (.loop (rec .ready none)) := by
    rw [← hW1]; have := World.alloc_heap_new (w.alloc (.deferred (some []))) (.loop (rec .ready none)); rwa [World.size_alloc] at this
  have hD1 : W1.heap[w.heap.size]? = some (.deferred (some [])) := by
    rw [← hW1]
    show ((w.heap.push _).push _)[w.heap.size]? = _
    rw [Array.getElem?_push, Array.getElem?_push]
    simp
  have h1 : Rel X κ H _ ac W1 := hW1 ▸ (h.allocObj _).allocObj _
  refine ⟨w.heap.size + 1, [{ target := .collected w.heap.size, args := #[] }], W1, { target := .fn (.func 104) #[ptr], args := #[.func (.yield (w.heap.size + 1)) #[] #[]] }, W1, 104, #[.func (.yield (w.heap.size + 1)) #[] #[], ptr], W1, ?_, ?_, fun _ _ => trivial, ?_, fun hd => by simp [Fence.wide] at hd, ?_⟩
  · rw [← hW1, hrec]; exact run_enterLoop_outer _ _ _ _ _
  · simp [resolve, rangeCall, Act.eval, hu, Deferred.ofValue, go_sem]
  · simp [invoke, go_sem, enters Tryd.func104 (by kernel_rfl) rfl]
  · have hxs : (l.map tok).length = l.length := List.length_map ..
    refine (back_it (xs := l.map tok) (by rw [hxs]; exact hl) (fun cs hc => by obtain ⟨t, -, rfl⟩ := List.mem_map.1 hc; exact ⟨t, rfl⟩)
      (fun i H' w' => Fz.le H H' ∧ Jv86 X l a b ac (w.heap.size + 1) w.heap.size (rec .ready none) i H' w')
      (fun i H1 w1 H2 w2 hj hla => ⟨Fz.le_trans hj.1 hla.le, ?st, ?lp, ?df⟩) (fun i H1 w1 hj => ?fz) (fun i H1 w1 hj => hG1.mono hj.1) (fun i H1 w1 hj => ?pt) (fun i H2 w2 cs us hj hcs hus => ?round) ⟨Fz.le_refl H, ?first⟩).mono ?last
    case st =>
      obtain ⟨κ', c, hc, hr⟩ := hj.2.st
      exact ⟨κ', c, hc, hr.later hla⟩
    case lp => rw [hla.blk _ (Array.getElem?_eq_some_iff.1 hj.2.lp).1]; exact hj.2.lp
    case df => rw [hla.blk _ (Array.getElem?_eq_some_iff.1 hj.2.df).1]; exact hj.2.df
    case fz =>
      obtain ⟨κ', c, hc, hr⟩ := hj.2.st
      exact hr.fz
    case pt =>
      obtain ⟨κ', c, hc, hr⟩ := hj.2.st
      have ht := hr.tmps 10 _ rfl
      rw [hu] at ht
      cases ht with
      | one _ _ ht =>
      cases ht with
      | clo _ _ us hl1 hr1 => exact keepC_r rfl (hr1 0 _ ptr rfl rfl)
    case first =>
      refine ⟨⟨κ, c5, ?_, ?_⟩, hL1, hD1⟩
      · rw [hxs, List.drop_length]; exact hc5
      · rw [hxs, List.drop_length]; exact h1
    case round =>
      obtain ⟨hle2, ⟨κ2, c2, hc2, h2⟩, lp2, df2⟩ := hj
      obtain ⟨t, ht, rfl⟩ : ∃ t, l[i]? = some t ∧ tok t = cs := by simpa [List.getElem?_map] using hcs
      have hy := run_yield (P := Tryd.prog) (args := #[.int .i64 i, .agg us.toArray]) lp2 (by rw [hrec]; rfl)
      rw [hrec] at hy
      dsimp only at hy
      rw [zip86] at hy
      refine ⟨fn, _, _, _, hy, roundIn_of_wpIn trivial ?_⟩
      have hst := lamsP_step ht a b
      generalize lamsP (l.drop (i + 1)) a b = bb at hc2 h2 hst
      have hput : Rel X κ2 H2 ⟨(12, .agg (tok t)) :: (11, .one (.v (.int .i64 i))) :: ts86 l, bs86 a bb c2, []⟩ { tmps := (ac.tmps.setIfInBounds 11 (.int .i64 i)).setIfInBounds 12 (.agg us.toArray), defers := [] } w2 := by
        have h3 := (h2.put (t := 11) (by rw [hN]; decide) (v := .one (.v (.int .i64 i))) (u := .int .i64 i) (.one _ _ (.v _ rfl))).put (t := 12) (by rw [hN]; decide) (v := .agg (tok t)) (u := .agg us.toArray) (.agg _ _ (hus.mono (Con.no_le _) (Fz.le_refl _)))
        exact { h3 with defers := rfl, size := h3.size, tmps := h3.tmps }
      refine region_in (X := X.re κ2 H2 _ w2 7) (T := T) (J := J) (G := G) E (hG1.mono hle2) (r := some (w.heap.size + 1)) (by show List.all _ (okOp X.N 7) = true; rw [hN]; exact ok86a) nd86a [] (hput.re 7) (assign86 l a bb hc2 t i) ?_
      rintro s3 κ3' H3 a3 w3 h3' hwk3
      obtain ⟨κ3, h3⟩ := hwk3 _ _ _ _ _ h3'
      have h3b := hput.back (by rw [hA]; exact (by decide : (3 : Nat) ≤ 7)) h3 (by rw [hA]; exact none86 l a bb c2 t)
      have lp3 := hput.other h3 lp2 rfl
      have df3 := hput.other h3 df2 rfl
      rw [hrec] at lp3
      refine ⟨_, run_beginRound lp3 rfl, ?_⟩
      have h4 := h3b.putObj (.loop { rec .ready none with state := .busy }) lp3 rfl hnp
      rw [hrec] at h4
      have lp4 := World.putObj_heap_same (w := w3) (o := .loop { rec .ready none with state := .busy }) (Array.getElem?_eq_some_iff.1 lp3).1
      rw [hrec] at lp4
      have df4 := (World.putObj_heap_other (w := w3) (r := w.heap.size + 1) (k := w.heap.size) (o := .loop { rec .ready none with state := .busy }) (by omega)).trans df3
      rw [hrec] at df4
      refine wpIn_block (region_in (X := X.re κ3 H3 _ _ 7) (T := T) (J := J) (G := G) E (hG1.mono (Fz.le_trans hle2 h3.h0)) (r := some (w.heap.size + 1)) (by show List.all _ (okOp X.N 7) = true; rw [hN]; exact ok86b) nd86b [] (h4.re 7) (body86 l a bb hc2 t) ?_)
      rintro s5 κ5' H5 a5 w5 h5' ⟨c5', hc5', hwk5⟩
      obtain ⟨κ5, h5⟩ := hwk5 _ _ _ _ _ h5'
      have h5b := h4.back (by rw [hA]; exact (by decide : (3 : Nat) ≤ 7)) h5 (by rw [hA]; exact none86' l a _ c5')
      have lp5 := h4.other h5 lp4 rfl
      have df5 := h4.other h5 df4 rfl
      refine ⟨_, _, run_endRound none lp5, rfl, H5, Fz.le_trans h3.h0 h5.h0, Fz.le_trans hle2 (Fz.le_trans h3.h0 h5.h0), ⟨κ5, c5', by rw [hst]; exact hc5', ?_⟩, ?_, ?_⟩
      · rw [hst]
        refine Rel.putObj ?_ _ lp5 rfl hnp
        have hb4 : ∀ d b, d < 7 → find d (bs86 a bb c2) = some b → b.gen = 0 → find d (bs86 a bb c2 ++ [(8, ⟨0, 74, tok t⟩)]) = some b → (∃ b', find d (bs86 a (.mk 6 a t.s 0 [bb] []) c5') = some b' ∧ b'.gen = 0) → ac.tmps.getD d undef = .pointer (some ⟨κ2.blk d 0, 0, none⟩) → AVr κ5 H5 (.one (.ptr d 0 0)) (ac.tmps.getD d undef) := fun d bx hd e1 e2 e3 ⟨b', e4, e5⟩ e6 => by
          have k3 := h3.args d bx hd e3
          have k5 := h5.args d b' hd e4
          simp only [Ctx.re, e1, e2] at k3
          simp only [Ctx.re, e3, e2, e5] at k5
          have hnb := (h5.box d b' e4).1
          rw [e6, ← k3, ← k5]
          exact .one _ _ (.ptr d 0 0 (by omega))
        refine { h5b with size := h2.size, defers := h2.defers, tmps := fun t' v ht' => ?_ }
        rcases find4 ht' with ⟨rfl, rfl⟩ | ⟨rfl, rfl⟩ | ⟨rfl, rfl⟩ | ⟨rfl, rfl⟩
        · exact clo_mono (h2.tmps 10 _ rfl) (Fz.le_trans h3.h0 h5.h0)
        · exact hb4 4 _ (by decide) rfl rfl rfl ⟨_, rfl, rfl⟩ (inv_ptr (h2.tmps 4 _ rfl)).1
        · exact hb4 5 _ (by decide) rfl rfl rfl ⟨_, rfl, rfl⟩ (inv_ptr (h2.tmps 5 _ rfl)).1
        · exact hb4 6 _ (by decide) rfl rfl rfl ⟨_, rfl, rfl⟩ (inv_ptr (h2.tmps 6 _ rfl)).1
      · rw [hrec]
        exact World.putObj_heap_same (Array.getElem?_eq_some_iff.1 lp5).1
      · exact (World.putObj_heap_other (by omega)).trans df5
    case last =>
      rintro e w9 ⟨⟨v, rfl⟩, H9, hle9, ⟨κ9, c9, hc9, h9⟩, lp9, df9⟩
      rw [hrec] at lp9
      refine ⟨none, _, run_endLoop lp9 (by simp), ?_⟩
      have h10 := h9.putObj (.loop { rec .ready none with state := .exhausted }) lp9 rfl hnp
      have df10 := (World.putObj_heap_other (w := w9) (r := w.heap.size + 1) (k := w.heap.size) (o := .loop { rec .ready none with state := .exhausted }) (by omega)).trans df9
      rw [hrec] at h10 df10
      show Code.wpIn Fence.wide 0 Tryd.prog (.seq (.region 4 ops86c false) .ret) _ { tmps := ac.tmps, defers := [_] ++ ac.defers } _
      rw [h9.defers]
      refine wpIn_seq (region_in (X := X.re κ9 H9 _ _ 7) (T := T) (J := J) (G := G) (a := ac) E (hG1.mono hle9) (r := none) (by show List.all _ (okOp X.N 7) = true; rw [hN]; exact ok86c) nd86c [{ target := .collected w.heap.size, args := #[] }] (h10.re 7) (end86 l a _ hc9) ?_)
      rintro s11 κ11 H11 a11 w11 h11 ⟨hres, hnone⟩
      refine wpIn_ret ⟨.inr rfl, w.heap.size, s11, κ11, H11, rfl, h.grown, h10.other h11 df10 rfl, ?_, ?_⟩
      · have := h10.back (by rw [hA]; exact (by decide : (3 : Nat) ≤ 7)) h11 (by rw [hA]; exact hnone)
        exact { this with defers := rfl, size := this.size, tmps := this.tmps }
      · rw [List.drop_zero] at hres
        exact hres
end Go.Proofs.YtoapgongbackaaaDoor.V

/-! U5: the program's parser: expressions. -/
namespace Go.Proofs.YtoapgongbackaaaDoor.V
open Go Go.Proofs
set_option maxRecDepth 100000

def lamS : Sg := ⟨5, ⟨#[92]⟩⟩
def eqS : Sg := ⟨5, ⟨#[61]⟩⟩
def semi : Sg := ⟨5, ⟨#[59]⟩⟩
def barS : Sg := ⟨5, ⟨#[124]⟩⟩
def lbrace : Sg := ⟨5, ⟨#[123]⟩⟩
def rbrace : Sg := ⟨5, ⟨#[125]⟩⟩
def letS : Sg := ⟨4, ⟨#[108, 101, 116]⟩⟩
def dataS : Sg := ⟨4, ⟨#[100, 97, 116, 97]⟩⟩
def inS : Sg := ⟨4, ⟨#[105, 110]⟩⟩
def ifS : Sg := ⟨4, ⟨#[105, 102]⟩⟩
def thenS : Sg := ⟨4, ⟨#[116, 104, 101, 110]⟩⟩
def elseS : Sg := ⟨4, ⟨#[101, 108, 115, 101]⟩⟩
def caseS : Sg := ⟨4, ⟨#[99, 97, 115, 101]⟩⟩
def ofS : Sg := ⟨4, ⟨#[111, 102]⟩⟩
theorem skipF {s : PS} {x : Sg} (h : nextP s x = false) : Ct 43 [parA s, .val (.agg (sgn x))] [.val (.one (.v (.bool false)))] [par s] := by
  have := skip_ct s x
  simp only [skipP, h] at this
  exact this
theorem skipT {s : PS} {x : Sg} (h : nextP s x = true) : Ct 43 [parA s, .val (.agg (sgn x))] [.val (.one (.v (.bool true)))] [par (takeP s)] := by
  have := skip_ct s x
  simp only [skipP, h] at this
  exact this
/-- Names, within the bounds. -/
def namesG (s : PS) : Option (List Tok × PS) := match namesP s with
  | none => none
  | some (l, s') => match decide (s.r.length ≤ 4294967296 ∧ l.length ≤ 4294967296) with
    | true => some (l, s')
    | false => none
theorem namesG_len {s s' : PS} {l : List Tok} (h : namesG s = some (l, s')) : l.length ≤ 4294967296 := by
  unfold namesG at h
  split at h
  · cases h
  · split at h
    · rename_i h2
      cases h
      exact (of_decide_eq_true h2).2
    · cases h
theorem namesG_ct {s s' : PS} {l : List Tok} (h : namesG s = some (l, s')) : Ct 83 [parA s] [.row 74 4 (l.map tok)] [par s'] := by
  unfold namesG at h
  split at h
  · cases h
  · rename_i h1
    split at h
    · rename_i h2
      cases h
      exact names_ct s _ _ (of_decide_eq_true h2).1 h1
    · cases h
def Exp.at_ : Exp → Int
  | .mk _ a _ _ _ _ => a
mutual
def exprP : Nat → PS → Option (Exp × PS)
  | 0, _ => none
  | k + 1, s => match s.bad with
    | true => some (noExp, s)
    | false => match nextP s lamS with
      | true => match namesG (needP (takeP s) nameS).2 with
        | none => none
        | some (l, s3) => match exprP k (needP s3 arrow).2 with
          | none => none
          | some (b, s4) => some (lamsP ((needP (takeP s) nameS).1 :: l) s.t.at_ b, s4)
      | false => match nextP s letS with
        | true => match boundP k (needP (takeP s) nameS).1 (needP (takeP s) nameS).2 with
          | none => none
          | some (a, s2) => match exprP k (needP s2 inS).2 with
            | none => none
            | some (b, s3) => some (.mk 7 s.t.at_ (needP (takeP s) nameS).1.s 0 [a, b] [], s3)
        | false => match nextP s ifS with
          | true => match exprP k (takeP s) with
            | none => none
            | some (a, s1) => match exprP k (needP s1 thenS).2 with
              | none => none
              | some (b, s2) => match exprP k (needP s2 elseS).2 with
                | none => none
                | some (c, s3) => some (.mk 9 s.t.at_ .empty 0 [a, b, c] [], s3)
          | false => match nextP s caseS with
            | true => match exprP k (takeP s) with
              | none => none
              | some (e, s1) => match altsP k (!(needP (needP s1 ofS).2 lbrace).2.bad) [] (needP (needP s1 ofS).2 lbrace).2 with
                | none => none
                | some (l, s2) => some (.mk 10 s.t.at_ .empty 0 [e] l, (needP s2 rbrace).2)
            | false => match atomP k s with
              | none => none
              | some (e, s1) => appP k e s1
def altsP : Nat → Bool → List Alt → PS → Option (List Alt × PS)
  | 0, _, _, _ => none
  | _ + 1, false, acc, s => some (acc, s)
  | k + 1, true, acc, s => match namesG (needP s conS).2 with
    | none => none
    | some (l, s1) => match exprP k (needP s1 arrow).2 with
      | none => none
      | some (b, s2) => altsP k (skipP s2 semi).1 (acc ++ [.mk (needP s conS).1.at_ (needP s conS).1.s (l.map (·.s)) b]) (skipP s2 semi).2
def appP : Nat → Exp → PS → Option (Exp × PS)
  | 0, _, _ => none
  | k + 1, e, s => match beginsP s with
    | false => some (e, s)
    | true => match atomP k s with
      | none => none
      | some (a, s1) => appP k (.mk 5 e.at_ .empty 0 [e, a] []) s1
def boundP : Nat → Tok → PS → Option (Exp × PS)
  | 0, _, _ => none
  | k + 1, t, s => match namesG s with
    | none => none
    | some (l, s1) => match exprP k (needP s1 eqS).2 with
      | none => none
      | some (b, s2) => some (lamsP l t.at_ b, s2)
def atomP : Nat → PS → Option (Exp × PS)
  | 0, _ => none
  | k + 1, s => match beginsP s with
    | false => some (noExp, failP s)
    | true => match isS s.t nameS with
      | true => some (.mk 1 s.t.at_ s.t.s 0 [] [], takeP s)
      | false => match isS s.t conS with
        | true => some (.mk 2 s.t.at_ s.t.s 0 [] [], takeP s)
        | false => match isS s.t intS with
          | true => some (.mk 3 s.t.at_ .empty s.t.n [] [], takeP s)
          | false => match isS s.t trueS with
            | true => some (.mk 4 s.t.at_ .empty 1 [] [], takeP s)
            | false => match isS s.t falseS with
              | true => some (.mk 4 s.t.at_ .empty 0 [] [], takeP s)
              | false => match exprP k (takeP s) with
                | none => none
                | some (e, s1) => match kidsE k [e] s1 with
                  | none => none
                  | some (l, s2) => match l with
                    | [e] => some (e, (needP s2 rpar).2)
                    | l => some (.mk 8 s.t.at_ .empty 0 l [], (needP s2 rpar).2)
def kidsE : Nat → List Exp → PS → Option (List Exp × PS)
  | 0, _, _ => none
  | k + 1, acc, s => match (moreP s acc.length).1 with
    | false => some (acc, (moreP s acc.length).2)
    | true => match exprP k (moreP s acc.length).2 with
      | none => none
      | some (e, s1) => kidsE k (acc ++ [e]) s1
end
abbrev Ctx0 (f k : Nat) (p : Nat → PS → Option (Exp × PS)) : Prop := ∀ s e s', p k s = some (e, s') → Ct f [parA s] [.val (.agg (exC e))] [par s']
theorem bound_ct {k : Nat} (ih : ∀ j < k + 1, j ≤ 4294967296 → Ctx0 87 j exprP) (hk : k + 1 ≤ 4294967296) (t : Tok) (s s' : PS) (e : Exp) (h : boundP (k + 1) t s = some (e, s')) :
    Ct 47 [parA s, .val (.agg (tok t))] [.val (.agg (exC e))] [par s'] := by
  refine ct Tryd.func47 (by kernel_rfl) ?_
  unfold boundP at h
  split at h
  · cases h
  · rename_i l s1 h1
    split at h
    · cases h
    · rename_i b s2 h2
      simp only [Option.some.injEq, Prod.mk.injEq] at h
      obtain ⟨rfl, rfl⟩ := h
      conv => whnf
      refine ⟨_, _, namesG_ct h1, ?_⟩
      conv => whnf
      refine ⟨_, _, mark_ct _, ?_⟩
      conv => whnf
      refine ⟨_, _, need_ct s1 eqS, ?_⟩
      obtain ⟨k2, a2, st2, n2, ks2, as2⟩ := b
      conv => whnf
      refine ⟨_, _, ih k (by omega) (by omega) _ _ _ h2, ?_⟩
      conv => whnf
      have hlen := namesG_len h1
      refine ⟨_, _, lams_ct l (by omega) t.at_ (.mk k2 a2 st2 n2 ks2 as2), ?_⟩
      generalize lamsP l t.at_ (.mk k2 a2 st2 n2 ks2 as2) = r
      obtain ⟨k3, a3, st3, n3, ks3, as3⟩ := r
      conv => whnf
      refine ⟨by kernel_rfl, ?_⟩
      conv => whnf
      exact ⟨rfl, rfl⟩
end Go.Proofs.YtoapgongbackaaaDoor.V

/-! U6: the program's parser: atoms. -/
namespace Go.Proofs.YtoapgongbackaaaDoor.V
open Go Go.Proofs
set_option maxRecDepth 100000

theorem atom_ct {k : Nat} (ih : ∀ j < k, j ≤ 4294967296 → Ctx0 87 j exprP) (hk : k ≤ 4294967296) : Ctx0 101 k atomP := by
  intro s e s' h
  cases k with
  | zero => simp [atomP] at h
  | succ k =>
    refine ct Tryd.func101 (by kernel_rfl) ?_
    unfold atomP at h
    conv => whnf
    refine ⟨_, _, begins_ct s, ?_⟩
    cases h1 : beginsP s
    · rw [h1] at h
      simp only [Option.some.injEq, Prod.mk.injEq] at h
      obtain ⟨rfl, rfl⟩ := h
      conv => whnf
      refine ⟨_, _, fail_ct s, ?_⟩
      conv => whnf
      exact ⟨rfl, rfl⟩
    · rw [h1] at h
      simp only at h
      conv => whnf
      refine ⟨_, _, take_ct s, ?_⟩
      generalize takeP s = s0 at h
      obtain ⟨t, r, bad, a⟩ := s
      conv => whnf
      refine ⟨_, _, of_ct t, ?_⟩
      conv => whnf
      cases h_n : (decide ((ofP t).k = 1) && decide ((ofP t).s = ByteArray.empty))
      rotate_left
      · rw [show isS t nameS = true from h_n] at h
        simp only [Option.some.injEq, Prod.mk.injEq] at h
        obtain ⟨rfl, rfl⟩ := h
        conv => whnf
        refine ⟨by kernel_rfl, ?_⟩
        conv => whnf
        exact ⟨rfl, rfl⟩
      rw [show isS t nameS = false from h_n] at h
      simp only at h
      conv => whnf
      cases h_c : (decide ((ofP t).k = 2) && decide ((ofP t).s = ByteArray.empty))
      rotate_left
      · rw [show isS t conS = true from h_c] at h
        simp only [Option.some.injEq, Prod.mk.injEq] at h
        obtain ⟨rfl, rfl⟩ := h
        conv => whnf
        refine ⟨by kernel_rfl, ?_⟩
        conv => whnf
        exact ⟨rfl, rfl⟩
      rw [show isS t conS = false from h_c] at h
      simp only at h
      conv => whnf
      cases h_i : (decide ((ofP t).k = 3) && decide ((ofP t).s = ByteArray.empty))
      rotate_left
      · rw [show isS t intS = true from h_i] at h
        simp only [Option.some.injEq, Prod.mk.injEq] at h
        obtain ⟨rfl, rfl⟩ := h
        conv => whnf
        refine ⟨by kernel_rfl, ?_⟩
        conv => whnf
        exact ⟨rfl, rfl⟩
      rw [show isS t intS = false from h_i] at h
      simp only at h
      conv => whnf
      refine ⟨_, _, word_ct _, ?_⟩
      conv => whnf
      cases h_t : (decide ((ofP t).k = 4) && decide ((ofP t).s = ⟨#[116, 114, 117, 101]⟩))
      rotate_left
      · rw [show isS t trueS = true from h_t] at h
        simp only [Option.some.injEq, Prod.mk.injEq] at h
        obtain ⟨rfl, rfl⟩ := h
        conv => whnf
        exact ⟨rfl, rfl⟩
      rw [show isS t trueS = false from h_t] at h
      simp only at h
      conv => whnf
      refine ⟨_, _, word_ct _, ?_⟩
      conv => whnf
      cases h_f : (decide ((ofP t).k = 4) && decide ((ofP t).s = ⟨#[102, 97, 108, 115, 101]⟩))
      rotate_left
      · rw [show isS t falseS = true from h_f] at h
        simp only [Option.some.injEq, Prod.mk.injEq] at h
        obtain ⟨rfl, rfl⟩ := h
        conv => whnf
        exact ⟨rfl, rfl⟩
      rw [show isS t falseS = false from h_f] at h
      simp only at h
      split at h
      · cases h
      · rename_i e1 s1 h2
        split at h
        · cases h
        · rename_i l s2 h3
          obtain ⟨k4, a4, st4, n4, ks4, as4⟩ := e1
          conv => whnf
          refine ⟨_, _, ih k (by omega) (by omega) _ _ _ h2, ?_⟩
          conv => whnf
          refine ⟨fun j st => ∃ acc s5, j ≤ k ∧ kidsE j acc s5 = some (l, s2) ∧ acc.length + j ≤ 4294967296 + 4294967296 ∧
            st = ⟨[(0, .one (.ptr 0 0 0)), (2, .one (.ptr 2 0 0)), (4, .one (.ptr 4 0 0))],
              [(0, ⟨0, 76, par s5⟩), (2, ⟨0, 53, [.v (.int .i64 0), .v (.int .i64 0), .v (.string .empty), .v (.int .i64 0), .nil 53 6, .nil 96 9]⟩), (4, ⟨0, 53, [.v (.int .i64 8), .v (.int .i64 t.at_), .v (.string .empty), .v (.int .i64 0), .sl 53 6 (exsC acc) (some (33, 0)), .nil 96 9]⟩)], [(33, ⟨0, 53, 6, true⟩)]⟩,
            ⟨_, _, wk [0, 2, 4] [0, 2, 4] [20] [(20, 33)] [] [] rfl, [.mk k4 a4 st4 n4 ks4 as4], s1, Nat.le_refl k, h3, by simp; omega, rfl⟩, ?_⟩
          rintro j st ⟨acc, s5, hj, h5, hlen, rfl⟩
          conv => whnf
          refine ⟨_, _, more_ct s5 ((exsC acc).length : Int), ?_⟩
          cases j with
          | zero => simp [kidsE] at h5
          | succ j =>
            rw [exsC_length]
            unfold kidsE at h5
            cases hm : (moreP s5 (acc.length : Int)).1
            · rw [hm] at h5
              simp only [Option.some.injEq, Prod.mk.injEq] at h5
              obtain ⟨rfl, h6⟩ := h5
              conv => whnf
              refine ⟨_, _, mark_ct _, ?_⟩
              rw [h6]
              conv => whnf
              refine ⟨_, _, need_ct s2 rpar, ?_⟩
              conv => whnf
              cases hl : decide (((exsC acc).length : Int) = 1)
              · have hne : acc.length ≠ 1 := by have := of_decide_eq_false hl; rw [exsC_length] at this; omega
                split at h
                · simp at hne
                · simp only [Option.some.injEq, Prod.mk.injEq] at h
                  obtain ⟨rfl, rfl⟩ := h
                  conv => whnf
                  exact ⟨rfl, rfl⟩
              · have he : acc.length = 1 := by have := of_decide_eq_true hl; rw [exsC_length] at this; omega
                match acc, he with
                | [.mk k3 a3 st3 n3 ks3 as3], _ =>
                  simp only [Option.some.injEq, Prod.mk.injEq] at h
                  obtain ⟨rfl, rfl⟩ := h
                  conv => whnf
                  refine ⟨_, ⟨by decide, rfl⟩, ?_⟩
                  conv => whnf
                  exact ⟨rfl, rfl⟩
            · rw [hm] at h5
              simp only at h5
              split at h5
              · cases h5
              · rename_i t6 s6 h6
                obtain ⟨k6, a6, st6, n6, ks6, as6⟩ := t6
                conv => whnf
                refine ⟨_, _, ih j (by omega) (by omega) _ _ _ h6, ?_⟩
                conv => whnf
                refine ⟨by rw [exsC_length]; simp [lim]; omega, ?_⟩
                conv => whnf
                refine ⟨by kernel_rfl, ?_⟩
                conv => whnf
                refine ⟨j, _, Nat.lt_succ_self j, wk [0, 2, 4] [0, 2, 4] [33] [] [] [] rfl, _, s6, by omega, h5, by simp; omega, by rw [exsC_append]; rfl⟩
end Go.Proofs.YtoapgongbackaaaDoor.V

/-! U7: the program's parser: expressions. -/
namespace Go.Proofs.YtoapgongbackaaaDoor.V
open Go Go.Proofs
set_option maxRecDepth 100000

theorem boundj {k : Nat} (ih : ∀ j < k, j ≤ 4294967296 → Ctx0 87 j exprP) (hk : k ≤ 4294967296) {t : Tok} {s s' : PS} {e : Exp} (h : boundP k t s = some (e, s')) :
    Ct 47 [parA s, .val (.agg (tok t))] [.val (.agg (exC e))] [par s'] := by
  cases k with
  | zero => simp [boundP] at h
  | succ k => exact bound_ct ih hk t s s' e h
theorem expr_ct : ∀ k, k ≤ 4294967296 → Ctx0 87 k exprP := by
  intro k
  induction k using Nat.strongRecOn with
  | _ k ih =>
    intro hk s e s' h
    cases k with
    | zero => simp [exprP] at h
    | succ k =>
      obtain ⟨t, r, bad, a⟩ := s
      refine ct Tryd.func87 (by kernel_rfl) ?_
      unfold exprP at h
      cases bad
      rotate_left
      · simp only [Option.some.injEq, Prod.mk.injEq] at h
        obtain ⟨rfl, rfl⟩ := h
        conv => whnf
        exact ⟨rfl, rfl⟩
      simp only at h
      have IH : ∀ j ≤ k, Ctx0 87 j exprP := fun j hj => ih j (by omega) (by omega)
      have AT : ∀ j ≤ k, Ctx0 101 j atomP := fun j hj => atom_ct (fun i hi _ => IH i (by omega)) (by omega)
      conv => whnf
      refine ⟨_, ⟨by decide, rfl⟩, ?_⟩
      conv => whnf
      refine ⟨_, _, mark_ct _, ?_⟩
      cases h1 : nextP ⟨t, r, false, a⟩ lamS
      rotate_left
      · rw [h1] at h
        simp only at h
        conv => whnf
        refine ⟨_, _, skipT h1, ?_⟩
        generalize takeP ⟨t, r, false, a⟩ = s0 at h
        conv => whnf
        refine ⟨_, _, need_ct s0 nameS, ?_⟩
        split at h
        · cases h
        · rename_i l s3 h2
          split at h
          · cases h
          · rename_i b s4 h3
            simp only [Option.some.injEq, Prod.mk.injEq] at h
            obtain ⟨rfl, rfl⟩ := h
            conv => whnf
            refine ⟨_, _, namesG_ct h2, ?_⟩
            have hlen := namesG_len h2
            generalize (needP s0 nameS).1 = t2
            conv => whnf
            refine ⟨by simp [lim]; omega, ?_⟩
            conv => whnf
            refine ⟨_, _, mark_ct _, ?_⟩
            conv => whnf
            refine ⟨_, _, need_ct s3 arrow, ?_⟩
            obtain ⟨k2, a2, st2, n2, ks2, as2⟩ := b
            conv => whnf
            refine ⟨_, _, IH k (Nat.le_refl k) _ _ _ h3, ?_⟩
            conv => whnf
            refine ⟨_, _, lams_ct (t2 :: l) (by simp; omega) t.at_ (.mk k2 a2 st2 n2 ks2 as2), ?_⟩
            generalize lamsP (t2 :: l) t.at_ (.mk k2 a2 st2 n2 ks2 as2) = r
            obtain ⟨k3, a3, st3, n3, ks3, as3⟩ := r
            conv => whnf
            exact ⟨rfl, rfl⟩
      rw [h1] at h
      simp only at h
      conv => whnf
      refine ⟨_, _, skipF h1, ?_⟩
      conv => whnf
      refine ⟨_, _, word_ct _, ?_⟩
      cases h2 : nextP ⟨t, r, false, a⟩ letS
      rotate_left
      · rw [h2] at h
        simp only at h
        conv => whnf
        refine ⟨_, _, skipT h2, ?_⟩
        generalize takeP ⟨t, r, false, a⟩ = s0 at h
        conv => whnf
        refine ⟨_, _, need_ct s0 nameS, ?_⟩
        generalize (needP s0 nameS).1 = t2 at h
        generalize (needP s0 nameS).2 = s2 at h
        split at h
        · cases h
        · rename_i b s3 h3
          split at h
          · cases h
          · rename_i c s4 h4
            simp only [Option.some.injEq, Prod.mk.injEq] at h
            obtain ⟨rfl, rfl⟩ := h
            obtain ⟨k2, a2, st2, n2, ks2, as2⟩ := b
            conv => whnf
            refine ⟨_, _, boundj (fun j hj => ih j (by omega)) (by omega) h3, ?_⟩
            conv => whnf
            refine ⟨_, _, word_ct _, ?_⟩
            conv => whnf
            refine ⟨_, _, need_ct s3 inS, ?_⟩
            obtain ⟨k3, a3, st3, n3, ks3, as3⟩ := c
            conv => whnf
            refine ⟨_, _, IH k (Nat.le_refl k) _ _ _ h4, ?_⟩
            conv => whnf
            refine ⟨by kernel_rfl, ?_⟩
            conv => whnf
            exact ⟨rfl, rfl⟩
      rw [h2] at h
      simp only at h
      conv => whnf
      refine ⟨_, _, skipF h2, ?_⟩
      conv => whnf
      refine ⟨_, _, word_ct _, ?_⟩
      cases h3 : nextP ⟨t, r, false, a⟩ ifS
      rotate_left
      · rw [h3] at h
        simp only at h
        conv => whnf
        refine ⟨_, _, skipT h3, ?_⟩
        generalize takeP ⟨t, r, false, a⟩ = s0 at h
        split at h
        · cases h
        · rename_i b s3 h4
          split at h
          · cases h
          · rename_i c s4 h5
            split at h
            · cases h
            · rename_i d s5 h6
              simp only [Option.some.injEq, Prod.mk.injEq] at h
              obtain ⟨rfl, rfl⟩ := h
              obtain ⟨k2, a2, st2, n2, ks2, as2⟩ := b
              conv => whnf
              refine ⟨_, _, IH k (Nat.le_refl k) _ _ _ h4, ?_⟩
              conv => whnf
              refine ⟨_, _, word_ct _, ?_⟩
              apply cut
              · conv => whnf
                refine ⟨_, _, need_ct s3 thenS, ?_⟩
                conv => whnf
              obtain ⟨k3, a3, st3, n3, ks3, as3⟩ := c
              conv => whnf
              refine ⟨_, _, IH k (Nat.le_refl k) _ _ _ h5, ?_⟩
              conv => whnf
              refine ⟨_, _, word_ct _, ?_⟩
              apply cut
              · conv => whnf
                refine ⟨_, _, need_ct s4 elseS, ?_⟩
                conv => whnf
              obtain ⟨k4, a4, st4, n4, ks4, as4⟩ := d
              conv => whnf
              refine ⟨_, _, IH k (Nat.le_refl k) _ _ _ h6, ?_⟩
              conv => whnf
              refine ⟨by kernel_rfl, ?_⟩
              conv => whnf
              exact ⟨rfl, rfl⟩
      rw [h3] at h
      simp only at h
      conv => whnf
      refine ⟨_, _, skipF h3, ?_⟩
      conv => whnf
      refine ⟨_, _, word_ct _, ?_⟩
      cases h4 : nextP ⟨t, r, false, a⟩ caseS
      rotate_left
      · rw [h4] at h
        simp only at h
        conv => whnf
        refine ⟨_, _, skipT h4, ?_⟩
        generalize takeP ⟨t, r, false, a⟩ = s0 at h
        split at h
        · cases h
        · rename_i b s3 h5
          split at h
          · cases h
          · rename_i l s4 h6
            simp only [Option.some.injEq, Prod.mk.injEq] at h
            obtain ⟨rfl, rfl⟩ := h
            obtain ⟨k2, a2, st2, n2, ks2, as2⟩ := b
            conv => whnf
            refine ⟨_, _, IH k (Nat.le_refl k) _ _ _ h5, ?_⟩
            conv => whnf
            refine ⟨_, _, word_ct _, ?_⟩
            apply cut
            · conv => whnf
              refine ⟨_, _, need_ct s3 ofS, ?_⟩
              conv => whnf
            conv => whnf
            refine ⟨_, _, mark_ct _, ?_⟩
            apply cut
            · conv => whnf
              refine ⟨_, _, need_ct (needP s3 ofS).2 lbrace, ?_⟩
              conv => whnf
            generalize (needP (needP s3 ofS).2 lbrace).2 = s5 at h6
            conv => whnf
            refine ⟨fun j st => ∃ acc s6 more, j ≤ k ∧ altsP j more acc s6 = some (l, s4) ∧ acc.length + j ≤ 4294967296 + 4294967296 ∧
              st = ⟨[(0, .one (.ptr 0 0 0)), (2, .one (.ptr 2 0 0)), (9, .one (.ptr 9 0 0)), (10, .one (.v (.bool more)))],
                [(0, ⟨0, 76, par s6⟩), (2, ⟨0, 53, [.v (.int .i64 0), .v (.int .i64 0), .v (.string .empty), .v (.int .i64 0), .nil 53 6, .nil 96 9]⟩), (9, ⟨0, 53, [.v (.int .i64 10), .v (.int .i64 t.at_), .v (.string .empty), .v (.int .i64 0), .sl 53 6 (exsC [.mk k2 a2 st2 n2 ks2 as2]) none, .sl 96 9 (altsC acc) (some (132, 0))]⟩)], [(132, ⟨0, 96, 9, true⟩)]⟩,
              ⟨_, _, wk [0, 2, 9, 10] [0, 2, 9] [] [] [] [(9, 5, 132, 96, 9)] rfl, [], s5, _, Nat.le_refl k, h6, by simp; omega, rfl⟩, ?_⟩
            rintro j st ⟨acc, s6, more, hj, h7, hlen, rfl⟩
            cases j with
            | zero => simp [altsP] at h7
            | succ j =>
              cases more
              · simp only [altsP, Option.some.injEq, Prod.mk.injEq] at h7
                obtain ⟨rfl, rfl⟩ := h7
                conv => whnf
                refine ⟨_, _, mark_ct _, ?_⟩
                apply cut
                · conv => whnf
                  refine ⟨_, _, need_ct s6 rbrace, ?_⟩
                  conv => whnf
                conv => whnf
                exact ⟨rfl, rfl⟩
              · unfold altsP at h7
                split at h7
                · cases h7
                · rename_i l8 s8 h8
                  split at h7
                  · cases h7
                  · rename_i b9 s9 h9
                    conv => whnf
                    refine ⟨_, _, need_ct s6 conS, ?_⟩
                    generalize (needP s6 conS).1 = t2 at h7
                    conv => whnf
                    refine ⟨_, _, namesG_ct h8, ?_⟩
                    conv => whnf
                    refine ⟨_, _, texts_ct l8 (namesG_len h8), ?_⟩
                    conv => whnf
                    refine ⟨by kernel_rfl, ?_⟩
                    conv => whnf
                    refine ⟨_, _, mark_ct _, ?_⟩
                    apply cut
                    · conv => whnf
                      refine ⟨_, _, need_ct s8 arrow, ?_⟩
                      conv => whnf
                    obtain ⟨k9, a9, st9, n9, ks9, as9⟩ := b9
                    conv => whnf
                    refine ⟨_, _, IH j (by omega) _ _ _ h9, ?_⟩
                    conv => whnf
                    refine ⟨by rw [altsC_length]; simp [lim]; omega, ?_⟩
                    conv => whnf
                    refine ⟨_, _, mark_ct _, ?_⟩
                    apply cut
                    · conv => whnf
                      refine ⟨_, _, skip_ct s9 semi, ?_⟩
                      conv => whnf
                    conv => whnf
                    refine ⟨j, _, Nat.lt_succ_self j, wk [0, 2, 9, 10] [0, 2, 9] [132] [] [] [] rfl, _, _, _, by omega, h7, by simp; omega, by rw [altsC_append]; rfl⟩
      rw [h4] at h
      simp only at h
      conv => whnf
      refine ⟨_, _, skipF h4, ?_⟩
      split at h
      · cases h
      · rename_i b s1 h5
        obtain ⟨k2, a2, st2, n2, ks2, as2⟩ := b
        conv => whnf
        refine ⟨_, _, AT k (Nat.le_refl k) _ _ _ h5, ?_⟩
        conv => whnf
        refine ⟨fun j st => ∃ k6 a6 st6 n6 ks6 as6 c5 s6, j ≤ k ∧ appP j (.mk k6 a6 st6 n6 ks6 as6) s6 = some (e, s') ∧ (c5 = .nil 96 9 ∧ as6 = [] ∨ c5 = .sl 96 9 (altsC as6) none) ∧
          st = ⟨[(0, .one (.ptr 0 0 0)), (2, .one (.ptr 2 0 0)), (13, .one (.ptr 13 0 0))],
            [(0, ⟨0, 76, par s6⟩), (2, ⟨0, 53, [.v (.int .i64 0), .v (.int .i64 0), .v (.string .empty), .v (.int .i64 0), .nil 53 6, .nil 96 9]⟩), (13, ⟨0, 53, [.v (.int .i64 k6), .v (.int .i64 a6), .v (.string st6), .v (.int .i64 n6), .sl 53 6 (exsC ks6) none, c5]⟩)], []⟩,
          ⟨_, _, wk [0, 2, 13] [0, 2, 13] [] [] [] [] rfl, k2, a2, st2, n2, ks2, as2, _, s1, Nat.le_refl k, h, .inr rfl, rfl⟩, ?_⟩
        rintro j st ⟨k6, a6, st6, n6, ks6, as6, c5, s6, hj, h6, hc, rfl⟩
        cases j with
        | zero => simp [appP] at h6
        | succ j =>
          unfold appP at h6
          cases h7 : beginsP s6
          · rw [h7] at h6
            simp only [Option.some.injEq, Prod.mk.injEq] at h6
            obtain ⟨rfl, rfl⟩ := h6
            rcases hc with ⟨rfl, rfl⟩ | rfl
            · conv => whnf
              refine ⟨_, _, begins_ct s6, ?_⟩
              rw [h7]
              conv => whnf
              exact ⟨rfl, rfl⟩
            · conv => whnf
              refine ⟨_, _, begins_ct s6, ?_⟩
              rw [h7]
              conv => whnf
              exact ⟨rfl, rfl⟩
          · rw [h7] at h6
            simp only at h6
            split at h6
            · cases h6
            · rename_i b9 s9 h9
              obtain ⟨k9, a9, st9, n9, ks9, as9⟩ := b9
              rcases hc with ⟨rfl, rfl⟩ | rfl
              · conv => whnf
                refine ⟨_, _, begins_ct s6, ?_⟩
                rw [h7]
                conv => whnf
                refine ⟨_, _, AT j (by omega) _ _ _ h9, ?_⟩
                conv => whnf
                refine ⟨by kernel_rfl, ?_⟩
                conv => whnf
                refine ⟨j, _, Nat.lt_succ_self j, wk [0, 2, 13] [0, 2, 13] [] [] [] [] rfl, 5, a6, .empty, 0, [.mk k6 a6 st6 n6 ks6 [], .mk k9 a9 st9 n9 ks9 as9], [], _, s9, by omega, h6, .inl ⟨rfl, rfl⟩, rfl⟩
              · conv => whnf
                refine ⟨_, _, begins_ct s6, ?_⟩
                rw [h7]
                conv => whnf
                refine ⟨_, _, AT j (by omega) _ _ _ h9, ?_⟩
                conv => whnf
                refine ⟨by kernel_rfl, ?_⟩
                conv => whnf
                refine ⟨j, _, Nat.lt_succ_self j, wk [0, 2, 13] [0, 2, 13] [] [] [] [] rfl, 5, a6, .empty, 0, [.mk k6 a6 st6 n6 ks6 as6, .mk k9 a9 st9 n9 ks9 as9], [], _, s9, by omega, h6, .inl ⟨rfl, rfl⟩, rfl⟩
end Go.Proofs.YtoapgongbackaaaDoor.V

/-! U8: the program's parser: data, programs. -/
namespace Go.Proofs.YtoapgongbackaaaDoor.V
open Go Go.Proofs
set_option maxRecDepth 100000

structure ConD where
  s : ByteArray
  at_ : Int
  args : List Ty
structure DataD where
  s : ByteArray
  at_ : Int
  vars : List ByteArray
  cons : List ConD
structure BindD where
  s : ByteArray
  at_ : Int
  body : Exp
structure ProgD where
  datas : List DataD
  binds : List BindD
@[reducible] def conC (c : ConD) : List AC := [.v (.string c.s), .v (.int .i64 c.at_), .sl 59 4 (tysC c.args) none]
@[reducible] def dataC (d : DataD) : List AC := [.v (.string d.s), .v (.int .i64 d.at_), .sl 9 1 (d.vars.map str) none, .sl 64 3 (d.cons.map conC) none]
@[reducible] def bindC (b : BindD) : List AC := .v (.string b.s) :: .v (.int .i64 b.at_) :: exC b.body
@[reducible] def progC (p : ProgD) : List AC := [.sl 62 4 (p.datas.map dataC) none, .sl 55 8 (p.binds.map bindC) none]
def consP : Nat → List ByteArray → Bool → List ConD → PS → Option (List ConD × PS)
  | 0, _, _, _, _ => none
  | _ + 1, _, false, acc, s => some (acc, s)
  | k + 1, vars, true, acc, s => match kidsP k vars [] (needP s conS).2 with
    | none => none
    | some (args, s1) => consP k vars (skipP s1 barS).1 (acc ++ [⟨(needP s conS).1.s, (needP s conS).1.at_, args⟩]) (skipP s1 barS).2
def dataP (k : Nat) (s : PS) : Option (DataD × PS) := match namesG (needP s conS).2 with
  | none => none
  | some (l, s1) => match consP k (l.map (·.s)) (!(needP s1 eqS).2.bad) [] (needP s1 eqS).2 with
    | none => none
    | some (cs, s3) => some (⟨(needP s conS).1.s, (needP s conS).1.at_, l.map (·.s), cs⟩, (needP s3 semi).2)
theorem data_ct {k : Nat} (hk : k ≤ 4294967296) {s s' : PS} {d : DataD} (h : dataP k s = some (d, s')) : Ct 45 [parA s] [.val (.agg (dataC d))] [par s'] := by
  refine ct Tryd.func45 (by kernel_rfl) ?_
  unfold dataP at h
  split at h
  · cases h
  · rename_i l s1 h1
    split at h
    · cases h
    · rename_i cs s3 h2
      simp only [Option.some.injEq, Prod.mk.injEq] at h
      obtain ⟨rfl, rfl⟩ := h
      have hv : (l.map (·.s)).length ≤ 4294967296 := by simpa using namesG_len h1
      generalize hvars : l.map (·.s) = vars at h2 hv
      conv => whnf
      refine ⟨_, _, need_ct s conS, ?_⟩
      generalize (needP s conS).1 = t
      conv => whnf
      refine ⟨_, _, namesG_ct h1, ?_⟩
      conv => whnf
      refine ⟨_, _, texts_ct l (namesG_len h1), ?_⟩
      rw [hvars]
      conv => whnf
      refine ⟨by kernel_rfl, ?_⟩
      conv => whnf
      refine ⟨_, _, mark_ct _, ?_⟩
      apply cut
      · conv => whnf
        refine ⟨_, _, need_ct s1 eqS, ?_⟩
        conv => whnf
      generalize (needP s1 eqS).2 = s2 at h2
      conv => whnf
      refine ⟨fun j st => ∃ acc s6 more, j ≤ k ∧ consP j vars more acc s6 = some (cs, s3) ∧ acc.length + j ≤ 4294967296 + 4294967296 ∧
        st = ⟨[(0, .one (.ptr 0 0 0)), (2, .one (.ptr 2 0 0)), (4, .one (.ptr 4 0 0)), (5, .one (.v (.bool more)))],
          [(0, ⟨0, 76, par s6⟩), (2, ⟨0, 62, [.v (.string .empty), .v (.int .i64 0), .nil 9 1, .nil 64 3]⟩), (4, ⟨0, 62, [.v (.string t.s), .v (.int .i64 t.at_), .sl 9 1 (vars.map str) none, .sl 64 3 (acc.map conC) (some (54, 0))]⟩)], [(54, ⟨0, 64, 3, true⟩)]⟩,
        ⟨_, _, wk [0, 2, 4, 5] [0, 2, 4] [] [] [] [(4, 3, 54, 64, 3)] rfl, [], s2, _, Nat.le_refl k, h2, by simp; omega, rfl⟩, ?_⟩
      rintro j st ⟨acc, s6, more, hj, h7, hlen, rfl⟩
      cases j with
      | zero => simp [consP] at h7
      | succ j =>
        cases more
        · simp only [consP, Option.some.injEq, Prod.mk.injEq] at h7
          obtain ⟨rfl, rfl⟩ := h7
          conv => whnf
          refine ⟨_, _, mark_ct _, ?_⟩
          apply cut
          · conv => whnf
            refine ⟨_, _, need_ct s6 semi, ?_⟩
            conv => whnf
          conv => whnf
          exact ⟨rfl, rfl⟩
        · unfold consP at h7
          split at h7
          · cases h7
          · rename_i args s8 h8
            conv => whnf
            refine ⟨_, _, need_ct s6 conS, ?_⟩
            generalize (needP s6 conS).1 = t2 at h7
            generalize (needP s6 conS).2 = s7 at h8
            conv => whnf
            refine ⟨fun i st => ∃ acc2 s9, i ≤ j ∧ kidsP i vars acc2 s9 = some (args, s8) ∧ acc2.length + i ≤ 4294967296 + 4294967296 ∧
              st = ⟨[(0, .one (.ptr 0 0 0)), (2, .one (.ptr 2 0 0)), (4, .one (.ptr 4 0 0)), (7, .one (.ptr 7 0 0))],
                [(0, ⟨0, 76, par s9⟩), (2, ⟨0, 62, [.v (.string .empty), .v (.int .i64 0), .nil 9 1, .nil 64 3]⟩), (4, ⟨0, 62, [.v (.string t.s), .v (.int .i64 t.at_), .sl 9 1 (vars.map str) none, .sl 64 3 (acc.map conC) (some (54, 0))]⟩), (7, ⟨0, 64, [.v (.string t2.s), .v (.int .i64 t2.at_), .sl 59 4 (tysC acc2) (some (48, 0))]⟩)], [(54, ⟨0, 64, 3, true⟩), (48, ⟨0, 59, 4, true⟩)]⟩,
              ⟨_, _, wk [0, 2, 4, 7] [0, 2, 4, 7] [54] [] [] [(7, 2, 48, 59, 4)] rfl, [], s7, Nat.le_refl j, h8, by simp; omega, rfl⟩, ?_⟩
            rintro i st ⟨acc2, s9, hi, h9, hlen2, rfl⟩
            conv => whnf
            refine ⟨_, _, atomic_ct s9, ?_⟩
            cases i with
            | zero => simp [kidsP] at h9
            | succ i =>
              unfold kidsP at h9
              cases hm : atomicP s9
              · rw [hm] at h9
                simp only [Option.some.injEq, Prod.mk.injEq] at h9
                obtain ⟨rfl, rfl⟩ := h9
                conv => whnf
                refine ⟨by simp [lim]; omega, ?_⟩
                conv => whnf
                refine ⟨_, _, mark_ct _, ?_⟩
                apply cut
                · conv => whnf
                  refine ⟨_, _, skip_ct s9 barS, ?_⟩
                  conv => whnf
                conv => whnf
                refine ⟨j, _, Nat.lt_succ_self j, wk [0, 2, 4, 5] [0, 2, 4] [54] [] [] [] rfl, _, _, _, by omega, h7, by simp; omega, by rw [List.map_append]; rfl⟩
              · rw [hm] at h9
                simp only at h9
                split at h9
                · cases h9
                · rename_i t6 s10 h10
                  obtain ⟨k6, n6, st6, ks6⟩ := t6
                  conv => whnf
                  refine ⟨_, _, (ty_ct i (by omega)).1 vars _ _ _ hv h10, ?_⟩
                  conv => whnf
                  refine ⟨by rw [tysC_length]; simp [lim]; omega, ?_⟩
                  conv => whnf
                  refine ⟨by kernel_rfl, ?_⟩
                  conv => whnf
                  refine ⟨i, _, Nat.lt_succ_self i, wk [0, 2, 4, 7] [0, 2, 4, 7] [54, 48] [] [] [] rfl, _, s10, by omega, h9, by simp; omega, by rw [tysC_append]; rfl⟩
end Go.Proofs.YtoapgongbackaaaDoor.V

/-! U9: the program's parser: programs. -/
namespace Go.Proofs.YtoapgongbackaaaDoor.V
open Go Go.Proofs
set_option maxRecDepth 100000

def progP : Nat → ProgD → PS → Option (ProgD × PS)
  | 0, _, _ => none
  | k + 1, p, s => match s.bad with
    | true => some (p, s)
    | false => match decide (s.t.k = 0) with
      | true => some (p, s)
      | false => match nextP s dataS with
        | true => match dataP k (takeP s) with
          | none => none
          | some (d, s1) => progP k ⟨p.datas ++ [d], p.binds⟩ s1
        | false => match nextP s letS with
          | true => match boundP k (needP (takeP s) nameS).1 (needP (takeP s) nameS).2 with
            | none => none
            | some (b, s1) => progP k ⟨p.datas, p.binds ++ [⟨(needP (takeP s) nameS).1.s, (needP (takeP s) nameS).1.at_, b⟩]⟩ (needP s1 semi).2
          | false => progP k p (failP s)
theorem program_ct {k : Nat} (hk : k ≤ 4294967296) {s s' : PS} {p : ProgD} (h : progP k ⟨[], []⟩ s = some (p, s')) : Ct 24 [parA s] [.val (.agg (progC p))] [par s'] := by
  refine ct Tryd.func24 (by kernel_rfl) ?_
  conv => whnf
  refine ⟨fun j st => ∃ ds bs s6, j ≤ k ∧ progP j ⟨ds, bs⟩ s6 = some (p, s') ∧ ds.length + j ≤ 4294967296 + 4294967296 ∧ bs.length + j ≤ 4294967296 + 4294967296 ∧
    st = ⟨[(0, .one (.ptr 0 0 0)), (2, .one (.ptr 2 0 0)), (3, .one (.ptr 3 0 0))],
      [(0, ⟨0, 76, par s6⟩), (2, ⟨0, 26, [.nil 62 4, .nil 55 8]⟩), (3, ⟨0, 26, [.sl 62 4 (ds.map dataC) (some (31, 0)), .sl 55 8 (bs.map bindC) (some (51, 0))]⟩)], [(31, ⟨0, 62, 4, true⟩), (51, ⟨0, 55, 8, true⟩)]⟩,
    ⟨_, _, wk [0, 2, 3] [0, 2, 3] [] [] [] [(3, 0, 31, 62, 4), (3, 1, 51, 55, 8)] rfl, [], [], s, Nat.le_refl k, h, by simp; omega, by simp; omega, rfl⟩, ?_⟩
  rintro j st ⟨ds, bs, ⟨t, r, bad, a⟩, hj, h7, hl1, hl2, rfl⟩
  cases j with
  | zero => simp [progP] at h7
  | succ j =>
    unfold progP at h7
    cases bad
    rotate_left
    · simp only [Option.some.injEq, Prod.mk.injEq] at h7
      obtain ⟨rfl, rfl⟩ := h7
      conv => whnf
      exact ⟨rfl, rfl⟩
    · simp only at h7
      conv => whnf
      refine ⟨_, ⟨by decide, rfl⟩, ?_⟩
      conv => whnf
      cases hz : decide (t.k = 0)
      rotate_left
      · rw [hz] at h7
        simp only [Option.some.injEq, Prod.mk.injEq] at h7
        obtain ⟨rfl, rfl⟩ := h7
        conv => whnf
        exact ⟨rfl, rfl⟩
      · rw [hz] at h7
        simp only at h7
        conv => whnf
        refine ⟨_, _, word_ct _, ?_⟩
        cases h1 : nextP ⟨t, r, false, a⟩ dataS
        rotate_left
        · rw [h1] at h7
          simp only at h7
          split at h7
          · cases h7
          · rename_i d s1 h2
            apply cut
            · conv => whnf
              refine ⟨_, _, skipT h1, ?_⟩
              conv => whnf
            conv => whnf
            refine ⟨_, _, data_ct (by omega) h2, ?_⟩
            conv => whnf
            refine ⟨by simp [lim]; omega, ?_⟩
            conv => whnf
            refine ⟨by kernel_rfl, ?_⟩
            conv => whnf
            refine ⟨j, _, Nat.lt_succ_self j, wk [0, 2, 3] [0, 2, 3] [31, 51] [] [] [] rfl, _, _, _, by omega, h7, by simp; omega, by omega, by rw [List.map_append]; rfl⟩
        · rw [h1] at h7
          simp only at h7
          apply cut
          · conv => whnf
            refine ⟨_, _, skipF h1, ?_⟩
            conv => whnf
          conv => whnf
          refine ⟨_, _, word_ct _, ?_⟩
          cases h2 : nextP ⟨t, r, false, a⟩ letS
          rotate_left
          · rw [h2] at h7
            simp only at h7
            split at h7
            · cases h7
            · rename_i b s1 h3
              apply cut
              · conv => whnf
                refine ⟨_, _, skipT h2, ?_⟩
                conv => whnf
              generalize takeP ⟨t, r, false, a⟩ = s0 at h3 h7
              conv => whnf
              refine ⟨_, _, need_ct s0 nameS, ?_⟩
              generalize (needP s0 nameS).1 = t2 at h3 h7
              generalize (needP s0 nameS).2 = s3 at h3
              conv => whnf
              obtain ⟨k2, a2, st2, n2, ks2, as2⟩ := b
              refine ⟨_, _, boundj (fun i _ hi => expr_ct i hi) (by omega) h3, ?_⟩
              conv => whnf
              refine ⟨by simp [lim]; omega, ?_⟩
              conv => whnf
              refine ⟨by kernel_rfl, ?_⟩
              conv => whnf
              refine ⟨_, _, mark_ct _, ?_⟩
              apply cut
              · conv => whnf
                refine ⟨_, _, need_ct s1 semi, ?_⟩
                conv => whnf
              conv => whnf
              refine ⟨j, _, Nat.lt_succ_self j, wk [0, 2, 3] [0, 2, 3] [31, 51] [] [] [] rfl, _, _, _, by omega, h7, by omega, by simp; omega, by rw [List.map_append]; rfl⟩
          · rw [h2] at h7
            simp only at h7
            apply cut
            · conv => whnf
              refine ⟨_, _, skipF h2, ?_⟩
              conv => whnf
            conv => whnf
            refine ⟨_, _, fail_ct _, ?_⟩
            conv => whnf
            refine ⟨j, _, Nat.lt_succ_self j, wk [0, 2, 3] [0, 2, 3] [31, 51] [] [] [] rfl, _, _, _, by omega, h7, by omega, by omega, rfl⟩
end Go.Proofs.YtoapgongbackaaaDoor.V

/-! U10: how deep. -/
namespace Go.Proofs.YtoapgongbackaaaDoor.V
open Go Go.Proofs
set_option maxRecDepth 100000

def mx (a b : Int) : Int := if b > a then b else a
mutual
def deepE : Exp → Int
  | .mk _ _ _ _ kids alts => IntKind.i64.wrap (deepAs (deepEs 0 kids) alts + 1)
def deepEs : Int → List Exp → Int
  | n, [] => n
  | n, e :: l => deepEs (mx n (deepE e)) l
def deepA : Alt → Int
  | .mk _ _ _ b => deepE b
def deepAs : Int → List Alt → Int
  | n, [] => n
  | n, a :: l => deepAs (mx n (deepA a)) l
end
mutual
def deepT : Ty → Int
  | .mk _ _ _ kids => IntKind.i64.wrap (deepTs 0 kids + 1)
def deepTs : Int → List Ty → Int
  | n, [] => n
  | n, e :: l => deepTs (mx n (deepT e)) l
end
mutual
/-- All lists in it are within the bounds. -/
def fineT : Ty → Prop
  | .mk _ _ _ kids => kids.length ≤ 4294967296 ∧ fineTs kids
def fineTs : List Ty → Prop
  | [] => True
  | t :: l => fineT t ∧ fineTs l
end
mutual
def fineE : Exp → Prop
  | .mk _ _ _ _ kids alts => kids.length ≤ 4294967296 ∧ alts.length ≤ 4294967296 ∧ fineEs kids ∧ fineAs alts
def fineEs : List Exp → Prop
  | [] => True
  | t :: l => fineE t ∧ fineEs l
def fineA : Alt → Prop
  | .mk _ _ names b => names.length ≤ 4294967296 ∧ fineE b
def fineAs : List Alt → Prop
  | [] => True
  | t :: l => fineA t ∧ fineAs l
end
theorem fineTs_get : ∀ {l : List Ty} {i : Nat} {t : Ty}, fineTs l → l[i]? = some t → fineT t
  | [], _, _, _, h => by simp at h
  | t :: l, 0, _, hf, h => by simp at h; subst h; exact hf.1
  | t :: l, i + 1, _, hf, h => fineTs_get (l := l) hf.2 (by simpa using h)
theorem fineEs_get : ∀ {l : List Exp} {i : Nat} {t : Exp}, fineEs l → l[i]? = some t → fineE t
  | [], _, _, _, h => by simp at h
  | t :: l, 0, _, hf, h => by simp at h; subst h; exact hf.1
  | t :: l, i + 1, _, hf, h => fineEs_get (l := l) hf.2 (by simpa using h)
theorem fineAs_get : ∀ {l : List Alt} {i : Nat} {t : Alt}, fineAs l → l[i]? = some t → fineA t
  | [], _, _, _, h => by simp at h
  | t :: l, 0, _, hf, h => by simp at h; subst h; exact hf.1
  | t :: l, i + 1, _, hf, h => fineAs_get (l := l) hf.2 (by simpa using h)
theorem get_tys {l : List Ty} {m : Nat} {x : Ty} (h : l[m]? = some x) : 0 ≤ (m : Int) ∧ (tysC l)[((m : Nat) : Int).toNat]? = some (tyC x) := ⟨by omega, by simpa using tysC_get h⟩
theorem get_exs {l : List Exp} {m : Nat} {x : Exp} (h : l[m]? = some x) : 0 ≤ (m : Int) ∧ (exsC l)[((m : Nat) : Int).toNat]? = some (exC x) := ⟨by omega, by simpa using exsC_get h⟩
theorem get_alts {l : List Alt} {m : Nat} {x : Alt} (h : l[m]? = some x) : 0 ≤ (m : Int) ∧ (altsC l)[((m : Nat) : Int).toNat]? = some (altC x) := ⟨by omega, by simpa using altsC_get h⟩
theorem high_ct : ∀ (n : Nat) (t : Ty), SizeOf.sizeOf t < n → fineT t → Ct 53 [.val (.agg (tyC t))] [.val (.one (.v (.int .i64 (deepT t))))] []
  | 0, _, h, _ => by omega
  | n + 1, .mk k nn s kids, h, hf => by
    obtain ⟨hf1, hf2⟩ := hf
    refine ct Tryd.func53 (by kernel_rfl) ?_
    unfold deepT
    conv => whnf
    refine ⟨fun j st => ∃ m i x, j = kids.length - m ∧ m ≤ kids.length ∧ i = ((m : Nat) : Int) ∧ deepTs 0 kids = deepTs x (kids.drop m) ∧
      st = ⟨[(3, .one (.v (.int .i64 x))), (9, .one (.v (.int .i64 i))), (8, .one (.v (.int .i64 ((tysC kids).length : Int)))), (7, .one (.sl 59 4 (tysC kids) none))], [], []⟩,
      ⟨_, _, wk [3, 9, 8, 7] [] [] [] [] [] rfl, 0, 0, 0, rfl, Nat.zero_le _, rfl, rfl, rfl⟩, ?_⟩
    rintro j st ⟨m, i, x, rfl, hm, rfl, hx, rfl⟩
    conv => whnf
    cases hlt : decide (((m : Nat) : Int) < ((tysC kids).length : Int))
    · conv => whnf
      have : m = kids.length := by simp [tysC_length] at hlt; omega
      subst this
      rw [hx, List.drop_length]
      exact ⟨rfl, rfl⟩
    · have hm2 : m < kids.length := by simpa [tysC_length] using hlt
      rw [List.drop_eq_getElem_cons hm2] at hx
      have hsz : SizeOf.sizeOf kids[m] < n := by
        have := List.sizeOf_lt_of_mem (List.getElem_mem hm2)
        simp at h
        omega
      have hg := get_tys (List.getElem?_eq_getElem hm2)
      have hft := fineTs_get hf2 (List.getElem?_eq_getElem hm2)
      generalize kids[m] = t2 at hx hsz hg hft
      obtain ⟨k2, n2, s2, kids2⟩ := t2
      conv => whnf
      refine ⟨_, hg, ?_⟩
      conv => whnf
      refine ⟨_, _, high_ct n _ hsz hft, ?_⟩
      conv => whnf
      refine ⟨_, _, ?_, wk [3, 9, 8, 7] [] [] [] [] [] rfl, m + 1, _, _, rfl, hm2, i64_id (x := (m : Int) + 1) (by omega) (by omega), hx, rfl⟩
      omega
theorem deep_ct : ∀ (n : Nat) (e : Exp), SizeOf.sizeOf e < n → fineE e → Ct 20 [.val (.agg (exC e))] [.val (.one (.v (.int .i64 (deepE e))))] []
  | 0, _, h, _ => by omega
  | n + 1, .mk k at_ s nn kids alts, h, hf => by
    obtain ⟨hf1, hf2, hf3, hf4⟩ := hf
    refine ct Tryd.func20 (by kernel_rfl) ?_
    unfold deepE
    conv => whnf
    refine ⟨fun j st => ∃ m i x, j = kids.length - m ∧ m ≤ kids.length ∧ i = ((m : Nat) : Int) ∧ deepEs 0 kids = deepEs x (kids.drop m) ∧
      st = ⟨[(3, .one (.v (.int .i64 x))), (11, .one (.v (.int .i64 i))), (10, .one (.v (.int .i64 ((exsC kids).length : Int)))), (9, .one (.sl 53 6 (exsC kids) none)), (1, .one (.ptr 1 0 0))], [(1, ⟨0, 53, exC (.mk k at_ s nn kids alts)⟩)], []⟩,
      ⟨_, _, wk [3, 11, 10, 9, 1] [1] [] [] [] [] rfl, 0, 0, 0, rfl, Nat.zero_le _, rfl, rfl, rfl⟩, ?_⟩
    rintro j st ⟨m, i, x, rfl, hm, rfl, hx, rfl⟩
    conv => whnf
    cases hlt : decide (((m : Nat) : Int) < ((exsC kids).length : Int))
    · have : m = kids.length := by simp [exsC_length] at hlt; omega
      subst this
      rw [List.drop_length] at hx
      rw [hx]
      unfold deepEs
      conv => whnf
      refine ⟨fun j st => ∃ m i y, j = alts.length - m ∧ m ≤ alts.length ∧ i = ((m : Nat) : Int) ∧ deepAs x alts = deepAs y (alts.drop m) ∧
        st = ⟨[(3, .one (.v (.int .i64 y))), (23, .one (.v (.int .i64 i))), (22, .one (.v (.int .i64 ((altsC alts).length : Int)))), (21, .one (.sl 96 9 (altsC alts) none))], [], []⟩,
        ⟨_, _, wk [3, 23, 22, 21] [] [] [] [] [] rfl, 0, 0, x, rfl, Nat.zero_le _, rfl, rfl, rfl⟩, ?_⟩
      rintro j st ⟨m, i, y, rfl, hm, rfl, hy, rfl⟩
      conv => whnf
      cases hlt : decide (((m : Nat) : Int) < ((altsC alts).length : Int))
      · conv => whnf
        have : m = alts.length := by simp [altsC_length] at hlt; omega
        subst this
        rw [hy, List.drop_length]
        exact ⟨rfl, rfl⟩
      · have hm2 : m < alts.length := by simpa [altsC_length] using hlt
        rw [List.drop_eq_getElem_cons hm2] at hy
        have hsz : SizeOf.sizeOf alts[m] < n := by
          have := List.sizeOf_lt_of_mem (List.getElem_mem hm2)
          simp at h
          omega
        have hg := get_alts (List.getElem?_eq_getElem hm2)
        have hft := fineAs_get hf4 (List.getElem?_eq_getElem hm2)
        generalize alts[m] = t2 at hy hsz hg hft
        obtain ⟨a2, s2, names2, b2⟩ := t2
        have hsz2 : SizeOf.sizeOf b2 < n := by simp at hsz; omega
        obtain ⟨k3, a3, s3, n3, kids3, alts3⟩ := b2
        conv => whnf
        refine ⟨_, hg, ?_⟩
        conv => whnf
        refine ⟨_, _, deep_ct n _ hsz2 hft.2, ?_⟩
        conv => whnf
        refine ⟨_, _, ?_, wk [3, 23, 22, 21] [] [] [] [] [] rfl, m + 1, _, _, rfl, hm2, i64_id (x := (m : Int) + 1) (by omega) (by omega), hy, rfl⟩
        omega
    · have hm2 : m < kids.length := by simpa [exsC_length] using hlt
      rw [List.drop_eq_getElem_cons hm2] at hx
      have hsz : SizeOf.sizeOf kids[m] < n := by
        have := List.sizeOf_lt_of_mem (List.getElem_mem hm2)
        simp at h
        omega
      have hg := get_exs (List.getElem?_eq_getElem hm2)
      have hft := fineEs_get hf3 (List.getElem?_eq_getElem hm2)
      generalize kids[m] = t2 at hx hsz hg hft
      obtain ⟨k3, a3, s3, n3, kids3, alts3⟩ := t2
      conv => whnf
      refine ⟨_, hg, ?_⟩
      conv => whnf
      refine ⟨_, _, deep_ct n _ hsz hft, ?_⟩
      conv => whnf
      refine ⟨_, _, ?_, wk [3, 11, 10, 9, 1] [1] [] [] [] [] rfl, m + 1, _, _, rfl, hm2, i64_id (x := (m : Int) + 1) (by omega) (by omega), hx, rfl⟩
      omega
end Go.Proofs.YtoapgongbackaaaDoor.V

/-! U11: the first place of what is too deep. -/
namespace Go.Proofs.YtoapgongbackaaaDoor.V
open Go Go.Proofs
set_option maxRecDepth 100000

def leastP (a n : Int) : Int := match decide (a < 0) with
  | true => n
  | false => match decide (n < a) with
    | true => n
    | false => a
theorem least_ct (a n : Int) : Ct 50 [.val (.one (.v (.int .i64 n))), .box 3 [.v (.int .i64 a)]] [] [[.v (.int .i64 (leastP a n))]] := by
  refine ct Tryd.func50 (by kernel_rfl) ?_
  unfold leastP
  cases h1 : decide (a < 0)
  · conv => whnf
    rw [h1]
    conv => whnf
    cases h2 : decide (n < a)
    · conv => whnf
      exact ⟨rfl, rfl⟩
    · conv => whnf
      exact ⟨rfl, rfl⟩
  · conv => whnf
    rw [h1]
    conv => whnf
    exact ⟨rfl, rfl⟩
def overT (t : Ty) : Bool := decide (60 < deepT t)
theorem over_ct {t : Ty} (h : fineT t) : Ct 52 [.val (.agg (tyC t))] [.val (.one (.v (.bool (overT t))))] [] := by
  obtain ⟨k, n, s, kids⟩ := t
  refine ct Tryd.func52 (by kernel_rfl) ?_
  conv => whnf
  refine ⟨_, _, high_ct _ _ (Nat.lt_succ_self _) h, ?_⟩
  conv => whnf
  exact ⟨rfl, rfl⟩
def overFrom : List Ty → Nat → Int
  | [], _ => -1
  | t :: l, i => match overT t with
    | true => i
    | false => overFrom l (i + 1)
theorem indexFunc_ct {l : List Ty} (hB : l.length ≤ 4294967296) (hf : fineTs l) : Ct 88 [.val (.one (.sl 59 4 (tysC l) none)), .val (.one (.clo 52 []))] [.val (.one (.v (.int .i64 (overFrom l 0))))] [] := by
  refine ct Tryd.func88 (by kernel_rfl) ?_
  conv => whnf
  refine ⟨fun n st => ∃ m i, n = l.length - m ∧ m ≤ l.length ∧ i = ((m : Nat) : Int) ∧ overFrom l 0 = overFrom (l.drop m) m ∧
    st = ⟨[(8, .one (.v (.int .i64 i))), (7, .one (.v (.int .i64 ((tysC l).length : Int)))), (0, .one (.sl 59 4 (tysC l) none)), (1, .one (.clo 52 []))], [], []⟩,
    ⟨_, _, wk [8, 7, 0, 1] [] [] [] [] [] rfl, 0, 0, rfl, Nat.zero_le _, rfl, rfl, rfl⟩, ?_⟩
  rintro n st ⟨m, i, rfl, hm, rfl, hix, rfl⟩
  conv => whnf
  cases hlt : decide (((m : Nat) : Int) < ((tysC l).length : Int))
  · conv => whnf
    have : m = l.length := by simp [tysC_length] at hlt; omega
    subst this
    rw [hix, List.drop_length]
    exact ⟨rfl, rfl⟩
  · have hm2 : m < l.length := by simpa [tysC_length] using hlt
    rw [List.drop_eq_getElem_cons hm2] at hix
    simp only [overFrom] at hix
    have hg := get_tys (List.getElem?_eq_getElem hm2)
    have hft := fineTs_get hf (List.getElem?_eq_getElem hm2)
    generalize l[m] = t2 at hix hg hft
    obtain ⟨k2, n2, s2, kids2⟩ := t2
    conv => whnf
    refine ⟨_, hg, ?_⟩
    conv => whnf
    refine ⟨_, _, over_ct hft, ?_⟩
    cases ho : overT (.mk k2 n2 s2 kids2)
    · rw [ho] at hix
      conv => whnf
      refine ⟨_, _, ?_, wk [8, 7, 0, 1] [] [] [] [] [] rfl, m + 1, _, rfl, hm2, i64_id (x := (m : Int) + 1) (by omega) (by omega), hix, rfl⟩
      omega
    · rw [ho] at hix
      conv => whnf
      rw [hix]
      exact ⟨rfl, rfl⟩
theorem contains_ct {l : List Ty} (hB : l.length ≤ 4294967296) (hf : fineTs l) : Ct 51 [.val (.one (.sl 59 4 (tysC l) none)), .val (.one (.clo 52 []))] [.val (.one (.v (.bool (decide (0 ≤ overFrom l 0)))))] [] := by
  refine ct Tryd.func51 (by kernel_rfl) ?_
  conv => whnf
  refine ⟨_, _, indexFunc_ct hB hf, ?_⟩
  conv => whnf
  exact ⟨rfl, rfl⟩
end Go.Proofs.YtoapgongbackaaaDoor.V

/-! U12: the first place of what is too deep, in a program. -/
namespace Go.Proofs.YtoapgongbackaaaDoor.V
open Go Go.Proofs
set_option maxRecDepth 100000

def lowB : Int → List BindD → Int
  | a, [] => a
  | a, b :: l => match decide (60 < deepE b.body) with
    | true => lowB (leastP a b.at_) l
    | false => lowB a l
def lowC : Int → List ConD → Int
  | a, [] => a
  | a, c :: l => match decide (0 ≤ overFrom c.args 0) with
    | true => lowC (leastP a c.at_) l
    | false => lowC a l
def lowD : Int → List DataD → Int
  | a, [] => a
  | a, d :: l => lowD (lowC a d.cons) l
def deepestP (p : ProgD) : Int := lowD (lowB (-1) p.binds) p.datas
structure FineP (p : ProgD) : Prop where
  binds : p.binds.length ≤ 4294967296
  datas : p.datas.length ≤ 4294967296
  bodies : ∀ b ∈ p.binds, fineE b.body
  cons : ∀ d ∈ p.datas, d.cons.length ≤ 4294967296 ∧ d.vars.length ≤ 4294967296
  args : ∀ d ∈ p.datas, ∀ c ∈ d.cons, c.args.length ≤ 4294967296 ∧ fineTs c.args
theorem deepest_ct {p : ProgD} (hp : FineP p) : Ct 25 [.val (.agg (progC p))] [.val (.one (.v (.int .i64 (deepestP p))))] [] := by
  refine ct Tryd.func25 (by kernel_rfl) ?_
  obtain ⟨ds, bs⟩ := p
  obtain ⟨f1, f2, f3, f4, f5⟩ := hp
  unfold deepestP
  simp only at f1 f2 f3 f4 f5 ⊢
  conv => whnf
  refine ⟨fun j st => ∃ m i a, j = bs.length - m ∧ m ≤ bs.length ∧ i = ((m : Nat) : Int) ∧ lowB (-1) bs = lowB a (bs.drop m) ∧
    st = ⟨[(15, .one (.v (.int .i64 i))), (14, .one (.v (.int .i64 ((bs.map bindC).length : Int)))), (13, .one (.sl 55 8 (bs.map bindC) none)), (1, .one (.ptr 1 0 0)), (3, .one (.ptr 3 0 0)), (4, .one (.clo 50 [.ptr 3 0 0]))],
      [(1, ⟨0, 26, progC ⟨ds, bs⟩⟩), (3, ⟨0, 3, [.v (.int .i64 a)]⟩)], []⟩,
    ⟨_, _, wk [15, 14, 13, 1, 3, 4] [1, 3] [] [] [] [] rfl, 0, 0, -1, rfl, Nat.zero_le _, rfl, rfl, rfl⟩, ?_⟩
  rintro j st ⟨m, i, a, rfl, hm, rfl, hx, rfl⟩
  conv => whnf
  cases hlt : decide (((m : Nat) : Int) < ((bs.map bindC).length : Int))
  rotate_left
  · have hm2 : m < bs.length := by simpa using hlt
    rw [List.drop_eq_getElem_cons hm2] at hx
    simp only [lowB] at hx
    have hg := get_map (f := bindC) (List.getElem?_eq_getElem hm2)
    have hft := f3 _ (List.getElem_mem hm2)
    generalize bs[m] = t2 at hx hg hft
    obtain ⟨s2, a2, ⟨k3, a3, s3, n3, kids3, alts3⟩⟩ := t2
    conv => whnf
    refine ⟨_, hg, ?_⟩
    conv => whnf
    refine ⟨_, _, deep_ct _ _ (Nat.lt_succ_self _) hft, ?_⟩
    conv => whnf
    cases ho : decide (60 < deepE (.mk k3 a3 s3 n3 kids3 alts3))
    · rw [ho] at hx
      conv => whnf
      refine ⟨_, _, ?_, wk [15, 14, 13, 1, 3, 4] [1, 3] [] [] [] [] rfl, m + 1, _, _, rfl, hm2, i64_id (x := (m : Int) + 1) (by omega) (by omega), hx, rfl⟩
      omega
    · rw [ho] at hx
      conv => whnf
      refine ⟨_, _, least_ct a a2, ?_⟩
      conv => whnf
      refine ⟨_, _, ?_, wk [15, 14, 13, 1, 3, 4] [1, 3] [] [] [] [] rfl, m + 1, _, _, rfl, hm2, i64_id (x := (m : Int) + 1) (by omega) (by omega), hx, rfl⟩
      omega
  · have : m = bs.length := by simp at hlt; omega
    subst this
    rw [List.drop_length] at hx
    rw [hx]
    unfold lowB
    conv => whnf
    refine ⟨fun j st => ∃ m i b, j = ds.length - m ∧ m ≤ ds.length ∧ i = ((m : Nat) : Int) ∧ lowD a ds = lowD b (ds.drop m) ∧
      st = ⟨[(31, .one (.v (.int .i64 i))), (30, .one (.v (.int .i64 ((ds.map dataC).length : Int)))), (29, .one (.sl 62 4 (ds.map dataC) none)), (3, .one (.ptr 3 0 0)), (4, .one (.clo 50 [.ptr 3 0 0]))],
        [(3, ⟨0, 3, [.v (.int .i64 b)]⟩)], []⟩,
      ⟨_, _, wk [31, 30, 29, 3, 4] [3] [] [] [] [] rfl, 0, 0, a, rfl, Nat.zero_le _, rfl, rfl, rfl⟩, ?_⟩
    rintro j st ⟨m, i, b, rfl, hm, rfl, hx, rfl⟩
    conv => whnf
    cases hlt : decide (((m : Nat) : Int) < ((ds.map dataC).length : Int))
    · conv => whnf
      have : m = ds.length := by simp at hlt; omega
      subst this
      rw [hx, List.drop_length]
      exact ⟨rfl, rfl⟩
    · have hm2 : m < ds.length := by simpa using hlt
      rw [List.drop_eq_getElem_cons hm2] at hx
      simp only [lowD] at hx
      have hg := get_map (f := dataC) (List.getElem?_eq_getElem hm2)
      have hft := f4 _ (List.getElem_mem hm2)
      have hfa := f5 _ (List.getElem_mem hm2)
      generalize ds[m] = t2 at hx hg hft hfa
      obtain ⟨s2, a2, vars2, cs⟩ := t2
      simp only at hft hfa hx
      conv => whnf
      refine ⟨_, hg, ?_⟩
      conv => whnf
      refine ⟨fun j st => ∃ q i c, j = cs.length - q ∧ q ≤ cs.length ∧ i = ((q : Nat) : Int) ∧ lowC b cs = lowC c (cs.drop q) ∧
        st = ⟨[(38, .one (.v (.int .i64 i))), (37, .one (.v (.int .i64 ((cs.map conC).length : Int)))), (36, .one (.sl 64 3 (cs.map conC) none)), (31, .one (.v (.int .i64 ((m : Nat) : Int)))), (30, .one (.v (.int .i64 ((ds.map dataC).length : Int)))), (29, .one (.sl 62 4 (ds.map dataC) none)), (3, .one (.ptr 3 0 0)), (4, .one (.clo 50 [.ptr 3 0 0]))],
          [(3, ⟨0, 3, [.v (.int .i64 c)]⟩)], []⟩,
        ⟨_, _, wk [38, 37, 36, 31, 30, 29, 3, 4] [3] [] [] [] [] rfl, 0, 0, b, rfl, Nat.zero_le _, rfl, rfl, rfl⟩, ?_⟩
      rintro j st ⟨q, i, c, rfl, hq, rfl, hy, rfl⟩
      conv => whnf
      cases hlt2 : decide (((q : Nat) : Int) < ((cs.map conC).length : Int))
      · have : q = cs.length := by simp at hlt2; omega
        subst this
        rw [List.drop_length] at hy
        rw [hy] at hx
        unfold lowC at hx
        conv => whnf
        refine ⟨_, _, ?_, wk [31, 30, 29, 3, 4] [3] [] [] [] [] rfl, m + 1, _, _, rfl, hm2, i64_id (x := (m : Int) + 1) (by omega) (by omega), hx, rfl⟩
        omega
      · have hq2 : q < cs.length := by simpa using hlt2
        rw [List.drop_eq_getElem_cons hq2] at hy
        simp only [lowC] at hy
        have hg := get_map (f := conC) (List.getElem?_eq_getElem hq2)
        have hfc := hfa _ (List.getElem_mem hq2)
        generalize cs[q] = t4 at hy hg hfc
        obtain ⟨s4, a4, args4⟩ := t4
        simp only at hfc hy
        conv => whnf
        refine ⟨_, hg, ?_⟩
        conv => whnf
        refine ⟨_, _, contains_ct hfc.1 hfc.2, ?_⟩
        cases ho : decide (0 ≤ overFrom args4 0)
        · rw [ho] at hy
          conv => whnf
          refine ⟨_, _, ?_, wk [38, 37, 36, 31, 30, 29, 3, 4] [3] [] [] [] [] rfl, q + 1, _, _, rfl, hq2, i64_id (x := (q : Int) + 1) (by omega) (by omega), hy, rfl⟩
          omega
        · rw [ho] at hy
          conv => whnf
          refine ⟨_, _, least_ct c a4, ?_⟩
          conv => whnf
          refine ⟨_, _, ?_, wk [38, 37, 36, 31, 30, 29, 3, 4] [3] [] [] [] [] rfl, q + 1, _, _, rfl, hq2, i64_id (x := (q : Int) + 1) (by omega) (by omega), hy, rfl⟩
          omega
end Go.Proofs.YtoapgongbackaaaDoor.V
