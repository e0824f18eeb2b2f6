/-
  What the functions of package lex and parse.Parse come to. Conditions: the text has at most 65536 bytes.
-/
import Derived.Lib.Strings
import Derived.Lib.Bytealg
import Derived.Lib.SmallJoins
import Derived.Lib.IndexBytes
import Derived.Shelf.Small.Strs
import Derived.Shelf.Strings.Search1
import Derived.Test.YtoapgongbackaaaDoorProg
import Derived.Test.YtoapgongbackaaaDoorED
import Derived.Test.YtoapgongbackaaaDoorEC
set_option linter.unusedVariables false
set_option linter.unusedSimpArgs false
/- Plain Lean: bytes as lists, and what the tokens of a text are. No program in sight. -/
namespace Go.Proofs.YtoapgongbackaaaDoor.Lx
set_option linter.unusedVariables false
set_option linter.unusedSimpArgs false
/-- A text out of its bytes. -/
def ofL (l : List UInt8) : ByteArray := ⟨l.toArray⟩
theorem ofL_data (l : List UInt8) : (ofL l).data.toList = l := rfl
theorem ofL_size (l : List UInt8) : (ofL l).size = l.length := by
  show (l.toArray).size = l.length
  simp
theorem ext_of {a b : ByteArray} (h : a.data.toList = b.data.toList) : a = b := by
  cases a; cases b; simpa [Array.toList_inj] using h
theorem of_data (s : ByteArray) : ofL s.data.toList = s := ext_of rfl
theorem ofL_inj {a b : List UInt8} (h : ofL a = ofL b) : a = b := congrArg (fun s => s.data.toList) h
theorem ofL_extract (l : List UInt8) (a b : Nat) : (ofL l).extract a b = ofL ((l.drop a).take (b - a)) := ext_of (by rw [Lib.extract_data]; rfl)
theorem ofL_toList (l : List UInt8) : (ofL l).toList = l := by rw [Lib.toList_data]; rfl
theorem ofL_append (a b : List UInt8) : ofL a ++ ofL b = ofL (a ++ b) := ext_of (by rw [Go.Joins.data_append]; rfl)
theorem extract_end (l : List UInt8) (a : Nat) : (ofL l).extract a (ofL l).size = ofL (l.drop a) := by
  rw [ofL_extract, ofL_size, List.take_of_length_le (by simp)]
theorem extract_to (l : List UInt8) (b : Nat) : (ofL l).extract 0 b = ofL (l.take b) := by
  rw [ofL_extract]; simp

/-! ### classes of bytes -/
def isLow (c : UInt8) : Bool := decide (97 ≤ c.toNat) && decide (c.toNat ≤ 122)
def isUp (c : UInt8) : Bool := decide (65 ≤ c.toNat) && decide (c.toNat ≤ 90)
def isDig (c : UInt8) : Bool := decide (48 ≤ c.toNat) && decide (c.toNat ≤ 57)
def isGap (c : UInt8) : Bool := c == 32 || c == 9 || c == 10
def isRest (c : UInt8) : Bool := isLow c || isUp c || isDig c || c == 95
/-- Does a text begin with this byte? -/
def hd (n : UInt8) : List UInt8 → Bool
  | [] => false
  | c :: _ => c == n

/-! ### what goes ahead of a token: blanks and remarks; true: within a remark -/
def skipL : Bool → List UInt8 → Nat
  | _, [] => 0
  | false, c :: r => if isGap c then skipL false r + 1 else if c == 45 && hd 45 r then skipL true r + 1 else 0
  | true, c :: r => if c == 10 then skipL false r + 1 else skipL true r + 1
theorem skipL_le : ∀ (b : Bool) (l : List UInt8), skipL b l ≤ l.length
  | b, [] => by simp [skipL]
  | false, c :: r => by
    have h1 := skipL_le false r
    have h2 := skipL_le true r
    simp only [skipL, List.length_cons]
    split
    · omega
    · split <;> omega
  | true, c :: r => by
    have h1 := skipL_le false r
    have h2 := skipL_le true r
    simp only [skipL, List.length_cons]
    split <;> omega
/-- The words of the language. -/
def words : List (List UInt8) := [[100, 97, 116, 97], [108, 101, 116], [105, 110], [105, 102], [116, 104, 101, 110], [101, 108, 115, 101], [99, 97, 115, 101], [111, 102], [116, 114, 117, 101], [102, 97, 108, 115, 101]]
def isWord (w : List UInt8) : Bool := words.contains w
/-- A row that begins with a class, and isn't too long. -/
def rowOf (p : UInt8 → Bool) (w : List UInt8) : Bool := (match w with | [] => false | c :: _ => p c) && w.all isRest && decide (w.length ≤ 30)
def isName (w : List UInt8) : Bool := rowOf isLow w && !isWord w
def isCon (w : List UInt8) : Bool := rowOf isUp w
/-- The number of digits, behind some. -/
def numFrom : Int → List UInt8 → Option Int
  | n, [] => some n
  | n, c :: r => if 2147483647 < n * 10 + ((c.toNat : Int) - 48) then none else numFrom (n * 10 + ((c.toNat : Int) - 48)) r
def numL (l : List UInt8) : Option Int := match numFrom 0 l with
  | none => none
  | some n => if l.length = 1 ∨ hd 48 l = false then some n else none
/-- A token: its kind, where it begins, its text, its number. -/
structure Tk where
  kind : Int
  pos : Nat
  s : List UInt8
  n : Int
deriving DecidableEq
def signs1 : List UInt8 := [92, 61, 59, 124, 40, 41, 44, 123, 125]
/-- The token that a text begins with (its place: 0), and how long it is; 0: none. -/
def tokL : List UInt8 → Tk × Nat
  | [] => (⟨0, 0, [], 0⟩, 0)
  | c :: r =>
    if isLow c || isUp c then
      let w := (c :: r).takeWhile isRest
      if isWord w then (⟨4, 0, w, 0⟩, w.length) else if isName w then (⟨1, 0, w, 0⟩, w.length) else if isCon w then (⟨2, 0, w, 0⟩, w.length) else (⟨0, 0, w, 0⟩, 0)
    else if isDig c then
      let w := (c :: r).takeWhile isDig
      match numL w with
      | some n => (⟨3, 0, [], n⟩, w.length)
      | none => (⟨0, 0, [], 0⟩, 0)
    else if c == 45 && hd 62 r then (⟨5, 0, [45, 62], 0⟩, 2)
    else if signs1.contains c then (⟨5, 0, [c], 0⟩, 1)
    else (⟨0, 0, [], 0⟩, 0)
theorem takeWhile_le {p : UInt8 → Bool} (l : List UInt8) : (l.takeWhile p).length ≤ l.length := (List.takeWhile_sublist p).length_le
theorem tokL_le (l : List UInt8) : (tokL l).2 ≤ l.length := by
  cases l with
  | nil => simp [tokL]
  | cons c r =>
    have h1 := takeWhile_le (p := isRest) (c :: r)
    have h2 := takeWhile_le (p := isDig) (c :: r)
    simp only [tokL]
    split
    · split
      · exact h1
      · split
        · exact h1
        · split
          · exact h1
          · simp
    · split
      · split
        · exact h2
        · simp
      · split
        · rename_i h
          cases r with
          | nil => simp [hd] at h
          | cons d r => simp
        · split <;> simp
/-- The tokens of a text that begins with a token, or is at its end; pos: its place. Or: where there is none. -/
def lexA (pos : Nat) (l : List UInt8) : Except Nat (List Tk) :=
  if hl : l = [] then .ok [] else
  if h0 : (tokL l).2 = 0 then .error pos else
  let l' := l.drop (tokL l).2
  match lexA (pos + (tokL l).2 + skipL false l') (l'.drop (skipL false l')) with
  | .error e => .error e
  | .ok ts => .ok ({ (tokL l).1 with pos := pos } :: ts)
termination_by l.length
decreasing_by
  have : 0 < l.length := List.length_pos_iff.2 hl
  simp only [List.length_drop]
  omega
/-- The tokens of a text. -/
def lexL (l : List UInt8) : Except Nat (List Tk) := lexA (skipL false l) (l.drop (skipL false l))
theorem lexA_nil (pos : Nat) : lexA pos [] = .ok [] := by rw [lexA]; simp
theorem lexA_err {pos : Nat} {l : List UInt8} (hl : l ≠ []) (h : (tokL l).2 = 0) : lexA pos l = .error pos := by
  rw [lexA, dif_neg hl, dif_pos h]
theorem lexA_cons {pos : Nat} {l : List UInt8} (h : (tokL l).2 ≠ 0) : lexA pos l =
    match lexA (pos + (tokL l).2 + skipL false (l.drop (tokL l).2)) ((l.drop (tokL l).2).drop (skipL false (l.drop (tokL l).2))) with
    | .error e => .error e
    | .ok ts => .ok ({ (tokL l).1 with pos := pos } :: ts) := by
  have hl : l ≠ [] := by intro h0; rw [h0] at h; simp [tokL] at h
  rw [lexA, dif_neg hl, dif_neg h]
/-! ### skipping, as the program does it: a row of blanks, then a remark -/
theorem skip_gaps (l : List UInt8) : skipL false l = (l.takeWhile isGap).length + skipL false (l.dropWhile isGap) := by
  induction l with
  | nil => simp [skipL]
  | cons c r ih =>
    by_cases h : isGap c = true
    · rw [List.takeWhile_cons_of_pos h, List.dropWhile_cons_of_pos h, skipL, if_pos h, ih, List.length_cons]; omega
    · rw [List.takeWhile_cons_of_neg h, List.dropWhile_cons_of_neg h]; simp
theorem dropWhile_eq (p : UInt8 → Bool) (l : List UInt8) : l.dropWhile p = l.drop (l.takeWhile p).length := by
  induction l with
  | nil => simp
  | cons c r ih =>
    by_cases h : p c = true
    · rw [List.takeWhile_cons_of_pos h, List.dropWhile_cons_of_pos h, ih]; simp
    · rw [List.takeWhile_cons_of_neg h, List.dropWhile_cons_of_neg h]; simp
theorem skip_true (l : List UInt8) : skipL true l = if Lib.indexByte l 10 = -1 then l.length else (Lib.indexByte l 10).toNat + skipL false (l.drop (Lib.indexByte l 10).toNat) := by
  induction l with
  | nil => simp [skipL, Lib.indexByte]
  | cons c r ih =>
    have hge := Lib.indexByte_ge r 10
    by_cases h : (c == 10) = true
    · have hc : c = 10 := by simpa using h
      subst hc
      simp [skipL, Lib.indexByte, isGap]
    · have h' : (c == 10) = false := by simpa using h
      simp only [skipL, Lib.indexByte, h', Bool.false_eq_true, if_false]
      rw [ih]
      by_cases h1 : Lib.indexByte r 10 = -1
      · simp [h1]
      · have h2 : (Lib.indexByte r 10 == -1) = false := by simpa using h1
        have e : (Lib.indexByte r 10 + 1).toNat = (Lib.indexByte r 10).toNat + 1 := by omega
        simp only [h1, h2, if_false, Bool.false_eq_true]
        rw [if_neg (by omega), e]
        simp; omega
end Go.Proofs.YtoapgongbackaaaDoor.Lx

/-! L1b: plain: more of tokens of texts. -/
namespace Go.Proofs.YtoapgongbackaaaDoor.Lx
open Go
set_option linter.unusedVariables false
set_option linter.unusedSimpArgs false
theorem prefix2 (a b : UInt8) (l : List UInt8) : [a, b].isPrefixOf l = (match l with | [] => false | c :: r => c == a && hd b r) := by
  rcases l with _ | ⟨c, _ | ⟨d, r⟩⟩
  · rfl
  · simp [List.isPrefixOf, hd]
  · simp only [List.isPrefixOf, hd, Bool.and_true]
    rw [Bool.eq_iff_iff]; simp only [Bool.and_eq_true, beq_iff_eq]
    constructor <;> (rintro ⟨h1, h2⟩; exact ⟨h1.symm, h2.symm⟩)
theorem skip_run {l : List UInt8} {g : Nat} (hg : g = (l.takeWhile isGap).length) (hp : ([45, 45] : List UInt8).isPrefixOf (l.drop g) = true) :
    skipL false l = g + skipL true (l.drop g) ∧ 0 < (l.drop g).length := by
  rw [skip_gaps, dropWhile_eq, ← hg]
  rw [prefix2] at hp
  generalize hr : l.drop g = r at *
  cases r with
  | nil => simp at hp
  | cons c r =>
    simp only [Bool.and_eq_true, beq_iff_eq] at hp
    obtain ⟨rfl, h2⟩ := hp
    refine ⟨?_, by simp⟩
    rw [show skipL false (45 :: r) = skipL true r + 1 by simp [skipL, isGap, h2], show skipL true (45 :: r) = skipL true r + 1 by simp [skipL]]
theorem gap_stop (l : List UInt8) : ∀ c r, l.drop (l.takeWhile isGap).length = c :: r → isGap c = false := by
  induction l with
  | nil => intro c r h; simp at h
  | cons a l ih =>
    intro c r h
    by_cases ha : isGap a = true
    · rw [List.takeWhile_cons_of_pos ha] at h
      exact ih c r (by simpa using h)
    · rw [List.takeWhile_cons_of_neg ha] at h
      simp at h
      obtain ⟨rfl, _⟩ := h
      simpa using ha
theorem skip_end {l : List UInt8} {g : Nat} (hg : g = (l.takeWhile isGap).length) (hp : ([45, 45] : List UInt8).isPrefixOf (l.drop g) = false) :
    skipL false l = g := by
  rw [skip_gaps, dropWhile_eq, ← hg]
  rw [prefix2] at hp
  have hs := gap_stop l
  rw [← hg] at hs
  generalize l.drop g = r at *
  cases r with
  | nil => simp [skipL]
  | cons c r =>
    have := hs c r rfl
    simp only at hp
    simp [skipL, this, hp]
theorem index_lt (l : List UInt8) (c : UInt8) : Lib.indexByte l c < l.length ∨ l = [] := by
  induction l with
  | nil => right; rfl
  | cons b l ih =>
    left
    simp only [Lib.indexByte]
    split
    · simp <;> omega
    · split
      · simp <;> omega
      · rcases ih with h | h
        · simp <;> omega
        · subst h; simp [Lib.indexByte] at *
theorem all_take (p : UInt8 → Bool) (l : List UInt8) : ((l.takeWhile p).length = l.length) = (l.all p = true) := by
  induction l with
  | nil => simp
  | cons c r ih =>
    by_cases h : p c = true
    · rw [List.takeWhile_cons_of_pos h]; simp [h]; simpa using ih
    · rw [List.takeWhile_cons_of_neg h]; simp [h]
theorem dig_val (c : UInt8) (h : isDig c = true) : ((c.toNat : Int) - 48) % 256 = (c.toNat : Int) - 48 ∧ 0 ≤ (c.toNat : Int) - 48 ∧ (c.toNat : Int) - 48 ≤ 9 := by
  simp only [isDig, Bool.and_eq_true, decide_eq_true_eq] at h
  omega
/-- What the program's number tells. -/
def numT (l r : List UInt8) (n : Int) : Int × Bool := match numFrom n r with
  | none => (0, false)
  | some v => (v, decide (l.length = 1 ∨ hd 48 l = false))
theorem numT_numL (l : List UInt8) : (∃ v, numL l = some v ∧ numT l l 0 = (v, true)) ∨ (numL l = none ∧ ∃ v, numT l l 0 = (v, false)) := by
  unfold numL numT
  cases numFrom 0 l with
  | none => right; simp
  | some v =>
    by_cases h : l.length = 1 ∨ hd 48 l = false
    · left; exact ⟨v, by simp [h], by simp [h]⟩
    · right; exact ⟨by simp [h], v, by simp [h]⟩
def signs : List (List UInt8) := [[45, 62], [92], [61], [59], [124], [40], [41], [44], [123], [125]]
def signF (l : List UInt8) (ss : List (List UInt8)) : Tk × Nat := match ss with
  | [] => (⟨0, 0, [], 0⟩, 0)
  | s :: ss => if s.isPrefixOf l then (⟨5, 0, s, 0⟩, s.length) else signF l ss
theorem prefix1 (a : UInt8) (c : UInt8) (r : List UInt8) : [a].isPrefixOf (c :: r) = (c == a) := by
  simp only [List.isPrefixOf, Bool.and_true]
  rw [Bool.eq_iff_iff, beq_iff_eq, beq_iff_eq]
  exact eq_comm
theorem tokL_sign (c : UInt8) (r : List UInt8) (h1 : (isLow c || isUp c) = false) (h2 : isDig c = false) :
    tokL (c :: r) = if (c == 45 && hd 62 r) = true then (⟨5, 0, [45, 62], 0⟩, 2) else if signs1.contains c = true then (⟨5, 0, [c], 0⟩, 1) else (⟨0, 0, [], 0⟩, 0) := by
  simp only [tokL]
  rw [if_neg (by simp [h1]), if_neg (by simp [h2])]
theorem sign_tok (c : UInt8) (r : List UInt8) (h1 : (isLow c || isUp c) = false) (h2 : isDig c = false) : signF (c :: r) signs = tokL (c :: r) := by
  rw [tokL_sign c r h1 h2, signs, signF, prefix2]
  by_cases h : (c == 45 && hd 62 r) = true
  · rw [if_pos h, if_pos h]; rfl
  · rw [if_neg h, if_neg h]
    simp only [signF, prefix1, beq_iff_eq, List.length_cons, List.length_nil]
    by_cases g0 : c = 92
    · subst g0; rfl
    rw [if_neg g0]
    by_cases g1 : c = 61
    · subst g1; rfl
    rw [if_neg g1]
    by_cases g2 : c = 59
    · subst g2; rfl
    rw [if_neg g2]
    by_cases g3 : c = 124
    · subst g3; rfl
    rw [if_neg g3]
    by_cases g4 : c = 40
    · subst g4; rfl
    rw [if_neg g4]
    by_cases g5 : c = 41
    · subst g5; rfl
    rw [if_neg g5]
    by_cases g6 : c = 44
    · subst g6; rfl
    rw [if_neg g6]
    by_cases g7 : c = 123
    · subst g7; rfl
    rw [if_neg g7]
    by_cases g8 : c = 125
    · subst g8; rfl
    rw [if_neg g8]
    rw [if_neg (by simp [signs1, g0, g1, g2, g3, g4, g5, g6, g7, g8])]
theorem take_take (p : UInt8 → Bool) (l : List UInt8) : l.take (l.takeWhile p).length = l.takeWhile p := by
  have := List.takeWhile_prefix p (l := l)
  exact (List.prefix_iff_eq_take.1 this).symm
/-- The tokens of a text that may begin with what goes. -/
def lexS (pos : Nat) (l : List UInt8) : Except Nat (List Tk) := lexA (pos + skipL false l) (l.drop (skipL false l))
theorem lexL_S (l : List UInt8) : lexL l = lexS 0 l := by unfold lexL lexS; rw [Nat.zero_add]
theorem lexA_S {pos : Nat} {l : List UInt8} (h : (tokL l).2 ≠ 0) : lexA pos l = match lexS (pos + (tokL l).2) (l.drop (tokL l).2) with
    | .error e => .error e
    | .ok ts => .ok ({ (tokL l).1 with pos := pos } :: ts) := lexA_cons h
def shift (d : Nat) (t : Tk) : Tk := { t with pos := t.pos + d }
def shiftE (d : Nat) (x : Except Nat (List Tk)) : Except Nat (List Tk) := match x with
  | .error e => .error (e + d)
  | .ok ts => .ok (ts.map (shift d))
theorem lexA_shift (d : Nat) : ∀ (n pos : Nat) (l : List UInt8), l.length ≤ n → lexA (pos + d) l = shiftE d (lexA pos l) := by
  intro n
  induction n with
  | zero =>
    intro pos l hn
    have : l = [] := List.length_eq_zero_iff.1 (by omega)
    subst this
    rw [lexA_nil, lexA_nil]; rfl
  | succ n ih =>
    intro pos l hn
    by_cases hne : l = []
    · subst hne; rw [lexA_nil, lexA_nil]; rfl
    · have hp := List.length_pos_iff.2 hne
      by_cases h0 : (tokL l).2 = 0
      · rw [lexA_err hne h0, lexA_err hne h0]; rfl
      · rw [lexA_cons h0, lexA_cons h0]
        have e : pos + d + (tokL l).2 + skipL false (l.drop (tokL l).2) = pos + (tokL l).2 + skipL false (l.drop (tokL l).2) + d := by omega
        rw [e, ih _ _ (by simp; omega)]
        cases lexA (pos + (tokL l).2 + skipL false (l.drop (tokL l).2)) ((l.drop (tokL l).2).drop (skipL false (l.drop (tokL l).2))) with
        | error e => rfl
        | ok ts => simp [shiftE, shift]
theorem lexS_shift (d pos : Nat) (l : List UInt8) : lexS (pos + d) l = shiftE d (lexS pos l) := by
  unfold lexS
  rw [← lexA_shift d _ _ _ (Nat.le_refl _)]
  congr 1
  omega
theorem lexS_at (pos : Nat) (l : List UInt8) : lexS pos l = shiftE pos (lexL l) := by
  rw [lexL_S, ← lexS_shift, Nat.zero_add]
theorem lexS_nil (pos : Nat) : lexS pos [] = .ok [] := by unfold lexS; simp [skipL, lexA_nil]
/-- Behind a text that goes as a whole. -/
theorem lexS_gap (g : List UInt8) (hg : ∀ b, skipL false (g ++ b) = g.length + skipL false b) (pos : Nat) (b : List UInt8) : lexS pos (g ++ b) = lexS (pos + g.length) b := by
  unfold lexS
  rw [hg, ← Nat.add_assoc, ← List.drop_drop, List.drop_left]
/-! ### a line end parts -/
theorem take_sep (p : UInt8 → Bool) (hp : p 10 = false) (l r : List UInt8) : (l ++ 10 :: r).takeWhile p = l.takeWhile p := by
  induction l with
  | nil => rw [List.nil_append, List.takeWhile_cons_of_neg (by simp [hp])]; rfl
  | cons c t ih =>
    rw [List.cons_append]
    by_cases h : p c = true
    · rw [List.takeWhile_cons_of_pos h, List.takeWhile_cons_of_pos h, ih]
    · rw [List.takeWhile_cons_of_neg h, List.takeWhile_cons_of_neg h]
theorem hd_sep (n : UInt8) (hn : (10 == n) = false) (l r : List UInt8) : hd n (l ++ 10 :: r) = hd n l := by
  cases l with
  | nil => simp only [List.nil_append, hd, hn]
  | cons c t => rfl
theorem tok_sep (l r : List UInt8) (hl : l ≠ []) : tokL (l ++ 10 :: r) = tokL l := by
  cases l with
  | nil => exact absurd rfl hl
  | cons c t =>
    have h1 := take_sep isRest (by decide) (c :: t) r
    have h2 := take_sep isDig (by decide) (c :: t) r
    have h3 := hd_sep 62 (by decide) t r
    rw [List.cons_append] at h1 h2 ⊢
    simp only [tokL, h1, h2, h3]
theorem skip_sep (l r : List UInt8) : ∀ b, skipL b (l ++ 10 :: r) = if skipL b l = l.length then l.length + (1 + skipL false r) else skipL b l := by
  induction l with
  | nil => intro b; cases b <;> simp [skipL, isGap] <;> omega
  | cons c t ih =>
    have h3 := hd_sep 45 (by decide) t r
    have fin : ∀ b, skipL b (c :: (t ++ 10 :: r)) = skipL false (t ++ 10 :: r) + 1 → skipL b (c :: t) = skipL false t + 1 →
        skipL b (c :: (t ++ 10 :: r)) = if skipL b (c :: t) = (c :: t).length then (c :: t).length + (1 + skipL false r) else skipL b (c :: t) := by
      intro b e1 e2
      rw [e1, e2, ih, List.length_cons]
      by_cases e : skipL false t = t.length
      · rw [if_pos e, if_pos (by omega)]; omega
      · rw [if_neg e, if_neg (by omega)]
    have fin2 : ∀ b, skipL b (c :: (t ++ 10 :: r)) = skipL true (t ++ 10 :: r) + 1 → skipL b (c :: t) = skipL true t + 1 →
        skipL b (c :: (t ++ 10 :: r)) = if skipL b (c :: t) = (c :: t).length then (c :: t).length + (1 + skipL false r) else skipL b (c :: t) := by
      intro b e1 e2
      rw [e1, e2, ih, List.length_cons]
      by_cases e : skipL true t = t.length
      · rw [if_pos e, if_pos (by omega)]; omega
      · rw [if_neg e, if_neg (by omega)]
    intro b
    rw [List.cons_append]
    cases b
    · by_cases g1 : isGap c = true
      · exact fin false (by simp only [skipL]; rw [if_pos g1]) (by simp only [skipL]; rw [if_pos g1])
      · by_cases g2 : (c == 45 && hd 45 t) = true
        · exact fin2 false (by simp only [skipL, h3]; rw [if_neg g1, if_pos g2]) (by simp only [skipL]; rw [if_neg g1, if_pos g2])
        · have e1 : skipL false (c :: (t ++ 10 :: r)) = 0 := by simp only [skipL, h3]; rw [if_neg g1, if_neg g2]
          have e2 : skipL false (c :: t) = 0 := by simp only [skipL]; rw [if_neg g1, if_neg g2]
          rw [e1, e2, List.length_cons, if_neg (by omega)]
    · by_cases g1 : (c == 10) = true
      · exact fin true (by simp only [skipL]; rw [if_pos g1]) (by simp only [skipL]; rw [if_pos g1])
      · exact fin2 true (by simp only [skipL]; rw [if_neg g1]) (by simp only [skipL]; rw [if_neg g1])
/-- The tokens of one text, then those of another. -/
def joinE (x y : Except Nat (List Tk)) : Except Nat (List Tk) := match x with
  | .error e => .error e
  | .ok ts => match y with
    | .error e => .error e
    | .ok us => .ok (ts ++ us)
theorem join_nil (y : Except Nat (List Tk)) : joinE (.ok []) y = y := by cases y <;> rfl
theorem lexS_join (r : List UInt8) : ∀ (n pos : Nat) (l : List UInt8), l.length ≤ n → lexS pos (l ++ 10 :: r) = joinE (lexS pos l) (lexS (pos + l.length + 1) r) := by
  intro n
  induction n with
  | zero =>
    intro pos l hn
    have : l = [] := List.length_eq_zero_iff.1 (by omega)
    subst this
    rw [lexS_nil, join_nil, List.nil_append]
    have := lexS_gap [10] (fun b => by simp [skipL, isGap]; omega) pos r
    exact this
  | succ n ih =>
    intro pos l hn
    have hle := skipL_le false l
    by_cases hs : skipL false l = l.length
    · have e1 : lexS pos l = .ok [] := by
        unfold lexS
        rw [hs, List.drop_length, lexA_nil]
      rw [e1, join_nil]
      unfold lexS
      rw [skip_sep, if_pos hs]
      have e2 : (l ++ 10 :: r).drop (l.length + (1 + skipL false r)) = r.drop (skipL false r) := by
        rw [← List.drop_drop, List.drop_left, show 1 + skipL false r = skipL false r + 1 by omega, List.drop_succ_cons]
      rw [e2]
      congr 1
      omega
    · have hlt : skipL false l < l.length := by omega
      have hne : l.drop (skipL false l) ≠ [] := by
        intro h; have := congrArg List.length h; simp at this; omega
      have ed : (l ++ 10 :: r).drop (skipL false l) = l.drop (skipL false l) ++ 10 :: r := by
        rw [List.drop_append_of_le_length (by omega)]
      have step : lexS pos (l ++ 10 :: r) = lexA (pos + skipL false l) (l.drop (skipL false l) ++ 10 :: r) := by
        unfold lexS
        rw [skip_sep, if_neg hs, ed]
      rw [step]
      have step2 : lexS pos l = lexA (pos + skipL false l) (l.drop (skipL false l)) := rfl
      rw [step2]
      have hdl : (l.drop (skipL false l)).length = l.length - skipL false l := List.length_drop
      generalize l.drop (skipL false l) = l' at hne hdl
      generalize skipL false l = g at hlt hdl
      have htok := tok_sep l' r hne
      have htl := tokL_le l'
      by_cases h0 : (tokL l').2 = 0
      · rw [lexA_err hne h0, lexA_err (by simp) (by rw [htok]; exact h0)]; rfl
      · rw [lexA_S (l := l' ++ 10 :: r) (by rw [htok]; exact h0), lexA_S h0, htok, List.drop_append_of_le_length htl]
        rw [ih _ _ (by simp; omega)]
        have e3 : pos + g + (tokL l').2 + (l'.drop (tokL l').2).length + 1 = pos + l.length + 1 := by simp; omega
        rw [e3]
        cases lexS (pos + g + (tokL l').2) (l'.drop (tokL l').2) with
        | error e => rfl
        | ok ts =>
          cases lexS (pos + l.length + 1) r with
          | error e => rfl
          | ok us => rfl
theorem lexA_len : ∀ (n pos : Nat) (l : List UInt8) (ts : List Tk), l.length ≤ n → lexA pos l = .ok ts → ts.length ≤ l.length := by
  intro n
  induction n with
  | zero =>
    intro pos l ts hn hx
    have : l = [] := List.length_eq_zero_iff.1 (by omega)
    subst this
    rw [lexA_nil] at hx; cases hx; simp
  | succ n ih =>
    intro pos l ts hn hx
    by_cases hne : l = []
    · subst hne; rw [lexA_nil] at hx; cases hx; simp
    · by_cases h0 : (tokL l).2 = 0
      · rw [lexA_err hne h0] at hx; cases hx
      · rw [lexA_cons h0] at hx
        split at hx
        · cases hx
        · rename_i ts' hts
          cases hx
          have := List.length_pos_iff.2 hne
          have h2 := ih _ _ ts' (by simp; omega) hts
          simp at h2 ⊢; omega
theorem lexL_len (l : List UInt8) (ts : List Tk) (h : lexL l = .ok ts) : ts.length ≤ l.length := by
  have := lexA_len _ _ _ _ (Nat.le_refl _) h
  simp at this; omega
end Go.Proofs.YtoapgongbackaaaDoor.Lx

/-
  DERIVED: THE SHELF's CONTRACTS AT THIS DUMP, IN PLAIN WORDS (tools/lay-plain.mjs out of 'TryShelf.lean', which tools/lay-shelf.mjs wrote): THE SAME DECLARATIONS UNDER THE SAME NAMES: 'import', 'namespace', 'open', 'def', 'theorem' AND NOTHING ELSE: no command of the shelf's: FOR A HAND-IN. Each laying: the table of numbers ('.._ren') and one theorem, a field a fact of the dump's own or the kernel's comparison; each contract: ONE APPLICATION.
-/
namespace Go.Proofs
open Go.Shelf
def Tryd.lays137_ren : Go.Shelf.Ren := ⟨fun | 137 => 74 | 217 => 94 | 266 => 103 | n => n, fun | 9 => 9 | 5 => 5 | 3 => 3 | n => n, fun | n => n⟩
theorem Tryd.lays137 : Go.Proofs.Lays.n137 Tryd.prog Tryd.lays137_ren := {
  mixed := by kernel_rfl
  f137 := Tryd.func74.trans (congrArg some (by kernel_rfl))
  f217 := Tryd.func94.trans (congrArg some (by kernel_rfl))
  f266 := Tryd.func103.trans (congrArg some (by kernel_rfl))
  t3 := Tryd.underlying3
  a3 := Tryd.isAgg3
  z3 := Tryd.sizeOf3
  v3 := Tryd.zeroValue3
  t5 := Tryd.underlying5
  a5 := Tryd.isAgg5
  z5 := Tryd.sizeOf5
  v5 := Tryd.zeroValue5
  t9 := Tryd.underlying9
  a9 := Tryd.isAgg9
  z9 := Tryd.sizeOf9
  v9 := Tryd.zeroValue9 }
open Go.RowKit in
/-- strings.IndexByte: "IndexByte returns the index of the first instance of c in s, or -1 if c is not present in s.": IT RETURNS 'Lib.indexByte s c'; the world is as it was. (LAID: no walk: one application.) -/
theorem Tryd.strings_IndexByte (s : ByteArray) (c : Int) (w : World) :
    Calls Tryd.prog 74 #[.string s, .int .u8 c] w fun e w' => e = .returned (.int .i64 (Lib.indexByte s.data.toList c.toNat.toUInt8)) ∧ w' = w := Any.strings_IndexByte Tryd.lays137 s c w
def Tryd.lays217_ren : Go.Shelf.Ren := ⟨fun | 217 => 94 | 266 => 103 | n => n, fun | 9 => 9 | 5 => 5 | 3 => 3 | n => n, fun | n => n⟩
theorem Tryd.lays217 : Go.Proofs.Lays.n217 Tryd.prog Tryd.lays217_ren := {
  mixed := by kernel_rfl
  f217 := Tryd.func94.trans (congrArg some (by kernel_rfl))
  f266 := Tryd.func103.trans (congrArg some (by kernel_rfl))
  t3 := Tryd.underlying3
  a3 := Tryd.isAgg3
  z3 := Tryd.sizeOf3
  v3 := Tryd.zeroValue3
  t5 := Tryd.underlying5
  a5 := Tryd.isAgg5
  z5 := Tryd.sizeOf5
  v5 := Tryd.zeroValue5
  t9 := Tryd.underlying9
  a9 := Tryd.isAgg9
  z9 := Tryd.sizeOf9
  v9 := Tryd.zeroValue9 }
open Go.RowKit Go.Lib in
/-- internal/stringslite.IndexByte (what strings.IndexByte calls): IT RETURNS 'Lib.indexByte s c'; the world is as it was. (LAID: no walk: one application.) -/
theorem Tryd.stringslite_IndexByte (s : ByteArray) (c : Int) (w : World) :
    Calls Tryd.prog 94 #[.string s, .int .u8 c] w fun e w' => e = .returned (.int .i64 (Lib.indexByte s.data.toList c.toNat.toUInt8)) ∧ w' = w := Any.stringslite_IndexByte Tryd.lays217 s c w
end Go.Proofs

/-! L2: the program's lexer: classes of bytes. -/
namespace Go.Proofs.YtoapgongbackaaaDoor.V
open Go Go.Proofs
open Go.Proofs.YtoapgongbackaaaDoor.Lx
set_option maxRecDepth 100000

def clZ (c : Int) : Int := match decide ((97 : Int) ≤ c) && decide (c ≤ (122 : Int)) with
  | true => 1
  | false => match decide ((65 : Int) ≤ c) && decide (c ≤ (90 : Int)) with
    | true => 2
    | false => match decide ((48 : Int) ≤ c) && decide (c ≤ (57 : Int)) with
      | true => 4
      | false => match decide (c = (95 : Int)) with
        | true => 8
        | false => match decide (c = (32 : Int)) || decide (c = (9 : Int)) || decide (c = (10 : Int)) with
          | true => 16
          | false => 0
theorem classZ_ct (c : Int) : Ct 75 [.val (.one (.v (.int .u8 c)))] [.val (.one (.v (.int .i64 (clZ c))))] [] := by
  refine ct Tryd.func75 (by kernel_rfl) ?_
  conv => whnf
  cases h0a : decide ((97 : Int) ≤ c)
  · conv => whnf
    cases h1a : decide ((65 : Int) ≤ c)
    · conv => whnf
      cases h2a : decide ((48 : Int) ≤ c)
      · conv => whnf
        cases h3 : decide (c = (95 : Int))
        · conv => whnf
          cases h4 : decide (c = (32 : Int))
          · conv => whnf
            cases h5 : decide (c = (9 : Int))
            · conv => whnf
              cases h6 : decide (c = (10 : Int))
              · conv => whnf
                exact ⟨by rw [show clZ c = 0 from by simp only [clZ, h0a, h1a, h2a, h3, h4, h5, h6]; rfl], rfl⟩
              · conv => whnf
                exact ⟨by rw [show clZ c = 16 from by simp only [clZ, h0a, h1a, h2a, h3, h4, h5, h6]; rfl], rfl⟩
            · conv => whnf
              exact ⟨by rw [show clZ c = 16 from by simp only [clZ, h0a, h1a, h2a, h3, h4, h5]; rfl], rfl⟩
          · conv => whnf
            exact ⟨by rw [show clZ c = 16 from by simp only [clZ, h0a, h1a, h2a, h3, h4]; rfl], rfl⟩
        · conv => whnf
          exact ⟨by rw [show clZ c = 8 from by simp only [clZ, h0a, h1a, h2a, h3]; rfl], rfl⟩
      · conv => whnf
        cases h2b : decide (c ≤ (57 : Int))
        · conv => whnf
          cases h3 : decide (c = (95 : Int))
          · conv => whnf
            cases h4 : decide (c = (32 : Int))
            · conv => whnf
              cases h5 : decide (c = (9 : Int))
              · conv => whnf
                cases h6 : decide (c = (10 : Int))
                · conv => whnf
                  exact ⟨by rw [show clZ c = 0 from by simp only [clZ, h0a, h1a, h2a, h2b, h3, h4, h5, h6]; rfl], rfl⟩
                · conv => whnf
                  exact ⟨by rw [show clZ c = 16 from by simp only [clZ, h0a, h1a, h2a, h2b, h3, h4, h5, h6]; rfl], rfl⟩
              · conv => whnf
                exact ⟨by rw [show clZ c = 16 from by simp only [clZ, h0a, h1a, h2a, h2b, h3, h4, h5]; rfl], rfl⟩
            · conv => whnf
              exact ⟨by rw [show clZ c = 16 from by simp only [clZ, h0a, h1a, h2a, h2b, h3, h4]; rfl], rfl⟩
          · conv => whnf
            exact ⟨by rw [show clZ c = 8 from by simp only [clZ, h0a, h1a, h2a, h2b, h3]; rfl], rfl⟩
        · conv => whnf
          exact ⟨by rw [show clZ c = 4 from by simp only [clZ, h0a, h1a, h2a, h2b]; rfl], rfl⟩
    · conv => whnf
      cases h1b : decide (c ≤ (90 : Int))
      · conv => whnf
        cases h2a : decide ((48 : Int) ≤ c)
        · conv => whnf
          cases h3 : decide (c = (95 : Int))
          · conv => whnf
            cases h4 : decide (c = (32 : Int))
            · conv => whnf
              cases h5 : decide (c = (9 : Int))
              · conv => whnf
                cases h6 : decide (c = (10 : Int))
                · conv => whnf
                  exact ⟨by rw [show clZ c = 0 from by simp only [clZ, h0a, h1a, h1b, h2a, h3, h4, h5, h6]; rfl], rfl⟩
                · conv => whnf
                  exact ⟨by rw [show clZ c = 16 from by simp only [clZ, h0a, h1a, h1b, h2a, h3, h4, h5, h6]; rfl], rfl⟩
              · conv => whnf
                exact ⟨by rw [show clZ c = 16 from by simp only [clZ, h0a, h1a, h1b, h2a, h3, h4, h5]; rfl], rfl⟩
            · conv => whnf
              exact ⟨by rw [show clZ c = 16 from by simp only [clZ, h0a, h1a, h1b, h2a, h3, h4]; rfl], rfl⟩
          · conv => whnf
            exact ⟨by rw [show clZ c = 8 from by simp only [clZ, h0a, h1a, h1b, h2a, h3]; rfl], rfl⟩
        · conv => whnf
          cases h2b : decide (c ≤ (57 : Int))
          · conv => whnf
            cases h3 : decide (c = (95 : Int))
            · conv => whnf
              cases h4 : decide (c = (32 : Int))
              · conv => whnf
                cases h5 : decide (c = (9 : Int))
                · conv => whnf
                  cases h6 : decide (c = (10 : Int))
                  · conv => whnf
                    exact ⟨by rw [show clZ c = 0 from by simp only [clZ, h0a, h1a, h1b, h2a, h2b, h3, h4, h5, h6]; rfl], rfl⟩
                  · conv => whnf
                    exact ⟨by rw [show clZ c = 16 from by simp only [clZ, h0a, h1a, h1b, h2a, h2b, h3, h4, h5, h6]; rfl], rfl⟩
                · conv => whnf
                  exact ⟨by rw [show clZ c = 16 from by simp only [clZ, h0a, h1a, h1b, h2a, h2b, h3, h4, h5]; rfl], rfl⟩
              · conv => whnf
                exact ⟨by rw [show clZ c = 16 from by simp only [clZ, h0a, h1a, h1b, h2a, h2b, h3, h4]; rfl], rfl⟩
            · conv => whnf
              exact ⟨by rw [show clZ c = 8 from by simp only [clZ, h0a, h1a, h1b, h2a, h2b, h3]; rfl], rfl⟩
          · conv => whnf
            exact ⟨by rw [show clZ c = 4 from by simp only [clZ, h0a, h1a, h1b, h2a, h2b]; rfl], rfl⟩
      · conv => whnf
        exact ⟨by rw [show clZ c = 2 from by simp only [clZ, h0a, h1a, h1b]; rfl], rfl⟩
  · conv => whnf
    cases h0b : decide (c ≤ (122 : Int))
    · conv => whnf
      cases h1a : decide ((65 : Int) ≤ c)
      · conv => whnf
        cases h2a : decide ((48 : Int) ≤ c)
        · conv => whnf
          cases h3 : decide (c = (95 : Int))
          · conv => whnf
            cases h4 : decide (c = (32 : Int))
            · conv => whnf
              cases h5 : decide (c = (9 : Int))
              · conv => whnf
                cases h6 : decide (c = (10 : Int))
                · conv => whnf
                  exact ⟨by rw [show clZ c = 0 from by simp only [clZ, h0a, h0b, h1a, h2a, h3, h4, h5, h6]; rfl], rfl⟩
                · conv => whnf
                  exact ⟨by rw [show clZ c = 16 from by simp only [clZ, h0a, h0b, h1a, h2a, h3, h4, h5, h6]; rfl], rfl⟩
              · conv => whnf
                exact ⟨by rw [show clZ c = 16 from by simp only [clZ, h0a, h0b, h1a, h2a, h3, h4, h5]; rfl], rfl⟩
            · conv => whnf
              exact ⟨by rw [show clZ c = 16 from by simp only [clZ, h0a, h0b, h1a, h2a, h3, h4]; rfl], rfl⟩
          · conv => whnf
            exact ⟨by rw [show clZ c = 8 from by simp only [clZ, h0a, h0b, h1a, h2a, h3]; rfl], rfl⟩
        · conv => whnf
          cases h2b : decide (c ≤ (57 : Int))
          · conv => whnf
            cases h3 : decide (c = (95 : Int))
            · conv => whnf
              cases h4 : decide (c = (32 : Int))
              · conv => whnf
                cases h5 : decide (c = (9 : Int))
                · conv => whnf
                  cases h6 : decide (c = (10 : Int))
                  · conv => whnf
                    exact ⟨by rw [show clZ c = 0 from by simp only [clZ, h0a, h0b, h1a, h2a, h2b, h3, h4, h5, h6]; rfl], rfl⟩
                  · conv => whnf
                    exact ⟨by rw [show clZ c = 16 from by simp only [clZ, h0a, h0b, h1a, h2a, h2b, h3, h4, h5, h6]; rfl], rfl⟩
                · conv => whnf
                  exact ⟨by rw [show clZ c = 16 from by simp only [clZ, h0a, h0b, h1a, h2a, h2b, h3, h4, h5]; rfl], rfl⟩
              · conv => whnf
                exact ⟨by rw [show clZ c = 16 from by simp only [clZ, h0a, h0b, h1a, h2a, h2b, h3, h4]; rfl], rfl⟩
            · conv => whnf
              exact ⟨by rw [show clZ c = 8 from by simp only [clZ, h0a, h0b, h1a, h2a, h2b, h3]; rfl], rfl⟩
          · conv => whnf
            exact ⟨by rw [show clZ c = 4 from by simp only [clZ, h0a, h0b, h1a, h2a, h2b]; rfl], rfl⟩
      · conv => whnf
        cases h1b : decide (c ≤ (90 : Int))
        · conv => whnf
          cases h2a : decide ((48 : Int) ≤ c)
          · conv => whnf
            cases h3 : decide (c = (95 : Int))
            · conv => whnf
              cases h4 : decide (c = (32 : Int))
              · conv => whnf
                cases h5 : decide (c = (9 : Int))
                · conv => whnf
                  cases h6 : decide (c = (10 : Int))
                  · conv => whnf
                    exact ⟨by rw [show clZ c = 0 from by simp only [clZ, h0a, h0b, h1a, h1b, h2a, h3, h4, h5, h6]; rfl], rfl⟩
                  · conv => whnf
                    exact ⟨by rw [show clZ c = 16 from by simp only [clZ, h0a, h0b, h1a, h1b, h2a, h3, h4, h5, h6]; rfl], rfl⟩
                · conv => whnf
                  exact ⟨by rw [show clZ c = 16 from by simp only [clZ, h0a, h0b, h1a, h1b, h2a, h3, h4, h5]; rfl], rfl⟩
              · conv => whnf
                exact ⟨by rw [show clZ c = 16 from by simp only [clZ, h0a, h0b, h1a, h1b, h2a, h3, h4]; rfl], rfl⟩
            · conv => whnf
              exact ⟨by rw [show clZ c = 8 from by simp only [clZ, h0a, h0b, h1a, h1b, h2a, h3]; rfl], rfl⟩
          · conv => whnf
            cases h2b : decide (c ≤ (57 : Int))
            · conv => whnf
              cases h3 : decide (c = (95 : Int))
              · conv => whnf
                cases h4 : decide (c = (32 : Int))
                · conv => whnf
                  cases h5 : decide (c = (9 : Int))
                  · conv => whnf
                    cases h6 : decide (c = (10 : Int))
                    · conv => whnf
                      exact ⟨by rw [show clZ c = 0 from by simp only [clZ, h0a, h0b, h1a, h1b, h2a, h2b, h3, h4, h5, h6]; rfl], rfl⟩
                    · conv => whnf
                      exact ⟨by rw [show clZ c = 16 from by simp only [clZ, h0a, h0b, h1a, h1b, h2a, h2b, h3, h4, h5, h6]; rfl], rfl⟩
                  · conv => whnf
                    exact ⟨by rw [show clZ c = 16 from by simp only [clZ, h0a, h0b, h1a, h1b, h2a, h2b, h3, h4, h5]; rfl], rfl⟩
                · conv => whnf
                  exact ⟨by rw [show clZ c = 16 from by simp only [clZ, h0a, h0b, h1a, h1b, h2a, h2b, h3, h4]; rfl], rfl⟩
              · conv => whnf
                exact ⟨by rw [show clZ c = 8 from by simp only [clZ, h0a, h0b, h1a, h1b, h2a, h2b, h3]; rfl], rfl⟩
            · conv => whnf
              exact ⟨by rw [show clZ c = 4 from by simp only [clZ, h0a, h0b, h1a, h1b, h2a, h2b]; rfl], rfl⟩
        · conv => whnf
          exact ⟨by rw [show clZ c = 2 from by simp only [clZ, h0a, h0b, h1a, h1b]; rfl], rfl⟩
    · conv => whnf
      exact ⟨by rw [show clZ c = 1 from by simp only [clZ, h0a, h0b]; rfl], rfl⟩
end Go.Proofs.YtoapgongbackaaaDoor.V

/-! L3: the program's lexer: rows, prefixes. -/
namespace Go.Proofs.YtoapgongbackaaaDoor.V
open Go Go.Proofs
open Go.Proofs.YtoapgongbackaaaDoor.Lx
set_option maxRecDepth 100000

theorem all_bytes {P : UInt8 → Prop} [DecidablePred P] (h : ∀ i : Fin 256, P (UInt8.ofNat i.val)) (c : UInt8) : P c := by
  have := h ⟨c.toNat, c.toNat_lt⟩
  simpa using this
def andZ (a b : Int) : Int := IntKind.i64.wrap ((BitVec.ofInt IntKind.i64.bits a &&& BitVec.ofInt IntKind.i64.bits b).toNat)
def inC (m : Int) (c : UInt8) : Bool := !decide (andZ (clZ (c.toNat : Int)) m = 0)
theorem in_rest (c : UInt8) : inC 15 c = isRest c := all_bytes (P := fun c => inC 15 c = isRest c) (by decide +kernel) c
theorem in_dig (c : UInt8) : inC 4 c = isDig c := all_bytes (P := fun c => inC 4 c = isDig c) (by decide +kernel) c
theorem in_gap (c : UInt8) : inC 16 c = isGap c := all_bytes (P := fun c => inC 16 c = isGap c) (by decide +kernel) c
theorem in_letter (c : UInt8) : inC 3 c = (isLow c || isUp c) := all_bytes (P := fun c => inC 3 c = (isLow c || isUp c)) (by decide +kernel) c
theorem getD_lt {α : Type} {l : List α} {i : Nat} {d : α} (h : i < l.length) : l.getD i d = l[i] := by
  rw [List.getD_eq_getElem?_getD, List.getElem?_eq_getElem h]; rfl
theorem row_ct (m : Int) (p : UInt8 → Bool) (hp : ∀ c, inC m c = p c) (s : ByteArray) (hB : s.size ≤ 4294967296) :
    Ct 72 [.val (.one (.v (.string s))), .val (.one (.v (.int .i64 m)))] [.val (.one (.v (.int .i64 (((s.data.toList.takeWhile p).length : Nat) : Int))))] [] := by
  refine ct Tryd.func72 (by kernel_rfl) ?_
  have hsz : s.size = s.data.toList.length := by rw [Array.length_toList]; rfl
  conv => whnf
  refine ⟨fun n st => ∃ i x, n = s.size - i ∧ i ≤ s.size ∧ x = ((i : Nat) : Int) ∧ (s.data.toList.takeWhile p).length = i + ((s.data.toList.drop i).takeWhile p).length ∧
    st = ⟨[(0, .one (.v (.string s))), (1, .one (.v (.int .i64 m))), (5, .one (.v (.int .i64 x)))], [], []⟩,
    ⟨_, _, wk [0, 1, 5] [] [] [] [] [] rfl, 0, 0, rfl, Nat.zero_le _, rfl, by simp, rfl⟩, ?_⟩
  rintro n st ⟨i, x, rfl, hi, rfl, hx, rfl⟩
  cases hlt : decide (((i : Nat) : Int) < (s.size : Int))
  · have : i = s.size := by have := of_decide_eq_false hlt; omega
    conv => whnf
    rw [hlt]
    conv => whnf
    rw [hx, List.drop_of_length_le (by omega)]
    exact ⟨by simp, rfl⟩
  · have hi2 : i < s.data.toList.length := by have := of_decide_eq_true hlt; omega
    rw [List.drop_eq_getElem_cons hi2] at hx
    conv => whnf
    rw [hlt]
    conv => whnf
    refine ⟨by omega, ?_⟩
    conv => whnf
    refine ⟨_, _, classZ_ct _, ?_⟩
    have hb : byteAt s (i : Int).toNat = s.data.toList[i] := by unfold byteAt; rw [Int.toNat_natCast]; exact getD_lt hi2
    rw [hb]
    have hc := hp s.data.toList[i]
    conv => whnf
    cases hd : decide (IntKind.i64.wrap (((BitVec.ofInt IntKind.i64.bits (clZ (s.data.toList[i].toNat : Int)) &&& BitVec.ofInt IntKind.i64.bits m).toNat : Nat) : Int) = 0)
    · have hp2 : p s.data.toList[i] = true := by rw [← hc]; unfold inC andZ; rw [hd]; rfl
      rw [List.takeWhile_cons_of_pos hp2] at hx
      conv => whnf
      refine ⟨_, _, ?_, wk [0, 1, 5] [] [] [] [] [] rfl, i + 1, _, rfl, by omega, i64_id (x := (i : Int) + 1) (by omega) (by omega), by rw [hx]; simp; omega, rfl⟩
      omega
    · have hp2 : ¬ p s.data.toList[i] = true := by rw [← hc]; unfold inC andZ; rw [hd]; simp
      rw [List.takeWhile_cons_of_neg hp2] at hx
      conv => whnf
      rw [hx]
      exact ⟨rfl, rfl⟩
theorem prefix0_ct (s q : ByteArray) : Ct 93 [.val (.one (.v (.string s))), .val (.one (.v (.string q)))] [.val (.one (.v (.bool (q.data.toList.isPrefixOf s.data.toList))))] [] := by
  refine ct Tryd.func93 (by kernel_rfl) ?_
  have hs : s.size = s.data.toList.length := by rw [Array.length_toList]; rfl
  have hq : q.size = q.data.toList.length := by rw [Array.length_toList]; rfl
  conv => whnf
  cases h1 : decide ((q.size : Int) ≤ (s.size : Int))
  · have : q.data.toList.isPrefixOf s.data.toList = false := by
      have := of_decide_eq_false h1
      cases h : q.data.toList.isPrefixOf s.data.toList
      · rfl
      · have := (List.isPrefixOf_iff_prefix.1 h).length_le
        omega
    rw [this]
    conv => whnf
    exact ⟨rfl, rfl⟩
  · have h2 := of_decide_eq_true h1
    conv => whnf
    refine ⟨by omega, ?_⟩
    conv => whnf
    have : (decide (s.extract (0 : Int).toNat (q.size : Int).toNat = q)) = q.data.toList.isPrefixOf s.data.toList := by
      rw [Bool.eq_iff_iff, decide_eq_true_eq, List.isPrefixOf_iff_prefix, List.prefix_iff_eq_take, Int.toNat_natCast]
      constructor
      · intro h
        have := congrArg (fun b => b.data.toList) h
        simp only [Lib.extract_data] at this
        rw [← hq]
        simpa using this.symm
      · intro h
        apply ext_of
        rw [Lib.extract_data, hq]
        simpa using h.symm
    rw [← this]
    exact ⟨rfl, rfl⟩
theorem prefix_ct (s q : ByteArray) : Ct 73 [.val (.one (.v (.string s))), .val (.one (.v (.string q)))] [.val (.one (.v (.bool (q.data.toList.isPrefixOf s.data.toList))))] [] := by
  refine ct Tryd.func73 (by kernel_rfl) ?_
  conv => whnf
  refine ⟨_, _, prefix0_ct s q, ?_⟩
  conv => whnf
  exact ⟨rfl, rfl⟩
end Go.Proofs.YtoapgongbackaaaDoor.V

/-! L4: the program's lexer: the place of a byte; what goes ahead of a token. -/
namespace Go.Proofs.YtoapgongbackaaaDoor.V
open Go Go.Proofs
open Go.Proofs.YtoapgongbackaaaDoor.Lx
set_option maxRecDepth 100000

theorem ACr.v_inv {κ : Con} {H : Fz} {x u : Value} (h : ACr κ H (.v x) u) : u = x := by cases h; rfl
theorem AVr.v_inv {κ : Con} {H : Fz} {x u : Value} (h : AVr κ H (.one (.v x)) u) : u = x := by
  cases h with | one _ _ h => exact h.v_inv
theorem indexByte_ct (s : ByteArray) (c : Int) : Ct 74 [.val (.one (.v (.string s))), .val (.one (.v (.int .u8 c)))] [.val (.one (.v (.int .i64 (Lib.indexByte s.data.toList c.toNat.toUInt8))))] [] := by
  intro H w us hfz hG hargs hnd
  match us, hargs with
  | [u1, u2], ⟨h1, h2, _⟩ =>
    obtain rfl := h1.v_inv
    obtain rfl := h2.v_inv
    refine (Tryd.strings_IndexByte s c w).mono fun e w' ⟨he, hw⟩ => ⟨_, H, he, ?_⟩
    subst hw
    exact ⟨Fz.le_refl H, hfz, fun b hb hn => ⟨rfl, rfl⟩, trivial, Nat.le_refl _, rfl, rfl, rfl, [_], ⟨.one _ _ (.v _ rfl), trivial⟩, rfl⟩
end Go.Proofs.YtoapgongbackaaaDoor.V

/-! L5: the program's lexer: what goes ahead of a token. -/
namespace Go.Proofs.YtoapgongbackaaaDoor.V
open Go Go.Proofs
open Go.Proofs.YtoapgongbackaaaDoor.Lx
set_option maxRecDepth 100000

theorem ext_at {s : ByteArray} {l : List UInt8} (hs : s = ofL l) (n : Nat) : s.extract ((n : Int)).toNat ((s.size : Int)).toNat = ofL (l.drop n) := by
  subst hs; rw [Int.toNat_natCast, Int.toNat_natCast]; exact extract_end l n
theorem ext_to {s : ByteArray} {l : List UInt8} (hs : s = ofL l) (n : Nat) : s.extract ((0 : Int)).toNat ((n : Int)).toNat = ofL (l.take n) := by
  subst hs; rw [Int.toNat_natCast]; exact extract_to l n
theorem skipped_ct (l : List UInt8) (hB : l.length ≤ 4294967296) : Ct 41 [.val (.one (.v (.string (ofL l))))] [.val (.one (.v (.int .i64 ((skipL false l : Nat) : Int))))] [] := by
  refine ct Tryd.func41 (by kernel_rfl) ?_
  generalize hs : ofL l = s
  have hsz : s.size = l.length := by rw [← hs]; exact ofL_size l
  conv => whnf
  refine ⟨fun j st => ∃ n x, j = l.length - n ∧ n ≤ l.length ∧ x = ((n : Nat) : Int) ∧ skipL false l = n + skipL false (l.drop n) ∧
    st = ⟨[(0, .one (.v (.string s))), (3, .one (.v (.int .i64 x)))], [], []⟩,
    ⟨_, _, wk [0, 3] [] [] [] [] [] rfl, 0, 0, rfl, Nat.zero_le _, rfl, by simp, rfl⟩, ?_⟩
  rintro j st ⟨n, x, rfl, hn, rfl, hx, rfl⟩
  have hg := takeWhile_le (p := isGap) (l.drop n)
  rw [List.length_drop] at hg
  conv => whnf
  refine ⟨by omega, ?_⟩
  rw [ext_at hs.symm n]
  conv => whnf
  refine ⟨_, _, row_ct 16 isGap in_gap (ofL (l.drop n)) (by rw [ofL_size, List.length_drop]; omega), ?_⟩
  rw [ofL_data]
  generalize hge : ((l.drop n).takeWhile isGap).length = g at hg
  conv => whnf
  have hw : IntKind.i64.wrap ((n : Int) + (g : Int)) = ((n + g : Nat) : Int) := by rw [i64_id (by omega) (by omega)]; omega
  have hdd : (l.drop n).drop g = l.drop (n + g) := by rw [List.drop_drop]
  rw [hw]
  refine ⟨by omega, ?_⟩
  rw [ext_at hs.symm (n + g)]
  conv => whnf
  have pc := prefix_ct (ofL (l.drop (n + g))) ⟨#[45, 45]⟩
  cases hp : ([45, 45] : List UInt8).isPrefixOf (l.drop (n + g))
  · rw [show (⟨#[45, 45]⟩ : ByteArray).data.toList.isPrefixOf (ofL (l.drop (n + g))).data.toList = false from hp] at pc
    refine ⟨_, _, pc, ?_⟩
    conv => whnf
    rw [hx, skip_end (l := l.drop n) hge.symm (by rw [hdd]; exact hp)]
    exact ⟨rfl, rfl⟩
  · rw [show (⟨#[45, 45]⟩ : ByteArray).data.toList.isPrefixOf (ofL (l.drop (n + g))).data.toList = true from hp] at pc
    refine ⟨_, _, pc, ?_⟩
    obtain ⟨h1, h2⟩ := skip_run (l := l.drop n) hge.symm (by rw [hdd]; exact hp)
    rw [hdd] at h1 h2
    rw [List.length_drop] at h2
    have hix := index_lt (l.drop (n + g)) 10
    have hge' := Lib.indexByte_ge (l.drop (n + g)) 10
    rw [skip_true] at h1
    conv => whnf
    refine ⟨by omega, ?_⟩
    rw [ext_at hs.symm (n + g)]
    conv => whnf
    refine ⟨_, _, indexByte_ct (ofL (l.drop (n + g))) 10, ?_⟩
    rw [show Lib.indexByte (ofL (l.drop (n + g))).data.toList (10 : Int).toNat.toUInt8 = Lib.indexByte (l.drop (n + g)) 10 from rfl]
    by_cases hi : Lib.indexByte (l.drop (n + g)) 10 = -1
    · rw [if_pos hi] at h1
      rw [hi]
      conv => whnf
      refine ⟨_, _, ?_, wk [0, 3] [] [] [] [] [] rfl, l.length, _, rfl, Nat.le_refl _, by rw [hsz], ?_, rfl⟩
      · omega
      · rw [hx, h1]; simp [skipL]; omega
    · rw [if_neg hi] at h1
      have hil : Lib.indexByte (l.drop (n + g)) 10 < ((l.drop (n + g)).length : Int) := by
        rcases hix with h | h
        · exact h
        · rw [h] at hp; simp [List.isPrefixOf] at hp
      rw [List.length_drop] at hil
      have hpos : 0 < Lib.indexByte (l.drop (n + g)) 10 := by
        rw [prefix2] at hp
        generalize l.drop (n + g) = r at hp hi hge'
        cases r with
        | nil => simp at hp
        | cons c r =>
          simp only [Bool.and_eq_true, beq_iff_eq] at hp
          obtain ⟨rfl, _⟩ := hp
          have := Lib.indexByte_ge r 10
          simp only [Lib.indexByte] at hi ⊢
          rw [if_neg (by decide)] at hi ⊢
          split
          · rename_i h3; rw [if_pos h3] at hi; exact absurd rfl hi
          · rename_i h3; have : ¬ Lib.indexByte r 10 = -1 := by simpa using h3
            omega
      have hdd2 : (l.drop (n + g)).drop (Lib.indexByte (l.drop (n + g)) 10).toNat = l.drop (n + g + (Lib.indexByte (l.drop (n + g)) 10).toNat) := by rw [List.drop_drop]
      rw [hdd2] at h1
      generalize Lib.indexByte (l.drop (n + g)) 10 = ix at hil hpos h1
      obtain ⟨m, rfl⟩ : ∃ m : Nat, ix = (m : Int) := ⟨ix.toNat, by omega⟩
      rw [Int.toNat_natCast] at h1
      conv => whnf
      cases hz : decide ((0 : Int) ≤ (m : Int))
      · have := of_decide_eq_false hz; omega
      conv => whnf
      have hw2 : IntKind.i64.wrap (((n + g : Nat) : Int) + (m : Int)) = ((n + g + m : Nat) : Int) := by rw [i64_id (by omega) (by omega)]; omega
      refine ⟨_, _, ?_, wk [0, 3] [] [] [] [] [] rfl, n + g + m, _, rfl, by omega, hw2, ?_, rfl⟩
      · omega
      · rw [hx, h1]; omega
end Go.Proofs.YtoapgongbackaaaDoor.V

/-! L6: the program's lexer: words, names. -/
namespace Go.Proofs.YtoapgongbackaaaDoor.V
open Go Go.Proofs
open Go.Proofs.YtoapgongbackaaaDoor.Lx
set_option maxRecDepth 100000

def isB (s : ByteArray) (w : List UInt8) : Bool := decide (s = ofL w)
theorem isB_eq (s : ByteArray) (w : List UInt8) : isB s w = (s.data.toList == w) := by
  unfold isB
  rw [Bool.eq_iff_iff, decide_eq_true_eq, beq_iff_eq]
  exact ⟨fun h => by rw [h]; rfl, fun h => ext_of h⟩
theorem isWord_eq (s : ByteArray) : isWord s.data.toList = (words.any fun w => isB s w) := by
  unfold isWord
  simp only [List.contains_eq_any_beq, isB_eq]
theorem word0_ct (s : ByteArray) : Ct 76 [.val (.one (.v (.string s)))] [.val (.one (.v (.bool (isWord s.data.toList))))] [] := by
  rw [isWord_eq]
  refine ct Tryd.func76 (by kernel_rfl) ?_
  conv => whnf
  cases h0 : decide (s = (⟨#[100, 97, 116, 97]⟩ : ByteArray))
  rotate_left
  · rw [show (words.any fun w => isB s w) = true from by simp [words, isB, ofL, of_decide_eq_true h0]]
    conv => whnf
    exact ⟨rfl, rfl⟩
  conv => whnf
  cases h1 : decide (s = (⟨#[108, 101, 116]⟩ : ByteArray))
  rotate_left
  · rw [show (words.any fun w => isB s w) = true from by simp [words, isB, ofL, of_decide_eq_true h1]]
    conv => whnf
    exact ⟨rfl, rfl⟩
  conv => whnf
  cases h2 : decide (s = (⟨#[105, 110]⟩ : ByteArray))
  rotate_left
  · rw [show (words.any fun w => isB s w) = true from by simp [words, isB, ofL, of_decide_eq_true h2]]
    conv => whnf
    exact ⟨rfl, rfl⟩
  conv => whnf
  cases h3 : decide (s = (⟨#[105, 102]⟩ : ByteArray))
  rotate_left
  · rw [show (words.any fun w => isB s w) = true from by simp [words, isB, ofL, of_decide_eq_true h3]]
    conv => whnf
    exact ⟨rfl, rfl⟩
  conv => whnf
  cases h4 : decide (s = (⟨#[116, 104, 101, 110]⟩ : ByteArray))
  rotate_left
  · rw [show (words.any fun w => isB s w) = true from by simp [words, isB, ofL, of_decide_eq_true h4]]
    conv => whnf
    exact ⟨rfl, rfl⟩
  conv => whnf
  cases h5 : decide (s = (⟨#[101, 108, 115, 101]⟩ : ByteArray))
  rotate_left
  · rw [show (words.any fun w => isB s w) = true from by simp [words, isB, ofL, of_decide_eq_true h5]]
    conv => whnf
    exact ⟨rfl, rfl⟩
  conv => whnf
  cases h6 : decide (s = (⟨#[99, 97, 115, 101]⟩ : ByteArray))
  rotate_left
  · rw [show (words.any fun w => isB s w) = true from by simp [words, isB, ofL, of_decide_eq_true h6]]
    conv => whnf
    exact ⟨rfl, rfl⟩
  conv => whnf
  cases h7 : decide (s = (⟨#[111, 102]⟩ : ByteArray))
  rotate_left
  · rw [show (words.any fun w => isB s w) = true from by simp [words, isB, ofL, of_decide_eq_true h7]]
    conv => whnf
    exact ⟨rfl, rfl⟩
  conv => whnf
  cases h8 : decide (s = (⟨#[116, 114, 117, 101]⟩ : ByteArray))
  rotate_left
  · rw [show (words.any fun w => isB s w) = true from by simp [words, isB, ofL, of_decide_eq_true h8]]
    conv => whnf
    exact ⟨rfl, rfl⟩
  conv => whnf
  cases h9 : decide (s = (⟨#[102, 97, 108, 115, 101]⟩ : ByteArray))
  rotate_left
  · rw [show (words.any fun w => isB s w) = true from by simp [words, isB, ofL, of_decide_eq_true h9]]
    conv => whnf
    exact ⟨rfl, rfl⟩
  have g0 : isB s [100, 97, 116, 97] = false := h0
  have g1 : isB s [108, 101, 116] = false := h1
  have g2 : isB s [105, 110] = false := h2
  have g3 : isB s [105, 102] = false := h3
  have g4 : isB s [116, 104, 101, 110] = false := h4
  have g5 : isB s [101, 108, 115, 101] = false := h5
  have g6 : isB s [99, 97, 115, 101] = false := h6
  have g7 : isB s [111, 102] = false := h7
  have g8 : isB s [116, 114, 117, 101] = false := h8
  have g9 : isB s [102, 97, 108, 115, 101] = false := h9
  rw [show (words.any fun w => isB s w) = false from by simp only [words, List.any_cons, List.any_nil, g0, g1, g2, g3, g4, g5, g6, g7, g8, g9, Bool.or_false]]
  conv => whnf
  exact ⟨rfl, rfl⟩
theorem named_ct (first : Int) (p : UInt8 → Bool) (hp : ∀ c : UInt8, decide (clZ (c.toNat : Int) = first) = p c) (l : List UInt8) (hB : l.length ≤ 4294967296) :
    Ct 95 [.val (.one (.v (.string (ofL l)))), .val (.one (.v (.int .i64 first)))] [.val (.one (.v (.bool (rowOf p l))))] [] := by
  refine ct Tryd.func95 (by kernel_rfl) ?_
  have hsz := ofL_size l
  have hrow := row_ct 15 isRest in_rest (ofL l) (by rw [hsz]; exact hB)
  rw [ofL_data] at hrow
  apply evF_of rfl
  apply seqC
  apply regS
  apply stepS
  · conv => whnf
  apply endS
  apply seqC
  apply regS
  apply stepS
  · conv => whnf
  apply stepS
  · conv => whnf
  cases l with
  | nil =>
    rw [show decide (ofL [] = (⟨#[]⟩ : ByteArray)) = true from rfl]
    repeat (apply stepS; (· conv => whnf))
    apply endS
    conv => whnf
    exact ⟨rfl, rfl⟩
  | cons c r =>
    rw [show decide (ofL (c :: r) = (⟨#[]⟩ : ByteArray)) = false from decide_eq_false fun h => by
      have := congrArg ByteArray.size h
      rw [hsz] at this
      have h3 : (⟨#[]⟩ : ByteArray).size = 0 := rfl
      rw [h3] at this
      simp at this]
    have hb : byteAt (ofL (c :: r)) (0 : Int).toNat = c := rfl
    generalize ofL (c :: r) = s at hsz hb hrow
    rw [show rowOf p (c :: r) = (p c && (c :: r).all isRest && decide ((c :: r).length ≤ 30)) from rfl]
    repeat (apply stepS; (· conv => whnf))
    have hc := hp c
    cases h1 : decide ((s.size : Int) ≤ 30)
    · rw [show decide ((c :: r).length ≤ 30) = false from by rw [hsz] at h1; have := of_decide_eq_false h1; exact decide_eq_false (by omega), Bool.and_false]
      repeat (apply stepS; (· conv => whnf))
      apply endS
      conv => whnf
      exact ⟨rfl, rfl⟩
    · rw [show decide ((c :: r).length ≤ 30) = true from by rw [hsz] at h1; have := of_decide_eq_true h1; exact decide_eq_true (by omega), Bool.and_true]
      repeat (apply stepS; (· conv => whnf))
      apply stepS
      · conv => whnf
        refine ⟨by have : 0 < (c :: r).length := by simp
                   omega, ?_⟩
        conv => whnf
      rw [hb]
      apply stepS
      · conv => whnf
        refine ⟨_, _, classZ_ct _, ?_⟩
        conv => whnf
      repeat (apply stepS; (· conv => whnf))
      cases h2 : decide (clZ (c.toNat : Int) = first)
      · rw [h2] at hc
        rw [← hc, Bool.false_and]
        repeat (apply stepS; (· conv => whnf))
        apply endS
        conv => whnf
        exact ⟨rfl, rfl⟩
      · rw [h2] at hc
        rw [← hc, Bool.true_and]
        rw [show (c :: r).all isRest = decide ((((c :: r).takeWhile isRest).length : Int) = (s.size : Int)) from by
          rw [hsz, Bool.eq_iff_iff, decide_eq_true_eq, ← all_take]; omega]
        repeat (apply stepS; (· conv => whnf))
        apply stepS
        · conv => whnf
          refine ⟨_, _, hrow, ?_⟩
          conv => whnf
        repeat (apply stepS; (· conv => whnf))
        apply endS
        conv => whnf
        exact ⟨rfl, rfl⟩
theorem low_in (c : UInt8) : decide (clZ (c.toNat : Int) = 1) = isLow c := all_bytes (P := fun c => decide (clZ (c.toNat : Int) = 1) = isLow c) (by decide +kernel) c
theorem up_in (c : UInt8) : decide (clZ (c.toNat : Int) = 2) = isUp c := all_bytes (P := fun c => decide (clZ (c.toNat : Int) = 2) = isUp c) (by decide +kernel) c
theorem con_ct (l : List UInt8) (hB : l.length ≤ 4294967296) : Ct 78 [.val (.one (.v (.string (ofL l))))] [.val (.one (.v (.bool (isCon l))))] [] := by
  refine ct Tryd.func78 (by kernel_rfl) ?_
  conv => whnf
  refine ⟨_, _, named_ct 2 isUp up_in l hB, ?_⟩
  conv => whnf
  exact ⟨rfl, rfl⟩
theorem name_ct (l : List UInt8) (hB : l.length ≤ 4294967296) : Ct 77 [.val (.one (.v (.string (ofL l))))] [.val (.one (.v (.bool (isName l))))] [] := by
  refine ct Tryd.func77 (by kernel_rfl) ?_
  unfold isName
  conv => whnf
  refine ⟨_, _, named_ct 1 isLow low_in l hB, ?_⟩
  cases h : rowOf isLow l
  · conv => whnf
    exact ⟨rfl, rfl⟩
  · conv => whnf
    refine ⟨_, _, word0_ct (ofL l), ?_⟩
    conv => whnf
    exact ⟨rfl, rfl⟩
end Go.Proofs.YtoapgongbackaaaDoor.V

/-! L7: the program's lexer: numbers. -/
namespace Go.Proofs.YtoapgongbackaaaDoor.V
open Go Go.Proofs
open Go.Proofs.YtoapgongbackaaaDoor.Lx
set_option maxRecDepth 100000

theorem u8_id {x : Int} (h1 : 0 ≤ x) (h2 : x ≤ 255) : IntKind.u8.wrap x = x := by
  simp only [IntKind.wrap, IntKind.bits, IntKind.signed]
  simp only [Bool.false_and]
  split
  · rename_i h; cases h
  · omega
theorem byteAt_ofL {s : ByteArray} {l : List UInt8} (hs : s = ofL l) {m : Nat} (hm : m < l.length) : byteAt s ((m : Nat) : Int).toNat = l[m] := by
  subst hs; unfold byteAt; rw [Int.toNat_natCast, ofL_data]; exact getD_lt hm
theorem number_ct (l : List UInt8) (hne : l ≠ []) (hd' : l.all isDig = true) (hB : l.length ≤ 4294967296) :
    Ct 79 [.val (.one (.v (.string (ofL l))))] [.val (.one (.v (.int .i64 (numT l l 0).1))), .val (.one (.v (.bool (numT l l 0).2)))] [] := by
  refine ct Tryd.func79 (by kernel_rfl) ?_
  generalize hs : ofL l = s
  have hsz : s.size = l.length := by rw [← hs]; exact ofL_size l
  conv => whnf
  refine ⟨fun j st => ∃ m i n, j = l.length - m ∧ m ≤ l.length ∧ i = ((m : Nat) : Int) ∧ (0 ≤ n ∧ n ≤ 2147483647) ∧ numT l l 0 = numT l (l.drop m) n ∧
    st = ⟨[(0, .one (.v (.string s))), (4, .one (.v (.int .i64 n))), (7, .one (.v (.int .i64 (s.size : Int)))), (8, .one (.v (.int .i64 i)))], [], []⟩,
    ⟨_, _, wk [0, 4, 7, 8] [] [] [] [] [] rfl, 0, 0, 0, rfl, Nat.zero_le _, rfl, by omega, rfl, rfl⟩, ?_⟩
  rintro j st ⟨m, i, n, rfl, hm, rfl, hn, hx, rfl⟩
  conv => whnf
  cases hlt : decide (((m : Nat) : Int) < (s.size : Int))
  · have : m = l.length := by have := of_decide_eq_false hlt; omega
    subst this
    rw [List.drop_length] at hx
    rw [hx]
    have hl0 : 0 < l.length := List.length_pos_iff.2 hne
    have hx2 : numT l [] n = (n, decide ((s.size : Int) = 1) || !decide ((l[0].toNat : Int) = 48)) := by
      unfold numT
      simp only [numFrom]
      rw [Prod.mk.injEq]
      refine ⟨rfl, ?_⟩
      cases l with
      | nil => simp at hl0
      | cons c r =>
        rw [hsz, Bool.eq_iff_iff]
        simp only [hd, decide_eq_true_eq, Bool.or_eq_true, Bool.not_eq_true', beq_eq_false_iff_ne, decide_eq_false_iff_not, List.getElem_cons_zero]
        have : (c = 48) ↔ ((c.toNat : Int) = 48) := by
          constructor
          · intro h; subst h; rfl
          · intro h; apply UInt8.toNat_inj.1; have : (48 : UInt8).toNat = 48 := rfl; omega
        rw [← this]
        constructor
        · rintro (h | h)
          · left; omega
          · right; exact h
        · rintro (h | h)
          · left; omega
          · right; exact h
    rw [hx2]
    conv => whnf
    cases h1 : decide ((s.size : Int) = 1)
    · conv => whnf
      refine ⟨by omega, ?_⟩
      have hb : byteAt s (0 : Int).toNat = l[0] := byteAt_ofL hs.symm (m := 0) hl0
      rw [hb]
      conv => whnf
      refine ⟨by kernel_rfl, ?_⟩
      conv => whnf
      exact ⟨rfl, rfl⟩
    · conv => whnf
      refine ⟨by kernel_rfl, ?_⟩
      conv => whnf
      exact ⟨rfl, rfl⟩
  · have hm2 : m < l.length := by have := of_decide_eq_true hlt; omega
    rw [List.drop_eq_getElem_cons hm2] at hx
    have hdig : isDig l[m] = true := List.all_eq_true.1 hd' _ (List.getElem_mem hm2)
    have hv := dig_val _ hdig
    conv => whnf
    refine ⟨by omega, ?_⟩
    rw [byteAt_ofL hs.symm hm2]
    generalize l[m] = c at hx hdig hv
    conv => whnf
    have e : IntKind.i64.wrap (IntKind.i64.wrap (n * 10) + IntKind.i64.wrap (IntKind.u8.wrap ((c.toNat : Int) - 48))) = n * 10 + ((c.toNat : Int) - 48) := by
      rw [u8_id (by omega) (by omega), i64_id (x := n * 10) (by omega) (by omega), i64_id (x := (c.toNat : Int) - 48) (by omega) (by omega), i64_id (by omega) (by omega)]
    rw [e]
    cases hgt : decide (2147483647 < n * 10 + ((c.toNat : Int) - 48))
    · have hgt2 := of_decide_eq_false hgt
      have hx2 : numT l (c :: l.drop (m + 1)) n = numT l (l.drop (m + 1)) (n * 10 + ((c.toNat : Int) - 48)) := by
        unfold numT
        rw [numFrom, if_neg hgt2]
      rw [hx2] at hx
      conv => whnf
      refine ⟨_, _, ?_, wk [0, 4, 7, 8] [] [] [] [] [] rfl, m + 1, _, _, rfl, hm2, i64_id (x := (m : Int) + 1) (by omega) (by omega), by omega, hx, rfl⟩
      omega
    · have hgt2 := of_decide_eq_true hgt
      have hx2 : numT l (c :: l.drop (m + 1)) n = (0, false) := by
        unfold numT
        rw [numFrom, if_pos hgt2]
      rw [hx2] at hx
      rw [hx]
      conv => whnf
      exact ⟨rfl, rfl⟩
end Go.Proofs.YtoapgongbackaaaDoor.V

/-! L8: the program's lexer: tokens. -/
namespace Go.Proofs.YtoapgongbackaaaDoor.V
open Go Go.Proofs
open Go.Proofs.YtoapgongbackaaaDoor.Lx
set_option maxRecDepth 100000

theorem all_tw (p : UInt8 → Bool) : ∀ l : List UInt8, (l.takeWhile p).all p = true
  | [] => rfl
  | c :: l => by
    cases h : p c
    · rw [List.takeWhile_cons_of_neg (by rw [h]; simp)]; rfl
    · rw [List.takeWhile_cons_of_pos h, List.all_cons, h, all_tw p l]; rfl
def toT (t : Tk) : Tok := ⟨t.kind, (t.pos : Int), ofL t.s, t.n⟩
def signRow : List (List AC) := signs.map fun w => str (ofL w)
theorem token_ct (l : List UInt8) (hne : l ≠ []) (hB : l.length ≤ 4294967296) :
    Ct 42 [.val (.one (.v (.string (ofL l))))] [.val (.agg (tok (toT (tokL l).1))), .val (.one (.v (.int .i64 (((tokL l).2 : Nat) : Int))))] [] := by
  refine ct Tryd.func42 (by kernel_rfl) ?_
  have hrow := row_ct 15 isRest in_rest (ofL l) (by rw [ofL_size]; exact hB)
  have hrow2 := row_ct 4 isDig in_dig (ofL l) (by rw [ofL_size]; exact hB)
  rw [ofL_data] at hrow hrow2
  have ht1 := fun n => ext_to (s := ofL l) rfl n
  have hpre := fun w => prefix_ct (ofL l) (ofL w)
  simp only [ofL_data] at hpre
  have hsz := ofL_size l
  cases l with
  | nil => exact absurd rfl hne
  | cons c r =>
    have hb : byteAt (ofL (c :: r)) (0 : Int).toNat = c := rfl
    have hw1 := takeWhile_le (p := isRest) (c :: r)
    have hw2 := takeWhile_le (p := isDig) (c :: r)
    have hlen : 0 < (c :: r).length := by simp
    have hin := in_letter c
    generalize ofL (c :: r) = s at hrow hrow2 ht1 hpre hsz hb
    conv => whnf
    refine ⟨_, _, hrow, ?_⟩
    conv => whnf
    refine ⟨by omega, ?_⟩
    rw [hb]
    conv => whnf
    refine ⟨_, _, classZ_ct _, ?_⟩
    conv => whnf
    cases hd3 : decide (IntKind.i64.wrap (((BitVec.ofInt IntKind.i64.bits (clZ (c.toNat : Int)) &&& BitVec.ofInt IntKind.i64.bits 3).toNat : Nat) : Int) = 0)
    · have hl : (isLow c || isUp c) = true := by rw [← hin]; unfold inC andZ; rw [hd3]; rfl
      conv => whnf
      refine ⟨by omega, ?_⟩
      rw [ht1, take_take]
      have htok : tokL (c :: r) = (if isWord ((c :: r).takeWhile isRest) then (⟨4, 0, (c :: r).takeWhile isRest, 0⟩, ((c :: r).takeWhile isRest).length) else if isName ((c :: r).takeWhile isRest) then (⟨1, 0, (c :: r).takeWhile isRest, 0⟩, ((c :: r).takeWhile isRest).length) else if isCon ((c :: r).takeWhile isRest) then (⟨2, 0, (c :: r).takeWhile isRest, 0⟩, ((c :: r).takeWhile isRest).length) else (⟨0, 0, (c :: r).takeWhile isRest, 0⟩, 0)) := by
        simp only [tokL, hl, if_true]
      rw [htok]
      generalize (c :: r).takeWhile isRest = w at hw1
      have hwB : w.length ≤ 4294967296 := by omega
      have hword := word0_ct (ofL w)
      rw [ofL_data] at hword
      conv => whnf
      refine ⟨_, _, hword, ?_⟩
      cases g1 : isWord w
      · conv => whnf
        refine ⟨_, _, name_ct w hwB, ?_⟩
        cases g2 : isName w
        · conv => whnf
          refine ⟨_, _, con_ct w hwB, ?_⟩
          cases g3 : isCon w
          · conv => whnf
            exact ⟨rfl, rfl⟩
          · conv => whnf
            exact ⟨rfl, rfl⟩
        · conv => whnf
          exact ⟨rfl, rfl⟩
      · conv => whnf
        exact ⟨rfl, rfl⟩
    · have hl : (isLow c || isUp c) = false := by rw [← hin]; unfold inC andZ; rw [hd3]; rfl
      conv => whnf
      refine ⟨_, _, hrow2, ?_⟩
      conv => whnf
      cases hdz : decide ((0 : Int) < ((((c :: r).takeWhile isDig).length : Nat) : Int))
      · have hnd : isDig c = false := by
          cases h : isDig c
          · rfl
          · have := of_decide_eq_false hdz
            rw [List.takeWhile_cons_of_pos h] at this
            simp at this
        have hst := sign_tok c r hl hnd
        conv => whnf
        refine ⟨fun j st => ∃ m i, j = 10 - m ∧ m ≤ 10 ∧ i = ((m : Nat) : Int) ∧ signF (c :: r) (signs.drop m) = tokL (c :: r) ∧
          st = ⟨[(0, .one (.v (.string s))), (57, .one (.sl 9 1 signRow none)), (58, .one (.v (.int .i64 10))), (59, .one (.v (.int .i64 i))), (2, .one (.ptr 2 0 0))], [(2, ⟨0, 74, [.v (.int .i64 0), .v (.int .i64 0), .v (.string .empty), .v (.int .i64 0)]⟩)], []⟩,
          ⟨_, _, wk [0, 57, 58, 59, 2] [2] [] [] [] [] rfl, 0, 0, rfl, by omega, rfl, hst, rfl⟩, ?_⟩
        rintro j st ⟨m, i, rfl, hm, rfl, hx, rfl⟩
        conv => whnf
        cases hlt : decide (((m : Nat) : Int) < 10)
        · have : m = 10 := by have := of_decide_eq_false hlt; omega
          subst this
          rw [← hx]
          conv => whnf
          exact ⟨rfl, rfl⟩
        · have hm2 : m < signs.length := by have := of_decide_eq_true hlt; have : signs.length = 10 := rfl; omega
          rw [List.drop_eq_getElem_cons hm2] at hx
          have hg : 0 ≤ (m : Int) ∧ signRow[((m : Nat) : Int).toNat]? = some (str (ofL signs[m])) := ⟨by omega, by unfold signRow; simp [List.getElem?_eq_getElem hm2]⟩
          generalize signs[m] = q at hx hg
          conv => whnf
          refine ⟨_, hg, ?_⟩
          conv => whnf
          refine ⟨_, _, hpre q, ?_⟩
          simp only [signF] at hx
          cases hq : q.isPrefixOf (c :: r)
          · rw [hq] at hx
            conv => whnf
            refine ⟨_, _, ?_, wk [0, 57, 58, 59, 2] [2] [] [] [] [] rfl, m + 1, _, rfl, by have : signs.length = 10 := rfl; omega, i64_id (x := (m : Int) + 1) (by omega) (by omega), hx, rfl⟩
            have : signs.length = 10 := rfl
            omega
          · rw [hq] at hx
            have hqs : (ofL q).size = q.length := ofL_size q
            rw [← hx]
            generalize hqq : ofL q = qs at hqs
            conv => whnf
            rw [hqs]
            refine ⟨by rw [if_pos rfl, ← hqq]; rfl, rfl⟩
      · have hdg : isDig c = true := by
          cases h : isDig c
          · have := of_decide_eq_true hdz
            rw [List.takeWhile_cons_of_neg (by rw [h]; simp)] at this
            simp at this
          · rfl
        have htok : tokL (c :: r) = (match numL ((c :: r).takeWhile isDig) with | some n => ((⟨3, 0, [], n⟩ : Tk), ((c :: r).takeWhile isDig).length) | none => (⟨0, 0, [], 0⟩, 0)) := by
          simp only [tokL, hl, hdg, if_true]
          first
            | (rw [if_neg (by simp)]; done)
            | (rw [if_neg (by simp)]; cases numL ((c :: r).takeWhile isDig) <;> rfl)
        rw [htok]
        have hall : ((c :: r).takeWhile isDig).all isDig = true := by
          exact all_tw isDig (c :: r)
        have hwne : (c :: r).takeWhile isDig ≠ [] := by rw [List.takeWhile_cons_of_pos hdg]; simp
        conv => whnf
        refine ⟨by omega, ?_⟩
        rw [ht1, take_take]
        generalize (c :: r).takeWhile isDig = w at hw2 hall hwne
        have hnum := number_ct w hwne hall (by omega)
        conv => whnf
        rcases numT_numL w with ⟨v, g1, g2⟩ | ⟨g1, v, g2⟩
        · rw [g2] at hnum
          rw [g1]
          refine ⟨_, _, hnum, ?_⟩
          conv => whnf
          exact ⟨rfl, rfl⟩
        · rw [g2] at hnum
          rw [g1]
          refine ⟨_, _, hnum, ?_⟩
          conv => whnf
          exact ⟨rfl, rfl⟩
end Go.Proofs.YtoapgongbackaaaDoor.V

/-! L9: the program's lexer. -/
namespace Go.Proofs.YtoapgongbackaaaDoor.V
open Go Go.Proofs
open Go.Proofs.YtoapgongbackaaaDoor.Lx
set_option maxRecDepth 100000

def lexRes : Except Nat (List Tk) → List Res
  | .ok ts => [.row 74 4 ((ts.map toT).map tok), .val (.one (.v (.int .i64 0))), .val (.one (.v (.int .i64 0)))]
  | .error e => [.val (.one (.v (.slice none 0 0))), .val (.one (.v (.int .i64 3))), .val (.one (.v (.int .i64 ((e : Nat) : Int))))]
def preE (acc : List Tk) : Except Nat (List Tk) → Except Nat (List Tk)
  | .ok ts => .ok (acc ++ ts)
  | .error e => .error e
theorem lex_ct (l : List UInt8) (hB : l.length ≤ 65536) : Ct 23 [.val (.one (.v (.string (ofL l))))] (lexRes (lexL l)) [] := by
  refine ct Tryd.func23 (by kernel_rfl) ?_
  have hskip := fun n => skipped_ct (l.drop n) (by rw [List.length_drop]; omega)
  have hsk0 := hskip 0
  rw [List.drop_zero] at hsk0
  have htk := fun n h => token_ct (l.drop n) h (by rw [List.length_drop]; omega)
  have hle := skipL_le false l
  unfold lexL
  have hsz := ofL_size l
  have hex := fun n => ext_at (s := ofL l) rfl n
  generalize ofL l = s at hsk0 hsz hex
  conv => whnf
  cases h1 : decide ((65536 : Int) < (s.size : Int))
  rotate_left
  · have := of_decide_eq_true h1
    omega
  conv => whnf
  refine ⟨_, _, hsk0, ?_⟩
  conv => whnf
  refine ⟨fun j st => ∃ i x acc, j = l.length - i ∧ i ≤ l.length ∧ acc.length ≤ i ∧ x = ((i : Nat) : Int) ∧ lexA (skipL false l) (l.drop (skipL false l)) = preE acc (lexA i (l.drop i)) ∧
    st = ⟨[(0, .one (.v (.string s))), (4, .one (.v (.int .i64 x))), (2, .one (.sl 74 4 ((acc.map toT).map tok) (some (37, 0))))], [], [(37, ⟨0, 74, 4, true⟩)]⟩,
    ⟨_, _, wk [0, 4, 2] [] [] [] [(2, 37, 74, 4)] [] rfl, skipL false l, _, [], rfl, hle, by simp, rfl, by cases lexA (skipL false l) (l.drop (skipL false l)) <;> rfl, rfl⟩, ?_⟩
  rintro j st ⟨i, x, acc, rfl, hi, ha, rfl, hx, rfl⟩
  rw [hx]
  conv => whnf
  cases hlt : decide (((i : Nat) : Int) < (s.size : Int))
  · have : i = l.length := by have := of_decide_eq_false hlt; omega
    subst this
    rw [List.drop_length, lexA_nil, show preE acc (.ok []) = .ok acc from by simp [preE]]
    conv => whnf
    exact ⟨rfl, rfl⟩
  · have hi2 : i < l.length := by have := of_decide_eq_true hlt; omega
    have hne : l.drop i ≠ [] := by intro h; have := congrArg List.length h; simp at this; omega
    have htok := htk i hne
    have hcons := fun pos => @lexA_cons pos (l.drop i)
    have herr := fun pos => @lexA_err pos (l.drop i) hne
    have hkle := tokL_le (l.drop i)
    rw [List.length_drop] at hkle
    generalize tokL (l.drop i) = tk at htok hcons herr hkle
    obtain ⟨⟨kind, pos, ts, nn⟩, k⟩ := tk
    simp only at htok hcons herr hkle
    conv => whnf
    refine ⟨by omega, ?_⟩
    rw [hex]
    conv => whnf
    refine ⟨_, _, htok, ?_⟩
    conv => whnf
    cases hk : decide (((k : Nat) : Int) = 0)
    · have hk0 : k ≠ 0 := by have := of_decide_eq_false hk; omega
      have hcons := hcons i hk0
      rw [List.drop_drop, List.drop_drop] at hcons
      have hsl := skipL_le false (l.drop (i + k))
      rw [List.length_drop] at hsl
      have hw : IntKind.i64.wrap ((i : Int) + (k : Int)) = ((i + k : Nat) : Int) := by rw [i64_id (by omega) (by omega)]; omega
      conv => whnf
      refine ⟨by simp [lim]; omega, ?_⟩
      conv => whnf
      rw [hw]
      refine ⟨by omega, ?_⟩
      rw [hex]
      conv => whnf
      refine ⟨_, _, hskip (i + k), ?_⟩
      conv => whnf
      have hw2 : IntKind.i64.wrap (((i + k : Nat) : Int) + ((skipL false (l.drop (i + k)) : Nat) : Int)) = ((i + k + skipL false (l.drop (i + k)) : Nat) : Int) := by rw [i64_id (by omega) (by omega)]; omega
      refine ⟨_, _, ?_, wk [0, 4, 2] [] [37] [] [] [] rfl, i + k + skipL false (l.drop (i + k)), _, acc ++ [⟨kind, i, ts, nn⟩], rfl, by omega, by simp; omega, hw2, ?_, by rw [List.map_append, List.map_append]; rfl⟩
      · omega
      · rw [← hx, hx, hcons]
        cases lexA (i + k + skipL false (l.drop (i + k))) (l.drop (i + k + skipL false (l.drop (i + k)))) <;> simp [preE]
    · have hk0 : k = 0 := by have := of_decide_eq_true hk; omega
      rw [herr i hk0]
      conv => whnf
      exact ⟨rfl, rfl⟩
end Go.Proofs.YtoapgongbackaaaDoor.V

/-! U13: the program's Parse. -/
namespace Go.Proofs.YtoapgongbackaaaDoor.V
open Go Go.Proofs
open Go.Proofs.YtoapgongbackaaaDoor.Lx
set_option maxRecDepth 100000

def endT (n : Nat) : Tok := ⟨0, (n : Int), .empty, 0⟩
def startP : List Tok → Nat → PS
  | [], n => ⟨endT n, [], false, 0⟩
  | t :: r, n => ⟨t, r ++ [endT n], false, 0⟩
theorem startP_par (l : List Tok) (n : Nat) : par (startP l n) = [.sl 74 4 (l.map tok ++ [tok (endT n)]) none, .v (.bool false), .v (.int .i64 0)] := by
  cases l with
  | nil => rfl
  | cons t r => simp [startP, par]
def parseK (k : Nat) (l : List UInt8) : Option (ProgD × Int × Int) := match lexL l with
  | .error e => some (⟨[], []⟩, 3, ((e : Nat) : Int))
  | .ok ts => match progP k ⟨[], []⟩ (startP (ts.map toT) l.length) with
    | none => none
    | some (p, s) => match s.bad with
      | true => some (⟨[], []⟩, 4, s.at_)
      | false => match decide (0 ≤ deepestP p) with
        | true => some (⟨[], []⟩, 5, deepestP p)
        | false => some (p, 0, 0)
theorem parse_ct {k : Nat} (hk : k ≤ 4294967296) {l : List UInt8} (hB : l.length ≤ 65536) {p : ProgD} {e a : Int} (h : parseK k l = some (p, e, a))
    (hf : ∀ ts p s, lexL l = .ok ts → progP k ⟨[], []⟩ (startP (ts.map toT) l.length) = some (p, s) → FineP p) :
    Ct 12 [.val (.one (.v (.string (ofL l))))] [.val (.agg (progC p)), .val (.one (.v (.int .i64 e))), .val (.one (.v (.int .i64 a)))] [] := by
  refine ct Tryd.func12 (by kernel_rfl) ?_
  have hlex := lex_ct l hB
  have hll := lexL_len l
  unfold parseK at h
  have hsz := ofL_size l
  generalize ofL l = s at hlex hsz
  conv => whnf
  refine ⟨_, _, hlex, ?_⟩
  cases hl : lexL l with
  | error x =>
    rw [hl] at h
    simp only [Option.some.injEq, Prod.mk.injEq] at h
    obtain ⟨rfl, rfl, rfl⟩ := h
    conv => whnf
    exact ⟨rfl, rfl⟩
  | ok ts =>
    rw [hl] at h
    have hll := hll ts hl
    simp only at h
    split at h
    · cases h
    · rename_i p1 s1 h1
      have hf1 := hf ts p1 s1 hl h1
      conv => whnf
      refine ⟨by simp [lim]; omega, ?_⟩
      conv => whnf
      have hpar := startP_par (ts.map toT) l.length
      have hprog := program_ct hk h1
      unfold parA at hprog
      rw [hpar, ← hsz] at hprog
      refine ⟨_, _, hprog, ?_⟩
      obtain ⟨t2, r2, b2, a2⟩ := s1
      obtain ⟨ds, bs⟩ := p1
      cases b2
      · simp only at h
        conv => whnf
        refine ⟨_, _, deepest_ct hf1, ?_⟩
        cases hd : decide (0 ≤ deepestP ⟨ds, bs⟩)
        · rw [hd] at h
          simp only [Option.some.injEq, Prod.mk.injEq] at h
          obtain ⟨rfl, rfl, rfl⟩ := h
          conv => whnf
          rw [hd]
          conv => whnf
          exact ⟨rfl, rfl⟩
        · rw [hd] at h
          simp only [Option.some.injEq, Prod.mk.injEq] at h
          obtain ⟨rfl, rfl, rfl⟩ := h
          conv => whnf
          rw [hd]
          conv => whnf
          exact ⟨rfl, rfl⟩
      · simp only [Option.some.injEq, Prod.mk.injEq] at h
        obtain ⟨rfl, rfl, rfl⟩ := h
        conv => whnf
        refine ⟨by kernel_rfl, ?_⟩
        conv => whnf
        exact ⟨rfl, rfl⟩
end Go.Proofs.YtoapgongbackaaaDoor.V
