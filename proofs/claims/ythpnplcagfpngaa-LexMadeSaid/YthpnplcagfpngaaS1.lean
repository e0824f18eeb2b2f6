/- Plain Lean: bytes as lists, and what the tokens of a text are. No program in sight. -/
import Derived.Lib.Strings
import Derived.Lib.Bytealg
import Derived.Lib.SmallJoins
import Derived.Lib.IndexBytes
namespace Go.Proofs.Ythpnplcagfpngaa.Lx
set_option linter.unusedVariables false
set_option linter.unusedSimpArgs false
/-- A text out of its bytes. -/
def ofL (l : List UInt8) : ByteArray := ⟨l.toArray⟩
theorem ofL_data (l : List UInt8) : (ofL l).data.toList = l := rfl
theorem ofL_size (l : List UInt8) : (ofL l).size = l.length := by
  show (l.toArray).size = l.length
  simp
theorem ext_of {a b : ByteArray} (h : a.data.toList = b.data.toList) : a = b := by
  cases a; cases b; simpa [Array.toList_inj] using h
theorem of_data (s : ByteArray) : ofL s.data.toList = s := ext_of rfl
theorem ofL_inj {a b : List UInt8} (h : ofL a = ofL b) : a = b := congrArg (fun s => s.data.toList) h
theorem ofL_extract (l : List UInt8) (a b : Nat) : (ofL l).extract a b = ofL ((l.drop a).take (b - a)) := ext_of (by rw [Lib.extract_data]; rfl)
theorem ofL_toList (l : List UInt8) : (ofL l).toList = l := by rw [Lib.toList_data]; rfl
theorem ofL_append (a b : List UInt8) : ofL a ++ ofL b = ofL (a ++ b) := ext_of (by rw [Go.Joins.data_append]; rfl)
theorem extract_end (l : List UInt8) (a : Nat) : (ofL l).extract a (ofL l).size = ofL (l.drop a) := by
  rw [ofL_extract, ofL_size, List.take_of_length_le (by simp)]
theorem extract_to (l : List UInt8) (b : Nat) : (ofL l).extract 0 b = ofL (l.take b) := by
  rw [ofL_extract]; simp

/-! ### classes of bytes -/
def isLow (c : UInt8) : Bool := decide (97 ≤ c.toNat) && decide (c.toNat ≤ 122)
def isUp (c : UInt8) : Bool := decide (65 ≤ c.toNat) && decide (c.toNat ≤ 90)
def isDig (c : UInt8) : Bool := decide (48 ≤ c.toNat) && decide (c.toNat ≤ 57)
def isGap (c : UInt8) : Bool := c == 32 || c == 9 || c == 10
def isRest (c : UInt8) : Bool := isLow c || isUp c || isDig c || c == 95
/-- Does a text begin with this byte? -/
def hd (n : UInt8) : List UInt8 → Bool
  | [] => false
  | c :: _ => c == n

/-! ### what goes ahead of a token: blanks and remarks; true: within a remark -/
def skipL : Bool → List UInt8 → Nat
  | _, [] => 0
  | false, c :: r => if isGap c then skipL false r + 1 else if c == 45 && hd 45 r then skipL true r + 1 else 0
  | true, c :: r => if c == 10 then skipL false r + 1 else skipL true r + 1
theorem skipL_le : ∀ (b : Bool) (l : List UInt8), skipL b l ≤ l.length
  | b, [] => by simp [skipL]
  | false, c :: r => by
    have h1 := skipL_le false r
    have h2 := skipL_le true r
    simp only [skipL, List.length_cons]
    split
    · omega
    · split <;> omega
  | true, c :: r => by
    have h1 := skipL_le false r
    have h2 := skipL_le true r
    simp only [skipL, List.length_cons]
    split <;> omega
/-- The words of the language. -/
def words : List (List UInt8) := [[100, 97, 116, 97], [108, 101, 116], [105, 110], [105, 102], [116, 104, 101, 110], [101, 108, 115, 101], [99, 97, 115, 101], [111, 102], [116, 114, 117, 101], [102, 97, 108, 115, 101]]
def isWord (w : List UInt8) : Bool := words.contains w
/-- A row that begins with a class, and isn't too long. -/
def rowOf (p : UInt8 → Bool) (w : List UInt8) : Bool := (match w with | [] => false | c :: _ => p c) && w.all isRest && decide (w.length ≤ 30)
def isName (w : List UInt8) : Bool := rowOf isLow w && !isWord w
def isCon (w : List UInt8) : Bool := rowOf isUp w
/-- The number of digits, behind some. -/
def numFrom : Int → List UInt8 → Option Int
  | n, [] => some n
  | n, c :: r => if 2147483647 < n * 10 + ((c.toNat : Int) - 48) then none else numFrom (n * 10 + ((c.toNat : Int) - 48)) r
def numL (l : List UInt8) : Option Int := match numFrom 0 l with
  | none => none
  | some n => if l.length = 1 ∨ hd 48 l = false then some n else none
/-- A token: its kind, where it begins, its text, its number. -/
structure Tk where
  kind : Int
  pos : Nat
  s : List UInt8
  n : Int
deriving DecidableEq
def signs1 : List UInt8 := [92, 61, 59, 124, 40, 41, 44, 123, 125]
/-- The token that a text begins with (its place: 0), and how long it is; 0: none. -/
def tokL : List UInt8 → Tk × Nat
  | [] => (⟨0, 0, [], 0⟩, 0)
  | c :: r =>
    if isLow c || isUp c then
      let w := (c :: r).takeWhile isRest
      if isWord w then (⟨4, 0, w, 0⟩, w.length) else if isName w then (⟨1, 0, w, 0⟩, w.length) else if isCon w then (⟨2, 0, w, 0⟩, w.length) else (⟨0, 0, w, 0⟩, 0)
    else if isDig c then
      let w := (c :: r).takeWhile isDig
      match numL w with
      | some n => (⟨3, 0, [], n⟩, w.length)
      | none => (⟨0, 0, [], 0⟩, 0)
    else if c == 45 && hd 62 r then (⟨5, 0, [45, 62], 0⟩, 2)
    else if signs1.contains c then (⟨5, 0, [c], 0⟩, 1)
    else (⟨0, 0, [], 0⟩, 0)
theorem takeWhile_le {p : UInt8 → Bool} (l : List UInt8) : (l.takeWhile p).length ≤ l.length := (List.takeWhile_sublist p).length_le
theorem tokL_le (l : List UInt8) : (tokL l).2 ≤ l.length := by
  cases l with
  | nil => simp [tokL]
  | cons c r =>
    have h1 := takeWhile_le (p := isRest) (c :: r)
    have h2 := takeWhile_le (p := isDig) (c :: r)
    simp only [tokL]
    split
    · split
      · exact h1
      · split
        · exact h1
        · split
          · exact h1
          · simp
    · split
      · split
        · exact h2
        · simp
      · split
        · rename_i h
          cases r with
          | nil => simp [hd] at h
          | cons d r => simp
        · split <;> simp
/-- The tokens of a text that begins with a token, or is at its end; pos: its place. Or: where there is none. -/
def lexA (pos : Nat) (l : List UInt8) : Except Nat (List Tk) :=
  if hl : l = [] then .ok [] else
  if h0 : (tokL l).2 = 0 then .error pos else
  let l' := l.drop (tokL l).2
  match lexA (pos + (tokL l).2 + skipL false l') (l'.drop (skipL false l')) with
  | .error e => .error e
  | .ok ts => .ok ({ (tokL l).1 with pos := pos } :: ts)
termination_by l.length
decreasing_by
  have : 0 < l.length := List.length_pos_iff.2 hl
  simp only [List.length_drop]
  omega
/-- The tokens of a text. -/
def lexL (l : List UInt8) : Except Nat (List Tk) := lexA (skipL false l) (l.drop (skipL false l))
theorem lexA_nil (pos : Nat) : lexA pos [] = .ok [] := by rw [lexA]; simp
theorem lexA_err {pos : Nat} {l : List UInt8} (hl : l ≠ []) (h : (tokL l).2 = 0) : lexA pos l = .error pos := by
  rw [lexA, dif_neg hl, dif_pos h]
theorem lexA_cons {pos : Nat} {l : List UInt8} (h : (tokL l).2 ≠ 0) : lexA pos l =
    match lexA (pos + (tokL l).2 + skipL false (l.drop (tokL l).2)) ((l.drop (tokL l).2).drop (skipL false (l.drop (tokL l).2))) with
    | .error e => .error e
    | .ok ts => .ok ({ (tokL l).1 with pos := pos } :: ts) := by
  have hl : l ≠ [] := by intro h0; rw [h0] at h; simp [tokL] at h
  rw [lexA, dif_neg hl, dif_neg h]
/-! ### skipping, as the program does it: a row of blanks, then a remark -/
theorem skip_gaps (l : List UInt8) : skipL false l = (l.takeWhile isGap).length + skipL false (l.dropWhile isGap) := by
  induction l with
  | nil => simp [skipL]
  | cons c r ih =>
    by_cases h : isGap c = true
    · rw [List.takeWhile_cons_of_pos h, List.dropWhile_cons_of_pos h, skipL, if_pos h, ih, List.length_cons]; omega
    · rw [List.takeWhile_cons_of_neg h, List.dropWhile_cons_of_neg h]; simp
theorem dropWhile_eq (p : UInt8 → Bool) (l : List UInt8) : l.dropWhile p = l.drop (l.takeWhile p).length := by
  induction l with
  | nil => simp
  | cons c r ih =>
    by_cases h : p c = true
    · rw [List.takeWhile_cons_of_pos h, List.dropWhile_cons_of_pos h, ih]; simp
    · rw [List.takeWhile_cons_of_neg h, List.dropWhile_cons_of_neg h]; simp
theorem skip_true (l : List UInt8) : skipL true l = if Lib.indexByte l 10 = -1 then l.length else (Lib.indexByte l 10).toNat + skipL false (l.drop (Lib.indexByte l 10).toNat) := by
  induction l with
  | nil => simp [skipL, Lib.indexByte]
  | cons c r ih =>
    have hge := Lib.indexByte_ge r 10
    by_cases h : (c == 10) = true
    · have hc : c = 10 := by simpa using h
      subst hc
      simp [skipL, Lib.indexByte, isGap]
    · have h' : (c == 10) = false := by simpa using h
      simp only [skipL, Lib.indexByte, h', Bool.false_eq_true, if_false]
      rw [ih]
      by_cases h1 : Lib.indexByte r 10 = -1
      · simp [h1]
      · have h2 : (Lib.indexByte r 10 == -1) = false := by simpa using h1
        have e : (Lib.indexByte r 10 + 1).toNat = (Lib.indexByte r 10).toNat + 1 := by omega
        simp only [h1, h2, if_false, Bool.false_eq_true]
        rw [if_neg (by omega), e]
        simp; omega
end Go.Proofs.Ythpnplcagfpngaa.Lx
