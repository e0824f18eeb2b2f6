/-
  The reference: its lexer. Condition: the text has at most 65536 bytes.
-/
import Derived.Test.YtoapgongbackaaaDoorEE
import Derived.Test.YtoapgongbackaaaDoorEC
set_option linter.unusedVariables false
set_option linter.unusedSimpArgs false
/-! M1: the reference's words. -/
namespace Go.Proofs.YtoapgongbackaaaDoor.V
open Go Go.Proofs
open Go.Proofs.YtoapgongbackaaaDoor.Lx
set_option maxRecDepth 100000

theorem rlower_ct (c : UInt8) : Ct 54 [.val (.one (.v (.int .u8 (c.toNat : Int))))] [.val (.one (.v (.bool (isLow c))))] [] := by
  refine ct Tryd.func54 (by kernel_rfl) ?_
  have e1 : decide (97 ≤ c.toNat) = decide ((97 : Int) ≤ (c.toNat : Int)) := decide_eq_decide.2 (by omega)
  have e2 : decide (c.toNat ≤ 122) = decide ((c.toNat : Int) ≤ 122) := decide_eq_decide.2 (by omega)
  unfold isLow
  rw [e1, e2]
  generalize (c.toNat : Int) = z
  apply evF_of rfl
  apply seqC
  apply regL
  repeat ((with_reducible apply stepS); (· conv => whnf))
  apply endS; apply seqC; apply regL
  repeat ((with_reducible apply stepS); (· conv => whnf))
  cases h1 : decide ((97 : Int) ≤ z)
  · repeat ((with_reducible apply stepS); (· conv => whnf))
    apply endS
    apply retC
    conv => whnf
    exact ⟨rfl, rfl⟩
  · repeat ((with_reducible apply stepS); (· conv => whnf))
    apply endS
    apply retC
    conv => whnf
    exact ⟨rfl, rfl⟩
theorem rupper_ct (c : UInt8) : Ct 55 [.val (.one (.v (.int .u8 (c.toNat : Int))))] [.val (.one (.v (.bool (isUp c))))] [] := by
  refine ct Tryd.func55 (by kernel_rfl) ?_
  have e1 : decide (65 ≤ c.toNat) = decide ((65 : Int) ≤ (c.toNat : Int)) := decide_eq_decide.2 (by omega)
  have e2 : decide (c.toNat ≤ 90) = decide ((c.toNat : Int) ≤ 90) := decide_eq_decide.2 (by omega)
  unfold isUp
  rw [e1, e2]
  generalize (c.toNat : Int) = z
  apply evF_of rfl
  apply seqC
  apply regL
  repeat ((with_reducible apply stepS); (· conv => whnf))
  apply endS; apply seqC; apply regL
  repeat ((with_reducible apply stepS); (· conv => whnf))
  cases h1 : decide ((65 : Int) ≤ z)
  · repeat ((with_reducible apply stepS); (· conv => whnf))
    apply endS
    apply retC
    conv => whnf
    exact ⟨rfl, rfl⟩
  · repeat ((with_reducible apply stepS); (· conv => whnf))
    apply endS
    apply retC
    conv => whnf
    exact ⟨rfl, rfl⟩
theorem rdigit_ct (c : UInt8) : Ct 60 [.val (.one (.v (.int .u8 (c.toNat : Int))))] [.val (.one (.v (.bool (isDig c))))] [] := by
  refine ct Tryd.func60 (by kernel_rfl) ?_
  have e1 : decide (48 ≤ c.toNat) = decide ((48 : Int) ≤ (c.toNat : Int)) := decide_eq_decide.2 (by omega)
  have e2 : decide (c.toNat ≤ 57) = decide ((c.toNat : Int) ≤ 57) := decide_eq_decide.2 (by omega)
  unfold isDig
  rw [e1, e2]
  generalize (c.toNat : Int) = z
  apply evF_of rfl
  apply seqC
  apply regL
  repeat ((with_reducible apply stepS); (· conv => whnf))
  apply endS; apply seqC; apply regL
  repeat ((with_reducible apply stepS); (· conv => whnf))
  cases h1 : decide ((48 : Int) ≤ z)
  · repeat ((with_reducible apply stepS); (· conv => whnf))
    apply endS
    apply retC
    conv => whnf
    exact ⟨rfl, rfl⟩
  · repeat ((with_reducible apply stepS); (· conv => whnf))
    apply endS
    apply retC
    conv => whnf
    exact ⟨rfl, rfl⟩
theorem rrest_ct (c : UInt8) : Ct 56 [.val (.one (.v (.int .u8 (c.toNat : Int))))] [.val (.one (.v (.bool (isRest c))))] [] := by
  refine ct Tryd.func56 (by kernel_rfl) ?_
  have e : (c == 95) = decide ((c.toNat : Int) = 95) := by
    rw [Bool.eq_iff_iff, beq_iff_eq, decide_eq_true_eq]
    constructor
    · intro h; subst h; rfl
    · intro h; apply UInt8.toNat_inj.1; have : (95 : UInt8).toNat = 95 := rfl; omega
  have k1 := rlower_ct c
  have k2 := rupper_ct c
  have k3 := rdigit_ct c
  unfold isRest
  rw [e]
  generalize isLow c = b1 at k1
  generalize isUp c = b2 at k2
  generalize isDig c = b3 at k3
  generalize (c.toNat : Int) = z at k1 k2 k3
  apply evF_of rfl
  apply seqC
  apply regL
  repeat ((with_reducible apply stepS); (· conv => whnf))
  apply endS; apply seqC; apply regL
  repeat ((with_reducible apply stepS); (· conv => whnf))
  apply stepS; (· (conv => whnf); refine ⟨_, _, k1, ?_⟩; (conv => whnf))
  cases b1
  rotate_left
  · repeat ((with_reducible apply stepS); (· conv => whnf))
    apply endS
    apply retC
    conv => whnf
    exact ⟨rfl, rfl⟩
  repeat ((with_reducible apply stepS); (· conv => whnf))
  apply stepS; (· (conv => whnf); refine ⟨_, _, k2, ?_⟩; (conv => whnf))
  cases b2
  rotate_left
  · repeat ((with_reducible apply stepS); (· conv => whnf))
    apply endS
    apply retC
    conv => whnf
    exact ⟨rfl, rfl⟩
  repeat ((with_reducible apply stepS); (· conv => whnf))
  apply stepS; (· (conv => whnf); refine ⟨_, _, k3, ?_⟩; (conv => whnf))
  cases b3
  rotate_left
  · repeat ((with_reducible apply stepS); (· conv => whnf))
    apply endS
    apply retC
    conv => whnf
    exact ⟨rfl, rfl⟩
  repeat ((with_reducible apply stepS); (· conv => whnf))
  apply endS
  apply retC
  conv => whnf
  exact ⟨rfl, rfl⟩
theorem ofL_ne {l : List UInt8} : decide (ofL l = (⟨#[]⟩ : ByteArray)) = decide (l = []) := decide_eq_decide.2 ⟨fun h => ofL_inj (b := []) h, fun h => by rw [h]; rfl⟩
def rowR (l : List UInt8) : Bool := l.all isRest && (!decide (l = []) && decide (l.length ≤ 30))
theorem rrow_ct (l : List UInt8) (hB : l.length ≤ 4294967296) : Ct 89 [.val (.one (.v (.string (ofL l))))] [.val (.one (.v (.bool (rowR l))))] [] := by
  refine ct Tryd.func89 (by kernel_rfl) ?_
  have hsz := ofL_size l
  have hne := @ofL_ne l
  have hlen : decide (l.length ≤ 30) = decide (((ofL l).size : Int) ≤ 30) := decide_eq_decide.2 (by omega)
  unfold rowR
  rw [hlen, ← hne]
  generalize hs : ofL l = s at hsz
  apply evF_of rfl
  apply seqC
  apply regL
  repeat ((with_reducible apply stepS); (· conv => whnf))
  apply endS; apply seqC; apply seqC; apply regL
  repeat ((with_reducible apply stepS); (· conv => whnf))
  apply endS
  apply blockC
  refine loopC (fun n st => ∃ m i, n = l.length - m ∧ m ≤ l.length ∧ i = ((m : Nat) : Int) ∧ l.all isRest = (l.drop m).all isRest ∧
    st = ⟨[(3, .one (.v (.int .i64 i))), (0, .one (.v (.string s)))], [], []⟩)
    ⟨_, _, wk [3, 0] [] [] [] [] [] rfl, 0, 0, rfl, Nat.zero_le _, rfl, rfl, rfl⟩ ?_
  rintro n' st ⟨m, i, rfl, hm, rfl, hx, rfl⟩
  apply seqC
  apply seqC
  apply regL
  repeat ((with_reducible apply stepS); (· conv => whnf))
  apply endS
  cases hlt : decide (((m : Nat) : Int) < (s.size : Int))
  · apply condF; (· (conv => whnf); try rfl)
    apply exitC
    have : m = l.length := by have := of_decide_eq_false hlt; omega
    subst this
    rw [List.drop_length] at hx
    rw [hx, List.all_nil, Bool.true_and]
    apply seqC
    apply regL
    repeat ((with_reducible apply stepS); (· conv => whnf))
    cases h1 : decide (s = (⟨#[]⟩ : ByteArray))
    · repeat ((with_reducible apply stepS); (· conv => whnf))
      apply endS
      apply retC
      conv => whnf
      exact ⟨rfl, rfl⟩
    · repeat ((with_reducible apply stepS); (· conv => whnf))
      apply endS
      apply retC
      conv => whnf
      exact ⟨rfl, rfl⟩
  · have hm2 : m < l.length := by have := of_decide_eq_true hlt; omega
    rw [List.drop_eq_getElem_cons hm2, List.all_cons] at hx
    have hb := byteAt_ofL hs.symm hm2
    generalize l[m] = c at hx hb
    have kr := rrest_ct c
    apply condT; (· (conv => whnf); try rfl)
    apply skipC
    apply seqC
    apply blockC
    apply seqC
    apply regL
    repeat ((with_reducible apply stepS); (· conv => whnf))
    apply stepS; (· (conv => whnf); refine ⟨(by omega), ?_⟩; (conv => whnf))
    rw [hb]
    apply stepS; (· (conv => whnf); refine ⟨_, _, kr, ?_⟩; (conv => whnf))
    repeat ((with_reducible apply stepS); (· conv => whnf))
    apply endS
    cases hr : isRest c
    · rw [hr, Bool.false_and] at hx
      apply condT; (· (conv => whnf); try rfl)
      apply seqC
      apply regL
      repeat ((with_reducible apply stepS); (· conv => whnf))
      apply endS
      apply retC
      rw [hx, Bool.false_and]
      conv => whnf
      exact ⟨rfl, rfl⟩
    · rw [hr, Bool.true_and] at hx
      apply condF; (· (conv => whnf); try rfl)
      apply skipC
      apply regL
      repeat ((with_reducible apply stepS); (· conv => whnf))
      apply endS
      refine ⟨_, _, ?_, wk [3, 0] [] [] [] [] [] rfl, m + 1, _, rfl, hm2, i64_id (x := (m : Int) + 1) (by omega) (by omega), hx, rfl⟩
      omega
theorem rword_ct (s : ByteArray) : Ct 57 [.val (.one (.v (.string s)))] [.val (.one (.v (.bool (isWord s.data.toList))))] [] := by
  rw [isWord_eq]
  refine ct Tryd.func57 (by kernel_rfl) ?_
  conv => whnf
  cases h0 : decide (s = (⟨#[100, 97, 116, 97]⟩ : ByteArray))
  rotate_left
  · rw [show (words.any fun w => isB s w) = true from by simp [words, isB, ofL, of_decide_eq_true h0]]
    conv => whnf
    exact ⟨rfl, rfl⟩
  conv => whnf
  cases h1 : decide (s = (⟨#[108, 101, 116]⟩ : ByteArray))
  rotate_left
  · rw [show (words.any fun w => isB s w) = true from by simp [words, isB, ofL, of_decide_eq_true h1]]
    conv => whnf
    exact ⟨rfl, rfl⟩
  conv => whnf
  cases h2 : decide (s = (⟨#[105, 110]⟩ : ByteArray))
  rotate_left
  · rw [show (words.any fun w => isB s w) = true from by simp [words, isB, ofL, of_decide_eq_true h2]]
    conv => whnf
    exact ⟨rfl, rfl⟩
  conv => whnf
  cases h3 : decide (s = (⟨#[105, 102]⟩ : ByteArray))
  rotate_left
  · rw [show (words.any fun w => isB s w) = true from by simp [words, isB, ofL, of_decide_eq_true h3]]
    conv => whnf
    exact ⟨rfl, rfl⟩
  conv => whnf
  cases h4 : decide (s = (⟨#[116, 104, 101, 110]⟩ : ByteArray))
  rotate_left
  · rw [show (words.any fun w => isB s w) = true from by simp [words, isB, ofL, of_decide_eq_true h4]]
    conv => whnf
    exact ⟨rfl, rfl⟩
  conv => whnf
  cases h5 : decide (s = (⟨#[101, 108, 115, 101]⟩ : ByteArray))
  rotate_left
  · rw [show (words.any fun w => isB s w) = true from by simp [words, isB, ofL, of_decide_eq_true h5]]
    conv => whnf
    exact ⟨rfl, rfl⟩
  conv => whnf
  cases h6 : decide (s = (⟨#[99, 97, 115, 101]⟩ : ByteArray))
  rotate_left
  · rw [show (words.any fun w => isB s w) = true from by simp [words, isB, ofL, of_decide_eq_true h6]]
    conv => whnf
    exact ⟨rfl, rfl⟩
  conv => whnf
  cases h7 : decide (s = (⟨#[111, 102]⟩ : ByteArray))
  rotate_left
  · rw [show (words.any fun w => isB s w) = true from by simp [words, isB, ofL, of_decide_eq_true h7]]
    conv => whnf
    exact ⟨rfl, rfl⟩
  conv => whnf
  cases h8 : decide (s = (⟨#[116, 114, 117, 101]⟩ : ByteArray))
  rotate_left
  · rw [show (words.any fun w => isB s w) = true from by simp [words, isB, ofL, of_decide_eq_true h8]]
    conv => whnf
    exact ⟨rfl, rfl⟩
  conv => whnf
  cases h9 : decide (s = (⟨#[102, 97, 108, 115, 101]⟩ : ByteArray))
  rotate_left
  · rw [show (words.any fun w => isB s w) = true from by simp [words, isB, ofL, of_decide_eq_true h9]]
    conv => whnf
    exact ⟨rfl, rfl⟩
  have g0 : isB s [100, 97, 116, 97] = false := h0
  have g1 : isB s [108, 101, 116] = false := h1
  have g2 : isB s [105, 110] = false := h2
  have g3 : isB s [105, 102] = false := h3
  have g4 : isB s [116, 104, 101, 110] = false := h4
  have g5 : isB s [101, 108, 115, 101] = false := h5
  have g6 : isB s [99, 97, 115, 101] = false := h6
  have g7 : isB s [111, 102] = false := h7
  have g8 : isB s [116, 114, 117, 101] = false := h8
  have g9 : isB s [102, 97, 108, 115, 101] = false := h9
  rw [show (words.any fun w => isB s w) = false from by simp only [words, List.any_cons, List.any_nil, g0, g1, g2, g3, g4, g5, g6, g7, g8, g9, Bool.or_false]]
  conv => whnf
  exact ⟨rfl, rfl⟩

theorem rname_ct (l : List UInt8) (hB : l.length ≤ 4294967296) : Ct 58 [.val (.one (.v (.string (ofL l))))] [.val (.one (.v (.bool (isName l))))] [] := by
  refine ct Tryd.func58 (by kernel_rfl) ?_
  have hsz := ofL_size l
  have hrow := rrow_ct l hB
  have hword := rword_ct (ofL l)
  rw [ofL_data] at hword
  cases l with
  | nil =>
    rw [show isName [] = false from rfl]
    rw [show rowR [] = false from rfl] at hrow
    generalize ofL [] = s at hrow hword hsz
    apply evF_of rfl
    apply seqC
    apply regL
    repeat ((with_reducible apply stepS); (· conv => whnf))
    apply endS; apply seqC; apply regL
    repeat ((with_reducible apply stepS); (· conv => whnf))
    apply stepS; (· (conv => whnf); refine ⟨_, _, hrow, ?_⟩; (conv => whnf))
    repeat ((with_reducible apply stepS); (· conv => whnf))
    apply endS
    apply retC
    conv => whnf
    exact ⟨rfl, rfl⟩
  | cons c r =>
    have hb : byteAt (ofL (c :: r)) (0 : Int).toNat = c := rfl
    have hlo := rlower_ct c
    have hpos : 0 < (c :: r).length := by simp
    rw [show isName (c :: r) = (isLow c && rowR (c :: r) && !isWord (c :: r)) from by
      unfold isName rowOf rowR
      rw [show decide (c :: r = []) = false from rfl, Bool.not_false, Bool.true_and, Bool.and_assoc (isLow c)]]
    generalize ofL (c :: r) = s at hrow hword hsz hb
    generalize isWord (c :: r) = b3 at hword
    generalize rowR (c :: r) = b1 at hrow
    generalize isLow c = b2 at hlo
    apply evF_of rfl
    apply seqC
    apply regL
    repeat ((with_reducible apply stepS); (· conv => whnf))
    apply endS; apply seqC; apply regL
    repeat ((with_reducible apply stepS); (· conv => whnf))
    apply stepS; (· (conv => whnf); refine ⟨_, _, hrow, ?_⟩; (conv => whnf))
    cases b1
    · rw [Bool.and_false, Bool.false_and]
      repeat ((with_reducible apply stepS); (· conv => whnf))
      apply endS
      apply retC
      conv => whnf
      exact ⟨rfl, rfl⟩
    · rw [Bool.and_true]
      repeat ((with_reducible apply stepS); (· conv => whnf))
      apply stepS; (· (conv => whnf); refine ⟨(by omega), ?_⟩; (conv => whnf))
      rw [hb]
      apply stepS; (· (conv => whnf); refine ⟨_, _, hlo, ?_⟩; (conv => whnf))
      cases b2
      · rw [Bool.false_and]
        repeat ((with_reducible apply stepS); (· conv => whnf))
        apply endS
        apply retC
        conv => whnf
        exact ⟨rfl, rfl⟩
      · rw [Bool.true_and]
        repeat ((with_reducible apply stepS); (· conv => whnf))
        apply stepS; (· (conv => whnf); refine ⟨_, _, hword, ?_⟩; (conv => whnf))
        repeat ((with_reducible apply stepS); (· conv => whnf))
        apply endS
        apply retC
        conv => whnf
        exact ⟨rfl, rfl⟩
theorem rconN_ct (l : List UInt8) (hB : l.length ≤ 4294967296) : Ct 59 [.val (.one (.v (.string (ofL l))))] [.val (.one (.v (.bool (isCon l))))] [] := by
  refine ct Tryd.func59 (by kernel_rfl) ?_
  have hsz := ofL_size l
  have hrow := rrow_ct l hB
  cases l with
  | nil =>
    rw [show isCon [] = false from rfl]
    rw [show rowR [] = false from rfl] at hrow
    generalize ofL [] = s at hrow hsz
    apply evF_of rfl
    apply seqC
    apply regL
    repeat ((with_reducible apply stepS); (· conv => whnf))
    apply endS; apply seqC; apply regL
    repeat ((with_reducible apply stepS); (· conv => whnf))
    apply stepS; (· (conv => whnf); refine ⟨_, _, hrow, ?_⟩; (conv => whnf))
    repeat ((with_reducible apply stepS); (· conv => whnf))
    apply endS
    apply retC
    conv => whnf
    exact ⟨rfl, rfl⟩
  | cons c r =>
    have hb : byteAt (ofL (c :: r)) (0 : Int).toNat = c := rfl
    have hlo := rupper_ct c
    have hpos : 0 < (c :: r).length := by simp
    rw [show isCon (c :: r) = (isUp c && rowR (c :: r)) from by
      unfold isCon rowOf rowR
      rw [show decide (c :: r = []) = false from rfl, Bool.not_false, Bool.true_and, Bool.and_assoc]]
    generalize ofL (c :: r) = s at hrow hsz hb
    generalize rowR (c :: r) = b1 at hrow
    generalize isUp c = b2 at hlo
    apply evF_of rfl
    apply seqC
    apply regL
    repeat ((with_reducible apply stepS); (· conv => whnf))
    apply endS; apply seqC; apply regL
    repeat ((with_reducible apply stepS); (· conv => whnf))
    apply stepS; (· (conv => whnf); refine ⟨_, _, hrow, ?_⟩; (conv => whnf))
    cases b1
    · rw [Bool.and_false]
      repeat ((with_reducible apply stepS); (· conv => whnf))
      apply endS
      apply retC
      conv => whnf
      exact ⟨rfl, rfl⟩
    · rw [Bool.and_true]
      repeat ((with_reducible apply stepS); (· conv => whnf))
      apply stepS; (· (conv => whnf); refine ⟨(by omega), ?_⟩; (conv => whnf))
      rw [hb]
      apply stepS; (· (conv => whnf); refine ⟨_, _, hlo, ?_⟩; (conv => whnf))
      repeat ((with_reducible apply stepS); (· conv => whnf))
      apply endS
      apply retC
      conv => whnf
      exact ⟨rfl, rfl⟩
def rnum (l : List UInt8) : Int := match numL l with
  | some n => n
  | none => -1
/-- The number, behind some digits. -/
def rnumF (l r : List UInt8) (n : Int) : Int := match numFrom n r with
  | none => -1
  | some n => match decide (l.length = 1 ∨ hd 48 l = false) with
    | true => n
    | false => -1
theorem rnum_eq (l : List UInt8) : rnum l = rnumF l l 0 := by
  unfold rnum rnumF numL
  cases numFrom 0 l with
  | none => rfl
  | some v =>
    by_cases h : l.length = 1 ∨ hd 48 l = false
    · simp [h]
    · simp [h]
theorem rnumber_ct (l : List UInt8) (hne : l ≠ []) (hd' : l.all isDig = true) (hB : l.length ≤ 4294967296) : Ct 61 [.val (.one (.v (.string (ofL l))))] [.val (.one (.v (.int .i64 (rnum l))))] [] := by
  rw [rnum_eq]
  refine ct Tryd.func61 (by kernel_rfl) ?_
  generalize hs : ofL l = s
  have hsz : s.size = l.length := by rw [← hs]; exact ofL_size l
  apply evF_of rfl
  apply seqC
  apply regL
  repeat ((with_reducible apply stepS); (· conv => whnf))
  apply endS; apply seqC; apply regL
  repeat ((with_reducible apply stepS); (· conv => whnf))
  apply endS; apply seqC; apply seqC; apply regL
  repeat ((with_reducible apply stepS); (· conv => whnf))
  apply endS
  apply blockC
  refine loopC (fun j st => ∃ m i n, j = l.length - m ∧ m ≤ l.length ∧ i = ((m : Nat) : Int) ∧ (0 ≤ n ∧ n ≤ 2147483647) ∧ rnumF l l 0 = rnumF l (l.drop m) n ∧
    st = ⟨[(0, .one (.v (.string s))), (3, .one (.v (.int .i64 n))), (4, .one (.v (.int .i64 i)))], [], []⟩)
    ⟨_, _, wk [0, 3, 4] [] [] [] [] [] rfl, 0, 0, 0, rfl, Nat.zero_le _, rfl, by omega, rfl, rfl⟩ ?_
  rintro j st ⟨m, i, n, rfl, hm, rfl, hn, hx, rfl⟩
  apply seqC
  apply seqC
  apply regL
  repeat ((with_reducible apply stepS); (· conv => whnf))
  apply endS
  cases hlt : decide (((m : Nat) : Int) < (s.size : Int))
  · apply condF; (· (conv => whnf); try rfl)
    apply exitC
    have : m = l.length := by have := of_decide_eq_false hlt; omega
    subst this
    rw [List.drop_length] at hx
    rw [hx]
    have hl0 : 0 < l.length := List.length_pos_iff.2 hne
    have hb : byteAt s (0 : Int).toNat = l[0] := byteAt_ofL hs.symm (m := 0) hl0
    have h48 : hd 48 l = decide ((l[0].toNat : Int) = 48) := by
      cases l with
      | nil => simp at hl0
      | cons c r =>
        simp only [hd, List.getElem_cons_zero]
        rw [Bool.eq_iff_iff, beq_iff_eq, decide_eq_true_eq]
        constructor
        · intro h; subst h; rfl
        · intro h; apply UInt8.toNat_inj.1; have : (48 : UInt8).toNat = 48 := rfl; omega
    apply seqC
    apply seqC
    apply regL
    repeat ((with_reducible apply stepS); (· conv => whnf))
    cases h1 : decide ((1 : Int) < (s.size : Int))
    · have e : rnumF l [] n = n := by
        have : l.length = 1 := by have := of_decide_eq_false h1; omega
        unfold rnumF
        simp [numFrom, this]
      rw [e]
      repeat ((with_reducible apply stepS); (· conv => whnf))
      apply endS
      apply condF; (· (conv => whnf); try rfl)
      apply skipC
      apply seqC
      apply regL
      repeat ((with_reducible apply stepS); (· conv => whnf))
      apply endS
      apply retC
      conv => whnf
      exact ⟨rfl, rfl⟩
    · have hl1 : l.length ≠ 1 := by have := of_decide_eq_true h1; omega
      repeat ((with_reducible apply stepS); (· conv => whnf))
      apply stepS; (· (conv => whnf); refine ⟨(by omega), ?_⟩; (conv => whnf))
      rw [hb]
      repeat ((with_reducible apply stepS); (· conv => whnf))
      cases h2 : decide ((l[0].toNat : Int) = 48)
      · rw [h2] at h48
        have e : rnumF l [] n = n := by
          unfold rnumF
          simp [numFrom, h48]
        rw [e]
        repeat ((with_reducible apply stepS); (· conv => whnf))
        apply endS
        apply condF; (· (conv => whnf); try rfl)
        apply skipC
        apply seqC
        apply regL
        repeat ((with_reducible apply stepS); (· conv => whnf))
        apply endS
        apply retC
        conv => whnf
        exact ⟨rfl, rfl⟩
      · rw [h2] at h48
        have e : rnumF l [] n = -1 := by
          unfold rnumF
          simp [numFrom, h48, hl1]
        rw [e]
        repeat ((with_reducible apply stepS); (· conv => whnf))
        apply endS
        apply condT; (· (conv => whnf); try rfl)
        apply seqC
        apply regL
        repeat ((with_reducible apply stepS); (· conv => whnf))
        apply endS
        apply retC
        conv => whnf
        exact ⟨rfl, rfl⟩
  · have hm2 : m < l.length := by have := of_decide_eq_true hlt; omega
    rw [List.drop_eq_getElem_cons hm2] at hx
    have hdig : isDig l[m] = true := List.all_eq_true.1 hd' _ (List.getElem_mem hm2)
    have hv := dig_val _ hdig
    have hb := byteAt_ofL hs.symm hm2
    generalize l[m] = c at hx hdig hv hb
    have e : IntKind.i64.wrap (IntKind.i64.wrap (n * 10) + IntKind.i64.wrap (IntKind.u8.wrap ((c.toNat : Int) - 48))) = n * 10 + ((c.toNat : Int) - 48) := by
      rw [u8_id (by omega) (by omega), i64_id (x := n * 10) (by omega) (by omega), i64_id (x := (c.toNat : Int) - 48) (by omega) (by omega), i64_id (by omega) (by omega)]
    apply condT; (· (conv => whnf); try rfl)
    apply skipC
    apply seqC
    apply blockC
    apply seqC
    apply regL
    repeat ((with_reducible apply stepS); (· conv => whnf))
    apply stepS; (· (conv => whnf); refine ⟨(by omega), ?_⟩; (conv => whnf))
    rw [hb]
    repeat ((with_reducible apply stepS); (· conv => whnf))
    rw [e]
    apply endS
    apply seqC
    apply regL
    repeat ((with_reducible apply stepS); (· conv => whnf))
    apply endS
    cases hgt : decide (2147483647 < n * 10 + ((c.toNat : Int) - 48))
    · have hgt2 := of_decide_eq_false hgt
      have hx2 : rnumF l (c :: l.drop (m + 1)) n = rnumF l (l.drop (m + 1)) (n * 10 + ((c.toNat : Int) - 48)) := by
        unfold rnumF
        rw [numFrom, if_neg hgt2]
      rw [hx2] at hx
      apply condF; (· (conv => whnf); try rfl)
      apply skipC
      apply regL
      repeat ((with_reducible apply stepS); (· conv => whnf))
      apply endS
      refine ⟨_, _, ?_, wk [0, 3, 4] [] [] [] [] [] rfl, m + 1, _, _, rfl, hm2, i64_id (x := (m : Int) + 1) (by omega) (by omega), by omega, hx, rfl⟩
      omega
    · have hgt2 := of_decide_eq_true hgt
      have hx2 : rnumF l (c :: l.drop (m + 1)) n = -1 := by
        unfold rnumF
        rw [numFrom, if_pos hgt2]
      rw [hx2] at hx
      rw [hx]
      apply condT; (· (conv => whnf); try rfl)
      apply seqC
      apply regL
      repeat ((with_reducible apply stepS); (· conv => whnf))
      apply endS
      apply retC
      conv => whnf
      exact ⟨rfl, rfl⟩
end Go.Proofs.YtoapgongbackaaaDoor.V

/-! M2: the tokens of a text from a place on; plain facts. -/
namespace Go.Proofs.YtoapgongbackaaaDoor.V
open Go Go.Proofs
open Go.Proofs.YtoapgongbackaaaDoor.Lx
set_option maxRecDepth 100000

def lexF (l : List UInt8) (i : Nat) : Except Nat (List Tk) := lexA (i + skipL false (l.drop i)) (l.drop (i + skipL false (l.drop i)))
def lexG (l : List UInt8) (i : Nat) : Except Nat (List Tk) := lexA (i + skipL true (l.drop i)) (l.drop (i + skipL true (l.drop i)))
theorem lexF_zero (l : List UInt8) : lexF l 0 = lexL l := by simp [lexF, lexL]
theorem drop_next {l r : List UInt8} {i : Nat} {c : UInt8} (h : l.drop i = c :: r) : l.drop (i + 1) = r := by
  rw [← List.drop_drop, h]; rfl
theorem F_gap {l r : List UInt8} {i : Nat} {c : UInt8} (h : l.drop i = c :: r) (hg : isGap c = true) : lexF l i = lexF l (i + 1) := by
  unfold lexF
  rw [drop_next h, h]
  simp only [skipL, hg, if_true]
  rw [show i + (skipL false r + 1) = i + 1 + skipL false r from by omega]
theorem F_tok {l r : List UInt8} {i : Nat} {c : UInt8} (h : l.drop i = c :: r) (hg : isGap c = false) (hr : (c == 45 && hd 45 r) = false) : lexF l i = lexA i (c :: r) := by
  unfold lexF
  rw [h]
  simp only [skipL, hg, hr]
  simp [h]
theorem F_rem {l r : List UInt8} {i : Nat} {c : UInt8} (h : l.drop i = c :: r) (hg : isGap c = false) (hr : (c == 45 && hd 45 r) = true) : lexF l i = lexG l i := by
  have hc : (c == 10) = false := by
    rw [Bool.and_eq_true, beq_iff_eq] at hr
    obtain ⟨rfl, -⟩ := hr
    rfl
  unfold lexF lexG
  rw [h]
  simp only [skipL, hg, hr, hc, if_true]
  first | done | simp
theorem G_step {l r : List UInt8} {i : Nat} {c : UInt8} (h : l.drop i = c :: r) (hc : (c == 10) = false) : lexG l i = lexG l (i + 1) := by
  unfold lexG
  rw [drop_next h, h]
  simp only [skipL, hc]
  simp only [Bool.false_eq_true, if_false]
  rw [show i + (skipL true r + 1) = i + 1 + skipL true r from by omega]
theorem G_nl {l r : List UInt8} {i : Nat} {c : UInt8} (h : l.drop i = c :: r) (hc : (c == 10) = true) : lexG l i = lexF l i := by
  have hg : isGap c = true := by unfold isGap; rw [hc]; simp
  unfold lexG lexF
  rw [h]
  simp only [skipL, hc, hg, if_true]
theorem G_end {l : List UInt8} {i : Nat} (h : l.drop i = []) : lexG l i = lexF l i := by
  unfold lexG lexF
  rw [h]
  simp [skipL]
theorem F_end {l : List UInt8} {i : Nat} (h : l.drop i = []) : lexF l i = .ok [] := by
  unfold lexF
  rw [h]
  simp [skipL, h, lexA_nil]
theorem F_next {l r : List UInt8} {i : Nat} {c : UInt8} (h : l.drop i = c :: r) {tk : Tk} {k : Nat} (ht : tokL (c :: r) = (tk, k)) (hk : k ≠ 0) : lexA i (c :: r) = match lexF l (i + k) with
    | .error e => .error e
    | .ok ts => .ok ({ tk with pos := i } :: ts) := by
  rw [lexA_cons (by rw [ht]; exact hk), ht]
  simp only
  unfold lexF
  rw [← h, List.drop_drop, List.drop_drop]
  generalize lexA (i + k + skipL false (List.drop (i + k) l)) _ = x
  cases x <;> rfl
theorem u8eq (c n : UInt8) : (c == n) = decide ((c.toNat : Int) = (n.toNat : Int)) := by
  rw [Bool.eq_iff_iff, beq_iff_eq, decide_eq_true_eq]
  constructor
  · intro h; rw [h]
  · intro h; apply UInt8.toNat_inj.1; omega
theorem gap_eq (c : UInt8) : isGap c = (decide ((c.toNat : Int) = 32) || decide ((c.toNat : Int) = 9) || decide ((c.toNat : Int) = 10)) := by
  unfold isGap
  rw [u8eq c 32, u8eq c 9, u8eq c 10]
  rfl
def lexedC : Except Nat (List Tk) → List AC
  | .ok ts => [.sl 74 4 ((ts.map toT).map tok) none, .v (.int .i64 0), .v (.int .i64 0)]
  | .error e => [.sl 74 4 [] none, .v (.int .i64 3), .v (.int .i64 ((e : Nat) : Int))]
theorem preE_next (acc : List Tk) (l : List UInt8) (j : Nat) (tk : Tk) (i : Nat) : preE acc (match lexF l j with
    | .error e => .error e
    | .ok ts => .ok ({ tk with pos := i } :: ts)) = preE (acc ++ [{ tk with pos := i }]) (lexF l j) := by
  cases lexF l j with
  | error e => rfl
  | ok ts => simp [preE]
theorem numFrom_ge : ∀ (r : List UInt8) (n v : Int), 0 ≤ n → r.all isDig = true → numFrom n r = some v → 0 ≤ v
  | [], n, v, h, _, e => by simp only [numFrom, Option.some.injEq] at e; omega
  | c :: r, n, v, h, hd', e => by
    rw [List.all_cons, Bool.and_eq_true] at hd'
    have hv := dig_val c hd'.1
    unfold numFrom at e
    split at e
    · cases e
    · exact numFrom_ge r _ v (by omega) hd'.2 e
theorem numL_ge {w : List UInt8} {v : Int} (h : w.all isDig = true) (e : numL w = some v) : 0 ≤ v := by
  unfold numL at e
  split at e
  · cases e
  · rename_i n hn
    split at e
    · cases e; exact numFrom_ge w 0 _ (by omega) h hn
    · cases e
/-- The end of a row of a class. -/
theorem tw_step {p : UInt8 → Bool} {l : List UInt8} {i j : Nat} {c : UInt8} {r : List UInt8} (h : l.drop (i + j) = c :: r) (hp : p c = true) (hw : ((l.drop i).takeWhile p).length = j + ((l.drop (i + j)).takeWhile p).length) :
    ((l.drop i).takeWhile p).length = (j + 1) + ((l.drop (i + (j + 1))).takeWhile p).length := by
  have h2 : l.drop (i + (j + 1)) = r := by rw [← Nat.add_assoc]; exact drop_next h
  rw [hw, h, h2, List.takeWhile_cons_of_pos hp, List.length_cons]
  omega
theorem tw_stop {p : UInt8 → Bool} {l : List UInt8} {i j : Nat} (h : ∀ c r, l.drop (i + j) = c :: r → p c = false) (hw : ((l.drop i).takeWhile p).length = j + ((l.drop (i + j)).takeWhile p).length) : ((l.drop i).takeWhile p).length = j := by
  cases hd : l.drop (i + j) with
  | nil => rw [hd] at hw; simpa using hw
  | cons c r =>
    rw [hd, List.takeWhile_cons_of_neg (by rw [h c r hd]; simp)] at hw
    simpa using hw
theorem ext_row {s : ByteArray} {l : List UInt8} (hs : s = ofL l) (p : UInt8 → Bool) {i j : Nat} (hj : ((l.drop i).takeWhile p).length = j) : s.extract ((i : Int)).toNat (((i + j : Nat) : Int)).toNat = ofL ((l.drop i).takeWhile p) := by
  subst hs
  rw [Int.toNat_natCast, Int.toNat_natCast, ofL_extract, ← take_take p (l.drop i), hj]
  congr 2
  omega
end Go.Proofs.YtoapgongbackaaaDoor.V

/-! M3: the reference's Lex. -/
namespace Go.Proofs.YtoapgongbackaaaDoor.V
open Go Go.Proofs
open Go.Proofs.YtoapgongbackaaaDoor.Lx
set_option maxRecDepth 100000

set_option maxHeartbeats 64000000 in
theorem rlex_ct (l : List UInt8) (hB : l.length ≤ 65536) : Ct 26 [.val (.one (.v (.string (ofL l))))] [.val (.agg (lexedC (lexL l)))] [] := by
  refine ct Tryd.func26 (by kernel_rfl) ?_
  generalize hs : ofL l = s
  have hsz : s.size = l.length := by rw [← hs]; exact ofL_size l
  have hs := hs.symm
  have hby : ∀ (m : Nat) (c : UInt8) (r : List UInt8), l.drop m = c :: r → byteAt s ((m : Nat) : Int).toNat = c := fun m c r h => by
    have hm : m < l.length := by
      rcases Nat.lt_or_ge m l.length with h2 | h2
      · exact h2
      · rw [List.drop_eq_nil_of_le h2] at h; cases h
    rw [byteAt_ofL hs hm]
    rw [List.drop_eq_getElem_cons hm] at h
    cases h
    rfl
  have hbig : decide ((65536 : Int) < (s.size : Int)) = false := decide_eq_false (by omega)
  apply evF_of rfl
  apply seqC
  apply regL
  repeat ((with_reducible apply stepS); (· conv => whnf))
  apply endS; apply seqC; apply seqC; apply regL
  repeat ((with_reducible apply stepS); (· conv => whnf))
  rw [hbig]
  apply endS
  apply condF; (· (conv => whnf); try rfl)
  apply skipC
  apply seqC
  apply regL
  repeat ((with_reducible apply stepS); (· conv => whnf))
  apply endS; apply seqC; apply seqC; apply regL
  repeat ((with_reducible apply stepS); (· conv => whnf))
  apply endS
  apply blockC
  refine loopC (fun n st => ∃ i x acc, n = l.length - i ∧ i ≤ l.length ∧ acc.length ≤ i ∧ x = ((i : Nat) : Int) ∧ lexL l = preE acc (lexF l i) ∧
    st = ⟨[(4, .one (.v (.int .i64 x))), (0, .one (.v (.string s))), (2, .one (.ptr 2 0 0)), (3, .one (.ptr 3 0 0))],
      [(2, ⟨0, 80, [.nil 74 4, .v (.int .i64 0), .v (.int .i64 0)]⟩), (3, ⟨0, 80, [.sl 74 4 ((acc.map toT).map tok) (some (199, 0)), .v (.int .i64 0), .v (.int .i64 0)]⟩)], [(199, ⟨0, 74, 4, true⟩)]⟩)
    ⟨_, _, wk [4, 0, 2, 3] [2, 3] [] [] [] [(3, 0, 199, 74, 4)] rfl, 0, 0, [], rfl, Nat.zero_le _, Nat.le_refl _, rfl, by rw [lexF_zero]; cases lexL l <;> rfl, rfl⟩ ?_
  rintro n' st ⟨i, x, acc, rfl, hi, hacc, rfl, hx, rfl⟩
  apply seqC
  apply seqC
  apply regL
  repeat ((with_reducible apply stepS); (· conv => whnf))
  apply endS
  cases hlt : decide (((i : Nat) : Int) < (s.size : Int))
  · have hnil : l.drop i = [] := List.drop_eq_nil_of_le (by have := of_decide_eq_false hlt; omega)
    rw [F_end hnil, show preE acc (.ok []) = .ok acc from by simp [preE]] at hx
    rw [hx]
    apply condF; (· (conv => whnf); try rfl)
    apply exitC
    apply seqC
    apply regL
    repeat ((with_reducible apply stepS); (· conv => whnf))
    apply endS
    apply retC
    conv => whnf
    exact ⟨rfl, rfl⟩
  have hi2 : i < l.length := by have := of_decide_eq_true hlt; omega
  obtain ⟨c, r, hdr⟩ : ∃ c r, l.drop i = c :: r := ⟨_, _, List.drop_eq_getElem_cons hi2⟩
  have hb := hby i c r hdr
  have hw1 : IntKind.i64.wrap ((i : Int) + 1) = ((i + 1 : Nat) : Int) := i64_id (by omega) (by omega)
  have hgap := gap_eq c
  apply condT; (· (conv => whnf); try rfl)
  apply skipC
  apply blockC
  apply seqC
  apply regL
  repeat ((with_reducible apply stepS); (· conv => whnf))
  apply stepS; (· (conv => whnf); refine ⟨(by omega), ?_⟩; (conv => whnf))
  rw [hb]
  repeat ((with_reducible apply stepS); (· conv => whnf))
  apply endS; apply seqC; apply seqC; apply regL
  repeat ((with_reducible apply stepS); (· conv => whnf))
  cases hq0 : decide ((c.toNat : Int) = 32)
  rotate_left
  · have hg : isGap c = true := by rw [hgap, hq0]; simp
    repeat ((with_reducible apply stepS); (· conv => whnf))
    apply endS
    apply condT; (· (conv => whnf); try rfl)
    apply seqC
    apply regL
    repeat ((with_reducible apply stepS); (· conv => whnf))
    apply endS
    apply exitC
    refine ⟨_, _, ?_, wk [4, 0, 2, 3] [2, 3] [199] [] [] [] rfl, i + 1, _, acc, rfl, hi2, by omega, hw1, by rw [hx]; exact congrArg (preE acc) (F_gap hdr hg), rfl⟩
    omega
  repeat ((with_reducible apply stepS); (· conv => whnf))
  cases hq1 : decide ((c.toNat : Int) = 9)
  rotate_left
  · have hg : isGap c = true := by rw [hgap, hq1]; simp
    repeat ((with_reducible apply stepS); (· conv => whnf))
    apply endS
    apply condT; (· (conv => whnf); try rfl)
    apply seqC
    apply regL
    repeat ((with_reducible apply stepS); (· conv => whnf))
    apply endS
    apply exitC
    refine ⟨_, _, ?_, wk [4, 0, 2, 3] [2, 3] [199] [] [] [] rfl, i + 1, _, acc, rfl, hi2, by omega, hw1, by rw [hx]; exact congrArg (preE acc) (F_gap hdr hg), rfl⟩
    omega
  repeat ((with_reducible apply stepS); (· conv => whnf))
  cases hq2 : decide ((c.toNat : Int) = 10)
  rotate_left
  · have hg : isGap c = true := by rw [hgap, hq2]; simp
    repeat ((with_reducible apply stepS); (· conv => whnf))
    apply endS
    apply condT; (· (conv => whnf); try rfl)
    apply seqC
    apply regL
    repeat ((with_reducible apply stepS); (· conv => whnf))
    apply endS
    apply exitC
    refine ⟨_, _, ?_, wk [4, 0, 2, 3] [2, 3] [199] [] [] [] rfl, i + 1, _, acc, rfl, hi2, by omega, hw1, by rw [hx]; exact congrArg (preE acc) (F_gap hdr hg), rfl⟩
    omega
  repeat ((with_reducible apply stepS); (· conv => whnf))
  have hg : isGap c = false := by rw [hgap, hq0, hq1, hq2]; rfl
  apply endS
  apply condF; (· (conv => whnf); try rfl)
  apply skipC
  apply seqC
  apply seqC
  apply regL
  repeat ((with_reducible apply stepS); (· conv => whnf))
  have h45 : (c == 45) = decide ((c.toNat : Int) = 45) := u8eq c 45
  cases hm : decide ((c.toNat : Int) = 45)
  · rw [hm] at h45
    have hF : lexF l i = lexA i (c :: r) := F_tok hdr hg (by rw [h45]; rfl)
    repeat ((with_reducible apply stepS); (· conv => whnf))
    apply endS
    apply condF; (· (conv => whnf); try rfl)
    apply skipC
    apply seqC
    apply regL
    repeat ((with_reducible apply stepS); (· conv => whnf))
    apply endS; apply seqC; apply regL
    repeat ((with_reducible apply stepS); (· conv => whnf))
    apply endS
    apply seqC
    apply blockC
    have kl := rlower_ct c
    have ku := rupper_ct c
    have kd := rdigit_ct c
    apply seqC
    apply regL
    repeat ((with_reducible apply stepS); (· conv => whnf))
    apply stepS; (· (conv => whnf); refine ⟨_, _, kl, ?_⟩; (conv => whnf))
    cases hlow : isLow c
    rotate_left
    · have hlu : (isLow c || isUp c) = true := by rw [hlow]; rfl
      have hrst : isRest c = true := by unfold isRest; rw [hlow]; rfl
      repeat ((with_reducible apply stepS); (· conv => whnf))
      apply endS
      apply condT; (· (conv => whnf); try rfl)
      apply seqC
      apply blockC
      refine loopC (fun q st => ∃ j, q = l.length - (i + j) ∧ i + j ≤ l.length ∧ ((l.drop i).takeWhile isRest).length = j + ((l.drop (i + j)).takeWhile isRest).length ∧
        st = ⟨[(7, .one (.v (.int .i64 ((i + j : Nat) : Int)))), (4, .one (.v (.int .i64 (i : Int)))), (0, .one (.v (.string s))), (2, .one (.ptr 2 0 0)), (3, .one (.ptr 3 0 0)), (6, .one (.ptr 6 0 0))],
          [(2, ⟨0, 80, [.nil 74 4, .v (.int .i64 0), .v (.int .i64 0)]⟩), (3, ⟨0, 80, [.sl 74 4 ((acc.map toT).map tok) (some (199, 0)), .v (.int .i64 0), .v (.int .i64 0)]⟩), (6, ⟨0, 74, [.v (.int .i64 0), .v (.int .i64 (i : Int)), .v (.string .empty), .v (.int .i64 0)]⟩)], [(199, ⟨0, 74, 4, true⟩)]⟩)
        ⟨_, _, wk [7, 4, 0, 2, 3, 6] [2, 3, 6] [199] [] [] [] rfl, 0, rfl, by omega, by simp, rfl⟩ ?_
      rintro n2 st ⟨j, rfl, hj, hw, rfl⟩
      apply seqC
      apply seqC
      apply regL
      repeat ((with_reducible apply stepS); (· conv => whnf))
      cases hlt2 : decide (((i + j : Nat) : Int) < (s.size : Int))
      · have hnil : l.drop (i + j) = [] := List.drop_eq_nil_of_le (by have := of_decide_eq_false hlt2; omega)
        have hjw := tw_stop (p := isRest) (fun c r h => by rw [hnil] at h; cases h) hw
        repeat ((with_reducible apply stepS); (· conv => whnf))
        apply endS
        apply condF; (· (conv => whnf); try rfl)
        apply exitC
        have hslc := ext_row hs isRest hjw
        rw [hdr] at hjw hslc
        have hpos : 0 < j := by
          rw [← hjw, List.takeWhile_cons_of_pos hrst]
          simp
        apply seqC
        apply regL
        repeat ((with_reducible apply stepS); (· conv => whnf))
        apply stepS; (· (conv => whnf); refine ⟨(by omega), ?_⟩; (conv => whnf))
        rw [hslc]
        repeat ((with_reducible apply stepS); (· conv => whnf))
        apply endS
        apply blockC
        generalize hwd : (c :: r).takeWhile isRest = wd at hjw
        have k1 := rword_ct (ofL wd)
        have k2 := rname_ct wd (by omega)
        have k3 := rconN_ct wd (by omega)
        rw [ofL_data] at k1
        apply seqC
        apply regL
        repeat ((with_reducible apply stepS); (· conv => whnf))
        apply stepS; (· (conv => whnf); refine ⟨_, _, k1, ?_⟩; (conv => whnf))
        repeat ((with_reducible apply stepS); (· conv => whnf))
        apply endS
        cases hw1 : isWord wd
        · apply condF; (· (conv => whnf); try rfl)
          apply seqC
          apply regL
          repeat ((with_reducible apply stepS); (· conv => whnf))
          apply stepS; (· (conv => whnf); refine ⟨_, _, k2, ?_⟩; (conv => whnf))
          repeat ((with_reducible apply stepS); (· conv => whnf))
          apply endS
          cases hw2 : isName wd
          · apply condF; (· (conv => whnf); try rfl)
            apply seqC
            apply regL
            repeat ((with_reducible apply stepS); (· conv => whnf))
            apply stepS; (· (conv => whnf); refine ⟨_, _, k3, ?_⟩; (conv => whnf))
            repeat ((with_reducible apply stepS); (· conv => whnf))
            apply endS
            cases hw3 : isCon wd
            · apply condF; (· (conv => whnf); try rfl)
              apply skipC
              have hx2 : lexL l = .error i := by rw [hx, hF, lexA_err (by simp) (by simp [tokL, hlu, hwd, hw1, hw2, hw3])]; rfl
              rw [hx2]
              apply seqC
              apply seqC
              apply regL
              repeat ((with_reducible apply stepS); (· conv => whnf))
              apply endS
              apply condT; (· (conv => whnf); try rfl)
              apply seqC
              apply regL
              repeat ((with_reducible apply stepS); (· conv => whnf))
              apply endS
              apply retC
              conv => whnf
              exact ⟨rfl, rfl⟩
            · apply condT; (· (conv => whnf); try rfl)
              apply regL
              repeat ((with_reducible apply stepS); (· conv => whnf))
              apply endS
              have ht : tokL (c :: r) = (⟨2, 0, wd, 0⟩, j) := by simp [tokL, hlu, hwd, hw1, hw2, hw3, hjw]
              have hx2 := hx
              rw [hF, F_next hdr ht (by omega), preE_next] at hx2
              apply seqC
              apply seqC
              apply regL
              repeat ((with_reducible apply stepS); (· conv => whnf))
              apply endS
              apply condF; (· (conv => whnf); try rfl)
              apply skipC
              apply seqC
              apply regL
              repeat ((with_reducible apply stepS); (· conv => whnf))
              apply stepS; (· (conv => whnf); refine ⟨(by simp [lim]; omega), ?_⟩; (conv => whnf))
              repeat ((with_reducible apply stepS); (· conv => whnf))
              apply endS
              apply regL
              repeat ((with_reducible apply stepS); (· conv => whnf))
              apply endS
              refine ⟨_, _, ?_, wk [4, 0, 2, 3] [2, 3] [199] [] [] [] rfl, i + j, _, _, rfl, hj, ?_, rfl, hx2, ?_⟩
              · have := hj
                omega
              · simp
                omega
              · simp only [List.map_append]
                rfl
          · apply condT; (· (conv => whnf); try rfl)
            apply regL
            repeat ((with_reducible apply stepS); (· conv => whnf))
            apply endS
            have ht : tokL (c :: r) = (⟨1, 0, wd, 0⟩, j) := by simp [tokL, hlu, hwd, hw1, hw2, hjw]
            have hx2 := hx
            rw [hF, F_next hdr ht (by omega), preE_next] at hx2
            apply seqC
            apply seqC
            apply regL
            repeat ((with_reducible apply stepS); (· conv => whnf))
            apply endS
            apply condF; (· (conv => whnf); try rfl)
            apply skipC
            apply seqC
            apply regL
            repeat ((with_reducible apply stepS); (· conv => whnf))
            apply stepS; (· (conv => whnf); refine ⟨(by simp [lim]; omega), ?_⟩; (conv => whnf))
            repeat ((with_reducible apply stepS); (· conv => whnf))
            apply endS
            apply regL
            repeat ((with_reducible apply stepS); (· conv => whnf))
            apply endS
            refine ⟨_, _, ?_, wk [4, 0, 2, 3] [2, 3] [199] [] [] [] rfl, i + j, _, _, rfl, hj, ?_, rfl, hx2, ?_⟩
            · have := hj
              omega
            · simp
              omega
            · simp only [List.map_append]
              rfl
        · apply condT; (· (conv => whnf); try rfl)
          apply regL
          repeat ((with_reducible apply stepS); (· conv => whnf))
          apply endS
          have ht : tokL (c :: r) = (⟨4, 0, wd, 0⟩, j) := by simp [tokL, hlu, hwd, hw1, hjw]
          have hx2 := hx
          rw [hF, F_next hdr ht (by omega), preE_next] at hx2
          apply seqC
          apply seqC
          apply regL
          repeat ((with_reducible apply stepS); (· conv => whnf))
          apply endS
          apply condF; (· (conv => whnf); try rfl)
          apply skipC
          apply seqC
          apply regL
          repeat ((with_reducible apply stepS); (· conv => whnf))
          apply stepS; (· (conv => whnf); refine ⟨(by simp [lim]; omega), ?_⟩; (conv => whnf))
          repeat ((with_reducible apply stepS); (· conv => whnf))
          apply endS
          apply regL
          repeat ((with_reducible apply stepS); (· conv => whnf))
          apply endS
          refine ⟨_, _, ?_, wk [4, 0, 2, 3] [2, 3] [199] [] [] [] rfl, i + j, _, _, rfl, hj, ?_, rfl, hx2, ?_⟩
          · have := hj
            omega
          · simp
            omega
          · simp only [List.map_append]
            rfl
      · have hj2 : i + j < l.length := by have := of_decide_eq_true hlt2; omega
        obtain ⟨c2, r2, hd2⟩ : ∃ c2 r2, l.drop (i + j) = c2 :: r2 := ⟨_, _, List.drop_eq_getElem_cons hj2⟩
        have hb2 := hby (i + j) c2 r2 hd2
        have kp := rrest_ct c2
        repeat ((with_reducible apply stepS); (· conv => whnf))
        apply stepS; (· (conv => whnf); refine ⟨(by omega), ?_⟩; (conv => whnf))
        rw [hb2]
        apply stepS; (· (conv => whnf); refine ⟨_, _, kp, ?_⟩; (conv => whnf))
        cases hp2 : isRest c2
        · have hjw := tw_stop (p := isRest) (fun c r h => by rw [hd2] at h; cases h; exact hp2) hw
          repeat ((with_reducible apply stepS); (· conv => whnf))
          apply endS
          apply condF; (· (conv => whnf); try rfl)
          apply exitC
          have hslc := ext_row hs isRest hjw
          rw [hdr] at hjw hslc
          have hpos : 0 < j := by
            rw [← hjw, List.takeWhile_cons_of_pos hrst]
            simp
          apply seqC
          apply regL
          repeat ((with_reducible apply stepS); (· conv => whnf))
          apply stepS; (· (conv => whnf); refine ⟨(by omega), ?_⟩; (conv => whnf))
          rw [hslc]
          repeat ((with_reducible apply stepS); (· conv => whnf))
          apply endS
          apply blockC
          generalize hwd : (c :: r).takeWhile isRest = wd at hjw
          have k1 := rword_ct (ofL wd)
          have k2 := rname_ct wd (by omega)
          have k3 := rconN_ct wd (by omega)
          rw [ofL_data] at k1
          apply seqC
          apply regL
          repeat ((with_reducible apply stepS); (· conv => whnf))
          apply stepS; (· (conv => whnf); refine ⟨_, _, k1, ?_⟩; (conv => whnf))
          repeat ((with_reducible apply stepS); (· conv => whnf))
          apply endS
          cases hw1 : isWord wd
          · apply condF; (· (conv => whnf); try rfl)
            apply seqC
            apply regL
            repeat ((with_reducible apply stepS); (· conv => whnf))
            apply stepS; (· (conv => whnf); refine ⟨_, _, k2, ?_⟩; (conv => whnf))
            repeat ((with_reducible apply stepS); (· conv => whnf))
            apply endS
            cases hw2 : isName wd
            · apply condF; (· (conv => whnf); try rfl)
              apply seqC
              apply regL
              repeat ((with_reducible apply stepS); (· conv => whnf))
              apply stepS; (· (conv => whnf); refine ⟨_, _, k3, ?_⟩; (conv => whnf))
              repeat ((with_reducible apply stepS); (· conv => whnf))
              apply endS
              cases hw3 : isCon wd
              · apply condF; (· (conv => whnf); try rfl)
                apply skipC
                have hx2 : lexL l = .error i := by rw [hx, hF, lexA_err (by simp) (by simp [tokL, hlu, hwd, hw1, hw2, hw3])]; rfl
                rw [hx2]
                apply seqC
                apply seqC
                apply regL
                repeat ((with_reducible apply stepS); (· conv => whnf))
                apply endS
                apply condT; (· (conv => whnf); try rfl)
                apply seqC
                apply regL
                repeat ((with_reducible apply stepS); (· conv => whnf))
                apply endS
                apply retC
                conv => whnf
                exact ⟨rfl, rfl⟩
              · apply condT; (· (conv => whnf); try rfl)
                apply regL
                repeat ((with_reducible apply stepS); (· conv => whnf))
                apply endS
                have ht : tokL (c :: r) = (⟨2, 0, wd, 0⟩, j) := by simp [tokL, hlu, hwd, hw1, hw2, hw3, hjw]
                have hx2 := hx
                rw [hF, F_next hdr ht (by omega), preE_next] at hx2
                apply seqC
                apply seqC
                apply regL
                repeat ((with_reducible apply stepS); (· conv => whnf))
                apply endS
                apply condF; (· (conv => whnf); try rfl)
                apply skipC
                apply seqC
                apply regL
                repeat ((with_reducible apply stepS); (· conv => whnf))
                apply stepS; (· (conv => whnf); refine ⟨(by simp [lim]; omega), ?_⟩; (conv => whnf))
                repeat ((with_reducible apply stepS); (· conv => whnf))
                apply endS
                apply regL
                repeat ((with_reducible apply stepS); (· conv => whnf))
                apply endS
                refine ⟨_, _, ?_, wk [4, 0, 2, 3] [2, 3] [199] [] [] [] rfl, i + j, _, _, rfl, hj, ?_, rfl, hx2, ?_⟩
                · have := hj
                  omega
                · simp
                  omega
                · simp only [List.map_append]
                  rfl
            · apply condT; (· (conv => whnf); try rfl)
              apply regL
              repeat ((with_reducible apply stepS); (· conv => whnf))
              apply endS
              have ht : tokL (c :: r) = (⟨1, 0, wd, 0⟩, j) := by simp [tokL, hlu, hwd, hw1, hw2, hjw]
              have hx2 := hx
              rw [hF, F_next hdr ht (by omega), preE_next] at hx2
              apply seqC
              apply seqC
              apply regL
              repeat ((with_reducible apply stepS); (· conv => whnf))
              apply endS
              apply condF; (· (conv => whnf); try rfl)
              apply skipC
              apply seqC
              apply regL
              repeat ((with_reducible apply stepS); (· conv => whnf))
              apply stepS; (· (conv => whnf); refine ⟨(by simp [lim]; omega), ?_⟩; (conv => whnf))
              repeat ((with_reducible apply stepS); (· conv => whnf))
              apply endS
              apply regL
              repeat ((with_reducible apply stepS); (· conv => whnf))
              apply endS
              refine ⟨_, _, ?_, wk [4, 0, 2, 3] [2, 3] [199] [] [] [] rfl, i + j, _, _, rfl, hj, ?_, rfl, hx2, ?_⟩
              · have := hj
                omega
              · simp
                omega
              · simp only [List.map_append]
                rfl
          · apply condT; (· (conv => whnf); try rfl)
            apply regL
            repeat ((with_reducible apply stepS); (· conv => whnf))
            apply endS
            have ht : tokL (c :: r) = (⟨4, 0, wd, 0⟩, j) := by simp [tokL, hlu, hwd, hw1, hjw]
            have hx2 := hx
            rw [hF, F_next hdr ht (by omega), preE_next] at hx2
            apply seqC
            apply seqC
            apply regL
            repeat ((with_reducible apply stepS); (· conv => whnf))
            apply endS
            apply condF; (· (conv => whnf); try rfl)
            apply skipC
            apply seqC
            apply regL
            repeat ((with_reducible apply stepS); (· conv => whnf))
            apply stepS; (· (conv => whnf); refine ⟨(by simp [lim]; omega), ?_⟩; (conv => whnf))
            repeat ((with_reducible apply stepS); (· conv => whnf))
            apply endS
            apply regL
            repeat ((with_reducible apply stepS); (· conv => whnf))
            apply endS
            refine ⟨_, _, ?_, wk [4, 0, 2, 3] [2, 3] [199] [] [] [] rfl, i + j, _, _, rfl, hj, ?_, rfl, hx2, ?_⟩
            · have := hj
              omega
            · simp
              omega
            · simp only [List.map_append]
              rfl
        · repeat ((with_reducible apply stepS); (· conv => whnf))
          apply endS
          apply condT; (· (conv => whnf); try rfl)
          apply skipC
          apply blockC
          apply regL
          repeat ((with_reducible apply stepS); (· conv => whnf))
          apply endS
          refine ⟨_, _, ?_, wk [7, 4, 0, 2, 3, 6] [2, 3, 6] [199] [] [] [] rfl, j + 1, rfl, by omega, tw_step hd2 hp2 hw, ?_⟩
          · omega
          · rw [i64_id (x := ((i + j : Nat) : Int) + 1) (by omega) (by omega)]
            rfl
    repeat ((with_reducible apply stepS); (· conv => whnf))
    apply stepS; (· (conv => whnf); refine ⟨_, _, ku, ?_⟩; (conv => whnf))
    cases hup : isUp c
    rotate_left
    · have hlu : (isLow c || isUp c) = true := by rw [hup]; simp
      have hrst : isRest c = true := by unfold isRest; rw [hup]; simp
      repeat ((with_reducible apply stepS); (· conv => whnf))
      apply endS
      apply condT; (· (conv => whnf); try rfl)
      apply seqC
      apply blockC
      refine loopC (fun q st => ∃ j, q = l.length - (i + j) ∧ i + j ≤ l.length ∧ ((l.drop i).takeWhile isRest).length = j + ((l.drop (i + j)).takeWhile isRest).length ∧
        st = ⟨[(7, .one (.v (.int .i64 ((i + j : Nat) : Int)))), (4, .one (.v (.int .i64 (i : Int)))), (0, .one (.v (.string s))), (2, .one (.ptr 2 0 0)), (3, .one (.ptr 3 0 0)), (6, .one (.ptr 6 0 0))],
          [(2, ⟨0, 80, [.nil 74 4, .v (.int .i64 0), .v (.int .i64 0)]⟩), (3, ⟨0, 80, [.sl 74 4 ((acc.map toT).map tok) (some (199, 0)), .v (.int .i64 0), .v (.int .i64 0)]⟩), (6, ⟨0, 74, [.v (.int .i64 0), .v (.int .i64 (i : Int)), .v (.string .empty), .v (.int .i64 0)]⟩)], [(199, ⟨0, 74, 4, true⟩)]⟩)
        ⟨_, _, wk [7, 4, 0, 2, 3, 6] [2, 3, 6] [199] [] [] [] rfl, 0, rfl, by omega, by simp, rfl⟩ ?_
      rintro n2 st ⟨j, rfl, hj, hw, rfl⟩
      apply seqC
      apply seqC
      apply regL
      repeat ((with_reducible apply stepS); (· conv => whnf))
      cases hlt2 : decide (((i + j : Nat) : Int) < (s.size : Int))
      · have hnil : l.drop (i + j) = [] := List.drop_eq_nil_of_le (by have := of_decide_eq_false hlt2; omega)
        have hjw := tw_stop (p := isRest) (fun c r h => by rw [hnil] at h; cases h) hw
        repeat ((with_reducible apply stepS); (· conv => whnf))
        apply endS
        apply condF; (· (conv => whnf); try rfl)
        apply exitC
        have hslc := ext_row hs isRest hjw
        rw [hdr] at hjw hslc
        have hpos : 0 < j := by
          rw [← hjw, List.takeWhile_cons_of_pos hrst]
          simp
        apply seqC
        apply regL
        repeat ((with_reducible apply stepS); (· conv => whnf))
        apply stepS; (· (conv => whnf); refine ⟨(by omega), ?_⟩; (conv => whnf))
        rw [hslc]
        repeat ((with_reducible apply stepS); (· conv => whnf))
        apply endS
        apply blockC
        generalize hwd : (c :: r).takeWhile isRest = wd at hjw
        have k1 := rword_ct (ofL wd)
        have k2 := rname_ct wd (by omega)
        have k3 := rconN_ct wd (by omega)
        rw [ofL_data] at k1
        apply seqC
        apply regL
        repeat ((with_reducible apply stepS); (· conv => whnf))
        apply stepS; (· (conv => whnf); refine ⟨_, _, k1, ?_⟩; (conv => whnf))
        repeat ((with_reducible apply stepS); (· conv => whnf))
        apply endS
        cases hw1 : isWord wd
        · apply condF; (· (conv => whnf); try rfl)
          apply seqC
          apply regL
          repeat ((with_reducible apply stepS); (· conv => whnf))
          apply stepS; (· (conv => whnf); refine ⟨_, _, k2, ?_⟩; (conv => whnf))
          repeat ((with_reducible apply stepS); (· conv => whnf))
          apply endS
          cases hw2 : isName wd
          · apply condF; (· (conv => whnf); try rfl)
            apply seqC
            apply regL
            repeat ((with_reducible apply stepS); (· conv => whnf))
            apply stepS; (· (conv => whnf); refine ⟨_, _, k3, ?_⟩; (conv => whnf))
            repeat ((with_reducible apply stepS); (· conv => whnf))
            apply endS
            cases hw3 : isCon wd
            · apply condF; (· (conv => whnf); try rfl)
              apply skipC
              have hx2 : lexL l = .error i := by rw [hx, hF, lexA_err (by simp) (by simp [tokL, hlu, hwd, hw1, hw2, hw3])]; rfl
              rw [hx2]
              apply seqC
              apply seqC
              apply regL
              repeat ((with_reducible apply stepS); (· conv => whnf))
              apply endS
              apply condT; (· (conv => whnf); try rfl)
              apply seqC
              apply regL
              repeat ((with_reducible apply stepS); (· conv => whnf))
              apply endS
              apply retC
              conv => whnf
              exact ⟨rfl, rfl⟩
            · apply condT; (· (conv => whnf); try rfl)
              apply regL
              repeat ((with_reducible apply stepS); (· conv => whnf))
              apply endS
              have ht : tokL (c :: r) = (⟨2, 0, wd, 0⟩, j) := by simp [tokL, hlu, hwd, hw1, hw2, hw3, hjw]
              have hx2 := hx
              rw [hF, F_next hdr ht (by omega), preE_next] at hx2
              apply seqC
              apply seqC
              apply regL
              repeat ((with_reducible apply stepS); (· conv => whnf))
              apply endS
              apply condF; (· (conv => whnf); try rfl)
              apply skipC
              apply seqC
              apply regL
              repeat ((with_reducible apply stepS); (· conv => whnf))
              apply stepS; (· (conv => whnf); refine ⟨(by simp [lim]; omega), ?_⟩; (conv => whnf))
              repeat ((with_reducible apply stepS); (· conv => whnf))
              apply endS
              apply regL
              repeat ((with_reducible apply stepS); (· conv => whnf))
              apply endS
              refine ⟨_, _, ?_, wk [4, 0, 2, 3] [2, 3] [199] [] [] [] rfl, i + j, _, _, rfl, hj, ?_, rfl, hx2, ?_⟩
              · have := hj
                omega
              · simp
                omega
              · simp only [List.map_append]
                rfl
          · apply condT; (· (conv => whnf); try rfl)
            apply regL
            repeat ((with_reducible apply stepS); (· conv => whnf))
            apply endS
            have ht : tokL (c :: r) = (⟨1, 0, wd, 0⟩, j) := by simp [tokL, hlu, hwd, hw1, hw2, hjw]
            have hx2 := hx
            rw [hF, F_next hdr ht (by omega), preE_next] at hx2
            apply seqC
            apply seqC
            apply regL
            repeat ((with_reducible apply stepS); (· conv => whnf))
            apply endS
            apply condF; (· (conv => whnf); try rfl)
            apply skipC
            apply seqC
            apply regL
            repeat ((with_reducible apply stepS); (· conv => whnf))
            apply stepS; (· (conv => whnf); refine ⟨(by simp [lim]; omega), ?_⟩; (conv => whnf))
            repeat ((with_reducible apply stepS); (· conv => whnf))
            apply endS
            apply regL
            repeat ((with_reducible apply stepS); (· conv => whnf))
            apply endS
            refine ⟨_, _, ?_, wk [4, 0, 2, 3] [2, 3] [199] [] [] [] rfl, i + j, _, _, rfl, hj, ?_, rfl, hx2, ?_⟩
            · have := hj
              omega
            · simp
              omega
            · simp only [List.map_append]
              rfl
        · apply condT; (· (conv => whnf); try rfl)
          apply regL
          repeat ((with_reducible apply stepS); (· conv => whnf))
          apply endS
          have ht : tokL (c :: r) = (⟨4, 0, wd, 0⟩, j) := by simp [tokL, hlu, hwd, hw1, hjw]
          have hx2 := hx
          rw [hF, F_next hdr ht (by omega), preE_next] at hx2
          apply seqC
          apply seqC
          apply regL
          repeat ((with_reducible apply stepS); (· conv => whnf))
          apply endS
          apply condF; (· (conv => whnf); try rfl)
          apply skipC
          apply seqC
          apply regL
          repeat ((with_reducible apply stepS); (· conv => whnf))
          apply stepS; (· (conv => whnf); refine ⟨(by simp [lim]; omega), ?_⟩; (conv => whnf))
          repeat ((with_reducible apply stepS); (· conv => whnf))
          apply endS
          apply regL
          repeat ((with_reducible apply stepS); (· conv => whnf))
          apply endS
          refine ⟨_, _, ?_, wk [4, 0, 2, 3] [2, 3] [199] [] [] [] rfl, i + j, _, _, rfl, hj, ?_, rfl, hx2, ?_⟩
          · have := hj
            omega
          · simp
            omega
          · simp only [List.map_append]
            rfl
      · have hj2 : i + j < l.length := by have := of_decide_eq_true hlt2; omega
        obtain ⟨c2, r2, hd2⟩ : ∃ c2 r2, l.drop (i + j) = c2 :: r2 := ⟨_, _, List.drop_eq_getElem_cons hj2⟩
        have hb2 := hby (i + j) c2 r2 hd2
        have kp := rrest_ct c2
        repeat ((with_reducible apply stepS); (· conv => whnf))
        apply stepS; (· (conv => whnf); refine ⟨(by omega), ?_⟩; (conv => whnf))
        rw [hb2]
        apply stepS; (· (conv => whnf); refine ⟨_, _, kp, ?_⟩; (conv => whnf))
        cases hp2 : isRest c2
        · have hjw := tw_stop (p := isRest) (fun c r h => by rw [hd2] at h; cases h; exact hp2) hw
          repeat ((with_reducible apply stepS); (· conv => whnf))
          apply endS
          apply condF; (· (conv => whnf); try rfl)
          apply exitC
          have hslc := ext_row hs isRest hjw
          rw [hdr] at hjw hslc
          have hpos : 0 < j := by
            rw [← hjw, List.takeWhile_cons_of_pos hrst]
            simp
          apply seqC
          apply regL
          repeat ((with_reducible apply stepS); (· conv => whnf))
          apply stepS; (· (conv => whnf); refine ⟨(by omega), ?_⟩; (conv => whnf))
          rw [hslc]
          repeat ((with_reducible apply stepS); (· conv => whnf))
          apply endS
          apply blockC
          generalize hwd : (c :: r).takeWhile isRest = wd at hjw
          have k1 := rword_ct (ofL wd)
          have k2 := rname_ct wd (by omega)
          have k3 := rconN_ct wd (by omega)
          rw [ofL_data] at k1
          apply seqC
          apply regL
          repeat ((with_reducible apply stepS); (· conv => whnf))
          apply stepS; (· (conv => whnf); refine ⟨_, _, k1, ?_⟩; (conv => whnf))
          repeat ((with_reducible apply stepS); (· conv => whnf))
          apply endS
          cases hw1 : isWord wd
          · apply condF; (· (conv => whnf); try rfl)
            apply seqC
            apply regL
            repeat ((with_reducible apply stepS); (· conv => whnf))
            apply stepS; (· (conv => whnf); refine ⟨_, _, k2, ?_⟩; (conv => whnf))
            repeat ((with_reducible apply stepS); (· conv => whnf))
            apply endS
            cases hw2 : isName wd
            · apply condF; (· (conv => whnf); try rfl)
              apply seqC
              apply regL
              repeat ((with_reducible apply stepS); (· conv => whnf))
              apply stepS; (· (conv => whnf); refine ⟨_, _, k3, ?_⟩; (conv => whnf))
              repeat ((with_reducible apply stepS); (· conv => whnf))
              apply endS
              cases hw3 : isCon wd
              · apply condF; (· (conv => whnf); try rfl)
                apply skipC
                have hx2 : lexL l = .error i := by rw [hx, hF, lexA_err (by simp) (by simp [tokL, hlu, hwd, hw1, hw2, hw3])]; rfl
                rw [hx2]
                apply seqC
                apply seqC
                apply regL
                repeat ((with_reducible apply stepS); (· conv => whnf))
                apply endS
                apply condT; (· (conv => whnf); try rfl)
                apply seqC
                apply regL
                repeat ((with_reducible apply stepS); (· conv => whnf))
                apply endS
                apply retC
                conv => whnf
                exact ⟨rfl, rfl⟩
              · apply condT; (· (conv => whnf); try rfl)
                apply regL
                repeat ((with_reducible apply stepS); (· conv => whnf))
                apply endS
                have ht : tokL (c :: r) = (⟨2, 0, wd, 0⟩, j) := by simp [tokL, hlu, hwd, hw1, hw2, hw3, hjw]
                have hx2 := hx
                rw [hF, F_next hdr ht (by omega), preE_next] at hx2
                apply seqC
                apply seqC
                apply regL
                repeat ((with_reducible apply stepS); (· conv => whnf))
                apply endS
                apply condF; (· (conv => whnf); try rfl)
                apply skipC
                apply seqC
                apply regL
                repeat ((with_reducible apply stepS); (· conv => whnf))
                apply stepS; (· (conv => whnf); refine ⟨(by simp [lim]; omega), ?_⟩; (conv => whnf))
                repeat ((with_reducible apply stepS); (· conv => whnf))
                apply endS
                apply regL
                repeat ((with_reducible apply stepS); (· conv => whnf))
                apply endS
                refine ⟨_, _, ?_, wk [4, 0, 2, 3] [2, 3] [199] [] [] [] rfl, i + j, _, _, rfl, hj, ?_, rfl, hx2, ?_⟩
                · have := hj
                  omega
                · simp
                  omega
                · simp only [List.map_append]
                  rfl
            · apply condT; (· (conv => whnf); try rfl)
              apply regL
              repeat ((with_reducible apply stepS); (· conv => whnf))
              apply endS
              have ht : tokL (c :: r) = (⟨1, 0, wd, 0⟩, j) := by simp [tokL, hlu, hwd, hw1, hw2, hjw]
              have hx2 := hx
              rw [hF, F_next hdr ht (by omega), preE_next] at hx2
              apply seqC
              apply seqC
              apply regL
              repeat ((with_reducible apply stepS); (· conv => whnf))
              apply endS
              apply condF; (· (conv => whnf); try rfl)
              apply skipC
              apply seqC
              apply regL
              repeat ((with_reducible apply stepS); (· conv => whnf))
              apply stepS; (· (conv => whnf); refine ⟨(by simp [lim]; omega), ?_⟩; (conv => whnf))
              repeat ((with_reducible apply stepS); (· conv => whnf))
              apply endS
              apply regL
              repeat ((with_reducible apply stepS); (· conv => whnf))
              apply endS
              refine ⟨_, _, ?_, wk [4, 0, 2, 3] [2, 3] [199] [] [] [] rfl, i + j, _, _, rfl, hj, ?_, rfl, hx2, ?_⟩
              · have := hj
                omega
              · simp
                omega
              · simp only [List.map_append]
                rfl
          · apply condT; (· (conv => whnf); try rfl)
            apply regL
            repeat ((with_reducible apply stepS); (· conv => whnf))
            apply endS
            have ht : tokL (c :: r) = (⟨4, 0, wd, 0⟩, j) := by simp [tokL, hlu, hwd, hw1, hjw]
            have hx2 := hx
            rw [hF, F_next hdr ht (by omega), preE_next] at hx2
            apply seqC
            apply seqC
            apply regL
            repeat ((with_reducible apply stepS); (· conv => whnf))
            apply endS
            apply condF; (· (conv => whnf); try rfl)
            apply skipC
            apply seqC
            apply regL
            repeat ((with_reducible apply stepS); (· conv => whnf))
            apply stepS; (· (conv => whnf); refine ⟨(by simp [lim]; omega), ?_⟩; (conv => whnf))
            repeat ((with_reducible apply stepS); (· conv => whnf))
            apply endS
            apply regL
            repeat ((with_reducible apply stepS); (· conv => whnf))
            apply endS
            refine ⟨_, _, ?_, wk [4, 0, 2, 3] [2, 3] [199] [] [] [] rfl, i + j, _, _, rfl, hj, ?_, rfl, hx2, ?_⟩
            · have := hj
              omega
            · simp
              omega
            · simp only [List.map_append]
              rfl
        · repeat ((with_reducible apply stepS); (· conv => whnf))
          apply endS
          apply condT; (· (conv => whnf); try rfl)
          apply skipC
          apply blockC
          apply regL
          repeat ((with_reducible apply stepS); (· conv => whnf))
          apply endS
          refine ⟨_, _, ?_, wk [7, 4, 0, 2, 3, 6] [2, 3, 6] [199] [] [] [] rfl, j + 1, rfl, by omega, tw_step hd2 hp2 hw, ?_⟩
          · omega
          · rw [i64_id (x := ((i + j : Nat) : Int) + 1) (by omega) (by omega)]
            rfl
    have hll : (isLow c || isUp c) = false := by rw [hlow, hup]; rfl
    repeat ((with_reducible apply stepS); (· conv => whnf))
    apply endS
    apply condF; (· (conv => whnf); try rfl)
    apply seqC
    apply regL
    repeat ((with_reducible apply stepS); (· conv => whnf))
    apply stepS; (· (conv => whnf); refine ⟨_, _, kd, ?_⟩; (conv => whnf))
    repeat ((with_reducible apply stepS); (· conv => whnf))
    apply endS
    cases hdg : isDig c
    rotate_left
    · apply condT; (· (conv => whnf); try rfl)
      apply seqC
      apply blockC
      refine loopC (fun q st => ∃ j, q = l.length - (i + j) ∧ i + j ≤ l.length ∧ ((l.drop i).takeWhile isDig).length = j + ((l.drop (i + j)).takeWhile isDig).length ∧
        st = ⟨[(7, .one (.v (.int .i64 ((i + j : Nat) : Int)))), (4, .one (.v (.int .i64 (i : Int)))), (0, .one (.v (.string s))), (2, .one (.ptr 2 0 0)), (3, .one (.ptr 3 0 0)), (6, .one (.ptr 6 0 0))],
          [(2, ⟨0, 80, [.nil 74 4, .v (.int .i64 0), .v (.int .i64 0)]⟩), (3, ⟨0, 80, [.sl 74 4 ((acc.map toT).map tok) (some (199, 0)), .v (.int .i64 0), .v (.int .i64 0)]⟩), (6, ⟨0, 74, [.v (.int .i64 0), .v (.int .i64 (i : Int)), .v (.string .empty), .v (.int .i64 0)]⟩)], [(199, ⟨0, 74, 4, true⟩)]⟩)
        ⟨_, _, wk [7, 4, 0, 2, 3, 6] [2, 3, 6] [199] [] [] [] rfl, 0, rfl, by omega, by simp, rfl⟩ ?_
      rintro n2 st ⟨j, rfl, hj, hw, rfl⟩
      apply seqC
      apply seqC
      apply regL
      repeat ((with_reducible apply stepS); (· conv => whnf))
      cases hlt2 : decide (((i + j : Nat) : Int) < (s.size : Int))
      · have hnil : l.drop (i + j) = [] := List.drop_eq_nil_of_le (by have := of_decide_eq_false hlt2; omega)
        have hjw := tw_stop (p := isDig) (fun c r h => by rw [hnil] at h; cases h) hw
        repeat ((with_reducible apply stepS); (· conv => whnf))
        apply endS
        apply condF; (· (conv => whnf); try rfl)
        apply exitC
        have hslc := ext_row hs isDig hjw
        rw [hdr] at hjw hslc
        have hpos : 0 < j := by
          rw [← hjw, List.takeWhile_cons_of_pos hdg]
          simp
        apply seqC
        apply regL
        repeat ((with_reducible apply stepS); (· conv => whnf))
        apply stepS; (· (conv => whnf); refine ⟨(by omega), ?_⟩; (conv => whnf))
        rw [hslc]
        generalize hwd : (c :: r).takeWhile isDig = wd at hjw
        have hall : wd.all isDig = true := by rw [← hwd]; exact all_tw isDig _
        have k1 := rnumber_ct wd (by intro h; rw [h] at hjw; simp at hjw; omega) hall (by omega)
        apply stepS; (· (conv => whnf); refine ⟨_, _, k1, ?_⟩; (conv => whnf))
        repeat ((with_reducible apply stepS); (· conv => whnf))
        apply endS
        apply seqC
        apply regL
        repeat ((with_reducible apply stepS); (· conv => whnf))
        apply endS
        cases hnl : numL wd with
        | none =>
          rw [show rnum wd = -1 from by unfold rnum; rw [hnl]]
          apply condF; (· (conv => whnf); try rfl)
          apply skipC
          have hx2 : lexL l = .error i := by rw [hx, hF, lexA_err (by simp) (by simp [tokL, hll, hdg, hwd, hnl])]; rfl
          rw [hx2]
          apply seqC
          apply seqC
          apply regL
          repeat ((with_reducible apply stepS); (· conv => whnf))
          apply endS
          apply condT; (· (conv => whnf); try rfl)
          apply seqC
          apply regL
          repeat ((with_reducible apply stepS); (· conv => whnf))
          apply endS
          apply retC
          conv => whnf
          exact ⟨rfl, rfl⟩
        | some v =>
          have hv := numL_ge hall hnl
          rw [show rnum wd = v from by unfold rnum; rw [hnl]]
          rw [show decide (0 ≤ v) = true from decide_eq_true hv]
          apply condT; (· (conv => whnf); try rfl)
          apply regL
          repeat ((with_reducible apply stepS); (· conv => whnf))
          apply endS
          have ht : tokL (c :: r) = (⟨3, 0, [], v⟩, j) := by simp [tokL, hll, hdg, hwd, hnl, hjw]
          have hx2 := hx
          rw [hF, F_next hdr ht (by omega), preE_next] at hx2
          apply seqC
          apply seqC
          apply regL
          repeat ((with_reducible apply stepS); (· conv => whnf))
          apply endS
          apply condF; (· (conv => whnf); try rfl)
          apply skipC
          apply seqC
          apply regL
          repeat ((with_reducible apply stepS); (· conv => whnf))
          apply stepS; (· (conv => whnf); refine ⟨(by simp [lim]; omega), ?_⟩; (conv => whnf))
          repeat ((with_reducible apply stepS); (· conv => whnf))
          apply endS
          apply regL
          repeat ((with_reducible apply stepS); (· conv => whnf))
          apply endS
          refine ⟨_, _, ?_, wk [4, 0, 2, 3] [2, 3] [199] [] [] [] rfl, i + j, _, _, rfl, hj, ?_, rfl, hx2, ?_⟩
          · have := hj
            omega
          · simp
            omega
          · simp only [List.map_append]
            rfl
      · have hj2 : i + j < l.length := by have := of_decide_eq_true hlt2; omega
        obtain ⟨c2, r2, hd2⟩ : ∃ c2 r2, l.drop (i + j) = c2 :: r2 := ⟨_, _, List.drop_eq_getElem_cons hj2⟩
        have hb2 := hby (i + j) c2 r2 hd2
        have kp := rdigit_ct c2
        repeat ((with_reducible apply stepS); (· conv => whnf))
        apply stepS; (· (conv => whnf); refine ⟨(by omega), ?_⟩; (conv => whnf))
        rw [hb2]
        apply stepS; (· (conv => whnf); refine ⟨_, _, kp, ?_⟩; (conv => whnf))
        cases hp2 : isDig c2
        · have hjw := tw_stop (p := isDig) (fun c r h => by rw [hd2] at h; cases h; exact hp2) hw
          repeat ((with_reducible apply stepS); (· conv => whnf))
          apply endS
          apply condF; (· (conv => whnf); try rfl)
          apply exitC
          have hslc := ext_row hs isDig hjw
          rw [hdr] at hjw hslc
          have hpos : 0 < j := by
            rw [← hjw, List.takeWhile_cons_of_pos hdg]
            simp
          apply seqC
          apply regL
          repeat ((with_reducible apply stepS); (· conv => whnf))
          apply stepS; (· (conv => whnf); refine ⟨(by omega), ?_⟩; (conv => whnf))
          rw [hslc]
          generalize hwd : (c :: r).takeWhile isDig = wd at hjw
          have hall : wd.all isDig = true := by rw [← hwd]; exact all_tw isDig _
          have k1 := rnumber_ct wd (by intro h; rw [h] at hjw; simp at hjw; omega) hall (by omega)
          apply stepS; (· (conv => whnf); refine ⟨_, _, k1, ?_⟩; (conv => whnf))
          repeat ((with_reducible apply stepS); (· conv => whnf))
          apply endS
          apply seqC
          apply regL
          repeat ((with_reducible apply stepS); (· conv => whnf))
          apply endS
          cases hnl : numL wd with
          | none =>
            rw [show rnum wd = -1 from by unfold rnum; rw [hnl]]
            apply condF; (· (conv => whnf); try rfl)
            apply skipC
            have hx2 : lexL l = .error i := by rw [hx, hF, lexA_err (by simp) (by simp [tokL, hll, hdg, hwd, hnl])]; rfl
            rw [hx2]
            apply seqC
            apply seqC
            apply regL
            repeat ((with_reducible apply stepS); (· conv => whnf))
            apply endS
            apply condT; (· (conv => whnf); try rfl)
            apply seqC
            apply regL
            repeat ((with_reducible apply stepS); (· conv => whnf))
            apply endS
            apply retC
            conv => whnf
            exact ⟨rfl, rfl⟩
          | some v =>
            have hv := numL_ge hall hnl
            rw [show rnum wd = v from by unfold rnum; rw [hnl]]
            rw [show decide (0 ≤ v) = true from decide_eq_true hv]
            apply condT; (· (conv => whnf); try rfl)
            apply regL
            repeat ((with_reducible apply stepS); (· conv => whnf))
            apply endS
            have ht : tokL (c :: r) = (⟨3, 0, [], v⟩, j) := by simp [tokL, hll, hdg, hwd, hnl, hjw]
            have hx2 := hx
            rw [hF, F_next hdr ht (by omega), preE_next] at hx2
            apply seqC
            apply seqC
            apply regL
            repeat ((with_reducible apply stepS); (· conv => whnf))
            apply endS
            apply condF; (· (conv => whnf); try rfl)
            apply skipC
            apply seqC
            apply regL
            repeat ((with_reducible apply stepS); (· conv => whnf))
            apply stepS; (· (conv => whnf); refine ⟨(by simp [lim]; omega), ?_⟩; (conv => whnf))
            repeat ((with_reducible apply stepS); (· conv => whnf))
            apply endS
            apply regL
            repeat ((with_reducible apply stepS); (· conv => whnf))
            apply endS
            refine ⟨_, _, ?_, wk [4, 0, 2, 3] [2, 3] [199] [] [] [] rfl, i + j, _, _, rfl, hj, ?_, rfl, hx2, ?_⟩
            · have := hj
              omega
            · simp
              omega
            · simp only [List.map_append]
              rfl
        · repeat ((with_reducible apply stepS); (· conv => whnf))
          apply endS
          apply condT; (· (conv => whnf); try rfl)
          apply skipC
          apply blockC
          apply regL
          repeat ((with_reducible apply stepS); (· conv => whnf))
          apply endS
          refine ⟨_, _, ?_, wk [7, 4, 0, 2, 3, 6] [2, 3, 6] [199] [] [] [] rfl, j + 1, rfl, by omega, tw_step hd2 hp2 hw, ?_⟩
          · omega
          · rw [i64_id (x := ((i + j : Nat) : Int) + 1) (by omega) (by omega)]
            rfl
    apply condF; (· (conv => whnf); try rfl)
    apply seqC
    apply regL
    repeat ((with_reducible apply stepS); (· conv => whnf))
    rw [hm]
    repeat ((with_reducible apply stepS); (· conv => whnf))
    apply endS
    apply condF; (· (conv => whnf); try rfl)
    apply seqC
    apply regL
    repeat ((with_reducible apply stepS); (· conv => whnf))
    have e0 : (c == 92) = decide ((c.toNat : Int) = 92) := u8eq c 92
    cases hz0 : decide ((c.toNat : Int) = 92)
    rotate_left
    · rw [hz0] at e0
      have hsg : signs1.contains c = true := by simp only [beq_iff_eq] at e0; subst e0; rfl
      have ht : tokL (c :: r) = (⟨5, 0, [c], 0⟩, 1) := by simp only [tokL, hll, hdg, h45, hsg]; simp
      have hslc : s.extract ((i : Int)).toNat (((i + 1 : Nat) : Int)).toNat = ofL [c] := by
        rw [hs, Int.toNat_natCast, Int.toNat_natCast, ofL_extract, hdr, show i + 1 - i = 1 from by omega]
        rfl
      repeat ((with_reducible apply stepS); (· conv => whnf))
      apply endS
      apply condT; (· (conv => whnf); try rfl)
      apply seqC
      apply regL
      repeat ((with_reducible apply stepS); (· conv => whnf))
      rw [hw1]
      apply endS
      apply seqC
      apply regL
      repeat ((with_reducible apply stepS); (· conv => whnf))
      apply endS
      apply regL
      repeat ((with_reducible apply stepS); (· conv => whnf))
      apply stepS; (· (conv => whnf); refine ⟨(by omega), ?_⟩; (conv => whnf))
      rw [hslc]
      repeat ((with_reducible apply stepS); (· conv => whnf))
      apply endS
      have hx2 := hx
      rw [hF, F_next hdr ht (by omega), preE_next] at hx2
      apply seqC
      apply seqC
      apply regL
      repeat ((with_reducible apply stepS); (· conv => whnf))
      apply endS
      apply condF; (· (conv => whnf); try rfl)
      apply skipC
      apply seqC
      apply regL
      repeat ((with_reducible apply stepS); (· conv => whnf))
      apply stepS; (· (conv => whnf); refine ⟨(by simp [lim]; omega), ?_⟩; (conv => whnf))
      repeat ((with_reducible apply stepS); (· conv => whnf))
      apply endS
      apply regL
      repeat ((with_reducible apply stepS); (· conv => whnf))
      apply endS
      refine ⟨_, _, ?_, wk [4, 0, 2, 3] [2, 3] [199] [] [] [] rfl, i + 1, _, _, rfl, hi2, ?_, rfl, hx2, ?_⟩
      · have := hi2
        omega
      · simp
        omega
      · simp only [List.map_append]
        rfl
    rw [hz0] at e0
    repeat ((with_reducible apply stepS); (· conv => whnf))
    have e1 : (c == 61) = decide ((c.toNat : Int) = 61) := u8eq c 61
    cases hz1 : decide ((c.toNat : Int) = 61)
    rotate_left
    · rw [hz1] at e1
      have hsg : signs1.contains c = true := by simp only [beq_iff_eq] at e1; subst e1; rfl
      have ht : tokL (c :: r) = (⟨5, 0, [c], 0⟩, 1) := by simp only [tokL, hll, hdg, h45, hsg]; simp
      have hslc : s.extract ((i : Int)).toNat (((i + 1 : Nat) : Int)).toNat = ofL [c] := by
        rw [hs, Int.toNat_natCast, Int.toNat_natCast, ofL_extract, hdr, show i + 1 - i = 1 from by omega]
        rfl
      repeat ((with_reducible apply stepS); (· conv => whnf))
      apply endS
      apply condT; (· (conv => whnf); try rfl)
      apply seqC
      apply regL
      repeat ((with_reducible apply stepS); (· conv => whnf))
      rw [hw1]
      apply endS
      apply seqC
      apply regL
      repeat ((with_reducible apply stepS); (· conv => whnf))
      apply endS
      apply regL
      repeat ((with_reducible apply stepS); (· conv => whnf))
      apply stepS; (· (conv => whnf); refine ⟨(by omega), ?_⟩; (conv => whnf))
      rw [hslc]
      repeat ((with_reducible apply stepS); (· conv => whnf))
      apply endS
      have hx2 := hx
      rw [hF, F_next hdr ht (by omega), preE_next] at hx2
      apply seqC
      apply seqC
      apply regL
      repeat ((with_reducible apply stepS); (· conv => whnf))
      apply endS
      apply condF; (· (conv => whnf); try rfl)
      apply skipC
      apply seqC
      apply regL
      repeat ((with_reducible apply stepS); (· conv => whnf))
      apply stepS; (· (conv => whnf); refine ⟨(by simp [lim]; omega), ?_⟩; (conv => whnf))
      repeat ((with_reducible apply stepS); (· conv => whnf))
      apply endS
      apply regL
      repeat ((with_reducible apply stepS); (· conv => whnf))
      apply endS
      refine ⟨_, _, ?_, wk [4, 0, 2, 3] [2, 3] [199] [] [] [] rfl, i + 1, _, _, rfl, hi2, ?_, rfl, hx2, ?_⟩
      · have := hi2
        omega
      · simp
        omega
      · simp only [List.map_append]
        rfl
    rw [hz1] at e1
    repeat ((with_reducible apply stepS); (· conv => whnf))
    have e2 : (c == 59) = decide ((c.toNat : Int) = 59) := u8eq c 59
    cases hz2 : decide ((c.toNat : Int) = 59)
    rotate_left
    · rw [hz2] at e2
      have hsg : signs1.contains c = true := by simp only [beq_iff_eq] at e2; subst e2; rfl
      have ht : tokL (c :: r) = (⟨5, 0, [c], 0⟩, 1) := by simp only [tokL, hll, hdg, h45, hsg]; simp
      have hslc : s.extract ((i : Int)).toNat (((i + 1 : Nat) : Int)).toNat = ofL [c] := by
        rw [hs, Int.toNat_natCast, Int.toNat_natCast, ofL_extract, hdr, show i + 1 - i = 1 from by omega]
        rfl
      repeat ((with_reducible apply stepS); (· conv => whnf))
      apply endS
      apply condT; (· (conv => whnf); try rfl)
      apply seqC
      apply regL
      repeat ((with_reducible apply stepS); (· conv => whnf))
      rw [hw1]
      apply endS
      apply seqC
      apply regL
      repeat ((with_reducible apply stepS); (· conv => whnf))
      apply endS
      apply regL
      repeat ((with_reducible apply stepS); (· conv => whnf))
      apply stepS; (· (conv => whnf); refine ⟨(by omega), ?_⟩; (conv => whnf))
      rw [hslc]
      repeat ((with_reducible apply stepS); (· conv => whnf))
      apply endS
      have hx2 := hx
      rw [hF, F_next hdr ht (by omega), preE_next] at hx2
      apply seqC
      apply seqC
      apply regL
      repeat ((with_reducible apply stepS); (· conv => whnf))
      apply endS
      apply condF; (· (conv => whnf); try rfl)
      apply skipC
      apply seqC
      apply regL
      repeat ((with_reducible apply stepS); (· conv => whnf))
      apply stepS; (· (conv => whnf); refine ⟨(by simp [lim]; omega), ?_⟩; (conv => whnf))
      repeat ((with_reducible apply stepS); (· conv => whnf))
      apply endS
      apply regL
      repeat ((with_reducible apply stepS); (· conv => whnf))
      apply endS
      refine ⟨_, _, ?_, wk [4, 0, 2, 3] [2, 3] [199] [] [] [] rfl, i + 1, _, _, rfl, hi2, ?_, rfl, hx2, ?_⟩
      · have := hi2
        omega
      · simp
        omega
      · simp only [List.map_append]
        rfl
    rw [hz2] at e2
    repeat ((with_reducible apply stepS); (· conv => whnf))
    have e3 : (c == 124) = decide ((c.toNat : Int) = 124) := u8eq c 124
    cases hz3 : decide ((c.toNat : Int) = 124)
    rotate_left
    · rw [hz3] at e3
      have hsg : signs1.contains c = true := by simp only [beq_iff_eq] at e3; subst e3; rfl
      have ht : tokL (c :: r) = (⟨5, 0, [c], 0⟩, 1) := by simp only [tokL, hll, hdg, h45, hsg]; simp
      have hslc : s.extract ((i : Int)).toNat (((i + 1 : Nat) : Int)).toNat = ofL [c] := by
        rw [hs, Int.toNat_natCast, Int.toNat_natCast, ofL_extract, hdr, show i + 1 - i = 1 from by omega]
        rfl
      repeat ((with_reducible apply stepS); (· conv => whnf))
      apply endS
      apply condT; (· (conv => whnf); try rfl)
      apply seqC
      apply regL
      repeat ((with_reducible apply stepS); (· conv => whnf))
      rw [hw1]
      apply endS
      apply seqC
      apply regL
      repeat ((with_reducible apply stepS); (· conv => whnf))
      apply endS
      apply regL
      repeat ((with_reducible apply stepS); (· conv => whnf))
      apply stepS; (· (conv => whnf); refine ⟨(by omega), ?_⟩; (conv => whnf))
      rw [hslc]
      repeat ((with_reducible apply stepS); (· conv => whnf))
      apply endS
      have hx2 := hx
      rw [hF, F_next hdr ht (by omega), preE_next] at hx2
      apply seqC
      apply seqC
      apply regL
      repeat ((with_reducible apply stepS); (· conv => whnf))
      apply endS
      apply condF; (· (conv => whnf); try rfl)
      apply skipC
      apply seqC
      apply regL
      repeat ((with_reducible apply stepS); (· conv => whnf))
      apply stepS; (· (conv => whnf); refine ⟨(by simp [lim]; omega), ?_⟩; (conv => whnf))
      repeat ((with_reducible apply stepS); (· conv => whnf))
      apply endS
      apply regL
      repeat ((with_reducible apply stepS); (· conv => whnf))
      apply endS
      refine ⟨_, _, ?_, wk [4, 0, 2, 3] [2, 3] [199] [] [] [] rfl, i + 1, _, _, rfl, hi2, ?_, rfl, hx2, ?_⟩
      · have := hi2
        omega
      · simp
        omega
      · simp only [List.map_append]
        rfl
    rw [hz3] at e3
    repeat ((with_reducible apply stepS); (· conv => whnf))
    have e4 : (c == 40) = decide ((c.toNat : Int) = 40) := u8eq c 40
    cases hz4 : decide ((c.toNat : Int) = 40)
    rotate_left
    · rw [hz4] at e4
      have hsg : signs1.contains c = true := by simp only [beq_iff_eq] at e4; subst e4; rfl
      have ht : tokL (c :: r) = (⟨5, 0, [c], 0⟩, 1) := by simp only [tokL, hll, hdg, h45, hsg]; simp
      have hslc : s.extract ((i : Int)).toNat (((i + 1 : Nat) : Int)).toNat = ofL [c] := by
        rw [hs, Int.toNat_natCast, Int.toNat_natCast, ofL_extract, hdr, show i + 1 - i = 1 from by omega]
        rfl
      repeat ((with_reducible apply stepS); (· conv => whnf))
      apply endS
      apply condT; (· (conv => whnf); try rfl)
      apply seqC
      apply regL
      repeat ((with_reducible apply stepS); (· conv => whnf))
      rw [hw1]
      apply endS
      apply seqC
      apply regL
      repeat ((with_reducible apply stepS); (· conv => whnf))
      apply endS
      apply regL
      repeat ((with_reducible apply stepS); (· conv => whnf))
      apply stepS; (· (conv => whnf); refine ⟨(by omega), ?_⟩; (conv => whnf))
      rw [hslc]
      repeat ((with_reducible apply stepS); (· conv => whnf))
      apply endS
      have hx2 := hx
      rw [hF, F_next hdr ht (by omega), preE_next] at hx2
      apply seqC
      apply seqC
      apply regL
      repeat ((with_reducible apply stepS); (· conv => whnf))
      apply endS
      apply condF; (· (conv => whnf); try rfl)
      apply skipC
      apply seqC
      apply regL
      repeat ((with_reducible apply stepS); (· conv => whnf))
      apply stepS; (· (conv => whnf); refine ⟨(by simp [lim]; omega), ?_⟩; (conv => whnf))
      repeat ((with_reducible apply stepS); (· conv => whnf))
      apply endS
      apply regL
      repeat ((with_reducible apply stepS); (· conv => whnf))
      apply endS
      refine ⟨_, _, ?_, wk [4, 0, 2, 3] [2, 3] [199] [] [] [] rfl, i + 1, _, _, rfl, hi2, ?_, rfl, hx2, ?_⟩
      · have := hi2
        omega
      · simp
        omega
      · simp only [List.map_append]
        rfl
    rw [hz4] at e4
    repeat ((with_reducible apply stepS); (· conv => whnf))
    have e5 : (c == 41) = decide ((c.toNat : Int) = 41) := u8eq c 41
    cases hz5 : decide ((c.toNat : Int) = 41)
    rotate_left
    · rw [hz5] at e5
      have hsg : signs1.contains c = true := by simp only [beq_iff_eq] at e5; subst e5; rfl
      have ht : tokL (c :: r) = (⟨5, 0, [c], 0⟩, 1) := by simp only [tokL, hll, hdg, h45, hsg]; simp
      have hslc : s.extract ((i : Int)).toNat (((i + 1 : Nat) : Int)).toNat = ofL [c] := by
        rw [hs, Int.toNat_natCast, Int.toNat_natCast, ofL_extract, hdr, show i + 1 - i = 1 from by omega]
        rfl
      repeat ((with_reducible apply stepS); (· conv => whnf))
      apply endS
      apply condT; (· (conv => whnf); try rfl)
      apply seqC
      apply regL
      repeat ((with_reducible apply stepS); (· conv => whnf))
      rw [hw1]
      apply endS
      apply seqC
      apply regL
      repeat ((with_reducible apply stepS); (· conv => whnf))
      apply endS
      apply regL
      repeat ((with_reducible apply stepS); (· conv => whnf))
      apply stepS; (· (conv => whnf); refine ⟨(by omega), ?_⟩; (conv => whnf))
      rw [hslc]
      repeat ((with_reducible apply stepS); (· conv => whnf))
      apply endS
      have hx2 := hx
      rw [hF, F_next hdr ht (by omega), preE_next] at hx2
      apply seqC
      apply seqC
      apply regL
      repeat ((with_reducible apply stepS); (· conv => whnf))
      apply endS
      apply condF; (· (conv => whnf); try rfl)
      apply skipC
      apply seqC
      apply regL
      repeat ((with_reducible apply stepS); (· conv => whnf))
      apply stepS; (· (conv => whnf); refine ⟨(by simp [lim]; omega), ?_⟩; (conv => whnf))
      repeat ((with_reducible apply stepS); (· conv => whnf))
      apply endS
      apply regL
      repeat ((with_reducible apply stepS); (· conv => whnf))
      apply endS
      refine ⟨_, _, ?_, wk [4, 0, 2, 3] [2, 3] [199] [] [] [] rfl, i + 1, _, _, rfl, hi2, ?_, rfl, hx2, ?_⟩
      · have := hi2
        omega
      · simp
        omega
      · simp only [List.map_append]
        rfl
    rw [hz5] at e5
    repeat ((with_reducible apply stepS); (· conv => whnf))
    have e6 : (c == 44) = decide ((c.toNat : Int) = 44) := u8eq c 44
    cases hz6 : decide ((c.toNat : Int) = 44)
    rotate_left
    · rw [hz6] at e6
      have hsg : signs1.contains c = true := by simp only [beq_iff_eq] at e6; subst e6; rfl
      have ht : tokL (c :: r) = (⟨5, 0, [c], 0⟩, 1) := by simp only [tokL, hll, hdg, h45, hsg]; simp
      have hslc : s.extract ((i : Int)).toNat (((i + 1 : Nat) : Int)).toNat = ofL [c] := by
        rw [hs, Int.toNat_natCast, Int.toNat_natCast, ofL_extract, hdr, show i + 1 - i = 1 from by omega]
        rfl
      repeat ((with_reducible apply stepS); (· conv => whnf))
      apply endS
      apply condT; (· (conv => whnf); try rfl)
      apply seqC
      apply regL
      repeat ((with_reducible apply stepS); (· conv => whnf))
      rw [hw1]
      apply endS
      apply seqC
      apply regL
      repeat ((with_reducible apply stepS); (· conv => whnf))
      apply endS
      apply regL
      repeat ((with_reducible apply stepS); (· conv => whnf))
      apply stepS; (· (conv => whnf); refine ⟨(by omega), ?_⟩; (conv => whnf))
      rw [hslc]
      repeat ((with_reducible apply stepS); (· conv => whnf))
      apply endS
      have hx2 := hx
      rw [hF, F_next hdr ht (by omega), preE_next] at hx2
      apply seqC
      apply seqC
      apply regL
      repeat ((with_reducible apply stepS); (· conv => whnf))
      apply endS
      apply condF; (· (conv => whnf); try rfl)
      apply skipC
      apply seqC
      apply regL
      repeat ((with_reducible apply stepS); (· conv => whnf))
      apply stepS; (· (conv => whnf); refine ⟨(by simp [lim]; omega), ?_⟩; (conv => whnf))
      repeat ((with_reducible apply stepS); (· conv => whnf))
      apply endS
      apply regL
      repeat ((with_reducible apply stepS); (· conv => whnf))
      apply endS
      refine ⟨_, _, ?_, wk [4, 0, 2, 3] [2, 3] [199] [] [] [] rfl, i + 1, _, _, rfl, hi2, ?_, rfl, hx2, ?_⟩
      · have := hi2
        omega
      · simp
        omega
      · simp only [List.map_append]
        rfl
    rw [hz6] at e6
    repeat ((with_reducible apply stepS); (· conv => whnf))
    have e7 : (c == 123) = decide ((c.toNat : Int) = 123) := u8eq c 123
    cases hz7 : decide ((c.toNat : Int) = 123)
    rotate_left
    · rw [hz7] at e7
      have hsg : signs1.contains c = true := by simp only [beq_iff_eq] at e7; subst e7; rfl
      have ht : tokL (c :: r) = (⟨5, 0, [c], 0⟩, 1) := by simp only [tokL, hll, hdg, h45, hsg]; simp
      have hslc : s.extract ((i : Int)).toNat (((i + 1 : Nat) : Int)).toNat = ofL [c] := by
        rw [hs, Int.toNat_natCast, Int.toNat_natCast, ofL_extract, hdr, show i + 1 - i = 1 from by omega]
        rfl
      repeat ((with_reducible apply stepS); (· conv => whnf))
      apply endS
      apply condT; (· (conv => whnf); try rfl)
      apply seqC
      apply regL
      repeat ((with_reducible apply stepS); (· conv => whnf))
      rw [hw1]
      apply endS
      apply seqC
      apply regL
      repeat ((with_reducible apply stepS); (· conv => whnf))
      apply endS
      apply regL
      repeat ((with_reducible apply stepS); (· conv => whnf))
      apply stepS; (· (conv => whnf); refine ⟨(by omega), ?_⟩; (conv => whnf))
      rw [hslc]
      repeat ((with_reducible apply stepS); (· conv => whnf))
      apply endS
      have hx2 := hx
      rw [hF, F_next hdr ht (by omega), preE_next] at hx2
      apply seqC
      apply seqC
      apply regL
      repeat ((with_reducible apply stepS); (· conv => whnf))
      apply endS
      apply condF; (· (conv => whnf); try rfl)
      apply skipC
      apply seqC
      apply regL
      repeat ((with_reducible apply stepS); (· conv => whnf))
      apply stepS; (· (conv => whnf); refine ⟨(by simp [lim]; omega), ?_⟩; (conv => whnf))
      repeat ((with_reducible apply stepS); (· conv => whnf))
      apply endS
      apply regL
      repeat ((with_reducible apply stepS); (· conv => whnf))
      apply endS
      refine ⟨_, _, ?_, wk [4, 0, 2, 3] [2, 3] [199] [] [] [] rfl, i + 1, _, _, rfl, hi2, ?_, rfl, hx2, ?_⟩
      · have := hi2
        omega
      · simp
        omega
      · simp only [List.map_append]
        rfl
    rw [hz7] at e7
    repeat ((with_reducible apply stepS); (· conv => whnf))
    have e8 : (c == 125) = decide ((c.toNat : Int) = 125) := u8eq c 125
    cases hz8 : decide ((c.toNat : Int) = 125)
    rotate_left
    · rw [hz8] at e8
      have hsg : signs1.contains c = true := by simp only [beq_iff_eq] at e8; subst e8; rfl
      have ht : tokL (c :: r) = (⟨5, 0, [c], 0⟩, 1) := by simp only [tokL, hll, hdg, h45, hsg]; simp
      have hslc : s.extract ((i : Int)).toNat (((i + 1 : Nat) : Int)).toNat = ofL [c] := by
        rw [hs, Int.toNat_natCast, Int.toNat_natCast, ofL_extract, hdr, show i + 1 - i = 1 from by omega]
        rfl
      repeat ((with_reducible apply stepS); (· conv => whnf))
      apply endS
      apply condT; (· (conv => whnf); try rfl)
      apply seqC
      apply regL
      repeat ((with_reducible apply stepS); (· conv => whnf))
      rw [hw1]
      apply endS
      apply seqC
      apply regL
      repeat ((with_reducible apply stepS); (· conv => whnf))
      apply endS
      apply regL
      repeat ((with_reducible apply stepS); (· conv => whnf))
      apply stepS; (· (conv => whnf); refine ⟨(by omega), ?_⟩; (conv => whnf))
      rw [hslc]
      repeat ((with_reducible apply stepS); (· conv => whnf))
      apply endS
      have hx2 := hx
      rw [hF, F_next hdr ht (by omega), preE_next] at hx2
      apply seqC
      apply seqC
      apply regL
      repeat ((with_reducible apply stepS); (· conv => whnf))
      apply endS
      apply condF; (· (conv => whnf); try rfl)
      apply skipC
      apply seqC
      apply regL
      repeat ((with_reducible apply stepS); (· conv => whnf))
      apply stepS; (· (conv => whnf); refine ⟨(by simp [lim]; omega), ?_⟩; (conv => whnf))
      repeat ((with_reducible apply stepS); (· conv => whnf))
      apply endS
      apply regL
      repeat ((with_reducible apply stepS); (· conv => whnf))
      apply endS
      refine ⟨_, _, ?_, wk [4, 0, 2, 3] [2, 3] [199] [] [] [] rfl, i + 1, _, _, rfl, hi2, ?_, rfl, hx2, ?_⟩
      · have := hi2
        omega
      · simp
        omega
      · simp only [List.map_append]
        rfl
    rw [hz8] at e8
    repeat ((with_reducible apply stepS); (· conv => whnf))
    have hsg : signs1.contains c = false := by
      simp only [signs1, List.contains_cons, e0, e1, e2, e3, e4, e5, e6, e7, e8]
      rfl
    apply endS
    apply condF; (· (conv => whnf); try rfl)
    apply skipC
    have hx2 : lexL l = .error i := by rw [hx, hF, lexA_err (by simp) (by simp only [tokL, hll, hdg, h45, hsg]; simp)]; rfl
    rw [hx2]
    apply seqC
    apply seqC
    apply regL
    repeat ((with_reducible apply stepS); (· conv => whnf))
    apply endS
    apply condT; (· (conv => whnf); try rfl)
    apply seqC
    apply regL
    repeat ((with_reducible apply stepS); (· conv => whnf))
    apply endS
    apply retC
    conv => whnf
    exact ⟨rfl, rfl⟩
  · rw [hm] at h45
    have hc : c = 45 := by simpa using h45
    repeat ((with_reducible apply stepS); (· conv => whnf))
    rw [hw1]
    cases hlt1 : decide (((i + 1 : Nat) : Int) < (s.size : Int))
    · have hr0 : r = [] := by
        have := drop_next hdr
        rw [List.drop_eq_nil_of_le (by have := of_decide_eq_false hlt1; omega)] at this
        exact this.symm
      have hz : (c.toNat : Int) = 45 := by rw [hc]; rfl
      have hF : lexF l i = lexA i (c :: r) := F_tok hdr hg (by rw [hr0]; simp [hd])
      repeat ((with_reducible apply stepS); (· conv => whnf))
      apply endS
      apply condF; (· (conv => whnf); try rfl)
      apply skipC
      apply seqC
      apply regL
      repeat ((with_reducible apply stepS); (· conv => whnf))
      apply endS; apply seqC; apply regL
      repeat ((with_reducible apply stepS); (· conv => whnf))
      apply endS
      apply seqC
      apply blockC
      have kl := rlower_ct c
      have ku := rupper_ct c
      have kd := rdigit_ct c
      rw [show isLow c = false from by rw [hc]; rfl] at kl
      rw [show isUp c = false from by rw [hc]; rfl] at ku
      rw [show isDig c = false from by rw [hc]; rfl] at kd
      apply seqC
      apply regL
      repeat ((with_reducible apply stepS); (· conv => whnf))
      apply stepS; (· (conv => whnf); refine ⟨_, _, kl, ?_⟩; (conv => whnf))
      repeat ((with_reducible apply stepS); (· conv => whnf))
      apply stepS; (· (conv => whnf); refine ⟨_, _, ku, ?_⟩; (conv => whnf))
      repeat ((with_reducible apply stepS); (· conv => whnf))
      apply endS
      apply condF; (· (conv => whnf); try rfl)
      apply seqC
      apply regL
      repeat ((with_reducible apply stepS); (· conv => whnf))
      apply stepS; (· (conv => whnf); refine ⟨_, _, kd, ?_⟩; (conv => whnf))
      repeat ((with_reducible apply stepS); (· conv => whnf))
      apply endS
      apply condF; (· (conv => whnf); try rfl)
      apply seqC
      apply regL
      repeat ((with_reducible apply stepS); (· conv => whnf))
      rw [hm]
      repeat ((with_reducible apply stepS); (· conv => whnf))
      rw [hw1]
      rw [hlt1]
      repeat ((with_reducible apply stepS); (· conv => whnf))
      apply endS
      apply condF; (· (conv => whnf); try rfl)
      apply seqC
      apply regL
      repeat ((with_reducible apply stepS); (· conv => whnf))
      rw [hz]
      repeat ((with_reducible apply stepS); (· conv => whnf))
      apply endS
      apply condF; (· (conv => whnf); try rfl)
      apply skipC
      have hx2 : lexL l = .error i := by rw [hx, hF, lexA_err (by simp) (by rw [hc, hr0]; rfl)]; rfl
      rw [hx2]
      apply seqC
      apply seqC
      apply regL
      repeat ((with_reducible apply stepS); (· conv => whnf))
      apply endS
      apply condT; (· (conv => whnf); try rfl)
      apply seqC
      apply regL
      repeat ((with_reducible apply stepS); (· conv => whnf))
      apply endS
      apply retC
      conv => whnf
      exact ⟨rfl, rfl⟩
    · have hi3 : i + 1 < l.length := by have := of_decide_eq_true hlt1; omega
      have hz : (c.toNat : Int) = 45 := by rw [hc]; rfl
      obtain ⟨c2, r2, hd2⟩ : ∃ c2 r2, l.drop (i + 1) = c2 :: r2 := ⟨_, _, List.drop_eq_getElem_cons hi3⟩
      have hr2 : r = c2 :: r2 := (drop_next hdr).symm.trans hd2
      have hb2 := hby (i + 1) c2 r2 hd2
      have f45 : (c2 == 45) = decide ((c2.toNat : Int) = 45) := u8eq c2 45
      have f62 : (c2 == 62) = decide ((c2.toNat : Int) = 62) := u8eq c2 62
      repeat ((with_reducible apply stepS); (· conv => whnf))
      rw [hw1]
      apply stepS; (· (conv => whnf); refine ⟨(by omega), ?_⟩; (conv => whnf))
      rw [hb2]
      repeat ((with_reducible apply stepS); (· conv => whnf))
      cases hm2 : decide ((c2.toNat : Int) = 45)
      · rw [hm2] at f45
        have hF : lexF l i = lexA i (c :: r) := F_tok hdr hg (by rw [hr2]; simp [hd, f45])
        repeat ((with_reducible apply stepS); (· conv => whnf))
        apply endS
        apply condF; (· (conv => whnf); try rfl)
        apply skipC
        apply seqC
        apply regL
        repeat ((with_reducible apply stepS); (· conv => whnf))
        apply endS; apply seqC; apply regL
        repeat ((with_reducible apply stepS); (· conv => whnf))
        apply endS
        apply seqC
        apply blockC
        have kl := rlower_ct c
        have ku := rupper_ct c
        have kd := rdigit_ct c
        rw [show isLow c = false from by rw [hc]; rfl] at kl
        rw [show isUp c = false from by rw [hc]; rfl] at ku
        rw [show isDig c = false from by rw [hc]; rfl] at kd
        apply seqC
        apply regL
        repeat ((with_reducible apply stepS); (· conv => whnf))
        apply stepS; (· (conv => whnf); refine ⟨_, _, kl, ?_⟩; (conv => whnf))
        repeat ((with_reducible apply stepS); (· conv => whnf))
        apply stepS; (· (conv => whnf); refine ⟨_, _, ku, ?_⟩; (conv => whnf))
        repeat ((with_reducible apply stepS); (· conv => whnf))
        apply endS
        apply condF; (· (conv => whnf); try rfl)
        apply seqC
        apply regL
        repeat ((with_reducible apply stepS); (· conv => whnf))
        apply stepS; (· (conv => whnf); refine ⟨_, _, kd, ?_⟩; (conv => whnf))
        repeat ((with_reducible apply stepS); (· conv => whnf))
        apply endS
        apply condF; (· (conv => whnf); try rfl)
        apply seqC
        apply regL
        repeat ((with_reducible apply stepS); (· conv => whnf))
        rw [hm]
        repeat ((with_reducible apply stepS); (· conv => whnf))
        rw [hw1]
        rw [hlt1]
        repeat ((with_reducible apply stepS); (· conv => whnf))
        rw [hw1]
        apply stepS; (· (conv => whnf); refine ⟨(by omega), ?_⟩; (conv => whnf))
        rw [hb2]
        repeat ((with_reducible apply stepS); (· conv => whnf))
        cases hm3 : decide ((c2.toNat : Int) = 62)
        · rw [hm3] at f62
          repeat ((with_reducible apply stepS); (· conv => whnf))
          apply endS
          apply condF; (· (conv => whnf); try rfl)
          apply seqC
          apply regL
          repeat ((with_reducible apply stepS); (· conv => whnf))
          rw [hz]
          repeat ((with_reducible apply stepS); (· conv => whnf))
          apply endS
          apply condF; (· (conv => whnf); try rfl)
          apply skipC
          have hx2 : lexL l = .error i := by rw [hx, hF, lexA_err (by simp) (by rw [hc, hr2]; simp only [tokL, hd, f62]; rfl)]; rfl
          rw [hx2]
          apply seqC
          apply seqC
          apply regL
          repeat ((with_reducible apply stepS); (· conv => whnf))
          apply endS
          apply condT; (· (conv => whnf); try rfl)
          apply seqC
          apply regL
          repeat ((with_reducible apply stepS); (· conv => whnf))
          apply endS
          apply retC
          conv => whnf
          exact ⟨rfl, rfl⟩
        · rw [hm3] at f62
          have ht : tokL (c :: r) = (⟨5, 0, [45, 62], 0⟩, 2) := by rw [hc, hr2]; simp only [tokL, hd, f62]; rfl
          repeat ((with_reducible apply stepS); (· conv => whnf))
          apply endS
          apply condT; (· (conv => whnf); try rfl)
          apply seqC
          apply regL
          repeat ((with_reducible apply stepS); (· conv => whnf))
          rw [i64_id (x := (i : Int) + 2) (by omega) (by omega)]
          apply endS
          apply seqC
          apply regL
          repeat ((with_reducible apply stepS); (· conv => whnf))
          apply endS
          apply regL
          repeat ((with_reducible apply stepS); (· conv => whnf))
          apply endS
          have hx2 := hx
          rw [hF, F_next hdr ht (by omega), preE_next] at hx2
          apply seqC
          apply seqC
          apply regL
          repeat ((with_reducible apply stepS); (· conv => whnf))
          apply endS
          apply condF; (· (conv => whnf); try rfl)
          apply skipC
          apply seqC
          apply regL
          repeat ((with_reducible apply stepS); (· conv => whnf))
          apply stepS; (· (conv => whnf); refine ⟨(by simp [lim]; omega), ?_⟩; (conv => whnf))
          repeat ((with_reducible apply stepS); (· conv => whnf))
          apply endS
          apply regL
          repeat ((with_reducible apply stepS); (· conv => whnf))
          apply endS
          refine ⟨_, _, ?_, wk [4, 0, 2, 3] [2, 3] [199] [] [] [] rfl, i + 2, _, _, rfl, (show i + 2 ≤ l.length by omega), ?_, rfl, hx2, ?_⟩
          · have := (show i + 2 ≤ l.length by omega)
            omega
          · simp
            omega
          · simp only [List.map_append]
            rfl
      · rw [hm2] at f45
        have hF : lexF l i = lexG l i := F_rem hdr hg (by rw [h45, hr2]; simp [hd, f45])
        repeat ((with_reducible apply stepS); (· conv => whnf))
        apply endS
        apply condT; (· (conv => whnf); try rfl)
        apply seqC
        apply blockC
        refine loopC (fun q st => ∃ j, q = l.length - j ∧ i ≤ j ∧ j ≤ l.length ∧ (j = i ∨ i < j) ∧ lexG l i = lexG l j ∧
          st = ⟨[(4, .one (.v (.int .i64 (j : Int)))), (0, .one (.v (.string s))), (2, .one (.ptr 2 0 0)), (3, .one (.ptr 3 0 0))],
            [(2, ⟨0, 80, [.nil 74 4, .v (.int .i64 0), .v (.int .i64 0)]⟩), (3, ⟨0, 80, [.sl 74 4 ((acc.map toT).map tok) (some (199, 0)), .v (.int .i64 0), .v (.int .i64 0)]⟩)], [(199, ⟨0, 74, 4, true⟩)]⟩)
          ⟨_, _, wk [4, 0, 2, 3] [2, 3] [199] [] [] [] rfl, i, rfl, Nat.le_refl _, hi, .inl rfl, rfl, rfl⟩ ?_
        rintro n2 st ⟨j, rfl, hij, hj, hjj, hG, rfl⟩
        apply seqC
        apply seqC
        apply regL
        repeat ((with_reducible apply stepS); (· conv => whnf))
        cases hlt2 : decide ((j : Int) < (s.size : Int))
        · have hnil : l.drop j = [] := List.drop_eq_nil_of_le (by have := of_decide_eq_false hlt2; omega)
          repeat ((with_reducible apply stepS); (· conv => whnf))
          apply endS
          apply condF; (· (conv => whnf); try rfl)
          apply exitC
          apply exitC
          refine ⟨_, _, ?_, wk [4, 0, 2, 3] [2, 3] [199] [] [] [] rfl, j, _, acc, rfl, hj, by omega, rfl, by rw [hx, hF, hG, G_end hnil], rfl⟩
          have := of_decide_eq_false hlt2
          omega
        · have hj2 : j < l.length := by have := of_decide_eq_true hlt2; omega
          obtain ⟨c3, r3, hd3⟩ : ∃ c3 r3, l.drop j = c3 :: r3 := ⟨_, _, List.drop_eq_getElem_cons hj2⟩
          have hb3 := hby j c3 r3 hd3
          have f10 : (c3 == 10) = decide ((c3.toNat : Int) = 10) := u8eq c3 10
          repeat ((with_reducible apply stepS); (· conv => whnf))
          apply stepS; (· (conv => whnf); refine ⟨(by omega), ?_⟩; (conv => whnf))
          rw [hb3]
          repeat ((with_reducible apply stepS); (· conv => whnf))
          cases hm4 : decide ((c3.toNat : Int) = 10)
          · rw [hm4] at f10
            repeat ((with_reducible apply stepS); (· conv => whnf))
            apply endS
            apply condT; (· (conv => whnf); try rfl)
            apply skipC
            apply blockC
            apply regL
            repeat ((with_reducible apply stepS); (· conv => whnf))
            rw [i64_id (x := (j : Int) + 1) (by omega) (by omega)]
            apply endS
            refine ⟨_, _, ?_, wk [4, 0, 2, 3] [2, 3] [199] [] [] [] rfl, j + 1, rfl, by omega, by omega, by omega, hG.trans (G_step hd3 f10), rfl⟩
            omega
          · rw [hm4] at f10
            have hne : j ≠ i := by
              intro e
              subst e
              rw [hdr] at hd3
              cases hd3
              rw [hc] at f10
              cases f10
            repeat ((with_reducible apply stepS); (· conv => whnf))
            apply endS
            apply condF; (· (conv => whnf); try rfl)
            apply exitC
            apply exitC
            refine ⟨_, _, ?_, wk [4, 0, 2, 3] [2, 3] [199] [] [] [] rfl, j, _, acc, rfl, hj, by omega, rfl, by rw [hx, hF, hG, G_nl hd3 f10], rfl⟩
            omega
end Go.Proofs.YtoapgongbackaaaDoor.V
