/-
  Texts by numbers: what Digits, half, atom, expr, Expr, Source and Words make. Conditions stand in the theorems (not too many numbers).
-/
import Derived.Test.YtoapgongbackaaaDoorEF
import Derived.Test.YtoapgongbackaaaDoorEC
set_option linter.unusedVariables false
set_option linter.unusedSimpArgs false
/-! N1: texts by numbers: digits, halves, tables. -/
namespace Go.Proofs.YtoapgongbackaaaDoor.V
open Go Go.Proofs
open Go.Proofs.YtoapgongbackaaaDoor.Lx
set_option maxRecDepth 100000

/-- The cells of numbers. -/
def bytC (ns : List UInt8) : List (List AC) := ns.map fun b => [.v (.int .u8 (b.toNat : Int))]
abbrev bytA (ns : List UInt8) : AV := .one (.sl 5 1 (bytC ns) none)
abbrev strA (l : List UInt8) : AV := .one (.v (.string (ofL l)))
abbrev intA (n : Int) : AV := .one (.v (.int .i64 n))
theorem bytC_len (ns : List UInt8) : (bytC ns).length = ns.length := by simp [bytC]

def halfG (ns : List UInt8) : List UInt8 := ns.drop (ns.length / 2)
theorem halfG_len (ns : List UInt8) : (halfG ns).length ≤ ns.length := by simp [halfG]
theorem mk_size (l : List UInt8) : ByteArray.size ⟨l.toArray⟩ = l.length := ofL_size l
theorem nat_tdiv (n m : Nat) : ((n : Int).tdiv (m : Int)) = ((n / m : Nat) : Int) := rfl
theorem nat_tmod (n m : Nat) : ((n : Int).tmod (m : Int)) = ((n % m : Nat) : Int) := rfl
theorem i64_nat {n : Nat} (h : n ≤ 4611686018427387904) : IntKind.i64.wrap ((n : Nat) : Int) = (n : Int) := i64_id (by omega) (by omega)

theorem half_ct (ns : List UInt8) (h : ns.length ≤ 1000000) : Ct 70 [.val (bytA ns)] [.val (bytA (halfG ns))] [] := by
  have hl := bytC_len ns
  have h1 : ∀ x : Int, x = IntKind.i64.wrap (((bytC ns).length : Int).tdiv 2) → x = ((ns.length / 2 : Nat) : Int) := fun x hx => by
    rw [hx, hl]
    exact i64_nat (n := ns.length / 2) (by omega)
  refine ct Tryd.func70 (by kernel_rfl) ?_
  apply evF_of rfl
  apply seqC
  apply regL
  repeat ((with_reducible apply stepS); (· conv => whnf))
  apply endS; apply seqC; apply regL
  repeat ((with_reducible apply stepS); (· conv => whnf))
  apply stepS; (· (conv => whnf); refine ⟨(by decide), ?_⟩; (conv => whnf))
  repeat ((with_reducible apply stepS); (· conv => whnf))
  generalize hx : IntKind.i64.wrap (((bytC ns).length : Int).tdiv 2) = x
  have hx2 := h1 x hx.symm
  clear hx
  subst hx2
  apply stepS; (· (conv => whnf); refine ⟨⟨by omega, by rw [hl]; omega, Int.le_refl _⟩, ?_⟩; (conv => whnf))
  repeat ((with_reducible apply stepS); (· conv => whnf))
  apply endS
  apply retC
  conv => whnf
  refine ⟨?_, rfl⟩
  show [Res.val (AV.one (.sl 5 1 (List.drop ((ns.length / 2 : Nat) : Int).toNat (bytC ns)) none))] = [Res.val (bytA (halfG ns))]
  rw [Int.toNat_natCast]
  simp only [bytA, bytC, halfG, List.map_drop]

/-- The digits of a number. -/
def digF : Nat → Nat → List UInt8 → List UInt8
  | 0, n, s => UInt8.ofNat (48 + n) :: s
  | k + 1, n, s => if n < 10 then UInt8.ofNat (48 + n) :: s else digF k (n / 10) (UInt8.ofNat (48 + n % 10) :: s)
def digG (n : Nat) : List UInt8 := digF 3 n []
theorem digF_len : ∀ (k n : Nat) (s : List UInt8), (digF k n s).length ≤ s.length + k + 1
  | 0, n, s => by simp [digF]
  | k + 1, n, s => by
    unfold digF
    split
    · simp only [List.length_cons]; omega
    · have := digF_len k (n / 10) (UInt8.ofNat (48 + n % 10) :: s)
      simp only [List.length_cons] at this; omega
theorem dig_byte (n : Nat) (h : n < 10) : UInt8.ofNat (IntKind.u8.wrap (IntKind.i64.wrap (48 + ((n : Nat) : Int)))).toNat = UInt8.ofNat (48 + n) := by
  rw [i64_id (by omega) (by omega), u8_id (by omega) (by omega)]
  congr 1
set_option maxHeartbeats 4000000 in
theorem digits_ct (n : Nat) (h : n < 256) : Ct 92 [.val (intA (n : Int))] [.val (strA (digG n))] [] := by
  refine ct Tryd.func92 (by kernel_rfl) ?_
  apply evF_of rfl
  apply seqC
  apply regL
  repeat ((with_reducible apply stepS); (· conv => whnf))
  apply endS; apply seqC; apply regL
  repeat ((with_reducible apply stepS); (· conv => whnf))
  apply endS
  apply seqC
  apply blockC
  refine loopC (fun k st => ∃ (m : Nat) (s : List UInt8), m < 256 ∧ k = m ∧ s.length ≤ 1000 - m ∧ (∃ f, (m < 10 ^ (f + 1)) ∧ f ≤ 3 ∧ digF f m s = digG n) ∧ st = ⟨[(0, intA (m : Int)), (3, strA s)], [], []⟩)
    ⟨_, _, wk [0, 3] [] [] [] [] [] rfl, n, [], h, rfl, by simp, ⟨3, by omega, by decide, rfl⟩, rfl⟩ ?_
  rintro k st ⟨m, s, hm, rfl, hs, ⟨f, hf, hf3, he⟩, rfl⟩
  have hsz := ofL_size s
  apply seqC
  apply seqC
  apply regL
  repeat ((with_reducible apply stepS); (· conv => whnf))
  apply endS
  cases hlt : decide ((10 : Int) ≤ (k : Int))
  · apply condF; (· (conv => whnf); try rfl)
    apply exitC
    apply seqC
    apply regL
    repeat ((with_reducible apply stepS); (· conv => whnf))
    have hk : k < 10 := by have := of_decide_eq_false hlt; omega
    rw [dig_byte k hk]
    apply stepS; (· (conv => whnf); refine ⟨(by rw [hsz]; show 1 + s.length ≤ 4611686018427387904; omega), ?_⟩; (conv => whnf))
    repeat ((with_reducible apply stepS); (· conv => whnf))
    apply endS
    apply retC
    conv => whnf
    refine ⟨?_, rfl⟩
    have e : digG n = UInt8.ofNat (48 + k) :: s := by
      rw [← he]
      cases f with
      | zero => rfl
      | succ f => simp only [digF, if_pos hk]
    rw [e]
    show _ = [Res.val (.one (.v (.string (ofL [UInt8.ofNat (48 + k)] ++ ofL s))))]
    rw [ofL_append]
    rfl
  · apply condT; (· (conv => whnf); try rfl)
    apply skipC
    have hk : 10 ≤ k := by have := of_decide_eq_true hlt; omega
    apply blockC
    apply seqC
    apply regL
    repeat ((with_reducible apply stepS); (· conv => whnf))
    apply stepS; (· (conv => whnf); refine ⟨(by decide), ?_⟩; (conv => whnf))
    repeat ((with_reducible apply stepS); (· conv => whnf))
    have hm10 : ((k : Int).tmod 10) = ((k % 10 : Nat) : Int) := rfl
    rw [hm10]
    rw [dig_byte (k % 10) (Nat.mod_lt _ (by decide))]
    apply stepS; (· (conv => whnf); refine ⟨(by rw [hsz]; show 1 + s.length ≤ 4611686018427387904; omega), ?_⟩; (conv => whnf))
    repeat ((with_reducible apply stepS); (· conv => whnf))
    apply endS; apply regL
    repeat ((with_reducible apply stepS); (· conv => whnf))
    apply stepS; (· (conv => whnf); refine ⟨(by decide), ?_⟩; (conv => whnf))
    repeat ((with_reducible apply stepS); (· conv => whnf))
    have hm11 : IntKind.i64.wrap ((k : Int).tdiv 10) = ((k / 10 : Nat) : Int) := i64_nat (n := k / 10) (by omega)
    rw [hm11]
    apply endS
    obtain ⟨f', rfl⟩ : ∃ f', f = f' + 1 := ⟨f - 1, by
      cases f with
      | zero => simp at hf; omega
      | succ f => rfl⟩
    refine ⟨_, _, ?_, wk [0, 3] [] [] [] [] [] rfl, k / 10, UInt8.ofNat (48 + k % 10) :: s, by omega, rfl, ?_, ⟨f', ?_, by omega, ?_⟩, ?_⟩
    · omega
    · simp only [List.length_cons]; omega
    · rw [Nat.pow_succ] at hf
      omega
    · rw [← he]
      simp only [digF, if_neg (show ¬ k < 10 by omega)]
    · have : (⟨[UInt8.ofNat (48 + k % 10)].toArray⟩ : ByteArray) ++ ofL s = ofL (UInt8.ofNat (48 + k % 10) :: s) := by
        show ofL [UInt8.ofNat (48 + k % 10)] ++ ofL s = _
        rw [ofL_append]
        rfl
      show _ = (⟨[(0, intA ((k / 10 : Nat) : Int)), (3, .one (.v (.string (ofL (UInt8.ofNat (48 + k % 10) :: s)))))], [], []⟩ : St)
      rw [← this]
      rfl
end Go.Proofs.YtoapgongbackaaaDoor.V

/-! N2: atoms by numbers. -/
namespace Go.Proofs.YtoapgongbackaaaDoor.V
open Go Go.Proofs
open Go.Proofs.YtoapgongbackaaaDoor.Lx
set_option maxRecDepth 100000

def aNames : List (List UInt8) := [[120], [121], [102], [103], [105, 100]]
def aCons : List (List UInt8) := [[78, 105, 108], [67, 111, 110, 115], [83, 111, 109, 101], [78, 111, 110, 101], [79, 100, 100]]
def aBools : List (List UInt8) := [[116, 114, 117, 101], [102, 97, 108, 115, 101]]
def eLam : List (List UInt8) := [[120], [121], [102]]
def eLam2 : List (List UInt8) := [[], [32, 103], [32, 120, 32, 121]]
def eLet : List (List UInt8) := [[105, 100, 32, 120], [121], [102, 32, 120, 32, 121]]
def ePat : List (List UInt8) := [[67, 111, 110, 115, 32, 120, 32, 121, 32, 45, 62, 32], [83, 111, 109, 101, 32, 120, 32, 45, 62, 32], [78, 105, 108, 32, 45, 62, 32]]
def eAlt : List (List UInt8) := [[], [59, 32, 78, 111, 110, 101, 32, 45, 62, 32, 121], [59, 32, 78, 105, 108, 32, 45, 62, 32, 102, 32, 120]]
/-- The entry of a table. -/
def tabG (t : List (List UInt8)) (i : Nat) : List UInt8 := (t[i]?).getD []
theorem tab_len {t : List (List UInt8)} (h : (t.all fun l => Nat.ble l.length 20) = true) (i : Nat) : (tabG t i).length ≤ 20 := by
  unfold tabG
  cases hi : t[i]? with
  | none => simp
  | some l => exact Nat.le_of_ble_eq_true (List.all_eq_true.1 h l (List.mem_of_getElem? hi))
theorem tab_el (t : List (List UInt8)) {i : Nat} (h : i < t.length) {j : Int} (hj : j = (i : Int)) : 0 ≤ j ∧ (t.map fun l => [AC.v (.string (ofL l))])[j.toNat]? = some [.v (.string (ofL (tabG t i)))] := by
  subst hj
  exact ⟨by omega, by simp [tabG, h]⟩
theorem tab_ix {n : Nat} (hn : n < 256) (a m : Nat) : (IntKind.i64.wrap ((n : Int).tdiv (a : Int))).tmod (m : Int) = ((n / a % m : Nat) : Int) := by
  have : n / a ≤ n := Nat.div_le_self ..
  rw [nat_tdiv, i64_nat (by omega), nat_tmod]
theorem mk_ofL (l : List UInt8) : (⟨l.toArray⟩ : ByteArray) = ofL l := rfl
theorem d0 (n : Nat) : IntKind.i64.wrap (((n + 1 : Nat) : Int) - 1) = IntKind.i64.wrap (n : Int) := by
  congr 1
  omega
theorem dn {n : Nat} (h : n ≤ 100) : IntKind.i64.wrap (((n + 1 : Nat) : Int) - 1) = (n : Int) := by rw [d0, i64_nat (by omega)]
theorem byt_wrap (b : UInt8) : IntKind.i64.wrap (b.toNat : Int) = (b.toNat : Int) := i64_nat (by have := b.toNat_lt; omega)
theorem byt_ne (b : UInt8) (t : List UInt8) : decide (((bytC (b :: t)).length : Int) = 0) = false := by rw [bytC_len]; exact decide_eq_false (by simp only [List.length_cons]; omega)
theorem deep_ne (d : Nat) : decide (((d + 1 : Nat) : Int) < 1) = false := decide_eq_false (by omega)
theorem byt_cut (b : UInt8) (t : List UInt8) : 0 ≤ (1 : Int) ∧ (1 : Int) ≤ ((bytC (b :: t)).length : Int) ∧ ((bytC (b :: t)).length : Int) ≤ ((bytC (b :: t)).length : Int) := by rw [bytC_len]; simp only [List.length_cons]; omega

def atomS (E A : List UInt8 → List UInt8) : List UInt8 → List UInt8
  | [] => [120]
  | b :: t => match b.toNat % 8 with
    | 0 | 1 => tabG aNames (b.toNat / 8 % 5)
    | 2 => tabG aCons (b.toNat / 8 % 5)
    | 3 => digG b.toNat
    | 4 => tabG aBools (b.toNat / 8 % 2)
    | 5 => [40] ++ E t ++ [44, 32] ++ A (halfG (b :: t)) ++ [41]
    | _ => [40] ++ E t ++ [41]
def exprS (E A A' : List UInt8 → List UInt8) : List UInt8 → List UInt8
  | [] => [120]
  | b :: t => match b.toNat % 10 with
    | 0 | 1 => [92] ++ tabG eLam (b.toNat / 10 % 3) ++ tabG eLam2 (b.toNat / 30 % 3) ++ [32, 45, 62, 32] ++ E t
    | 2 => [108, 101, 116, 32] ++ tabG eLet (b.toNat / 10 % 3) ++ [32, 61, 32] ++ E t ++ [32, 105, 110, 32] ++ E (halfG (b :: t))
    | 3 => [105, 102, 32] ++ E t ++ [32, 116, 104, 101, 110, 32] ++ A (halfG (b :: t)) ++ [32, 101, 108, 115, 101, 32] ++ E (halfG (b :: t))
    | 4 => [99, 97, 115, 101, 32] ++ E t ++ [32, 111, 102, 32, 123] ++ tabG ePat (b.toNat / 10 % 3) ++ E (halfG (b :: t)) ++ tabG eAlt (b.toNat / 30 % 3) ++ [125]
    | 5 | 6 => A t ++ [32] ++ A (halfG (b :: t))
    | 7 => A t ++ [32] ++ A (halfG (b :: t)) ++ [32] ++ A (halfG t)
    | _ => A' (b :: t)
def genS : Nat → (List UInt8 → List UInt8) × (List UInt8 → List UInt8)
  | 0 => (fun _ => [120], fun _ => [120])
  | d + 1 => (exprS (genS d).1 (genS d).2 (atomS (genS d).1 (genS d).2), atomS (genS d).1 (genS d).2)
def exprG (d : Nat) : List UInt8 → List UInt8 := (genS d).1
def atomG (d : Nat) : List UInt8 → List UInt8 := (genS d).2

set_option maxHeartbeats 16000000 in
theorem atomS_ct {E A : List UInt8 → List UInt8} {d : Nat} (hd : d ≤ 100) (hE : ∀ ns, ns.length ≤ 1000 → Ct 37 [.val (bytA ns), .val (intA (d : Int))] [.val (strA (E ns))] []) (hA : ∀ ns, ns.length ≤ 1000 → Ct 71 [.val (bytA ns), .val (intA (d : Int))] [.val (strA (A ns))] []) (lE : ∀ ns, (E ns).length ≤ 10000000) (lA : ∀ ns, (A ns).length ≤ 10000000) (ns : List UInt8) (hn : ns.length ≤ 1000) :
    Ct 71 [.val (bytA ns), .val (intA ((d + 1 : Nat) : Int))] [.val (strA (atomS E A ns))] [] := by
  refine ct Tryd.func71 (by kernel_rfl) ?_
  apply evF_of rfl
  apply seqC
  apply regL
  repeat ((with_reducible apply stepS); (· conv => whnf))
  apply endS
  apply seqC
  apply seqC
  apply regL
  match ns, hn with
  | [], hn =>
    repeat ((with_reducible apply stepS); (· conv => whnf))
    apply endS
    apply condT; (· (conv => whnf); try rfl)
    apply seqC
    apply regL
    repeat ((with_reducible apply stepS); (· conv => whnf))
    apply endS
    apply retC
    conv => whnf
    exact ⟨rfl, rfl⟩
  | b :: t, hn =>
    have hb : b.toNat < 256 := b.toNat_lt
    have hw := byt_wrap b
    have hds := dn hd
    have hc := byt_cut b t
    have ht : t.length ≤ 1000 := by simp only [List.length_cons] at hn; omega
    have hh : (halfG (b :: t)).length ≤ 1000 := Nat.le_trans (halfG_len _) hn
    have hh' : (halfG t).length ≤ 1000 := Nat.le_trans (halfG_len _) ht
    apply stepS
    · conv => whnf
    apply stepS
    · conv => whnf
    apply stepS
    · conv => whnf
    rw [byt_ne]
    apply stepS
    · conv => whnf
    apply stepS
    · conv => whnf
    apply stepS
    · conv => whnf
    rw [deep_ne]
    repeat ((with_reducible apply stepS); (· conv => whnf))
    apply endS
    apply condF; (· (conv => whnf); try rfl)
    apply skipC
    apply seqC
    apply regL
    apply stepS
    · conv => whnf
    apply stepS
    · conv => whnf
      refine ⟨[.v (.int .u8 (b.toNat : Int))], ⟨by decide, rfl⟩, ?_⟩
      conv => whnf
    apply stepS
    · conv => whnf
    apply stepS
    · conv => whnf
    rw [hw]
    repeat ((with_reducible apply stepS); (· conv => whnf))
    apply endS
    apply seqC
    apply seqC
    apply regL
    apply stepS
    · conv => whnf
    apply stepS
    · conv => whnf
      refine ⟨by decide, ?_⟩
      conv => whnf
    generalize hK : Int.tmod (b.toNat : Int) _ = K
    obtain ⟨r, hr⟩ : ∃ r, b.toNat % 8 = r := ⟨_, rfl⟩
    have hK2 : K = (r : Int) := by rw [← hK, ← hr]; rfl
    have hr2 : r < 8 := by rw [← hr]; exact Nat.mod_lt _ (by decide)
    clear hK
    subst hK2
    apply endS
    apply blockC
    match r, hr, hr2 with
    | 0, hr, _ =>
    have he : atomS E A (b :: t) = tabG aNames (b.toNat / 8 % 5) := by simp only [atomS, hr]
    apply seqC
    apply seqC
    apply regL
    repeat ((with_reducible apply stepS); (· conv => whnf))
    apply endS
    apply condT; (· (conv => whnf); try rfl)
    apply skipC
    apply condT; (· (conv => whnf); try rfl)
    have f0 := lE t
    have f1 := lE (halfG (b :: t))
    have f2 := lA t
    have f3 := lA (halfG (b :: t))
    have f4 := lA (halfG t)
    have g_aNames := tab_len (t := aNames) (by decide) (b.toNat / 8 % 5)
    apply seqC
    apply regL
    apply stepS
    · conv => whnf
    apply stepS
    · conv => whnf
    apply stepS
    · conv => whnf
      refine ⟨by decide, ?_⟩
      conv => whnf
    apply stepS
    · conv => whnf
      refine ⟨by decide, ?_⟩
      conv => whnf
    apply stepS
    · conv => whnf
      refine ⟨_, tab_el aNames (i := b.toNat / 8 % 5) (Nat.mod_lt _ (by decide)) (tab_ix hb 8 5), ?_⟩
      conv => whnf
    apply stepS
    · conv => whnf
    apply stepS
    · conv => whnf
    apply endS
    apply retC
    conv => whnf
    refine ⟨?_, rfl⟩
    rw [he]
    | 1, hr, _ =>
    have he : atomS E A (b :: t) = tabG aNames (b.toNat / 8 % 5) := by simp only [atomS, hr]
    apply seqC
    apply seqC
    apply regL
    repeat ((with_reducible apply stepS); (· conv => whnf))
    apply endS
    apply condF; (· (conv => whnf); try rfl)
    apply regL
    repeat ((with_reducible apply stepS); (· conv => whnf))
    apply endS
    apply condT; (· (conv => whnf); try rfl)
    have f0 := lE t
    have f1 := lE (halfG (b :: t))
    have f2 := lA t
    have f3 := lA (halfG (b :: t))
    have f4 := lA (halfG t)
    have g_aNames := tab_len (t := aNames) (by decide) (b.toNat / 8 % 5)
    apply seqC
    apply regL
    apply stepS
    · conv => whnf
    apply stepS
    · conv => whnf
    apply stepS
    · conv => whnf
      refine ⟨by decide, ?_⟩
      conv => whnf
    apply stepS
    · conv => whnf
      refine ⟨by decide, ?_⟩
      conv => whnf
    apply stepS
    · conv => whnf
      refine ⟨_, tab_el aNames (i := b.toNat / 8 % 5) (Nat.mod_lt _ (by decide)) (tab_ix hb 8 5), ?_⟩
      conv => whnf
    apply stepS
    · conv => whnf
    apply stepS
    · conv => whnf
    apply endS
    apply retC
    conv => whnf
    refine ⟨?_, rfl⟩
    rw [he]
    | 2, hr, _ =>
    have he : atomS E A (b :: t) = tabG aCons (b.toNat / 8 % 5) := by simp only [atomS, hr]
    apply seqC
    apply seqC
    apply regL
    repeat ((with_reducible apply stepS); (· conv => whnf))
    apply endS
    apply condF; (· (conv => whnf); try rfl)
    apply regL
    repeat ((with_reducible apply stepS); (· conv => whnf))
    apply endS
    apply condF; (· (conv => whnf); try rfl)
    apply seqC
    apply regL
    repeat ((with_reducible apply stepS); (· conv => whnf))
    apply endS
    apply condT; (· (conv => whnf); try rfl)
    have f0 := lE t
    have f1 := lE (halfG (b :: t))
    have f2 := lA t
    have f3 := lA (halfG (b :: t))
    have f4 := lA (halfG t)
    have g_aCons := tab_len (t := aCons) (by decide) (b.toNat / 8 % 5)
    apply seqC
    apply regL
    apply stepS
    · conv => whnf
    apply stepS
    · conv => whnf
    apply stepS
    · conv => whnf
      refine ⟨by decide, ?_⟩
      conv => whnf
    apply stepS
    · conv => whnf
      refine ⟨by decide, ?_⟩
      conv => whnf
    apply stepS
    · conv => whnf
      refine ⟨_, tab_el aCons (i := b.toNat / 8 % 5) (Nat.mod_lt _ (by decide)) (tab_ix hb 8 5), ?_⟩
      conv => whnf
    apply stepS
    · conv => whnf
    apply stepS
    · conv => whnf
    apply endS
    apply retC
    conv => whnf
    refine ⟨?_, rfl⟩
    rw [he]
    | 3, hr, _ =>
    have he : atomS E A (b :: t) = digG b.toNat := by simp only [atomS, hr]
    apply seqC
    apply seqC
    apply regL
    repeat ((with_reducible apply stepS); (· conv => whnf))
    apply endS
    apply condF; (· (conv => whnf); try rfl)
    apply regL
    repeat ((with_reducible apply stepS); (· conv => whnf))
    apply endS
    apply condF; (· (conv => whnf); try rfl)
    apply seqC
    apply regL
    repeat ((with_reducible apply stepS); (· conv => whnf))
    apply endS
    apply condF; (· (conv => whnf); try rfl)
    apply seqC
    apply regL
    repeat ((with_reducible apply stepS); (· conv => whnf))
    apply endS
    apply condT; (· (conv => whnf); try rfl)
    have f0 := lE t
    have f1 := lE (halfG (b :: t))
    have f2 := lA t
    have f3 := lA (halfG (b :: t))
    have f4 := lA (halfG t)
    apply seqC
    apply regL
    apply stepS
    · conv => whnf
    apply stepS
    · conv => whnf
      refine ⟨_, _, digits_ct b.toNat hb, ?_⟩
      conv => whnf
    apply stepS
    · conv => whnf
    apply endS
    apply retC
    conv => whnf
    refine ⟨?_, rfl⟩
    rw [he]
    | 4, hr, _ =>
    have he : atomS E A (b :: t) = tabG aBools (b.toNat / 8 % 2) := by simp only [atomS, hr]
    apply seqC
    apply seqC
    apply regL
    repeat ((with_reducible apply stepS); (· conv => whnf))
    apply endS
    apply condF; (· (conv => whnf); try rfl)
    apply regL
    repeat ((with_reducible apply stepS); (· conv => whnf))
    apply endS
    apply condF; (· (conv => whnf); try rfl)
    apply seqC
    apply regL
    repeat ((with_reducible apply stepS); (· conv => whnf))
    apply endS
    apply condF; (· (conv => whnf); try rfl)
    apply seqC
    apply regL
    repeat ((with_reducible apply stepS); (· conv => whnf))
    apply endS
    apply condF; (· (conv => whnf); try rfl)
    apply seqC
    apply regL
    repeat ((with_reducible apply stepS); (· conv => whnf))
    apply endS
    apply condT; (· (conv => whnf); try rfl)
    have f0 := lE t
    have f1 := lE (halfG (b :: t))
    have f2 := lA t
    have f3 := lA (halfG (b :: t))
    have f4 := lA (halfG t)
    have g_aBools := tab_len (t := aBools) (by decide) (b.toNat / 8 % 2)
    apply seqC
    apply regL
    apply stepS
    · conv => whnf
    apply stepS
    · conv => whnf
    apply stepS
    · conv => whnf
      refine ⟨by decide, ?_⟩
      conv => whnf
    apply stepS
    · conv => whnf
      refine ⟨by decide, ?_⟩
      conv => whnf
    apply stepS
    · conv => whnf
      refine ⟨_, tab_el aBools (i := b.toNat / 8 % 2) (Nat.mod_lt _ (by decide)) (tab_ix hb 8 2), ?_⟩
      conv => whnf
    apply stepS
    · conv => whnf
    apply stepS
    · conv => whnf
    apply endS
    apply retC
    conv => whnf
    refine ⟨?_, rfl⟩
    rw [he]
    | 5, hr, _ =>
    have he : atomS E A (b :: t) = [40] ++ E t ++ [44, 32] ++ A (halfG (b :: t)) ++ [41] := by simp only [atomS, hr]
    apply seqC
    apply seqC
    apply regL
    repeat ((with_reducible apply stepS); (· conv => whnf))
    apply endS
    apply condF; (· (conv => whnf); try rfl)
    apply regL
    repeat ((with_reducible apply stepS); (· conv => whnf))
    apply endS
    apply condF; (· (conv => whnf); try rfl)
    apply seqC
    apply regL
    repeat ((with_reducible apply stepS); (· conv => whnf))
    apply endS
    apply condF; (· (conv => whnf); try rfl)
    apply seqC
    apply regL
    repeat ((with_reducible apply stepS); (· conv => whnf))
    apply endS
    apply condF; (· (conv => whnf); try rfl)
    apply seqC
    apply regL
    repeat ((with_reducible apply stepS); (· conv => whnf))
    apply endS
    apply condF; (· (conv => whnf); try rfl)
    apply seqC
    apply regL
    repeat ((with_reducible apply stepS); (· conv => whnf))
    apply endS
    apply condT; (· (conv => whnf); try rfl)
    have f0 := lE t
    have f1 := lE (halfG (b :: t))
    have f2 := lA t
    have f3 := lA (halfG (b :: t))
    have f4 := lA (halfG t)
    apply seqC
    apply regL
    apply stepS
    · conv => whnf
    apply stepS
    · conv => whnf
      refine ⟨hc, ?_⟩
      conv => whnf
    apply stepS
    · conv => whnf
    apply stepS
    · conv => whnf
    rw [hds]
    apply stepS
    · conv => whnf
      refine ⟨_, _, hE t ht, ?_⟩
      conv => whnf
    apply stepS
    · conv => whnf
      refine ⟨by (simp only [ByteArray.size_append, mk_size, ofL_size, List.length_cons, List.length_nil]; omega), ?_⟩
      conv => whnf
    apply stepS
    · conv => whnf
      refine ⟨by (simp only [ByteArray.size_append, mk_size, ofL_size, List.length_cons, List.length_nil]; omega), ?_⟩
      conv => whnf
    apply stepS
    · conv => whnf
    apply stepS
    · conv => whnf
      refine ⟨_, _, half_ct (b :: t) (by omega), ?_⟩
      conv => whnf
    apply stepS
    · conv => whnf
    apply stepS
    · conv => whnf
    rw [hds]
    apply stepS
    · conv => whnf
      refine ⟨_, _, hA _ hh, ?_⟩
      conv => whnf
    apply stepS
    · conv => whnf
      refine ⟨by (simp only [ByteArray.size_append, mk_size, ofL_size, List.length_cons, List.length_nil]; omega), ?_⟩
      conv => whnf
    apply stepS
    · conv => whnf
      refine ⟨by (simp only [ByteArray.size_append, mk_size, ofL_size, List.length_cons, List.length_nil]; omega), ?_⟩
      conv => whnf
    apply stepS
    · conv => whnf
    apply endS
    apply retC
    conv => whnf
    refine ⟨?_, rfl⟩
    rw [he]
    refine congrArg (fun s => [Res.val (AV.one (AC.v (Value.string s)))]) ?_
    simp only [mk_ofL, ofL_append]
    | 6, hr, _ =>
    have he : atomS E A (b :: t) = [40] ++ E t ++ [41] := by simp only [atomS, hr]
    apply seqC
    apply seqC
    apply regL
    repeat ((with_reducible apply stepS); (· conv => whnf))
    apply endS
    apply condF; (· (conv => whnf); try rfl)
    apply regL
    repeat ((with_reducible apply stepS); (· conv => whnf))
    apply endS
    apply condF; (· (conv => whnf); try rfl)
    apply seqC
    apply regL
    repeat ((with_reducible apply stepS); (· conv => whnf))
    apply endS
    apply condF; (· (conv => whnf); try rfl)
    apply seqC
    apply regL
    repeat ((with_reducible apply stepS); (· conv => whnf))
    apply endS
    apply condF; (· (conv => whnf); try rfl)
    apply seqC
    apply regL
    repeat ((with_reducible apply stepS); (· conv => whnf))
    apply endS
    apply condF; (· (conv => whnf); try rfl)
    apply seqC
    apply regL
    repeat ((with_reducible apply stepS); (· conv => whnf))
    apply endS
    apply condF; (· (conv => whnf); try rfl)
    apply skipC
    have f0 := lE t
    have f1 := lE (halfG (b :: t))
    have f2 := lA t
    have f3 := lA (halfG (b :: t))
    have f4 := lA (halfG t)
    apply seqC
    apply regL
    apply stepS
    · conv => whnf
    apply stepS
    · conv => whnf
      refine ⟨hc, ?_⟩
      conv => whnf
    apply stepS
    · conv => whnf
    apply stepS
    · conv => whnf
    rw [hds]
    apply stepS
    · conv => whnf
      refine ⟨_, _, hE t ht, ?_⟩
      conv => whnf
    apply stepS
    · conv => whnf
      refine ⟨by (simp only [ByteArray.size_append, mk_size, ofL_size, List.length_cons, List.length_nil]; omega), ?_⟩
      conv => whnf
    apply stepS
    · conv => whnf
      refine ⟨by (simp only [ByteArray.size_append, mk_size, ofL_size, List.length_cons, List.length_nil]; omega), ?_⟩
      conv => whnf
    apply stepS
    · conv => whnf
    apply endS
    apply retC
    conv => whnf
    refine ⟨?_, rfl⟩
    rw [he]
    refine congrArg (fun s => [Res.val (AV.one (AC.v (Value.string s)))]) ?_
    simp only [mk_ofL, ofL_append]
    | 7, hr, _ =>
    have he : atomS E A (b :: t) = [40] ++ E t ++ [41] := by simp only [atomS, hr]
    apply seqC
    apply seqC
    apply regL
    repeat ((with_reducible apply stepS); (· conv => whnf))
    apply endS
    apply condF; (· (conv => whnf); try rfl)
    apply regL
    repeat ((with_reducible apply stepS); (· conv => whnf))
    apply endS
    apply condF; (· (conv => whnf); try rfl)
    apply seqC
    apply regL
    repeat ((with_reducible apply stepS); (· conv => whnf))
    apply endS
    apply condF; (· (conv => whnf); try rfl)
    apply seqC
    apply regL
    repeat ((with_reducible apply stepS); (· conv => whnf))
    apply endS
    apply condF; (· (conv => whnf); try rfl)
    apply seqC
    apply regL
    repeat ((with_reducible apply stepS); (· conv => whnf))
    apply endS
    apply condF; (· (conv => whnf); try rfl)
    apply seqC
    apply regL
    repeat ((with_reducible apply stepS); (· conv => whnf))
    apply endS
    apply condF; (· (conv => whnf); try rfl)
    apply skipC
    have f0 := lE t
    have f1 := lE (halfG (b :: t))
    have f2 := lA t
    have f3 := lA (halfG (b :: t))
    have f4 := lA (halfG t)
    apply seqC
    apply regL
    apply stepS
    · conv => whnf
    apply stepS
    · conv => whnf
      refine ⟨hc, ?_⟩
      conv => whnf
    apply stepS
    · conv => whnf
    apply stepS
    · conv => whnf
    rw [hds]
    apply stepS
    · conv => whnf
      refine ⟨_, _, hE t ht, ?_⟩
      conv => whnf
    apply stepS
    · conv => whnf
      refine ⟨by (simp only [ByteArray.size_append, mk_size, ofL_size, List.length_cons, List.length_nil]; omega), ?_⟩
      conv => whnf
    apply stepS
    · conv => whnf
      refine ⟨by (simp only [ByteArray.size_append, mk_size, ofL_size, List.length_cons, List.length_nil]; omega), ?_⟩
      conv => whnf
    apply stepS
    · conv => whnf
    apply endS
    apply retC
    conv => whnf
    refine ⟨?_, rfl⟩
    rw [he]
    refine congrArg (fun s => [Res.val (AV.one (AC.v (Value.string s)))]) ?_
    simp only [mk_ofL, ofL_append]
end Go.Proofs.YtoapgongbackaaaDoor.V

/-! N3: expressions by numbers. -/
namespace Go.Proofs.YtoapgongbackaaaDoor.V
open Go Go.Proofs
open Go.Proofs.YtoapgongbackaaaDoor.Lx
set_option maxRecDepth 100000

set_option maxHeartbeats 16000000 in
theorem exprS_ct {E A A' : List UInt8 → List UInt8} {d : Nat} (hd : d ≤ 100) (hE : ∀ ns, ns.length ≤ 1000 → Ct 37 [.val (bytA ns), .val (intA (d : Int))] [.val (strA (E ns))] []) (hA : ∀ ns, ns.length ≤ 1000 → Ct 71 [.val (bytA ns), .val (intA (d : Int))] [.val (strA (A ns))] []) (hA' : ∀ ns, ns.length ≤ 1000 → Ct 71 [.val (bytA ns), .val (intA ((d + 1 : Nat) : Int))] [.val (strA (A' ns))] []) (lE : ∀ ns, (E ns).length ≤ 10000000) (lA : ∀ ns, (A ns).length ≤ 10000000) (ns : List UInt8) (hn : ns.length ≤ 1000) :
    Ct 37 [.val (bytA ns), .val (intA ((d + 1 : Nat) : Int))] [.val (strA (exprS E A A' ns))] [] := by
  refine ct Tryd.func37 (by kernel_rfl) ?_
  apply evF_of rfl
  apply seqC
  apply regL
  repeat ((with_reducible apply stepS); (· conv => whnf))
  apply endS
  apply seqC
  apply seqC
  apply regL
  match ns, hn with
  | [], hn =>
    repeat ((with_reducible apply stepS); (· conv => whnf))
    apply endS
    apply condT; (· (conv => whnf); try rfl)
    apply seqC
    apply regL
    repeat ((with_reducible apply stepS); (· conv => whnf))
    apply endS
    apply retC
    conv => whnf
    exact ⟨rfl, rfl⟩
  | b :: t, hn =>
    have hb : b.toNat < 256 := b.toNat_lt
    have hw := byt_wrap b
    have hds := dn hd
    have hc := byt_cut b t
    have ht : t.length ≤ 1000 := by simp only [List.length_cons] at hn; omega
    have hh : (halfG (b :: t)).length ≤ 1000 := Nat.le_trans (halfG_len _) hn
    have hh' : (halfG t).length ≤ 1000 := Nat.le_trans (halfG_len _) ht
    apply stepS
    · conv => whnf
    apply stepS
    · conv => whnf
    apply stepS
    · conv => whnf
    rw [byt_ne]
    apply stepS
    · conv => whnf
    apply stepS
    · conv => whnf
    apply stepS
    · conv => whnf
    rw [deep_ne]
    repeat ((with_reducible apply stepS); (· conv => whnf))
    apply endS
    apply condF; (· (conv => whnf); try rfl)
    apply skipC
    apply seqC
    apply regL
    apply stepS
    · conv => whnf
    apply stepS
    · conv => whnf
      refine ⟨[.v (.int .u8 (b.toNat : Int))], ⟨by decide, rfl⟩, ?_⟩
      conv => whnf
    apply stepS
    · conv => whnf
    apply stepS
    · conv => whnf
    rw [hw]
    repeat ((with_reducible apply stepS); (· conv => whnf))
    apply endS
    apply seqC
    apply regL
    apply stepS
    · conv => whnf
    apply stepS
    · conv => whnf
      refine ⟨hc, ?_⟩
      conv => whnf
    repeat ((with_reducible apply stepS); (· conv => whnf))
    apply endS
    apply seqC
    apply seqC
    apply regL
    apply stepS
    · conv => whnf
    apply stepS
    · conv => whnf
      refine ⟨by decide, ?_⟩
      conv => whnf
    generalize hK : Int.tmod (b.toNat : Int) _ = K
    obtain ⟨r, hr⟩ : ∃ r, b.toNat % 10 = r := ⟨_, rfl⟩
    have hK2 : K = (r : Int) := by rw [← hK, ← hr]; rfl
    have hr2 : r < 10 := by rw [← hr]; exact Nat.mod_lt _ (by decide)
    clear hK
    subst hK2
    apply endS
    apply blockC
    match r, hr, hr2 with
    | 0, hr, _ =>
    have he : exprS E A A' (b :: t) = [92] ++ tabG eLam (b.toNat / 10 % 3) ++ tabG eLam2 (b.toNat / 30 % 3) ++ [32, 45, 62, 32] ++ E t := by simp only [exprS, hr]
    apply seqC
    apply seqC
    apply regL
    repeat ((with_reducible apply stepS); (· conv => whnf))
    apply endS
    apply condT; (· (conv => whnf); try rfl)
    apply skipC
    apply condT; (· (conv => whnf); try rfl)
    have f0 := lE t
    have f1 := lE (halfG (b :: t))
    have f2 := lA t
    have f3 := lA (halfG (b :: t))
    have f4 := lA (halfG t)
    have g_eLam := tab_len (t := eLam) (by decide) (b.toNat / 10 % 3)
    have g_eLam2 := tab_len (t := eLam2) (by decide) (b.toNat / 30 % 3)
    apply seqC
    apply regDL
    apply stepD
    · conv => whnf
      refine ⟨⟨rfl, rfl⟩, ?_⟩
      conv => whnf
    apply stepD
    · conv => whnf
      refine ⟨⟨rfl, rfl⟩, ?_⟩
      conv => whnf
    apply stepD
    · conv => whnf
      refine ⟨by decide, ?_⟩
      conv => whnf
      refine ⟨⟨rfl, rfl⟩, ?_⟩
      conv => whnf
    apply stepD
    · conv => whnf
      refine ⟨by decide, ?_⟩
      conv => whnf
      refine ⟨⟨rfl, rfl⟩, ?_⟩
      conv => whnf
    apply stepD
    · conv => whnf
      refine ⟨_, tab_el eLam (i := b.toNat / 10 % 3) (Nat.mod_lt _ (by decide)) (tab_ix hb 10 3), ?_⟩
      conv => whnf
      refine ⟨⟨rfl, rfl⟩, ?_⟩
      conv => whnf
    apply stepD
    · conv => whnf
      refine ⟨⟨rfl, rfl⟩, ?_⟩
      conv => whnf
    apply stepD
    · conv => whnf
      refine ⟨by (simp only [ByteArray.size_append, mk_size, ofL_size, List.length_cons, List.length_nil]; omega), ?_⟩
      conv => whnf
      refine ⟨⟨rfl, rfl⟩, ?_⟩
      conv => whnf
    apply stepD
    · conv => whnf
      refine ⟨⟨rfl, rfl⟩, ?_⟩
      conv => whnf
    apply stepD
    · conv => whnf
      refine ⟨⟨rfl, rfl⟩, ?_⟩
      conv => whnf
    apply stepD
    · conv => whnf
      refine ⟨by decide, ?_⟩
      conv => whnf
      refine ⟨⟨rfl, rfl⟩, ?_⟩
      conv => whnf
    apply stepD
    · conv => whnf
      refine ⟨by decide, ?_⟩
      conv => whnf
      refine ⟨⟨rfl, rfl⟩, ?_⟩
      conv => whnf
    apply stepD
    · conv => whnf
      refine ⟨_, tab_el eLam2 (i := b.toNat / 30 % 3) (Nat.mod_lt _ (by decide)) (tab_ix hb 30 3), ?_⟩
      conv => whnf
      refine ⟨⟨rfl, rfl⟩, ?_⟩
      conv => whnf
    apply stepD
    · conv => whnf
      refine ⟨⟨rfl, rfl⟩, ?_⟩
      conv => whnf
    apply stepD
    · conv => whnf
      refine ⟨by (simp only [ByteArray.size_append, mk_size, ofL_size, List.length_cons, List.length_nil]; omega), ?_⟩
      conv => whnf
      refine ⟨⟨rfl, rfl⟩, ?_⟩
      conv => whnf
    apply stepD
    · conv => whnf
      refine ⟨by (simp only [ByteArray.size_append, mk_size, ofL_size, List.length_cons, List.length_nil]; omega), ?_⟩
      conv => whnf
      refine ⟨⟨rfl, rfl⟩, ?_⟩
      conv => whnf
    apply stepD
    · conv => whnf
      refine ⟨⟨rfl, rfl⟩, ?_⟩
      conv => whnf
    apply stepD
    · conv => whnf
      refine ⟨⟨rfl, rfl⟩, ?_⟩
      conv => whnf
    apply stepD
    · conv => whnf
      refine ⟨⟨rfl, rfl⟩, ?_⟩
      conv => whnf
    rw [hds]
    apply stepD
    · conv => whnf
      refine ⟨_, _, hE t ht, ?_⟩
      conv => whnf
      refine ⟨⟨rfl, rfl⟩, ?_⟩
      conv => whnf
    apply stepD
    · conv => whnf
      refine ⟨by (simp only [ByteArray.size_append, mk_size, ofL_size, List.length_cons, List.length_nil]; omega), ?_⟩
      conv => whnf
      refine ⟨⟨rfl, rfl⟩, ?_⟩
      conv => whnf
    apply stepD
    · conv => whnf
      refine ⟨⟨rfl, rfl⟩, ?_⟩
      conv => whnf
    apply endD; (· exact apart_of (by kernel_rfl))
    apply retC
    conv => whnf
    refine ⟨?_, rfl⟩
    rw [he]
    refine congrArg (fun s => [Res.val (AV.one (AC.v (Value.string s)))]) ?_
    simp only [mk_ofL, ofL_append]
    | 1, hr, _ =>
    have he : exprS E A A' (b :: t) = [92] ++ tabG eLam (b.toNat / 10 % 3) ++ tabG eLam2 (b.toNat / 30 % 3) ++ [32, 45, 62, 32] ++ E t := by simp only [exprS, hr]
    apply seqC
    apply seqC
    apply regL
    repeat ((with_reducible apply stepS); (· conv => whnf))
    apply endS
    apply condF; (· (conv => whnf); try rfl)
    apply regL
    repeat ((with_reducible apply stepS); (· conv => whnf))
    apply endS
    apply condT; (· (conv => whnf); try rfl)
    have f0 := lE t
    have f1 := lE (halfG (b :: t))
    have f2 := lA t
    have f3 := lA (halfG (b :: t))
    have f4 := lA (halfG t)
    have g_eLam := tab_len (t := eLam) (by decide) (b.toNat / 10 % 3)
    have g_eLam2 := tab_len (t := eLam2) (by decide) (b.toNat / 30 % 3)
    apply seqC
    apply regDL
    apply stepD
    · conv => whnf
      refine ⟨⟨rfl, rfl⟩, ?_⟩
      conv => whnf
    apply stepD
    · conv => whnf
      refine ⟨⟨rfl, rfl⟩, ?_⟩
      conv => whnf
    apply stepD
    · conv => whnf
      refine ⟨by decide, ?_⟩
      conv => whnf
      refine ⟨⟨rfl, rfl⟩, ?_⟩
      conv => whnf
    apply stepD
    · conv => whnf
      refine ⟨by decide, ?_⟩
      conv => whnf
      refine ⟨⟨rfl, rfl⟩, ?_⟩
      conv => whnf
    apply stepD
    · conv => whnf
      refine ⟨_, tab_el eLam (i := b.toNat / 10 % 3) (Nat.mod_lt _ (by decide)) (tab_ix hb 10 3), ?_⟩
      conv => whnf
      refine ⟨⟨rfl, rfl⟩, ?_⟩
      conv => whnf
    apply stepD
    · conv => whnf
      refine ⟨⟨rfl, rfl⟩, ?_⟩
      conv => whnf
    apply stepD
    · conv => whnf
      refine ⟨by (simp only [ByteArray.size_append, mk_size, ofL_size, List.length_cons, List.length_nil]; omega), ?_⟩
      conv => whnf
      refine ⟨⟨rfl, rfl⟩, ?_⟩
      conv => whnf
    apply stepD
    · conv => whnf
      refine ⟨⟨rfl, rfl⟩, ?_⟩
      conv => whnf
    apply stepD
    · conv => whnf
      refine ⟨⟨rfl, rfl⟩, ?_⟩
      conv => whnf
    apply stepD
    · conv => whnf
      refine ⟨by decide, ?_⟩
      conv => whnf
      refine ⟨⟨rfl, rfl⟩, ?_⟩
      conv => whnf
    apply stepD
    · conv => whnf
      refine ⟨by decide, ?_⟩
      conv => whnf
      refine ⟨⟨rfl, rfl⟩, ?_⟩
      conv => whnf
    apply stepD
    · conv => whnf
      refine ⟨_, tab_el eLam2 (i := b.toNat / 30 % 3) (Nat.mod_lt _ (by decide)) (tab_ix hb 30 3), ?_⟩
      conv => whnf
      refine ⟨⟨rfl, rfl⟩, ?_⟩
      conv => whnf
    apply stepD
    · conv => whnf
      refine ⟨⟨rfl, rfl⟩, ?_⟩
      conv => whnf
    apply stepD
    · conv => whnf
      refine ⟨by (simp only [ByteArray.size_append, mk_size, ofL_size, List.length_cons, List.length_nil]; omega), ?_⟩
      conv => whnf
      refine ⟨⟨rfl, rfl⟩, ?_⟩
      conv => whnf
    apply stepD
    · conv => whnf
      refine ⟨by (simp only [ByteArray.size_append, mk_size, ofL_size, List.length_cons, List.length_nil]; omega), ?_⟩
      conv => whnf
      refine ⟨⟨rfl, rfl⟩, ?_⟩
      conv => whnf
    apply stepD
    · conv => whnf
      refine ⟨⟨rfl, rfl⟩, ?_⟩
      conv => whnf
    apply stepD
    · conv => whnf
      refine ⟨⟨rfl, rfl⟩, ?_⟩
      conv => whnf
    apply stepD
    · conv => whnf
      refine ⟨⟨rfl, rfl⟩, ?_⟩
      conv => whnf
    rw [hds]
    apply stepD
    · conv => whnf
      refine ⟨_, _, hE t ht, ?_⟩
      conv => whnf
      refine ⟨⟨rfl, rfl⟩, ?_⟩
      conv => whnf
    apply stepD
    · conv => whnf
      refine ⟨by (simp only [ByteArray.size_append, mk_size, ofL_size, List.length_cons, List.length_nil]; omega), ?_⟩
      conv => whnf
      refine ⟨⟨rfl, rfl⟩, ?_⟩
      conv => whnf
    apply stepD
    · conv => whnf
      refine ⟨⟨rfl, rfl⟩, ?_⟩
      conv => whnf
    apply endD; (· exact apart_of (by kernel_rfl))
    apply retC
    conv => whnf
    refine ⟨?_, rfl⟩
    rw [he]
    refine congrArg (fun s => [Res.val (AV.one (AC.v (Value.string s)))]) ?_
    simp only [mk_ofL, ofL_append]
    | 2, hr, _ =>
    have he : exprS E A A' (b :: t) = [108, 101, 116, 32] ++ tabG eLet (b.toNat / 10 % 3) ++ [32, 61, 32] ++ E t ++ [32, 105, 110, 32] ++ E (halfG (b :: t)) := by simp only [exprS, hr]
    apply seqC
    apply seqC
    apply regL
    repeat ((with_reducible apply stepS); (· conv => whnf))
    apply endS
    apply condF; (· (conv => whnf); try rfl)
    apply regL
    repeat ((with_reducible apply stepS); (· conv => whnf))
    apply endS
    apply condF; (· (conv => whnf); try rfl)
    apply seqC
    apply regL
    repeat ((with_reducible apply stepS); (· conv => whnf))
    apply endS
    apply condT; (· (conv => whnf); try rfl)
    have f0 := lE t
    have f1 := lE (halfG (b :: t))
    have f2 := lA t
    have f3 := lA (halfG (b :: t))
    have f4 := lA (halfG t)
    have g_eLet := tab_len (t := eLet) (by decide) (b.toNat / 10 % 3)
    apply seqC
    apply regDL
    apply stepD
    · conv => whnf
      refine ⟨⟨rfl, rfl⟩, ?_⟩
      conv => whnf
    apply stepD
    · conv => whnf
      refine ⟨⟨rfl, rfl⟩, ?_⟩
      conv => whnf
    apply stepD
    · conv => whnf
      refine ⟨by decide, ?_⟩
      conv => whnf
      refine ⟨⟨rfl, rfl⟩, ?_⟩
      conv => whnf
    apply stepD
    · conv => whnf
      refine ⟨by decide, ?_⟩
      conv => whnf
      refine ⟨⟨rfl, rfl⟩, ?_⟩
      conv => whnf
    apply stepD
    · conv => whnf
      refine ⟨_, tab_el eLet (i := b.toNat / 10 % 3) (Nat.mod_lt _ (by decide)) (tab_ix hb 10 3), ?_⟩
      conv => whnf
      refine ⟨⟨rfl, rfl⟩, ?_⟩
      conv => whnf
    apply stepD
    · conv => whnf
      refine ⟨⟨rfl, rfl⟩, ?_⟩
      conv => whnf
    apply stepD
    · conv => whnf
      refine ⟨by (simp only [ByteArray.size_append, mk_size, ofL_size, List.length_cons, List.length_nil]; omega), ?_⟩
      conv => whnf
      refine ⟨⟨rfl, rfl⟩, ?_⟩
      conv => whnf
    apply stepD
    · conv => whnf
      refine ⟨by (simp only [ByteArray.size_append, mk_size, ofL_size, List.length_cons, List.length_nil]; omega), ?_⟩
      conv => whnf
      refine ⟨⟨rfl, rfl⟩, ?_⟩
      conv => whnf
    apply stepD
    · conv => whnf
      refine ⟨⟨rfl, rfl⟩, ?_⟩
      conv => whnf
    apply stepD
    · conv => whnf
      refine ⟨⟨rfl, rfl⟩, ?_⟩
      conv => whnf
    apply stepD
    · conv => whnf
      refine ⟨⟨rfl, rfl⟩, ?_⟩
      conv => whnf
    rw [hds]
    apply stepD
    · conv => whnf
      refine ⟨_, _, hE t ht, ?_⟩
      conv => whnf
      refine ⟨⟨rfl, rfl⟩, ?_⟩
      conv => whnf
    apply stepD
    · conv => whnf
      refine ⟨by (simp only [ByteArray.size_append, mk_size, ofL_size, List.length_cons, List.length_nil]; omega), ?_⟩
      conv => whnf
      refine ⟨⟨rfl, rfl⟩, ?_⟩
      conv => whnf
    apply stepD
    · conv => whnf
      refine ⟨by (simp only [ByteArray.size_append, mk_size, ofL_size, List.length_cons, List.length_nil]; omega), ?_⟩
      conv => whnf
      refine ⟨⟨rfl, rfl⟩, ?_⟩
      conv => whnf
    apply stepD
    · conv => whnf
      refine ⟨⟨rfl, rfl⟩, ?_⟩
      conv => whnf
    apply stepD
    · conv => whnf
      refine ⟨_, _, half_ct (b :: t) (by omega), ?_⟩
      conv => whnf
      refine ⟨⟨rfl, rfl⟩, ?_⟩
      conv => whnf
    apply stepD
    · conv => whnf
      refine ⟨⟨rfl, rfl⟩, ?_⟩
      conv => whnf
    apply stepD
    · conv => whnf
      refine ⟨⟨rfl, rfl⟩, ?_⟩
      conv => whnf
    rw [hds]
    apply stepD
    · conv => whnf
      refine ⟨_, _, hE _ hh, ?_⟩
      conv => whnf
      refine ⟨⟨rfl, rfl⟩, ?_⟩
      conv => whnf
    apply stepD
    · conv => whnf
      refine ⟨by (simp only [ByteArray.size_append, mk_size, ofL_size, List.length_cons, List.length_nil]; omega), ?_⟩
      conv => whnf
      refine ⟨⟨rfl, rfl⟩, ?_⟩
      conv => whnf
    apply stepD
    · conv => whnf
      refine ⟨⟨rfl, rfl⟩, ?_⟩
      conv => whnf
    apply endD; (· exact apart_of (by kernel_rfl))
    apply retC
    conv => whnf
    refine ⟨?_, rfl⟩
    rw [he]
    refine congrArg (fun s => [Res.val (AV.one (AC.v (Value.string s)))]) ?_
    simp only [mk_ofL, ofL_append]
    | 3, hr, _ =>
    have he : exprS E A A' (b :: t) = [105, 102, 32] ++ E t ++ [32, 116, 104, 101, 110, 32] ++ A (halfG (b :: t)) ++ [32, 101, 108, 115, 101, 32] ++ E (halfG (b :: t)) := by simp only [exprS, hr]
    apply seqC
    apply seqC
    apply regL
    repeat ((with_reducible apply stepS); (· conv => whnf))
    apply endS
    apply condF; (· (conv => whnf); try rfl)
    apply regL
    repeat ((with_reducible apply stepS); (· conv => whnf))
    apply endS
    apply condF; (· (conv => whnf); try rfl)
    apply seqC
    apply regL
    repeat ((with_reducible apply stepS); (· conv => whnf))
    apply endS
    apply condF; (· (conv => whnf); try rfl)
    apply seqC
    apply regL
    repeat ((with_reducible apply stepS); (· conv => whnf))
    apply endS
    apply condT; (· (conv => whnf); try rfl)
    have f0 := lE t
    have f1 := lE (halfG (b :: t))
    have f2 := lA t
    have f3 := lA (halfG (b :: t))
    have f4 := lA (halfG t)
    apply seqC
    apply regL
    apply stepS
    · conv => whnf
    apply stepS
    · conv => whnf
    apply stepS
    · conv => whnf
    rw [hds]
    apply stepS
    · conv => whnf
      refine ⟨_, _, hE t ht, ?_⟩
      conv => whnf
    apply stepS
    · conv => whnf
      refine ⟨by (simp only [ByteArray.size_append, mk_size, ofL_size, List.length_cons, List.length_nil]; omega), ?_⟩
      conv => whnf
    apply stepS
    · conv => whnf
      refine ⟨by (simp only [ByteArray.size_append, mk_size, ofL_size, List.length_cons, List.length_nil]; omega), ?_⟩
      conv => whnf
    apply stepS
    · conv => whnf
    apply stepS
    · conv => whnf
      refine ⟨_, _, half_ct (b :: t) (by omega), ?_⟩
      conv => whnf
    apply stepS
    · conv => whnf
    apply stepS
    · conv => whnf
    rw [hds]
    apply stepS
    · conv => whnf
      refine ⟨_, _, hA _ hh, ?_⟩
      conv => whnf
    apply stepS
    · conv => whnf
      refine ⟨by (simp only [ByteArray.size_append, mk_size, ofL_size, List.length_cons, List.length_nil]; omega), ?_⟩
      conv => whnf
    apply stepS
    · conv => whnf
      refine ⟨by (simp only [ByteArray.size_append, mk_size, ofL_size, List.length_cons, List.length_nil]; omega), ?_⟩
      conv => whnf
    apply stepS
    · conv => whnf
    apply stepS
    · conv => whnf
      refine ⟨_, _, half_ct (b :: t) (by omega), ?_⟩
      conv => whnf
    apply stepS
    · conv => whnf
    apply stepS
    · conv => whnf
    rw [hds]
    apply stepS
    · conv => whnf
      refine ⟨_, _, hE _ hh, ?_⟩
      conv => whnf
    apply stepS
    · conv => whnf
      refine ⟨by (simp only [ByteArray.size_append, mk_size, ofL_size, List.length_cons, List.length_nil]; omega), ?_⟩
      conv => whnf
    apply stepS
    · conv => whnf
    apply endS
    apply retC
    conv => whnf
    refine ⟨?_, rfl⟩
    rw [he]
    refine congrArg (fun s => [Res.val (AV.one (AC.v (Value.string s)))]) ?_
    simp only [mk_ofL, ofL_append]
    | 4, hr, _ =>
    have he : exprS E A A' (b :: t) = [99, 97, 115, 101, 32] ++ E t ++ [32, 111, 102, 32, 123] ++ tabG ePat (b.toNat / 10 % 3) ++ E (halfG (b :: t)) ++ tabG eAlt (b.toNat / 30 % 3) ++ [125] := by simp only [exprS, hr]
    apply seqC
    apply seqC
    apply regL
    repeat ((with_reducible apply stepS); (· conv => whnf))
    apply endS
    apply condF; (· (conv => whnf); try rfl)
    apply regL
    repeat ((with_reducible apply stepS); (· conv => whnf))
    apply endS
    apply condF; (· (conv => whnf); try rfl)
    apply seqC
    apply regL
    repeat ((with_reducible apply stepS); (· conv => whnf))
    apply endS
    apply condF; (· (conv => whnf); try rfl)
    apply seqC
    apply regL
    repeat ((with_reducible apply stepS); (· conv => whnf))
    apply endS
    apply condF; (· (conv => whnf); try rfl)
    apply seqC
    apply regL
    repeat ((with_reducible apply stepS); (· conv => whnf))
    apply endS
    apply condT; (· (conv => whnf); try rfl)
    have f0 := lE t
    have f1 := lE (halfG (b :: t))
    have f2 := lA t
    have f3 := lA (halfG (b :: t))
    have f4 := lA (halfG t)
    have g_ePat := tab_len (t := ePat) (by decide) (b.toNat / 10 % 3)
    have g_eAlt := tab_len (t := eAlt) (by decide) (b.toNat / 30 % 3)
    apply seqC
    apply regDL
    apply stepD
    · conv => whnf
      refine ⟨⟨rfl, rfl⟩, ?_⟩
      conv => whnf
    apply stepD
    · conv => whnf
      refine ⟨⟨rfl, rfl⟩, ?_⟩
      conv => whnf
    apply stepD
    · conv => whnf
      refine ⟨⟨rfl, rfl⟩, ?_⟩
      conv => whnf
    rw [hds]
    apply stepD
    · conv => whnf
      refine ⟨_, _, hE t ht, ?_⟩
      conv => whnf
      refine ⟨⟨rfl, rfl⟩, ?_⟩
      conv => whnf
    apply stepD
    · conv => whnf
      refine ⟨by (simp only [ByteArray.size_append, mk_size, ofL_size, List.length_cons, List.length_nil]; omega), ?_⟩
      conv => whnf
      refine ⟨⟨rfl, rfl⟩, ?_⟩
      conv => whnf
    apply stepD
    · conv => whnf
      refine ⟨by (simp only [ByteArray.size_append, mk_size, ofL_size, List.length_cons, List.length_nil]; omega), ?_⟩
      conv => whnf
      refine ⟨⟨rfl, rfl⟩, ?_⟩
      conv => whnf
    apply stepD
    · conv => whnf
      refine ⟨⟨rfl, rfl⟩, ?_⟩
      conv => whnf
    apply stepD
    · conv => whnf
      refine ⟨⟨rfl, rfl⟩, ?_⟩
      conv => whnf
    apply stepD
    · conv => whnf
      refine ⟨by decide, ?_⟩
      conv => whnf
      refine ⟨⟨rfl, rfl⟩, ?_⟩
      conv => whnf
    apply stepD
    · conv => whnf
      refine ⟨by decide, ?_⟩
      conv => whnf
      refine ⟨⟨rfl, rfl⟩, ?_⟩
      conv => whnf
    apply stepD
    · conv => whnf
      refine ⟨_, tab_el ePat (i := b.toNat / 10 % 3) (Nat.mod_lt _ (by decide)) (tab_ix hb 10 3), ?_⟩
      conv => whnf
      refine ⟨⟨rfl, rfl⟩, ?_⟩
      conv => whnf
    apply stepD
    · conv => whnf
      refine ⟨⟨rfl, rfl⟩, ?_⟩
      conv => whnf
    apply stepD
    · conv => whnf
      refine ⟨by (simp only [ByteArray.size_append, mk_size, ofL_size, List.length_cons, List.length_nil]; omega), ?_⟩
      conv => whnf
      refine ⟨⟨rfl, rfl⟩, ?_⟩
      conv => whnf
    apply stepD
    · conv => whnf
      refine ⟨⟨rfl, rfl⟩, ?_⟩
      conv => whnf
    apply stepD
    · conv => whnf
      refine ⟨_, _, half_ct (b :: t) (by omega), ?_⟩
      conv => whnf
      refine ⟨⟨rfl, rfl⟩, ?_⟩
      conv => whnf
    apply stepD
    · conv => whnf
      refine ⟨⟨rfl, rfl⟩, ?_⟩
      conv => whnf
    apply stepD
    · conv => whnf
      refine ⟨⟨rfl, rfl⟩, ?_⟩
      conv => whnf
    rw [hds]
    apply stepD
    · conv => whnf
      refine ⟨_, _, hE _ hh, ?_⟩
      conv => whnf
      refine ⟨⟨rfl, rfl⟩, ?_⟩
      conv => whnf
    apply stepD
    · conv => whnf
      refine ⟨by (simp only [ByteArray.size_append, mk_size, ofL_size, List.length_cons, List.length_nil]; omega), ?_⟩
      conv => whnf
      refine ⟨⟨rfl, rfl⟩, ?_⟩
      conv => whnf
    apply stepD
    · conv => whnf
      refine ⟨⟨rfl, rfl⟩, ?_⟩
      conv => whnf
    apply stepD
    · conv => whnf
      refine ⟨⟨rfl, rfl⟩, ?_⟩
      conv => whnf
    apply stepD
    · conv => whnf
      refine ⟨by decide, ?_⟩
      conv => whnf
      refine ⟨⟨rfl, rfl⟩, ?_⟩
      conv => whnf
    apply stepD
    · conv => whnf
      refine ⟨by decide, ?_⟩
      conv => whnf
      refine ⟨⟨rfl, rfl⟩, ?_⟩
      conv => whnf
    apply stepD
    · conv => whnf
      refine ⟨_, tab_el eAlt (i := b.toNat / 30 % 3) (Nat.mod_lt _ (by decide)) (tab_ix hb 30 3), ?_⟩
      conv => whnf
      refine ⟨⟨rfl, rfl⟩, ?_⟩
      conv => whnf
    apply stepD
    · conv => whnf
      refine ⟨⟨rfl, rfl⟩, ?_⟩
      conv => whnf
    apply stepD
    · conv => whnf
      refine ⟨by (simp only [ByteArray.size_append, mk_size, ofL_size, List.length_cons, List.length_nil]; omega), ?_⟩
      conv => whnf
      refine ⟨⟨rfl, rfl⟩, ?_⟩
      conv => whnf
    apply stepD
    · conv => whnf
      refine ⟨by (simp only [ByteArray.size_append, mk_size, ofL_size, List.length_cons, List.length_nil]; omega), ?_⟩
      conv => whnf
      refine ⟨⟨rfl, rfl⟩, ?_⟩
      conv => whnf
    apply stepD
    · conv => whnf
      refine ⟨⟨rfl, rfl⟩, ?_⟩
      conv => whnf
    apply endD; (· exact apart_of (by kernel_rfl))
    apply retC
    conv => whnf
    refine ⟨?_, rfl⟩
    rw [he]
    refine congrArg (fun s => [Res.val (AV.one (AC.v (Value.string s)))]) ?_
    simp only [mk_ofL, ofL_append]
    | 5, hr, _ =>
    have he : exprS E A A' (b :: t) = A t ++ [32] ++ A (halfG (b :: t)) := by simp only [exprS, hr]
    apply seqC
    apply seqC
    apply regL
    repeat ((with_reducible apply stepS); (· conv => whnf))
    apply endS
    apply condF; (· (conv => whnf); try rfl)
    apply regL
    repeat ((with_reducible apply stepS); (· conv => whnf))
    apply endS
    apply condF; (· (conv => whnf); try rfl)
    apply seqC
    apply regL
    repeat ((with_reducible apply stepS); (· conv => whnf))
    apply endS
    apply condF; (· (conv => whnf); try rfl)
    apply seqC
    apply regL
    repeat ((with_reducible apply stepS); (· conv => whnf))
    apply endS
    apply condF; (· (conv => whnf); try rfl)
    apply seqC
    apply regL
    repeat ((with_reducible apply stepS); (· conv => whnf))
    apply endS
    apply condF; (· (conv => whnf); try rfl)
    apply seqC
    apply seqC
    apply regL
    repeat ((with_reducible apply stepS); (· conv => whnf))
    apply endS
    apply condT; (· (conv => whnf); try rfl)
    apply skipC
    apply condT; (· (conv => whnf); try rfl)
    have f0 := lE t
    have f1 := lE (halfG (b :: t))
    have f2 := lA t
    have f3 := lA (halfG (b :: t))
    have f4 := lA (halfG t)
    apply seqC
    apply regL
    apply stepS
    · conv => whnf
    apply stepS
    · conv => whnf
    apply stepS
    · conv => whnf
    rw [hds]
    apply stepS
    · conv => whnf
      refine ⟨_, _, hA t ht, ?_⟩
      conv => whnf
    apply stepS
    · conv => whnf
      refine ⟨by (simp only [ByteArray.size_append, mk_size, ofL_size, List.length_cons, List.length_nil]; omega), ?_⟩
      conv => whnf
    apply stepS
    · conv => whnf
    apply stepS
    · conv => whnf
      refine ⟨_, _, half_ct (b :: t) (by omega), ?_⟩
      conv => whnf
    apply stepS
    · conv => whnf
    apply stepS
    · conv => whnf
    rw [hds]
    apply stepS
    · conv => whnf
      refine ⟨_, _, hA _ hh, ?_⟩
      conv => whnf
    apply stepS
    · conv => whnf
      refine ⟨by (simp only [ByteArray.size_append, mk_size, ofL_size, List.length_cons, List.length_nil]; omega), ?_⟩
      conv => whnf
    apply stepS
    · conv => whnf
    apply endS
    apply retC
    conv => whnf
    refine ⟨?_, rfl⟩
    rw [he]
    refine congrArg (fun s => [Res.val (AV.one (AC.v (Value.string s)))]) ?_
    simp only [mk_ofL, ofL_append]
    | 6, hr, _ =>
    have he : exprS E A A' (b :: t) = A t ++ [32] ++ A (halfG (b :: t)) := by simp only [exprS, hr]
    apply seqC
    apply seqC
    apply regL
    repeat ((with_reducible apply stepS); (· conv => whnf))
    apply endS
    apply condF; (· (conv => whnf); try rfl)
    apply regL
    repeat ((with_reducible apply stepS); (· conv => whnf))
    apply endS
    apply condF; (· (conv => whnf); try rfl)
    apply seqC
    apply regL
    repeat ((with_reducible apply stepS); (· conv => whnf))
    apply endS
    apply condF; (· (conv => whnf); try rfl)
    apply seqC
    apply regL
    repeat ((with_reducible apply stepS); (· conv => whnf))
    apply endS
    apply condF; (· (conv => whnf); try rfl)
    apply seqC
    apply regL
    repeat ((with_reducible apply stepS); (· conv => whnf))
    apply endS
    apply condF; (· (conv => whnf); try rfl)
    apply seqC
    apply seqC
    apply regL
    repeat ((with_reducible apply stepS); (· conv => whnf))
    apply endS
    apply condF; (· (conv => whnf); try rfl)
    apply regL
    repeat ((with_reducible apply stepS); (· conv => whnf))
    apply endS
    apply condT; (· (conv => whnf); try rfl)
    have f0 := lE t
    have f1 := lE (halfG (b :: t))
    have f2 := lA t
    have f3 := lA (halfG (b :: t))
    have f4 := lA (halfG t)
    apply seqC
    apply regL
    apply stepS
    · conv => whnf
    apply stepS
    · conv => whnf
    apply stepS
    · conv => whnf
    rw [hds]
    apply stepS
    · conv => whnf
      refine ⟨_, _, hA t ht, ?_⟩
      conv => whnf
    apply stepS
    · conv => whnf
      refine ⟨by (simp only [ByteArray.size_append, mk_size, ofL_size, List.length_cons, List.length_nil]; omega), ?_⟩
      conv => whnf
    apply stepS
    · conv => whnf
    apply stepS
    · conv => whnf
      refine ⟨_, _, half_ct (b :: t) (by omega), ?_⟩
      conv => whnf
    apply stepS
    · conv => whnf
    apply stepS
    · conv => whnf
    rw [hds]
    apply stepS
    · conv => whnf
      refine ⟨_, _, hA _ hh, ?_⟩
      conv => whnf
    apply stepS
    · conv => whnf
      refine ⟨by (simp only [ByteArray.size_append, mk_size, ofL_size, List.length_cons, List.length_nil]; omega), ?_⟩
      conv => whnf
    apply stepS
    · conv => whnf
    apply endS
    apply retC
    conv => whnf
    refine ⟨?_, rfl⟩
    rw [he]
    refine congrArg (fun s => [Res.val (AV.one (AC.v (Value.string s)))]) ?_
    simp only [mk_ofL, ofL_append]
    | 7, hr, _ =>
    have he : exprS E A A' (b :: t) = A t ++ [32] ++ A (halfG (b :: t)) ++ [32] ++ A (halfG t) := by simp only [exprS, hr]
    apply seqC
    apply seqC
    apply regL
    repeat ((with_reducible apply stepS); (· conv => whnf))
    apply endS
    apply condF; (· (conv => whnf); try rfl)
    apply regL
    repeat ((with_reducible apply stepS); (· conv => whnf))
    apply endS
    apply condF; (· (conv => whnf); try rfl)
    apply seqC
    apply regL
    repeat ((with_reducible apply stepS); (· conv => whnf))
    apply endS
    apply condF; (· (conv => whnf); try rfl)
    apply seqC
    apply regL
    repeat ((with_reducible apply stepS); (· conv => whnf))
    apply endS
    apply condF; (· (conv => whnf); try rfl)
    apply seqC
    apply regL
    repeat ((with_reducible apply stepS); (· conv => whnf))
    apply endS
    apply condF; (· (conv => whnf); try rfl)
    apply seqC
    apply seqC
    apply regL
    repeat ((with_reducible apply stepS); (· conv => whnf))
    apply endS
    apply condF; (· (conv => whnf); try rfl)
    apply regL
    repeat ((with_reducible apply stepS); (· conv => whnf))
    apply endS
    apply condF; (· (conv => whnf); try rfl)
    apply seqC
    apply regL
    repeat ((with_reducible apply stepS); (· conv => whnf))
    apply endS
    apply condT; (· (conv => whnf); try rfl)
    have f0 := lE t
    have f1 := lE (halfG (b :: t))
    have f2 := lA t
    have f3 := lA (halfG (b :: t))
    have f4 := lA (halfG t)
    apply seqC
    apply regL
    apply stepS
    · conv => whnf
    apply stepS
    · conv => whnf
    apply stepS
    · conv => whnf
    rw [hds]
    apply stepS
    · conv => whnf
      refine ⟨_, _, hA t ht, ?_⟩
      conv => whnf
    apply stepS
    · conv => whnf
      refine ⟨by (simp only [ByteArray.size_append, mk_size, ofL_size, List.length_cons, List.length_nil]; omega), ?_⟩
      conv => whnf
    apply stepS
    · conv => whnf
    apply stepS
    · conv => whnf
      refine ⟨_, _, half_ct (b :: t) (by omega), ?_⟩
      conv => whnf
    apply stepS
    · conv => whnf
    apply stepS
    · conv => whnf
    rw [hds]
    apply stepS
    · conv => whnf
      refine ⟨_, _, hA _ hh, ?_⟩
      conv => whnf
    apply stepS
    · conv => whnf
      refine ⟨by (simp only [ByteArray.size_append, mk_size, ofL_size, List.length_cons, List.length_nil]; omega), ?_⟩
      conv => whnf
    apply stepS
    · conv => whnf
      refine ⟨by (simp only [ByteArray.size_append, mk_size, ofL_size, List.length_cons, List.length_nil]; omega), ?_⟩
      conv => whnf
    apply stepS
    · conv => whnf
    apply stepS
    · conv => whnf
      refine ⟨_, _, half_ct t (by omega), ?_⟩
      conv => whnf
    apply stepS
    · conv => whnf
    apply stepS
    · conv => whnf
    rw [hds]
    apply stepS
    · conv => whnf
      refine ⟨_, _, hA _ hh', ?_⟩
      conv => whnf
    apply stepS
    · conv => whnf
      refine ⟨by (simp only [ByteArray.size_append, mk_size, ofL_size, List.length_cons, List.length_nil]; omega), ?_⟩
      conv => whnf
    apply stepS
    · conv => whnf
    apply endS
    apply retC
    conv => whnf
    refine ⟨?_, rfl⟩
    rw [he]
    refine congrArg (fun s => [Res.val (AV.one (AC.v (Value.string s)))]) ?_
    simp only [mk_ofL, ofL_append]
    | 8, hr, _ =>
    have he : exprS E A A' (b :: t) = A' (b :: t) := by simp only [exprS, hr]
    apply seqC
    apply seqC
    apply regL
    repeat ((with_reducible apply stepS); (· conv => whnf))
    apply endS
    apply condF; (· (conv => whnf); try rfl)
    apply regL
    repeat ((with_reducible apply stepS); (· conv => whnf))
    apply endS
    apply condF; (· (conv => whnf); try rfl)
    apply seqC
    apply regL
    repeat ((with_reducible apply stepS); (· conv => whnf))
    apply endS
    apply condF; (· (conv => whnf); try rfl)
    apply seqC
    apply regL
    repeat ((with_reducible apply stepS); (· conv => whnf))
    apply endS
    apply condF; (· (conv => whnf); try rfl)
    apply seqC
    apply regL
    repeat ((with_reducible apply stepS); (· conv => whnf))
    apply endS
    apply condF; (· (conv => whnf); try rfl)
    apply seqC
    apply seqC
    apply regL
    repeat ((with_reducible apply stepS); (· conv => whnf))
    apply endS
    apply condF; (· (conv => whnf); try rfl)
    apply regL
    repeat ((with_reducible apply stepS); (· conv => whnf))
    apply endS
    apply condF; (· (conv => whnf); try rfl)
    apply seqC
    apply regL
    repeat ((with_reducible apply stepS); (· conv => whnf))
    apply endS
    apply condF; (· (conv => whnf); try rfl)
    apply skipC
    have f0 := lE t
    have f1 := lE (halfG (b :: t))
    have f2 := lA t
    have f3 := lA (halfG (b :: t))
    have f4 := lA (halfG t)
    apply seqC
    apply regL
    apply stepS
    · conv => whnf
    apply stepS
    · conv => whnf
    apply stepS
    · conv => whnf
      refine ⟨_, _, hA' (b :: t) hn, ?_⟩
      conv => whnf
    apply stepS
    · conv => whnf
    apply endS
    apply retC
    conv => whnf
    refine ⟨?_, rfl⟩
    rw [he]
    | 9, hr, _ =>
    have he : exprS E A A' (b :: t) = A' (b :: t) := by simp only [exprS, hr]
    apply seqC
    apply seqC
    apply regL
    repeat ((with_reducible apply stepS); (· conv => whnf))
    apply endS
    apply condF; (· (conv => whnf); try rfl)
    apply regL
    repeat ((with_reducible apply stepS); (· conv => whnf))
    apply endS
    apply condF; (· (conv => whnf); try rfl)
    apply seqC
    apply regL
    repeat ((with_reducible apply stepS); (· conv => whnf))
    apply endS
    apply condF; (· (conv => whnf); try rfl)
    apply seqC
    apply regL
    repeat ((with_reducible apply stepS); (· conv => whnf))
    apply endS
    apply condF; (· (conv => whnf); try rfl)
    apply seqC
    apply regL
    repeat ((with_reducible apply stepS); (· conv => whnf))
    apply endS
    apply condF; (· (conv => whnf); try rfl)
    apply seqC
    apply seqC
    apply regL
    repeat ((with_reducible apply stepS); (· conv => whnf))
    apply endS
    apply condF; (· (conv => whnf); try rfl)
    apply regL
    repeat ((with_reducible apply stepS); (· conv => whnf))
    apply endS
    apply condF; (· (conv => whnf); try rfl)
    apply seqC
    apply regL
    repeat ((with_reducible apply stepS); (· conv => whnf))
    apply endS
    apply condF; (· (conv => whnf); try rfl)
    apply skipC
    have f0 := lE t
    have f1 := lE (halfG (b :: t))
    have f2 := lA t
    have f3 := lA (halfG (b :: t))
    have f4 := lA (halfG t)
    apply seqC
    apply regL
    apply stepS
    · conv => whnf
    apply stepS
    · conv => whnf
    apply stepS
    · conv => whnf
      refine ⟨_, _, hA' (b :: t) hn, ?_⟩
      conv => whnf
    apply stepS
    · conv => whnf
    apply endS
    apply retC
    conv => whnf
    refine ⟨?_, rfl⟩
    rw [he]
end Go.Proofs.YtoapgongbackaaaDoor.V

/-! N4: expressions by numbers at every depth; sources; words. -/
namespace Go.Proofs.YtoapgongbackaaaDoor.V
open Go Go.Proofs
open Go.Proofs.YtoapgongbackaaaDoor.Lx
set_option maxRecDepth 100000

set_option maxHeartbeats 4000000 in
theorem expr0_ct (ns : List UInt8) : Ct 37 [.val (bytA ns), .val (intA 0)] [.val (strA [120])] [] := by
  refine ct Tryd.func37 (by kernel_rfl) ?_
  apply evF_of rfl
  apply seqC
  apply regL
  repeat ((with_reducible apply stepS); (· conv => whnf))
  apply endS
  apply seqC
  apply seqC
  apply regL
  apply stepS
  · conv => whnf
  apply stepS
  · conv => whnf
  apply stepS
  · conv => whnf
  cases h : decide (((bytC ns).length : Int) = 0)
  all_goals
    repeat ((with_reducible apply stepS); (· conv => whnf))
    apply endS
    apply condT; (· (conv => whnf); try rfl)
    apply seqC
    apply regL
    repeat ((with_reducible apply stepS); (· conv => whnf))
    apply endS
    apply retC
    conv => whnf
    exact ⟨rfl, rfl⟩
set_option maxHeartbeats 4000000 in
theorem atom0_ct (ns : List UInt8) : Ct 71 [.val (bytA ns), .val (intA 0)] [.val (strA [120])] [] := by
  refine ct Tryd.func71 (by kernel_rfl) ?_
  apply evF_of rfl
  apply seqC
  apply regL
  repeat ((with_reducible apply stepS); (· conv => whnf))
  apply endS
  apply seqC
  apply seqC
  apply regL
  apply stepS
  · conv => whnf
  apply stepS
  · conv => whnf
  apply stepS
  · conv => whnf
  cases h : decide (((bytC ns).length : Int) = 0)
  all_goals
    repeat ((with_reducible apply stepS); (· conv => whnf))
    apply endS
    apply condT; (· (conv => whnf); try rfl)
    apply seqC
    apply regL
    repeat ((with_reducible apply stepS); (· conv => whnf))
    apply endS
    apply retC
    conv => whnf
    exact ⟨rfl, rfl⟩

theorem atomS_len {E A : List UInt8 → List UInt8} {m : Nat} (hE : ∀ ns, (E ns).length ≤ m) (hA : ∀ ns, (A ns).length ≤ m) (ns : List UInt8) : (atomS E A ns).length ≤ 2 * m + 20 := by
  unfold atomS
  split
  · simp
  · rename_i b t
    have f0 := hE t
    have f1 := hA (halfG (b :: t))
    have g0 := tab_len (t := aNames) (by decide) (b.toNat / 8 % 5)
    have g1 := tab_len (t := aCons) (by decide) (b.toNat / 8 % 5)
    have g2 := tab_len (t := aBools) (by decide) (b.toNat / 8 % 2)
    have g3 := digF_len 3 b.toNat []
    simp only [List.length_nil] at g3
    split <;> (try simp only [List.length_append, List.length_cons, List.length_nil, digG]) <;> omega
theorem exprS_len {E A A' : List UInt8 → List UInt8} {m : Nat} (hE : ∀ ns, (E ns).length ≤ m) (hA : ∀ ns, (A ns).length ≤ m) (hA' : ∀ ns, (A' ns).length ≤ 2 * m + 20) (ns : List UInt8) : (exprS E A A' ns).length ≤ 3 * m + 100 := by
  unfold exprS
  split
  · simp
  · rename_i b t
    have f0 := hE t
    have f1 := hE (halfG (b :: t))
    have f2 := hA t
    have f3 := hA (halfG (b :: t))
    have f4 := hA (halfG t)
    have f5 := hA' (b :: t)
    have g0 := tab_len (t := eLam) (by decide) (b.toNat / 10 % 3)
    have g1 := tab_len (t := eLam2) (by decide) (b.toNat / 30 % 3)
    have g2 := tab_len (t := eLet) (by decide) (b.toNat / 10 % 3)
    have g3 := tab_len (t := ePat) (by decide) (b.toNat / 10 % 3)
    have g4 := tab_len (t := eAlt) (by decide) (b.toNat / 30 % 3)
    split <;> (try simp only [List.length_append, List.length_cons, List.length_nil]) <;> omega
theorem genS_len : ∀ d, (∀ ns, (exprG d ns).length ≤ 100 * 4 ^ d) ∧ ∀ ns, (atomG d ns).length ≤ 100 * 4 ^ d
  | 0 => ⟨fun ns => by simp [exprG, genS], fun ns => by simp [atomG, genS]⟩
  | d + 1 => by
    obtain ⟨h1, h2⟩ := genS_len d
    have hp : 1 ≤ 4 ^ d := Nat.one_le_pow _ _ (by decide)
    have h3 : ∀ ns, (atomG (d + 1) ns).length ≤ 2 * (100 * 4 ^ d) + 20 := fun ns => atomS_len h1 h2 ns
    refine ⟨fun ns => ?_, fun ns => ?_⟩
    · have := exprS_len h1 h2 h3 ns
      rw [Nat.pow_succ]
      have e : exprG (d + 1) ns = exprS (exprG d) (atomG d) (atomG (d + 1)) ns := rfl
      rw [e]
      omega
    · have := h3 ns
      rw [Nat.pow_succ]
      omega
theorem pow4 {d : Nat} (h : d ≤ 8) : 100 * 4 ^ d ≤ 10000000 := Nat.le_trans (Nat.mul_le_mul_left _ (Nat.pow_le_pow_right (by decide) h)) (by decide)
theorem gen_ct : ∀ d : Nat, d ≤ 8 → (∀ ns, ns.length ≤ 1000 → Ct 37 [.val (bytA ns), .val (intA (d : Int))] [.val (strA (exprG d ns))] []) ∧ (∀ ns, ns.length ≤ 1000 → Ct 71 [.val (bytA ns), .val (intA (d : Int))] [.val (strA (atomG d ns))] [])
  | 0, _ => ⟨fun ns _ => expr0_ct ns, fun ns _ => atom0_ct ns⟩
  | d + 1, h => by
    obtain ⟨h1, h2⟩ := gen_ct d (by omega)
    have l1 : ∀ ns, (exprG d ns).length ≤ 10000000 := fun ns => Nat.le_trans ((genS_len d).1 ns) (pow4 (by omega))
    have l2 : ∀ ns, (atomG d ns).length ≤ 10000000 := fun ns => Nat.le_trans ((genS_len d).2 ns) (pow4 (by omega))
    have h3 : ∀ ns, ns.length ≤ 1000 → Ct 71 [.val (bytA ns), .val (intA ((d + 1 : Nat) : Int))] [.val (strA (atomG (d + 1) ns))] [] := fun ns hn => atomS_ct (by omega) h1 h2 l1 l2 ns hn
    exact ⟨fun ns hn => exprS_ct (A' := atomG (d + 1)) (by omega) h1 h2 h3 l1 l2 ns hn, h3⟩
def ExprG (ns : List UInt8) : List UInt8 := exprG 8 ns
theorem ExprG_len (ns : List UInt8) : (ExprG ns).length ≤ 10000000 := Nat.le_trans ((genS_len 8).1 ns) (pow4 (by decide))
theorem Expr_ct (ns : List UInt8) (hn : ns.length ≤ 1000) : Ct 18 [.val (bytA ns)] [.val (strA (ExprG ns))] [] := by
  refine ct Tryd.func18 (by kernel_rfl) ?_
  apply evF_of rfl
  apply seqC
  apply regL
  repeat ((with_reducible apply stepS); (· conv => whnf))
  apply endS; apply seqC; apply regL
  repeat ((with_reducible apply stepS); (· conv => whnf))
  apply stepS; (· (conv => whnf); refine ⟨_, _, (gen_ct 8 (by decide)).1 ns hn, ?_⟩; (conv => whnf))
  repeat ((with_reducible apply stepS); (· conv => whnf))
  apply endS
  apply retC
  conv => whnf
  exact ⟨rfl, rfl⟩

def sNames : List (List UInt8) := [[102], [103], [104, 32, 120], [105, 100, 32, 120], [107, 32, 120, 32, 121]]
def sDatas : List (List UInt8) := [[100, 97, 116, 97, 32, 76, 105, 115, 116, 32, 97, 32, 61, 32, 78, 105, 108, 32, 124, 32, 67, 111, 110, 115, 32, 97, 32, 40, 76, 105, 115, 116, 32, 97, 41, 59, 10], [100, 97, 116, 97, 32, 79, 112, 116, 32, 97, 32, 61, 32, 78, 111, 110, 101, 32, 124, 32, 83, 111, 109, 101, 32, 97, 59, 10], [100, 97, 116, 97, 32, 70, 32, 97, 32, 98, 32, 61, 32, 79, 100, 100, 32, 40, 97, 32, 45, 62, 32, 98, 41, 32, 40, 97, 44, 32, 73, 110, 116, 41, 32, 124, 32, 69, 118, 101, 110, 32, 66, 111, 111, 108, 59, 10]]
def lineG (i : Nat) : List UInt8 → List UInt8
  | [] => [108, 101, 116, 32] ++ tabG sNames (i % 5) ++ [32, 61, 32] ++ ExprG [] ++ [59, 10]
  | b :: t => if 230 < b.toNat then tabG sDatas (b.toNat % 3) else [108, 101, 116, 32] ++ tabG sNames (i % 5) ++ [32, 61, 32] ++ ExprG (b :: t) ++ [59, 10]
def srcF (i : Nat) : List (List UInt8) → List UInt8
  | [] => []
  | ns :: l => lineG i (ns.take 40) ++ srcF (i + 1) l
def sourceG (l : List (List UInt8)) : List UInt8 := srcF 0 (l.take 8)
theorem srcF_append : ∀ (a b : List (List UInt8)) (i : Nat), srcF i (a ++ b) = srcF i a ++ srcF (i + a.length) b
  | [], b, i => by simp [srcF]
  | ns :: a, b, i => by
    simp only [List.cons_append, srcF, srcF_append a b, List.append_assoc, List.length_cons]
    rw [show i + 1 + a.length = i + (a.length + 1) by omega]
theorem tab_len60 {t : List (List UInt8)} (h : (t.all fun l => Nat.ble l.length 60) = true) (i : Nat) : (tabG t i).length ≤ 60 := by
  unfold tabG
  cases hi : t[i]? with
  | none => simp
  | some l => exact Nat.le_of_ble_eq_true (List.all_eq_true.1 h l (List.mem_of_getElem? hi))
theorem lineG_len (i : Nat) (ns : List UInt8) : (lineG i ns).length ≤ 10000100 := by
  have f := ExprG_len
  unfold lineG
  split
  · have g := tab_len (t := sNames) (by decide) (i % 5)
    have f0 := f []
    simp only [List.length_append, List.length_cons, List.length_nil]
    omega
  · rename_i b t
    have g := tab_len (t := sNames) (by decide) (i % 5)
    have g2 := tab_len60 (t := sDatas) (by decide) (b.toNat % 3)
    have f0 := f (b :: t)
    split
    · omega
    · simp only [List.length_append, List.length_cons, List.length_nil]
      omega
/-- The cells of rows of numbers. -/
def rowsC (l : List (List UInt8)) : List (List AC) := l.map fun ns => [.sl 5 1 (bytC ns) none]
abbrev rowsA (l : List (List UInt8)) : AV := .one (.sl 38 1 (rowsC l) none)
theorem rowsC_len (l : List (List UInt8)) : (rowsC l).length = l.length := by simp [rowsC]
theorem rows_el {l : List (List UInt8)} {i : Nat} {ns : List UInt8} (h : l[i]? = some ns) {j : Int} (hj : j = (i : Int)) : 0 ≤ j ∧ (rowsC l)[j.toNat]? = some [.sl 5 1 (bytC ns) none] := by
  subst hj
  exact ⟨by omega, by simp [rowsC, h]⟩

def wTab : List (List UInt8) := [[108, 101, 116, 32], [120], [102, 32], [67, 111, 110, 115], [61], [45, 62], [92], [40], [41], [44], [123], [125], [59], [124], [100, 97, 116, 97, 32], [105, 110, 32], [49, 50], [48], [99, 97, 115, 101, 32], [111, 102, 32], [45, 45, 32, 114, 10], [10], [9], [32], [116, 114, 117, 101, 32], [105, 102, 32], [97, 95, 49], [84, 50, 32], [101, 108, 115, 101, 32], [116, 104, 101, 110, 32], [48, 48, 55], [95], [45], [62], [102, 97, 108, 115, 101], [50, 49, 52, 55, 52, 56, 51, 54, 52, 55], [50, 49, 52, 55, 52, 56, 51, 54, 52, 56]]
def wordsG (ns : List UInt8) : List UInt8 := ns.flatMap fun b => tabG wTab (b.toNat % 37)
end Go.Proofs.YtoapgongbackaaaDoor.V

/-! N5: sources and words: what functions 16 and 17 make. -/
namespace Go.Proofs.YtoapgongbackaaaDoor.V
open Go Go.Proofs
open Go.Proofs.YtoapgongbackaaaDoor.Lx
set_option maxRecDepth 100000

theorem cut40 (ns : List UInt8) : cutOf (bytC ns) 0 (if (40 : Int) < ((bytC ns).length : Int) then 40 else ((bytC ns).length : Int)) (some (intA (if (40 : Int) < ((bytC ns).length : Int) then 40 else ((bytC ns).length : Int)))) = bytC (ns.take 40) := by
  simp only [cutOf, bytC_len]
  have : (if (40 : Int) < (ns.length : Int) then (40 : Int) else (ns.length : Int)).toNat = min ns.length 40 := by split <;> omega
  rw [this]
  simp only [bytC, Int.toNat_zero, List.drop_zero, Nat.sub_zero, List.map_take]
  rw [← List.map_take, ← List.map_take]
  congr 1
  rcases Nat.le_total ns.length 40 with h | h
  · rw [Nat.min_eq_left h, List.take_of_length_le (Nat.le_refl _), List.take_of_length_le h]
  · rw [Nat.min_eq_right h]
theorem min40 (n : Nat) : (0 : Int) ≤ 0 ∧ 0 ≤ (fun a b : Int => if b < a then b else a) (n : Int) 40 ∧ (fun a b : Int => if b < a then b else a) (n : Int) 40 ≤ (n : Int) := by
  show (0 : Int) ≤ 0 ∧ 0 ≤ (if (40 : Int) < (n : Int) then (40 : Int) else (n : Int)) ∧ (if (40 : Int) < (n : Int) then (40 : Int) else (n : Int)) ≤ (n : Int)
  split <;> omega
theorem byt_pos (b : UInt8) (t : List UInt8) : decide (0 < ((bytC (b :: t)).length : Int)) = true := by rw [bytC_len]; exact decide_eq_true (by simp only [List.length_cons]; omega)
set_option maxHeartbeats 16000000 in
theorem source_ct (l : List (List UInt8)) : Ct 16 [.val (rowsA l)] [.val (strA (sourceG l))] [] := by
  refine ct Tryd.func16 (by kernel_rfl) ?_
  have hln := rowsC_len l
  apply evF_of rfl
  apply seqC
  apply regL
  repeat ((with_reducible apply stepS); (· conv => whnf))
  apply endS; apply seqC; apply regL
  repeat ((with_reducible apply stepS); (· conv => whnf))
  apply endS
  apply seqC
  apply seqC
  apply regL
  repeat ((with_reducible apply stepS); (· conv => whnf))
  apply endS
  apply blockC
  refine loopC (fun k st => ∃ (i : Nat) (z : Int), k = 8 - i ∧ i ≤ 8 ∧ i ≤ l.length ∧ z = (i : Int) ∧ st = ⟨[(4, intA z), (3, strA (srcF 0 (l.take i))), (0, rowsA l)], [], []⟩)
    ⟨_, _, wk [4, 3, 0] [] [] [] [] [] rfl, 0, 0, rfl, by decide, Nat.zero_le _, rfl, rfl⟩ ?_
  rintro k st ⟨i, z, rfl, hi8, hil, rfl, rfl⟩
  have hsl : (srcF 0 (l.take i)).length ≤ 10000100 * i := by
    have gen : ∀ (m : List (List UInt8)) (j : Nat), (srcF j m).length ≤ 10000100 * m.length := fun m => by
      induction m with
      | nil => intro j; simp [srcF]
      | cons ns m ih =>
        intro j
        have h1 := lineG_len j (ns.take 40)
        have h2 := ih (j + 1)
        simp only [srcF, List.length_append, List.length_cons]
        omega
    refine Nat.le_trans (gen _ 0) ?_
    simp only [List.length_take]
    exact Nat.mul_le_mul_left _ (Nat.min_le_left ..)
  apply seqC
  apply seqC
  apply regL
  apply stepS
  · conv => whnf
  apply stepS
  · conv => whnf
  apply stepS
  · conv => whnf
  apply stepS
  · conv => whnf
  cases hlt : decide ((i : Int) < ((rowsC l).length : Int))
  · repeat ((with_reducible apply stepS); (· conv => whnf))
    apply endS
    apply condF; (· (conv => whnf); try rfl)
    apply exitC
    apply seqC
    apply regL
    repeat ((with_reducible apply stepS); (· conv => whnf))
    apply endS
    apply retC
    conv => whnf
    refine ⟨?_, rfl⟩
    have hge := of_decide_eq_false hlt
    rw [hln] at hge
    have e : l.take i = l.take 8 := by rw [List.take_of_length_le (by omega), List.take_of_length_le (by omega)]
    show [Res.val (strA (srcF 0 (l.take i)))] = [Res.val (strA (sourceG l))]
    rw [e]
    rfl
  have hlt2 := of_decide_eq_true hlt
  rw [hln] at hlt2
  cases hl8 : decide ((i : Int) < 8)
  · apply stepS
    · conv => whnf
    apply stepS
    · conv => whnf
    apply stepS
    · conv => whnf
    rw [hl8]
    repeat ((with_reducible apply stepS); (· conv => whnf))
    apply endS
    apply condF; (· (conv => whnf); try rfl)
    apply exitC
    apply seqC
    apply regL
    repeat ((with_reducible apply stepS); (· conv => whnf))
    apply endS
    apply retC
    conv => whnf
    refine ⟨?_, rfl⟩
    have hge := of_decide_eq_false hl8
    obtain rfl : i = 8 := by omega
    rfl
  have hl82 := of_decide_eq_true hl8
  apply stepS
  · conv => whnf
  apply stepS
  · conv => whnf
  apply stepS
  · conv => whnf
  rw [hl8]
  repeat ((with_reducible apply stepS); (· conv => whnf))
  apply endS
  apply condT; (· (conv => whnf); try rfl)
  apply skipC
  obtain ⟨ns, hns⟩ : ∃ ns, l[i]? = some ns := ⟨l[i], List.getElem?_eq_getElem (by omega)⟩
  have htk : l.take (i + 1) = l.take i ++ [ns] := by rw [List.take_add_one, hns]; rfl
  have hlen1 : (l.take i).length = i := by simp only [List.length_take]; omega
  have hsrc : srcF 0 (l.take (i + 1)) = srcF 0 (l.take i) ++ lineG i (ns.take 40) := by
    rw [htk, srcF_append, hlen1, Nat.zero_add]
    simp only [srcF, List.append_nil]
  have hinc : IntKind.i64.wrap ((i : Int) + 1) = ((i + 1 : Nat) : Int) := i64_nat (n := i + 1) (by omega)
  have hnl := bytC_len ns
  apply seqC
  apply blockC
  apply seqC
  apply regDL
  apply stepD
  · conv => whnf
    refine ⟨⟨rfl, rfl⟩, ?_⟩
    conv => whnf
  apply stepD
  · conv => whnf
    refine ⟨⟨rfl, rfl⟩, ?_⟩
    conv => whnf
  apply stepD; (· (conv => whnf); refine ⟨_, rows_el hns rfl, ?_⟩; (conv => whnf); refine ⟨⟨rfl, rfl⟩, ?_⟩; (conv => whnf))
  apply stepD
  · conv => whnf
    refine ⟨⟨rfl, rfl⟩, ?_⟩
    conv => whnf
  apply stepD
  · conv => whnf
    refine ⟨⟨rfl, rfl⟩, ?_⟩
    conv => whnf
  apply stepD
  · conv => whnf
    refine ⟨⟨rfl, rfl⟩, ?_⟩
    conv => whnf
  apply stepD; (· (conv => whnf); refine ⟨_, rows_el hns rfl, ?_⟩; (conv => whnf); refine ⟨⟨rfl, rfl⟩, ?_⟩; (conv => whnf))
  apply stepD
  · conv => whnf
    refine ⟨⟨rfl, rfl⟩, ?_⟩
    conv => whnf
  apply stepD
  · conv => whnf
    refine ⟨⟨rfl, rfl⟩, ?_⟩
    conv => whnf
  apply stepD
  · conv => whnf
    refine ⟨⟨rfl, rfl⟩, ?_⟩
    conv => whnf
  apply stepD; (· (conv => whnf); refine ⟨(by rw [hnl]; exact min40 ns.length), ?_⟩; (conv => whnf); refine ⟨⟨rfl, rfl⟩, ?_⟩; (conv => whnf))
  rw [cut40]
  repeat ((with_reducible apply stepD); (· (conv => whnf); refine ⟨⟨rfl, rfl⟩, ?_⟩; (conv => whnf)))
  apply endD; (· exact apart_of (by kernel_rfl))
  apply seqC
  apply seqC
  apply regL
  have hs3 : (srcF 0 (l.take i)).length ≤ 100000000 := Nat.le_trans hsl (by omega)
  have g_n := tab_len (t := sNames) (by decide) (i % 5)
  match hb : ns.take 40 with
  | [] =>
    rw [hb] at hsrc
    have f0 := ExprG_len []
    have hns3 : ([] : List UInt8).length ≤ 1000 := by decide
    have el : lineG i [] = [108, 101, 116, 32] ++ tabG sNames (i % 5) ++ [32, 61, 32] ++ ExprG [] ++ [59, 10] := rfl
    repeat ((with_reducible apply stepS); (· conv => whnf))
    apply endS
    apply condF; (· (conv => whnf); try rfl)
    apply skipC
    apply regDL
    apply stepD
    · conv => whnf
      refine ⟨⟨rfl, rfl⟩, ?_⟩
      conv => whnf
    apply stepD; (· (conv => whnf); refine ⟨(by (simp only [ByteArray.size_append, mk_size, ofL_size, List.length_cons, List.length_nil]; omega)), ?_⟩; (conv => whnf); refine ⟨⟨rfl, rfl⟩, ?_⟩; (conv => whnf))
    apply stepD
    · conv => whnf
      refine ⟨⟨rfl, rfl⟩, ?_⟩
      conv => whnf
    apply stepD
    · conv => whnf
      refine ⟨⟨rfl, rfl⟩, ?_⟩
      conv => whnf
    apply stepD; (· (conv => whnf); refine ⟨(by decide), ?_⟩; (conv => whnf); refine ⟨⟨rfl, rfl⟩, ?_⟩; (conv => whnf))
    apply stepD; (· (conv => whnf); refine ⟨_, tab_el sNames (i := i % 5) (Nat.mod_lt _ (by decide)) rfl, ?_⟩; (conv => whnf); refine ⟨⟨rfl, rfl⟩, ?_⟩; (conv => whnf))
    apply stepD
    · conv => whnf
      refine ⟨⟨rfl, rfl⟩, ?_⟩
      conv => whnf
    apply stepD; (· (conv => whnf); refine ⟨(by (simp only [ByteArray.size_append, mk_size, ofL_size, List.length_cons, List.length_nil]; omega)), ?_⟩; (conv => whnf); refine ⟨⟨rfl, rfl⟩, ?_⟩; (conv => whnf))
    apply stepD; (· (conv => whnf); refine ⟨(by (simp only [ByteArray.size_append, mk_size, ofL_size, List.length_cons, List.length_nil]; omega)), ?_⟩; (conv => whnf); refine ⟨⟨rfl, rfl⟩, ?_⟩; (conv => whnf))
    apply stepD
    · conv => whnf
      refine ⟨⟨rfl, rfl⟩, ?_⟩
      conv => whnf
    apply stepD; (· (conv => whnf); refine ⟨_, _, Expr_ct [] hns3, ?_⟩; (conv => whnf); refine ⟨⟨rfl, rfl⟩, ?_⟩; (conv => whnf))
    apply stepD; (· (conv => whnf); refine ⟨(by (simp only [ByteArray.size_append, mk_size, ofL_size, List.length_cons, List.length_nil]; omega)), ?_⟩; (conv => whnf); refine ⟨⟨rfl, rfl⟩, ?_⟩; (conv => whnf))
    apply stepD; (· (conv => whnf); refine ⟨(by (simp only [ByteArray.size_append, mk_size, ofL_size, List.length_cons, List.length_nil]; omega)), ?_⟩; (conv => whnf); refine ⟨⟨rfl, rfl⟩, ?_⟩; (conv => whnf))
    apply stepD
    · conv => whnf
      refine ⟨⟨rfl, rfl⟩, ?_⟩
      conv => whnf
    apply endD; (· exact apart_of (by kernel_rfl))
    apply regL
    repeat ((with_reducible apply stepS); (· conv => whnf))
    apply endS
    refine ⟨_, _, ?_, wk [4, 3, 0] [] [] [] [] [] rfl, i + 1, _, rfl, by omega, by omega, hinc, ?_⟩
    · omega
    · rw [hsrc, el]
      show _ = (⟨[(4, intA (IntKind.i64.wrap ((i : Int) + 1))), (3, .one (.v (.string (ofL (srcF 0 (l.take i) ++ ([108, 101, 116, 32] ++ tabG sNames (i % 5) ++ [32, 61, 32] ++ ExprG [] ++ [59, 10])))))), (0, rowsA l)], [], []⟩ : St)
      rw [show ofL (srcF 0 (l.take i) ++ ([108, 101, 116, 32] ++ tabG sNames (i % 5) ++ [32, 61, 32] ++ ExprG [] ++ [59, 10])) = ofL (srcF 0 (l.take i)) ++ ofL [108, 101, 116, 32] ++ ofL (tabG sNames (i % 5)) ++ ofL [32, 61, 32] ++ ofL (ExprG []) ++ ofL [59, 10] by simp only [ofL_append, List.append_assoc]]
      rfl
  | b :: t =>
    rw [hb] at hsrc
    have f0 := ExprG_len (b :: t)
    have hns3 : (b :: t).length ≤ 1000 := by
      rw [← hb]
      simp only [List.length_take]
      omega
    apply stepS
    · conv => whnf
    apply stepS
    · conv => whnf
    apply stepS
    · conv => whnf
    rw [byt_pos]
    apply stepS
    · conv => whnf
    apply stepS
    · conv => whnf
    apply stepS
    · conv => whnf
      refine ⟨[.v (.int .u8 (b.toNat : Int))], ⟨by decide, rfl⟩, ?_⟩
      conv => whnf
    apply stepS
    · conv => whnf
    apply stepS
    · conv => whnf
    cases hbig : decide ((230 : Int) < (b.toNat : Int))
    · repeat ((with_reducible apply stepS); (· conv => whnf))
      apply endS
      apply condF; (· (conv => whnf); try rfl)
      apply skipC
      have hnb : ¬ 230 < b.toNat := by have := of_decide_eq_false hbig; omega
      have el : lineG i (b :: t) = [108, 101, 116, 32] ++ tabG sNames (i % 5) ++ [32, 61, 32] ++ ExprG (b :: t) ++ [59, 10] := by simp only [lineG, if_neg hnb]
      apply regDL
      apply stepD
      · conv => whnf
        refine ⟨⟨rfl, rfl⟩, ?_⟩
        conv => whnf
      apply stepD; (· (conv => whnf); refine ⟨(by (simp only [ByteArray.size_append, mk_size, ofL_size, List.length_cons, List.length_nil]; omega)), ?_⟩; (conv => whnf); refine ⟨⟨rfl, rfl⟩, ?_⟩; (conv => whnf))
      apply stepD
      · conv => whnf
        refine ⟨⟨rfl, rfl⟩, ?_⟩
        conv => whnf
      apply stepD
      · conv => whnf
        refine ⟨⟨rfl, rfl⟩, ?_⟩
        conv => whnf
      apply stepD; (· (conv => whnf); refine ⟨(by decide), ?_⟩; (conv => whnf); refine ⟨⟨rfl, rfl⟩, ?_⟩; (conv => whnf))
      apply stepD; (· (conv => whnf); refine ⟨_, tab_el sNames (i := i % 5) (Nat.mod_lt _ (by decide)) rfl, ?_⟩; (conv => whnf); refine ⟨⟨rfl, rfl⟩, ?_⟩; (conv => whnf))
      apply stepD
      · conv => whnf
        refine ⟨⟨rfl, rfl⟩, ?_⟩
        conv => whnf
      apply stepD; (· (conv => whnf); refine ⟨(by (simp only [ByteArray.size_append, mk_size, ofL_size, List.length_cons, List.length_nil]; omega)), ?_⟩; (conv => whnf); refine ⟨⟨rfl, rfl⟩, ?_⟩; (conv => whnf))
      apply stepD; (· (conv => whnf); refine ⟨(by (simp only [ByteArray.size_append, mk_size, ofL_size, List.length_cons, List.length_nil]; omega)), ?_⟩; (conv => whnf); refine ⟨⟨rfl, rfl⟩, ?_⟩; (conv => whnf))
      apply stepD
      · conv => whnf
        refine ⟨⟨rfl, rfl⟩, ?_⟩
        conv => whnf
      apply stepD; (· (conv => whnf); refine ⟨_, _, Expr_ct (b :: t) hns3, ?_⟩; (conv => whnf); refine ⟨⟨rfl, rfl⟩, ?_⟩; (conv => whnf))
      apply stepD; (· (conv => whnf); refine ⟨(by (simp only [ByteArray.size_append, mk_size, ofL_size, List.length_cons, List.length_nil]; omega)), ?_⟩; (conv => whnf); refine ⟨⟨rfl, rfl⟩, ?_⟩; (conv => whnf))
      apply stepD; (· (conv => whnf); refine ⟨(by (simp only [ByteArray.size_append, mk_size, ofL_size, List.length_cons, List.length_nil]; omega)), ?_⟩; (conv => whnf); refine ⟨⟨rfl, rfl⟩, ?_⟩; (conv => whnf))
      apply stepD
      · conv => whnf
        refine ⟨⟨rfl, rfl⟩, ?_⟩
        conv => whnf
      apply endD; (· exact apart_of (by kernel_rfl))
      apply regL
      repeat ((with_reducible apply stepS); (· conv => whnf))
      apply endS
      refine ⟨_, _, ?_, wk [4, 3, 0] [] [] [] [] [] rfl, i + 1, _, rfl, by omega, by omega, hinc, ?_⟩
      · omega
      · rw [hsrc, el]
        show _ = (⟨[(4, intA (IntKind.i64.wrap ((i : Int) + 1))), (3, .one (.v (.string (ofL (srcF 0 (l.take i) ++ ([108, 101, 116, 32] ++ tabG sNames (i % 5) ++ [32, 61, 32] ++ ExprG (b :: t) ++ [59, 10])))))), (0, rowsA l)], [], []⟩ : St)
        rw [show ofL (srcF 0 (l.take i) ++ ([108, 101, 116, 32] ++ tabG sNames (i % 5) ++ [32, 61, 32] ++ ExprG (b :: t) ++ [59, 10])) = ofL (srcF 0 (l.take i)) ++ ofL [108, 101, 116, 32] ++ ofL (tabG sNames (i % 5)) ++ ofL [32, 61, 32] ++ ofL (ExprG (b :: t)) ++ ofL [59, 10] by simp only [ofL_append, List.append_assoc]]
        rfl
    · repeat ((with_reducible apply stepS); (· conv => whnf))
      apply endS
      apply condT; (· (conv => whnf); try rfl)
      have hnb : 230 < b.toNat := by have := of_decide_eq_true hbig; omega
      have el : lineG i (b :: t) = tabG sDatas (b.toNat % 3) := by simp only [lineG, if_pos hnb]
      have g2 := tab_len60 (t := sDatas) (by decide) (b.toNat % 3)
      apply seqC
      apply regL
      apply stepS
      · conv => whnf
      apply stepS
      · conv => whnf
      apply stepS
      · conv => whnf
      apply stepS; (· (conv => whnf); refine ⟨_, ⟨by decide, rfl⟩, ?_⟩; (conv => whnf))
      apply stepS
      · conv => whnf
      apply stepS; (· (conv => whnf); refine ⟨(by decide), ?_⟩; (conv => whnf))
      apply stepS; (· (conv => whnf); refine ⟨_, tab_el sDatas (i := b.toNat % 3) (Nat.mod_lt _ (by decide)) rfl, ?_⟩; (conv => whnf))
      apply stepS
      · conv => whnf
      apply stepS; (· (conv => whnf); refine ⟨(by (simp only [ByteArray.size_append, mk_size, ofL_size, List.length_cons, List.length_nil]; omega)), ?_⟩; (conv => whnf))
      repeat ((with_reducible apply stepS); (· conv => whnf))
      apply endS
      apply exitC
      apply regL
      repeat ((with_reducible apply stepS); (· conv => whnf))
      apply endS
      refine ⟨_, _, ?_, wk [4, 3, 0] [] [] [] [] [] rfl, i + 1, _, rfl, by omega, by omega, hinc, ?_⟩
      · omega
      · rw [hsrc, el]
        show _ = (⟨[(4, intA (IntKind.i64.wrap ((i : Int) + 1))), (3, .one (.v (.string (ofL (srcF 0 (l.take i) ++ tabG sDatas (b.toNat % 3)))))), (0, rowsA l)], [], []⟩ : St)
        rw [← ofL_append]
        rfl
end Go.Proofs.YtoapgongbackaaaDoor.V

/-! N6: words by numbers. -/
namespace Go.Proofs.YtoapgongbackaaaDoor.V
open Go Go.Proofs
open Go.Proofs.YtoapgongbackaaaDoor.Lx
set_option maxRecDepth 100000

theorem wordsG_len (ns : List UInt8) : (wordsG ns).length ≤ 20 * ns.length := by
  induction ns with
  | nil => simp [wordsG]
  | cons b t ih =>
    have g := tab_len (t := wTab) (by decide) (b.toNat % 37)
    have : wordsG (b :: t) = tabG wTab (b.toNat % 37) ++ wordsG t := by simp [wordsG]
    rw [this, List.length_append, List.length_cons]
    omega
set_option maxHeartbeats 16000000 in
theorem words_ct (ns : List UInt8) (hn : ns.length ≤ 100) : Ct 17 [.val (bytA ns)] [.val (strA (wordsG ns))] [] := by
  refine ct Tryd.func17 (by kernel_rfl) ?_
  have hln := bytC_len ns
  apply evF_of rfl
  apply seqC
  apply regL
  repeat ((with_reducible apply stepS); (· conv => whnf))
  apply endS; apply seqC; apply regL
  repeat ((with_reducible apply stepS); (· conv => whnf))
  apply endS; apply seqC; apply regL
  repeat ((with_reducible apply stepS); (· conv => whnf))
  apply endS
  apply seqC
  apply seqC
  apply regL
  repeat ((with_reducible apply stepS); (· conv => whnf))
  apply endS
  apply blockC
  refine loopC (fun k st => ∃ (i : Nat) (z : Int), k = 100 - i ∧ i ≤ 100 ∧ i ≤ ns.length ∧ z = (i : Int) ∧ st = ⟨[(5, intA z), (4, strA (wordsG (ns.take i))), (3, .one (.sl 9 1 (wTab.map fun l => [AC.v (.string (ofL l))]) (some (6, 0)))), (0, bytA ns)], [], [(6, ⟨0, 9, 1, true⟩)]⟩)
    ⟨_, _, wk [5, 4, 3, 0] [] [6] [] [] [] rfl, 0, 0, rfl, by decide, Nat.zero_le _, rfl, rfl⟩ ?_
  rintro k st ⟨i, z, rfl, hi8, hil, rfl, rfl⟩
  have hsl : (wordsG (ns.take i)).length ≤ 2000 := by
    have := wordsG_len (ns.take i)
    simp only [List.length_take] at this
    omega
  apply seqC
  apply seqC
  apply regL
  apply stepS
  · conv => whnf
  apply stepS
  · conv => whnf
  apply stepS
  · conv => whnf
  apply stepS
  · conv => whnf
  cases hlt : decide ((i : Int) < ((bytC ns).length : Int))
  · repeat ((with_reducible apply stepS); (· conv => whnf))
    apply endS
    apply condF; (· (conv => whnf); try rfl)
    apply exitC
    apply seqC
    apply regL
    repeat ((with_reducible apply stepS); (· conv => whnf))
    apply endS
    apply retC
    conv => whnf
    refine ⟨?_, rfl⟩
    have hge := of_decide_eq_false hlt
    rw [hln] at hge
    show [Res.val (strA (wordsG (ns.take i)))] = [Res.val (strA (wordsG ns))]
    rw [List.take_of_length_le (by omega)]
  have hlt2 := of_decide_eq_true hlt
  rw [hln] at hlt2
  have hl2 : decide ((i : Int) < 200) = true := decide_eq_true (by omega)
  apply stepS
  · conv => whnf
  apply stepS
  · conv => whnf
  apply stepS
  · conv => whnf
  rw [hl2]
  repeat ((with_reducible apply stepS); (· conv => whnf))
  apply endS
  apply condT; (· (conv => whnf); try rfl)
  apply skipC
  obtain ⟨b, hb⟩ : ∃ b, ns[i]? = some b := ⟨ns[i], List.getElem?_eq_getElem (by omega)⟩
  have hb2 : b.toNat < 256 := b.toNat_lt
  have hw := byt_wrap b
  have hel : ∀ j : Int, j = (i : Int) → 0 ≤ j ∧ (bytC ns)[j.toNat]? = some [.v (.int .u8 (b.toNat : Int))] := fun j hj => by
    subst hj
    exact ⟨by omega, by simp [bytC, hb]⟩
  have hsrc : wordsG (ns.take (i + 1)) = wordsG (ns.take i) ++ tabG wTab (b.toNat % 37) := by
    rw [List.take_add_one, hb]
    simp [wordsG]
  have g_w := tab_len (t := wTab) (by decide) (b.toNat % 37)
  have hinc : IntKind.i64.wrap ((i : Int) + 1) = ((i + 1 : Nat) : Int) := i64_nat (n := i + 1) (by omega)
  apply seqC
  apply blockC
  apply regL
  apply stepS
  · conv => whnf
  apply stepS
  · conv => whnf
  apply stepS
  · conv => whnf
  apply stepS
  · conv => whnf
  apply stepS; (· (conv => whnf); refine ⟨_, hel _ rfl, ?_⟩; (conv => whnf))
  apply stepS
  · conv => whnf
  apply stepS
  · conv => whnf
  rw [hw]
  apply stepS
  · conv => whnf
  apply stepS
  · conv => whnf
  apply stepS; (· (conv => whnf); refine ⟨(by decide), ?_⟩; (conv => whnf))
  apply stepS; (· (conv => whnf); refine ⟨_, tab_el wTab (i := b.toNat % 37) (Nat.mod_lt _ (by decide)) rfl, ?_⟩; (conv => whnf))
  apply stepS
  · conv => whnf
  apply stepS; (· (conv => whnf); refine ⟨(by (simp only [ByteArray.size_append, mk_size, ofL_size, List.length_cons, List.length_nil]; omega)), ?_⟩; (conv => whnf))
  repeat ((with_reducible apply stepS); (· conv => whnf))
  apply endS
  apply regL
  repeat ((with_reducible apply stepS); (· conv => whnf))
  apply endS
  refine ⟨_, _, ?_, wk [5, 4, 3, 0] [] [6] [] [] [] rfl, i + 1, _, rfl, by omega, by omega, hinc, ?_⟩
  · omega
  · rw [hsrc]
    show _ = (⟨[(5, intA (IntKind.i64.wrap ((i : Int) + 1))), (4, .one (.v (.string (ofL (wordsG (ns.take i) ++ tabG wTab (b.toNat % 37)))))), (3, .one (.sl 9 1 (wTab.map fun l => [AC.v (.string (ofL l))]) (some (6, 0)))), (0, bytA ns)], [], [(6, ⟨0, 9, 1, true⟩)]⟩ : St)
    rw [← ofL_append]
    rfl
end Go.Proofs.YtoapgongbackaaaDoor.V
