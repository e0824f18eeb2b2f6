/-
  Sources by numbers are programs; one behind another; what may not stand behind a program. Conditions stand in the theorems.
-/
import Derived.Test.YtoapgongbackaaaDoorEK
import Derived.Test.YtoapgongbackaaaDoorEJ
import Derived.Test.YtoapgongbackaaaDoorEC
set_option linter.unusedVariables false
set_option linter.unusedSimpArgs false
/-! G9: sources by numbers are programs. -/
namespace Go.Proofs.YtoapgongbackaaaDoor.V
open Go Go.Proofs
open Go.Proofs.YtoapgongbackaaaDoor.Lx
set_option maxRecDepth 100000

def kData : Bt := (4, [100, 97, 116, 97], 0)
def bV : Bt := (5, [124], 0)
def atI (l : List Tok) (i : Nat) : Int := (l.getD i noTok).at_
theorem prog_data {k : Nat} {p : ProgD} {t : Tok} {m : List Tok} (h : bt t = kData) (hm : m ≠ []) : progP (k + 1) p (sT (t :: m)) = match dataP k (sT m) with
    | none => none
    | some (d, s1) => progP k ⟨p.datas ++ [d], p.binds⟩ s1 := by
  have h0 : decide ((sT (t :: m)).t.k = 0) = false := decide_eq_false (by rw [t_S, k_of h]; decide)
  have h1 : isS t dataS = true := isS_of h (by decide)
  simp only [progP, bad_S, h0, next_S, h1, take_S hm]
  rfl
/-- Tokens that are the cases of a data, read with these variables. -/
def IsC (vs : List (List UInt8)) (cbl : List Bt) (C : List Tok → List ConD) : Prop := ∀ (l : List Tok) (t : Tok) (m : List Tok), l.map bt = cbl → bt t = bS → m ≠ [] → ∀ k, consP (k + 60) (vs.map ofL) true [] (sT (l ++ t :: m)) = some (C l, sT (t :: m))
theorem data_run {vs : List (List UInt8)} {cbl : List Bt} {C : List Tok → List ConD} (c : List UInt8) (h : IsC vs cbl C) (l m : List Tok) (hl : l.map bt = kData :: (2, c, 0) :: (vs.map nmB ++ bQ :: (cbl ++ [bS]))) (hm : m ≠ []) (hlen : (l ++ m).length ≤ 4294967296) :
    ∀ k, 60 ≤ k → ∀ p, progP (k + 1) p (sT (l ++ m)) = progP k ⟨p.datas ++ [⟨ofL c, atI l 1, vs.map ofL, C ((l.drop (vs.length + 3)).take cbl.length)⟩], p.binds⟩ (sT m) := by
  obtain ⟨t1, l1, rfl, ht1, hl1⟩ := mapc hl
  obtain ⟨t2, l2, rfl, ht2, hl2⟩ := mapc hl1
  obtain ⟨l3, l4, rfl, hl3, hl4⟩ := mapa hl2
  obtain ⟨t3, l5, rfl, ht3, hl5⟩ := mapc hl4
  obtain ⟨l6, l7, rfl, hl6, hl7⟩ := mapa hl5
  obtain ⟨t4, rfl, ht4⟩ := map1 hl7
  obtain ⟨hn1, hn2⟩ := names_bt hl3
  have hl3n : l3.length = vs.length := by simpa using congrArg List.length hl3
  have hl6n : l6.length = cbl.length := by simpa using congrArg List.length hl6
  have ed : ((t1 :: t2 :: (l3 ++ t3 :: (l6 ++ [t4]))).drop (vs.length + 3)).take cbl.length = l6 := by
    have : (t1 :: t2 :: (l3 ++ t3 :: (l6 ++ [t4]))) = (t1 :: t2 :: (l3 ++ [t3])) ++ (l6 ++ [t4]) := by simp
    rw [this, List.drop_left' (by simp only [List.length_cons, List.length_append, List.length_nil]; omega), ← hl6n, List.take_left]
  rw [ed]
  have e1 : t1 :: t2 :: (l3 ++ t3 :: (l6 ++ [t4])) ++ m = t1 :: t2 :: (l3 ++ t3 :: (l6 ++ t4 :: m)) := by simp
  rw [e1] at hlen ⊢
  intro k hk p
  obtain ⟨k, rfl⟩ : ∃ j, k = j + 60 := ⟨k - 60, by omega⟩
  have hc := h l6 t4 m hl6 ht4 hm k
  rw [prog_data ht1 (by simp)]
  unfold dataP
  rw [need_S (isS_of ht2 rfl) (by simp)]
  simp only [names_S hn1 (eq_k ht3) (show (l3 ++ t3 :: (l6 ++ t4 :: m)).length ≤ 4294967296 by simp only [List.length_cons] at hlen ⊢; omega)]
  rw [need_S (isS_of ht3 (by decide)) (by simp), hn2]
  simp only [bad_S, Bool.not_false, hc]
  rw [need_S (isS_of ht4 (by decide)) hm, s_of ht2]
  rfl
theorem tok_of {t : Tok} {b : Bt} (h : bt t = b) : t = ⟨b.1, t.at_, ofL b.2.1, b.2.2⟩ := by
  rw [← h]
  obtain ⟨k, a, s, n⟩ := t
  simp only [bt, of_data]
def tyV (n : Int) : Ty := .mk 1 n .empty []
def tyN (s : List UInt8) (l : List Ty) : Ty := .mk 2 0 (ofL s) l
def cb0 : List Bt := [(2, [78, 105, 108], 0), bV, (2, [67, 111, 110, 115], 0), nmB [97], bL, (2, [76, 105, 115, 116], 0), nmB [97], bR]
def cd0 (l : List Tok) : List ConD := [⟨ofL [78, 105, 108], atI l 0, []⟩, ⟨ofL [67, 111, 110, 115], atI l 2, [tyV 0, tyN [76, 105, 115, 116] [tyV 0]]⟩]
theorem isc0 : IsC [[97]] cb0 cd0 := fun l t m hl ht hm k => by
  unfold cb0 at hl
  obtain ⟨t0, l0, rfl, g0, h0⟩ := mapc hl
  obtain ⟨t1, l1, rfl, g1, h1⟩ := mapc h0
  obtain ⟨t2, l2, rfl, g2, h2⟩ := mapc h1
  obtain ⟨t3, l3, rfl, g3, h3⟩ := mapc h2
  obtain ⟨t4, l4, rfl, g4, h4⟩ := mapc h3
  obtain ⟨t5, l5, rfl, g5, h5⟩ := mapc h4
  obtain ⟨t6, l6, rfl, g6, h6⟩ := mapc h5
  obtain ⟨t7, rfl, g7⟩ := map1 h6
  obtain ⟨x, m, rfl⟩ : ∃ x m', m = x :: m' := by cases m with | nil => exact absurd rfl hm | cons x m => exact ⟨x, m, rfl⟩
  have e0 := tok_of g0
  generalize t0.at_ = a0 at e0
  subst e0
  have e1 := tok_of g1
  generalize t1.at_ = a1 at e1
  subst e1
  have e2 := tok_of g2
  generalize t2.at_ = a2 at e2
  subst e2
  have e3 := tok_of g3
  generalize t3.at_ = a3 at e3
  subst e3
  have e4 := tok_of g4
  generalize t4.at_ = a4 at e4
  subst e4
  have e5 := tok_of g5
  generalize t5.at_ = a5 at e5
  subst e5
  have e6 := tok_of g6
  generalize t6.at_ = a6 at e6
  subst e6
  have e7 := tok_of g7
  generalize t7.at_ = a7 at e7
  subst e7
  have e := tok_of ht
  generalize t.at_ = a at e
  subst e
  show consP _ _ _ _ _ = some _
  kernel_rfl
def cb1 : List Bt := [(2, [78, 111, 110, 101], 0), bV, (2, [83, 111, 109, 101], 0), nmB [97]]
def cd1 (l : List Tok) : List ConD := [⟨ofL [78, 111, 110, 101], atI l 0, []⟩, ⟨ofL [83, 111, 109, 101], atI l 2, [tyV 0]⟩]
theorem isc1 : IsC [[97]] cb1 cd1 := fun l t m hl ht hm k => by
  unfold cb1 at hl
  obtain ⟨t0, l0, rfl, g0, h0⟩ := mapc hl
  obtain ⟨t1, l1, rfl, g1, h1⟩ := mapc h0
  obtain ⟨t2, l2, rfl, g2, h2⟩ := mapc h1
  obtain ⟨t3, rfl, g3⟩ := map1 h2
  obtain ⟨x, m, rfl⟩ : ∃ x m', m = x :: m' := by cases m with | nil => exact absurd rfl hm | cons x m => exact ⟨x, m, rfl⟩
  have e0 := tok_of g0
  generalize t0.at_ = a0 at e0
  subst e0
  have e1 := tok_of g1
  generalize t1.at_ = a1 at e1
  subst e1
  have e2 := tok_of g2
  generalize t2.at_ = a2 at e2
  subst e2
  have e3 := tok_of g3
  generalize t3.at_ = a3 at e3
  subst e3
  have e := tok_of ht
  generalize t.at_ = a at e
  subst e
  show consP _ _ _ _ _ = some _
  kernel_rfl
def cb2 : List Bt := [(2, [79, 100, 100], 0), bL, nmB [97], bA, nmB [98], bR, bL, nmB [97], bC, (2, [73, 110, 116], 0), bR, bV, (2, [69, 118, 101, 110], 0), (2, [66, 111, 111, 108], 0)]
def cd2 (l : List Tok) : List ConD := [⟨ofL [79, 100, 100], atI l 0, [tyN [45, 62] [tyV 0, tyV 1], tyN [44] [tyV 0, tyN [73, 110, 116] []]]⟩, ⟨ofL [69, 118, 101, 110], atI l 12, [tyN [66, 111, 111, 108] []]⟩]
theorem isc2 : IsC [[97], [98]] cb2 cd2 := fun l t m hl ht hm k => by
  unfold cb2 at hl
  obtain ⟨t0, l0, rfl, g0, h0⟩ := mapc hl
  obtain ⟨t1, l1, rfl, g1, h1⟩ := mapc h0
  obtain ⟨t2, l2, rfl, g2, h2⟩ := mapc h1
  obtain ⟨t3, l3, rfl, g3, h3⟩ := mapc h2
  obtain ⟨t4, l4, rfl, g4, h4⟩ := mapc h3
  obtain ⟨t5, l5, rfl, g5, h5⟩ := mapc h4
  obtain ⟨t6, l6, rfl, g6, h6⟩ := mapc h5
  obtain ⟨t7, l7, rfl, g7, h7⟩ := mapc h6
  obtain ⟨t8, l8, rfl, g8, h8⟩ := mapc h7
  obtain ⟨t9, l9, rfl, g9, h9⟩ := mapc h8
  obtain ⟨t10, l10, rfl, g10, h10⟩ := mapc h9
  obtain ⟨t11, l11, rfl, g11, h11⟩ := mapc h10
  obtain ⟨t12, l12, rfl, g12, h12⟩ := mapc h11
  obtain ⟨t13, rfl, g13⟩ := map1 h12
  obtain ⟨x, m, rfl⟩ : ∃ x m', m = x :: m' := by cases m with | nil => exact absurd rfl hm | cons x m => exact ⟨x, m, rfl⟩
  have e0 := tok_of g0
  generalize t0.at_ = a0 at e0
  subst e0
  have e1 := tok_of g1
  generalize t1.at_ = a1 at e1
  subst e1
  have e2 := tok_of g2
  generalize t2.at_ = a2 at e2
  subst e2
  have e3 := tok_of g3
  generalize t3.at_ = a3 at e3
  subst e3
  have e4 := tok_of g4
  generalize t4.at_ = a4 at e4
  subst e4
  have e5 := tok_of g5
  generalize t5.at_ = a5 at e5
  subst e5
  have e6 := tok_of g6
  generalize t6.at_ = a6 at e6
  subst e6
  have e7 := tok_of g7
  generalize t7.at_ = a7 at e7
  subst e7
  have e8 := tok_of g8
  generalize t8.at_ = a8 at e8
  subst e8
  have e9 := tok_of g9
  generalize t9.at_ = a9 at e9
  subst e9
  have e10 := tok_of g10
  generalize t10.at_ = a10 at e10
  subst e10
  have e11 := tok_of g11
  generalize t11.at_ = a11 at e11
  subst e11
  have e12 := tok_of g12
  generalize t12.at_ = a12 at e12
  subst e12
  have e13 := tok_of g13
  generalize t13.at_ = a13 at e13
  subst e13
  have e := tok_of ht
  generalize t.at_ = a at e
  subst e
  show consP _ _ _ _ _ = some _
  kernel_rfl
/-- Tokens that are declarations, one behind the other: what they come to, how many, how deep. -/
structure RunL (bl : List Bt) (D : List Tok → List DataD) (BT : List (ByteArray × Exp)) (ix : List Nat) (c : Nat) : Prop where
  run : ∀ (l m : List Tok), l.map bt = bl → m ≠ [] → (l ++ m).length ≤ 4294967296 → ∀ k, 5 * l.length + 60 ≤ k → ∃ bs : List BindD, bs.map (fun b => (b.s, bareE b.body)) = BT ∧ bs.map (·.at_) = ix.map (atI l) ∧
    ∀ p, progP (k + c) p (sT (l ++ m)) = progP k ⟨p.datas ++ D l, p.binds ++ bs⟩ (sT m)
  ixs : ∀ i ∈ ix, i < bl.length
  cnt : c ≤ bl.length
  deep : ∀ x ∈ BT, deepE x.2 ≤ 60
  flat : ∀ l, ∀ d ∈ D l, ∀ c ∈ d.cons, overFrom c.args 0 < 0
  dlen : ∀ l l', (D l).length = (D l').length
theorem RunL.nil : RunL [] (fun _ => []) [] [] 0 where
  run := fun l m hl hm hlen k hk => by
    obtain rfl : l = [] := by cases l with | nil => rfl | cons t l => cases hl
    exact ⟨[], rfl, rfl, fun p => by simp⟩
  ixs := by simp
  cnt := by simp
  deep := by simp
  flat := by simp
  dlen := fun _ _ => rfl
theorem atI_l {l1 l2 : List Tok} {i : Nat} (h : i < l1.length) : atI (l1 ++ l2) i = atI l1 i := by
  unfold atI
  rw [List.getD, List.getD, List.getElem?_append_left h]
theorem atI_r {l1 l2 : List Tok} {i n : Nat} (h : l1.length = n) : atI (l1 ++ l2) (n + i) = atI l2 i := by
  unfold atI
  subst h
  rw [List.getD, List.getD, List.getElem?_append_right (by omega)]
  congr 3
  omega
theorem RunL.app {b1 b2 : List Bt} {D1 D2 : List Tok → List DataD} {B1 B2 : List (ByteArray × Exp)} {i1 i2 : List Nat} {c1 c2 : Nat} (h1 : RunL b1 D1 B1 i1 c1) (h2 : RunL b2 D2 B2 i2 c2) :
    RunL (b1 ++ b2) (fun l => D1 (l.take b1.length) ++ D2 (l.drop b1.length)) (B1 ++ B2) (i1 ++ i2.map (b1.length + ·)) (c1 + c2) where
  run := fun l m hl hm hlen k hk => by
    obtain ⟨l1, l2, rfl, hl1, hl2⟩ := mapa hl
    have n1 : l1.length = b1.length := by simpa using congrArg List.length hl1
    rw [List.append_assoc] at hlen ⊢
    obtain ⟨s1, e1, a1, r1⟩ := h1.run l1 (l2 ++ m) hl1 (by simp [hm]) hlen (k + c2) (by simp only [List.length_append] at hk; omega)
    obtain ⟨s2, e2, a2, r2⟩ := h2.run l2 m hl2 hm (by simp only [List.length_append] at hlen ⊢; omega) k (by simp only [List.length_append] at hk; omega)
    refine ⟨s1 ++ s2, by rw [List.map_append, e1, e2], ?_, fun p => ?_⟩
    · rw [List.map_append, List.map_append, a1, a2, List.map_map]
      congr 1
      · exact List.map_congr_left fun i hi => (atI_l (by rw [n1]; exact h1.ixs i hi)).symm
      · exact List.map_congr_left fun i _ => (atI_r n1).symm
    · rw [show k + (c1 + c2) = k + c2 + c1 by omega, r1, r2, ← n1, List.take_left, List.drop_left]
      simp only [List.append_assoc]
  ixs := by
    intro i hi
    rw [List.length_append]
    rcases List.mem_append.1 hi with hi | hi
    · have := h1.ixs i hi; omega
    · obtain ⟨j, hj, rfl⟩ := List.mem_map.1 hi
      have := h2.ixs j hj; omega
  cnt := by rw [List.length_append]; have := h1.cnt; have := h2.cnt; omega
  deep := by
    intro x hx
    rcases List.mem_append.1 hx with hx | hx
    · exact h1.deep x hx
    · exact h2.deep x hx
  flat := by
    intro l d hd
    rcases List.mem_append.1 hd with hd | hd
    · exact h1.flat _ d hd
    · exact h2.flat _ d hd
  dlen := fun l l' => by rw [List.length_append, List.length_append, h1.dlen _ (l'.take b1.length), h2.dlen _ (l'.drop b1.length)]
theorem RunL.let {bl : List Bt} {T : Exp} {d : Nat} (n : List UInt8) (ns : List (List UInt8)) (h : IsE bl T) (hd : Dp T d) (hb : d + ns.length ≤ 60) : RunL (letB n ns bl) (fun _ => []) [(ofL n, lamB (ns.map ofL) T)] [1] 1 where
  run := fun l m hl hm hlen k hk => by
    obtain ⟨k0, q0, h0⟩ := bind_run n ns h l m hl hm hlen
    obtain ⟨e, he, hr⟩ := h0 k (by omega)
    exact ⟨[⟨ofL n, (l.getD 1 noTok).at_, e⟩], by simp only [List.map_cons, List.map_nil, he], rfl, fun p => by rw [hr, List.append_nil]⟩
  ixs := by
    intro i hi
    obtain rfl := List.mem_singleton.1 hi
    simp only [letB, List.length_cons]
    omega
  cnt := by simp only [letB, List.length_cons]; omega
  deep := by
    intro x hx
    obtain rfl := List.mem_singleton.1 hx
    have := (Dp.lamB hd (ns.map ofL) (by simp only [List.length_map]; omega)).2
    simp only [List.length_map] at this
    show deepE (lamB (ns.map ofL) T) ≤ 60
    omega
  flat := by simp
  dlen := fun _ _ => rfl
def dataB (c : List UInt8) (vs : List (List UInt8)) (cbl : List Bt) : List Bt := kData :: (2, c, 0) :: (vs.map nmB ++ bQ :: (cbl ++ [bS]))
def dataD (c : List UInt8) (vs : List (List UInt8)) (cbl : List Bt) (C : List Tok → List ConD) (l : List Tok) : List DataD := [⟨ofL c, atI l 1, vs.map ofL, C ((l.drop (vs.length + 3)).take cbl.length)⟩]
theorem RunL.data {vs : List (List UInt8)} {cbl : List Bt} {C : List Tok → List ConD} (c : List UInt8) (h : IsC vs cbl C) (hf : ∀ l, ∀ x ∈ C l, overFrom x.args 0 < 0) : RunL (dataB c vs cbl) (dataD c vs cbl C) [] [] 1 where
  run := fun l m hl hm hlen k hk => ⟨[], rfl, rfl, fun p => by
    rw [data_run c h l m hl hm hlen k (by omega) p, List.append_nil]
    rfl⟩
  ixs := by simp
  cnt := by simp only [dataB, List.length_cons]; omega
  deep := by simp
  flat := by
    intro l d hd
    obtain rfl := List.mem_singleton.1 hd
    exact hf _
  dlen := fun _ _ => rfl
/-- A text that ends a line, or is none. -/
def NL (x : List UInt8) : Prop := x = [] ∨ ∃ y, x = y ++ [10]
theorem NL.app {x y : List UInt8} (hx : NL x) (hy : NL y) : NL (x ++ y) := by
  rcases hy with rfl | ⟨z, rfl⟩
  · rw [List.append_nil]; exact hx
  · exact .inr ⟨x ++ z, by rw [List.append_assoc]⟩
/-- A text that is declarations. -/
def GS (x : List UInt8) : Prop := NL x ∧ ∃ bl D BT ix c, LxT true x bl ∧ RunL bl D BT ix c
theorem GS.app {x y : List UInt8} (hx : GS x) (hy : GS y) : GS (x ++ y) := by
  obtain ⟨n1, b1, D1, B1, i1, c1, l1, r1⟩ := hx
  obtain ⟨n2, b2, D2, B2, i2, c2, l2, r2⟩ := hy
  exact ⟨n1.app n2, _, _, _, _, _, l1.app l2 (fun h => by cases h), r1.app r2⟩
theorem s_name : ∀ i : Nat, i < 5 → ∃ (n : List UInt8) (ns : List (List UInt8)), ns.length ≤ 2 ∧ LxT true ([108, 101, 116, 32] ++ tabG sNames i ++ [32, 61, 32]) (kLet :: nmB n :: (ns.map nmB ++ [bQ]))
  | 0, _ => ⟨[102], [], by decide, goCh_lx (cs := [[108, 101, 116], [32], [102], [32], [61], [32]]) (by kernel_rfl)⟩
  | 1, _ => ⟨[103], [], by decide, goCh_lx (cs := [[108, 101, 116], [32], [103], [32], [61], [32]]) (by kernel_rfl)⟩
  | 2, _ => ⟨[104], [[120]], by decide, goCh_lx (cs := [[108, 101, 116], [32], [104], [32], [120], [32], [61], [32]]) (by kernel_rfl)⟩
  | 3, _ => ⟨[105, 100], [[120]], by decide, goCh_lx (cs := [[108, 101, 116], [32], [105, 100], [32], [120], [32], [61], [32]]) (by kernel_rfl)⟩
  | 4, _ => ⟨[107], [[120], [121]], by decide, goCh_lx (cs := [[108, 101, 116], [32], [107], [32], [120], [32], [121], [32], [61], [32]]) (by kernel_rfl)⟩
  | i + 5, h => absurd h (by omega)
theorem s_data : ∀ i : Nat, i < 3 → GS (tabG sDatas i)
  | 0, _ => ⟨.inr ⟨[100, 97, 116, 97, 32, 76, 105, 115, 116, 32, 97, 32, 61, 32, 78, 105, 108, 32, 124, 32, 67, 111, 110, 115, 32, 97, 32, 40, 76, 105, 115, 116, 32, 97, 41, 59], rfl⟩, dataB [76, 105, 115, 116] [[97]] cb0, _, _, _, _, goCh_lx (cs := [[100, 97, 116, 97], [32], [76, 105, 115, 116], [32], [97], [32], [61], [32], [78, 105, 108], [32], [124], [32], [67, 111, 110, 115], [32], [97], [32], [40], [76, 105, 115, 116], [32], [97], [41], [59], [10]]) (by kernel_rfl), .data [76, 105, 115, 116] isc0 (by intro l; simp only [cd0, List.mem_cons, List.not_mem_nil, or_false]; rintro x (rfl | rfl) <;> exact (by decide : (-1 : Int) < 0))⟩
  | 1, _ => ⟨.inr ⟨[100, 97, 116, 97, 32, 79, 112, 116, 32, 97, 32, 61, 32, 78, 111, 110, 101, 32, 124, 32, 83, 111, 109, 101, 32, 97, 59], rfl⟩, dataB [79, 112, 116] [[97]] cb1, _, _, _, _, goCh_lx (cs := [[100, 97, 116, 97], [32], [79, 112, 116], [32], [97], [32], [61], [32], [78, 111, 110, 101], [32], [124], [32], [83, 111, 109, 101], [32], [97], [59], [10]]) (by kernel_rfl), .data [79, 112, 116] isc1 (by intro l; simp only [cd1, List.mem_cons, List.not_mem_nil, or_false]; rintro x (rfl | rfl) <;> exact (by decide : (-1 : Int) < 0))⟩
  | 2, _ => ⟨.inr ⟨[100, 97, 116, 97, 32, 70, 32, 97, 32, 98, 32, 61, 32, 79, 100, 100, 32, 40, 97, 32, 45, 62, 32, 98, 41, 32, 40, 97, 44, 32, 73, 110, 116, 41, 32, 124, 32, 69, 118, 101, 110, 32, 66, 111, 111, 108, 59], rfl⟩, dataB [70] [[97], [98]] cb2, _, _, _, _, goCh_lx (cs := [[100, 97, 116, 97], [32], [70], [32], [97], [32], [98], [32], [61], [32], [79, 100, 100], [32], [40], [97], [32], [45, 62], [32], [98], [41], [32], [40], [97], [44], [32], [73, 110, 116], [41], [32], [124], [32], [69, 118, 101, 110], [32], [66, 111, 111, 108], [59], [10]]) (by kernel_rfl), .data [70] isc2 (by intro l; simp only [cd2, List.mem_cons, List.not_mem_nil, or_false]; rintro x (rfl | rfl) <;> exact (by decide : (-1 : Int) < 0))⟩
  | i + 3, h => absurd h (by omega)
theorem s_let (i : Nat) (ns : List UInt8) : GS ([108, 101, 116, 32] ++ tabG sNames (i % 5) ++ [32, 61, 32] ++ ExprG ns ++ [59, 10]) := by
  obtain ⟨n, xs, hxs, lx⟩ := s_name (i % 5) (Nat.mod_lt _ (by decide))
  obtain ⟨bl, T, l1, e1, d1⟩ := ExprG_ge ns
  refine ⟨.inr ⟨[108, 101, 116, 32] ++ tabG sNames (i % 5) ++ [32, 61, 32] ++ ExprG ns ++ [59], by simp only [List.append_assoc, List.cons_append, List.nil_append]⟩, letB n xs bl, _, _, _, _, ?_, RunL.let n xs e1 d1 (by omega)⟩
  have := (lx.app l1 (fun h => by cases h)).app (goCh_lx (cs := [[59], [10]]) (c := true) (bl := [bS]) (by kernel_rfl)) (fun _ => ⟨_, _, rfl, by decide⟩)
  simpa only [letB, List.flatten_cons, List.flatten_nil, List.append_assoc, List.cons_append, List.nil_append] using this
theorem lineG_gs (i : Nat) (ns : List UInt8) : GS (lineG i ns) := by
  unfold lineG
  split
  · exact s_let i []
  · rename_i b t
    split
    · exact s_data _ (Nat.mod_lt _ (by decide))
    · exact s_let i (b :: t)
theorem srcF_gs : ∀ (l : List (List UInt8)) (i : Nat), GS (srcF i l)
  | [], i => ⟨.inl rfl, [], _, _, _, _, .nil, .nil⟩
  | ns :: l, i => (lineG_gs i (ns.take 40)).app (srcF_gs l (i + 1))
theorem source_gs (l : List (List UInt8)) : GS (sourceG l) := srcF_gs _ 0
end Go.Proofs.YtoapgongbackaaaDoor.V

/-! G10: sources are read without a fault; one behind another. -/
namespace Go.Proofs.YtoapgongbackaaaDoor.V
open Go Go.Proofs
open Go.Proofs.YtoapgongbackaaaDoor.Lx
set_option maxRecDepth 100000

theorem low_con : ∀ (l : List ConD) (a : Int), (∀ c ∈ l, overFrom c.args 0 < 0) → lowC a l = a
  | [], a, _ => rfl
  | c :: l, a, h => by
    rw [lowC, decide_eq_false (by have := h c (List.mem_cons_self ..); omega)]
    exact low_con l a fun x hx => h x (List.mem_cons_of_mem _ hx)
theorem low_flat : ∀ (ds : List DataD) (a : Int), (∀ d ∈ ds, ∀ c ∈ d.cons, overFrom c.args 0 < 0) → lowD a ds = a
  | [], a, _ => rfl
  | d :: ds, a, h => by
    rw [lowD, low_con _ _ (h d (List.mem_cons_self ..))]
    exact low_flat ds a fun x hx => h x (List.mem_cons_of_mem _ hx)
theorem join_ok (x : Except Nat (List Tk)) : joinE x (.ok []) = x := by cases x <;> simp [joinE]
theorem shift_zero (x : Except Nat (List Tk)) : shiftE 0 x = x := by
  cases x with
  | error e => rfl
  | ok ts =>
    simp only [shiftE, Except.ok.injEq]
    rw [show shift 0 = id from funext fun t => by simp [shift]]
    simp
theorem join_lex {a : List UInt8} (h : NL a) (b : List UInt8) : lexL (a ++ b) = joinE (lexL a) (shiftE a.length (lexL b)) := by
  rcases h with rfl | ⟨y, rfl⟩
  · rw [List.nil_append, show lexL [] = .ok [] by rw [lexL_S, lexS_nil], join_nil, List.length_nil, shift_zero]
  · have e : y ++ [10] ++ b = y ++ 10 :: b := by simp
    rw [e, lexL_S, lexS_join b _ 0 y (Nat.le_refl _), lexL_S (y ++ [10]), lexS_join [] _ 0 y (Nat.le_refl _), lexS_nil, join_ok]
    congr 1
    rw [lexS_at]
    congr 1
    simp
/-- The tokens of a text that is declarations, read. -/
theorem parse_src {x : List UInt8} {ts : List Tk} {bl : List Bt} {D : List Tok → List DataD} {BT : List (ByteArray × Exp)} {ix : List Nat} {c : Nat} (hx : lexL x = .ok ts) (hb : ts.map bk = bl) (h : RunL bl D BT ix c) (hlen : x.length ≤ 65536) :
    ∃ bs : List BindD, parseK 1000000 x = some (⟨D (ts.map toT), bs⟩, 0, 0) ∧ bs.map (fun b => (b.s, bareE b.body)) = BT ∧ bs.map (·.at_) = ix.map (atI (ts.map toT)) := by
  have hln := lexL_len x ts hx
  have hbt : (ts.map toT).map bt = bl := by rw [bt_map, hb]
  have hbl : bl.length = ts.length := by rw [← hb, List.length_map]
  have hc := h.cnt
  obtain ⟨j, hj⟩ : ∃ j, j + c = 1000000 := ⟨1000000 - c, by omega⟩
  obtain ⟨bs, e1, e2, hr⟩ := h.run (ts.map toT) [endT x.length] hbt (by simp) (by simp only [List.length_append, List.length_map, List.length_cons, List.length_nil]; omega) j (by rw [List.length_map]; omega)
  refine ⟨bs, ?_, e1, e2⟩
  have hde : ∀ b ∈ bs, deepE b.body ≤ 60 := fun b hb => by
    rw [← deep_bare]
    exact h.deep (b.s, bareE b.body) (by rw [← e1]; exact List.mem_map.2 ⟨b, hb, rfl⟩)
  have hlow : deepestP ⟨D (ts.map toT), bs⟩ = -1 := by
    unfold deepestP
    rw [low_none _ hde, low_flat _ _ (h.flat _)]
  obtain ⟨j, rfl⟩ : ∃ i, j = i + 1 := ⟨j - 1, by omega⟩
  rw [parse_eq hx, ← hj, hr, prog_end (k := j) rfl]
  simp only [List.nil_append, bad_S, hlow]
  rfl
theorem toT_shift (n : Nat) (t : Tk) : toT (shift n t) = { toT t with at_ := (toT t).at_ + (n : Int) } := by
  simp only [toT, shift]
  congr 1
theorem atI_shift {ts : List Tk} (n : Nat) {i : Nat} (h : i < ts.length) : atI ((ts.map (shift n)).map toT) i = atI (ts.map toT) i + (n : Int) := by
  unfold atI
  simp only [List.getD, List.getElem?_map, List.getElem?_eq_getElem h, Option.map_some, Option.getD_some, toT_shift]
theorem lexA_pos : ∀ (n pos : Nat) (l : List UInt8) (ts : List Tk), l.length ≤ n → lexA pos l = .ok ts → ∀ t ∈ ts, t.pos ≤ pos + l.length := by
  intro n
  induction n with
  | zero =>
    intro pos l ts hn h
    have : l = [] := List.length_eq_zero_iff.1 (by omega)
    subst this
    rw [lexA_nil] at h
    cases h
    simp
  | succ n ih =>
    intro pos l ts hn h
    by_cases hne : l = []
    · subst hne
      rw [lexA_nil] at h
      cases h
      simp
    · have hp := List.length_pos_iff.2 hne
      by_cases h0 : (tokL l).2 = 0
      · rw [lexA_err hne h0] at h; cases h
      · rw [lexA_cons h0] at h
        have htl := tokL_le l
        have hsl := skipL_le false (l.drop (tokL l).2)
        have hdl : ((l.drop (tokL l).2).drop (skipL false (l.drop (tokL l).2))).length = l.length - (tokL l).2 - skipL false (l.drop (tokL l).2) := by rw [List.length_drop, List.length_drop]
        rw [List.length_drop] at hsl
        split at h
        · cases h
        · rename_i us hu
          cases h
          intro t ht
          rcases List.mem_cons.1 ht with rfl | ht
          · simp
          · have := ih _ _ us (by rw [hdl]; omega) hu t ht
            rw [hdl] at this
            omega
theorem lexL_pos {l : List UInt8} {ts : List Tk} (h : lexL l = .ok ts) : ∀ t ∈ ts, t.pos ≤ l.length := by
  intro t ht
  have := lexA_pos _ _ _ ts (Nat.le_refl _) h t ht
  have hs := skipL_le false l
  rw [List.length_drop] at this
  omega
theorem atI_pos {l : List UInt8} {ts : List Tk} (h : lexL l = .ok ts) (i : Nat) : 0 ≤ atI (ts.map toT) i ∧ atI (ts.map toT) i ≤ (l.length : Int) := by
  unfold atI
  rw [List.getD, List.getElem?_map]
  cases hi : ts[i]? with
  | none => exact ⟨Int.le_refl _, by simp [noTok]⟩
  | some t =>
    have := lexL_pos h t (List.mem_of_getElem? hi)
    simp only [Option.map_some, Option.getD_some, toT]
    omega
structure Joined (n : Nat) (p q r : ProgD) : Prop where
  datas : ∃ ds, r.datas = p.datas ++ ds ∧ ds.length = q.datas.length
  binds : r.binds.length = p.binds.length + q.binds.length
  at_ : (r.binds.drop p.binds.length).map (·.at_) = q.binds.map fun b => b.at_ + (n : Int)
  bare : (r.binds.drop p.binds.length).map bareB = q.binds.map bareB
  pos : ∀ b ∈ q.binds, 0 ≤ b.at_ ∧ b.at_ ≤ 65536
theorem bare_map {l l' : List BindD} (h : l.map (fun b => (b.s, bareE b.body)) = l'.map fun b => (b.s, bareE b.body)) : l.map bareB = l'.map bareB := by
  have e : ∀ l : List BindD, l.map bareB = (l.map fun b => (b.s, bareE b.body)).map fun x => (⟨x.1, 0, x.2⟩ : BindD) := fun l => by
    rw [List.map_map]
    rfl
  rw [e l, h, ← e l']
/-- Two sources, one behind the other. -/
theorem joined {a b : List UInt8} (ha : GS a) (hb : GS b) (la : a.length ≤ 30000) (lb : b.length ≤ 30000) :
    ∃ p q r, parseK 1000000 a = some (p, 0, 0) ∧ parseK 1000000 b = some (q, 0, 0) ∧ parseK 1000000 (a ++ b) = some (r, 0, 0) ∧ Joined a.length p q r := by
  obtain ⟨na, b1, D1, B1, i1, c1, x1, r1⟩ := ha
  obtain ⟨nb, b2, D2, B2, i2, c2, x2, r2⟩ := hb
  obtain ⟨t1, e1, g1⟩ := lex_of x1
  obtain ⟨t2, e2, g2⟩ := lex_of x2
  have g3 : lexL (a ++ b) = .ok (t1 ++ t2.map (shift a.length)) := by rw [join_lex na, g1, g2]; rfl
  have e3 : (t1 ++ t2.map (shift a.length)).map bk = b1 ++ b2 := by
    rw [List.map_append, e1, List.map_map, ← e2]
    rfl
  obtain ⟨s1, p1, m1, a1⟩ := parse_src g1 e1 r1 (by omega)
  obtain ⟨s2, p2, m2, a2⟩ := parse_src g2 e2 r2 (by omega)
  obtain ⟨s3, p3, m3, a3⟩ := parse_src g3 e3 (r1.app r2) (by rw [List.length_append]; omega)
  have n1 : b1.length = t1.length := by rw [← e1, List.length_map]
  have n2 : b2.length = t2.length := by rw [← e2, List.length_map]
  have l1 : s1.length = B1.length := by rw [← m1, List.length_map]
  have l2 : s2.length = B2.length := by rw [← m2, List.length_map]
  have l3 : s3.length = B1.length + B2.length := by
    have := congrArg List.length m3
    rw [List.length_map, List.length_append] at this
    exact this
  have li : s1.length = i1.length := by
    have := congrArg List.length a1
    simpa using this
  have eM : (t1 ++ t2.map (shift a.length)).map toT = t1.map toT ++ (t2.map (shift a.length)).map toT := List.map_append ..
  have lM : (t1.map toT).length = b1.length := by rw [List.length_map, n1]
  refine ⟨_, _, _, p1, p2, p3, ?_, ?_, ?_, ?_, ?_⟩
  · refine ⟨D2 ((t2.map (shift a.length)).map toT), ?_, r2.dlen _ _⟩
    simp only
    rw [eM, ← lM, List.take_left, List.drop_left]
  · simp only [l1, l2, l3]
  · simp only
    rw [List.map_drop, a3, List.map_append, li, List.drop_left' (by rw [List.length_map]), List.map_map]
    have e4 : s2.map (fun b => b.at_ + (a.length : Int)) = (s2.map (·.at_)).map (· + (a.length : Int)) := by rw [List.map_map]; rfl
    rw [e4, a2, List.map_map]
    refine List.map_congr_left fun i hi => ?_
    have hi2 := r2.ixs i hi
    simp only [Function.comp_apply]
    rw [eM, atI_r lM, atI_shift _ (by omega)]
  · simp only
    refine bare_map ?_
    rw [List.map_drop, m3, m2, l1, List.drop_left]
  · intro x hx
    have : x.at_ ∈ s2.map (·.at_) := List.mem_map.2 ⟨x, hx, rfl⟩
    rw [a2] at this
    obtain ⟨i, -, hi⟩ := List.mem_map.1 this
    have := atI_pos g2 i
    rw [hi] at this
    omega
end Go.Proofs.YtoapgongbackaaaDoor.V

/-! G11: texts that are too long; what may not stand behind a program. -/
namespace Go.Proofs.YtoapgongbackaaaDoor.V
open Go Go.Proofs
open Go.Proofs.YtoapgongbackaaaDoor.Lx
set_option maxRecDepth 100000

theorem lex_long {l : List UInt8} (h : 65536 < l.length) : Ct 23 [.val (.one (.v (.string (ofL l))))] [.val (.one (.v (.slice none 0 0))), .val (.one (.v (.int .i64 1))), .val (.one (.v (.int .i64 0)))] [] := by
  have hsz := ofL_size l
  have hd : decide ((65536 : Int) < ((ofL l).size : Int)) = true := decide_eq_true (by omega)
  refine ct Tryd.func23 (by kernel_rfl) ?_
  apply evF_of rfl
  apply seqC
  apply regL
  repeat ((with_reducible apply stepS); (· conv => whnf))
  apply endS
  apply seqC
  apply seqC
  apply regL
  repeat ((with_reducible apply stepS); (· conv => whnf))
  rw [hd]
  apply endS
  apply condT; (· (conv => whnf); try rfl)
  apply seqC
  apply regL
  repeat ((with_reducible apply stepS); (· conv => whnf))
  apply endS
  apply retC
  conv => whnf
  exact ⟨rfl, rfl⟩
theorem parse_long {l : List UInt8} (h : 65536 < l.length) : Ct 12 [.val (.one (.v (.string (ofL l))))] [.val (.agg [.sl 62 4 [] none, .sl 55 8 [] none]), .val (.one (.v (.int .i64 1))), .val (.one (.v (.int .i64 0)))] [] := by
  have hl := lex_long h
  generalize ofL l = s at hl
  refine ct Tryd.func12 (by kernel_rfl) ?_
  apply evF_of rfl
  apply seqC
  apply regL
  repeat ((with_reducible apply stepS); (· conv => whnf))
  apply endS; apply seqC; apply regL
  repeat ((with_reducible apply stepS); (· conv => whnf))
  apply stepS; (· (conv => whnf); refine ⟨_, _, hl, ?_⟩; (conv => whnf))
  repeat ((with_reducible apply stepS); (· conv => whnf))
  apply endS
  apply seqC
  apply seqC
  apply regL
  repeat ((with_reducible apply stepS); (· conv => whnf))
  apply endS
  apply condT; (· (conv => whnf); try rfl)
  apply seqC
  apply regL
  repeat ((with_reducible apply stepS); (· conv => whnf))
  apply endS
  apply retC
  conv => whnf
  exact ⟨rfl, rfl⟩
end Go.Proofs.YtoapgongbackaaaDoor.V

/-! G12: what may not stand behind a program. -/
namespace Go.Proofs.YtoapgongbackaaaDoor.V
open Go Go.Proofs
open Go.Proofs.YtoapgongbackaaaDoor.Lx
set_option maxRecDepth 100000

def badTx : List (List UInt8) := [[120], [108, 101, 116], [108, 101, 116, 32, 88], [108, 101, 116, 32, 102], [108, 101, 116, 32, 102, 32, 61, 32], [108, 101, 116, 32, 102, 32, 61, 32, 41, 59], [100, 97, 116, 97, 32, 100], [100, 97, 116, 97, 32, 68, 32, 61, 32, 59], [100, 97, 116, 97, 32, 68, 32, 61, 32, 67, 32, 124, 59], [108, 101, 116, 32, 102, 32, 61, 32, 40, 97, 44, 32, 59], [108, 101, 116, 32, 102, 32, 61, 32, 99, 97, 115, 101, 32, 120, 32, 111, 102, 32, 123, 125, 59], [108, 101, 116, 32, 102, 32, 61, 32, 92, 32, 45, 62, 32, 120, 59], [108, 101, 116, 32, 102, 32, 61, 32, 105, 102, 32, 97, 32, 116, 104, 101, 110, 32, 98, 59], [108, 101, 116, 32, 102, 32, 61, 32, 49], [105, 110]]
def farTx : List Int := [0, 3, 4, 5, 8, 8, 5, 9, 12, 12, 19, 10, 19, 9, 0]
structure BadQ (i : Nat) (w : List UInt8) (f : Nat) (ts : List Tk) : Prop where
  text : badTx[i]? = some w
  far : farTx[i]? = some (f : Int)
  lex : lexL w = .ok ts
  len : w.length ≤ 40
  run : ∀ (n k : Nat) (p : ProgD), (progP (k + 60) p (sT ((ts.map (shift n)).map toT ++ [endT (w.length + n)]))).map (fun x => (x.2.bad, x.2.at_)) = some (true, ((f + n : Nat) : Int))
theorem bad_q : ∀ i : Nat, i < 15 → ∃ w f ts, BadQ i w f ts
  | 0, _ => ⟨[120], 0, [⟨1, 0, [120], 0⟩], rfl, rfl, by kernel_rfl, by decide, fun n k p => by kernel_rfl⟩
  | 1, _ => ⟨[108, 101, 116], 3, [⟨4, 0, [108, 101, 116], 0⟩], rfl, rfl, by kernel_rfl, by decide, fun n k p => by kernel_rfl⟩
  | 2, _ => ⟨[108, 101, 116, 32, 88], 4, [⟨4, 0, [108, 101, 116], 0⟩, ⟨2, 4, [88], 0⟩], rfl, rfl, by kernel_rfl, by decide, fun n k p => by kernel_rfl⟩
  | 3, _ => ⟨[108, 101, 116, 32, 102], 5, [⟨4, 0, [108, 101, 116], 0⟩, ⟨1, 4, [102], 0⟩], rfl, rfl, by kernel_rfl, by decide, fun n k p => by kernel_rfl⟩
  | 4, _ => ⟨[108, 101, 116, 32, 102, 32, 61, 32], 8, [⟨4, 0, [108, 101, 116], 0⟩, ⟨1, 4, [102], 0⟩, ⟨5, 6, [61], 0⟩], rfl, rfl, by kernel_rfl, by decide, fun n k p => by kernel_rfl⟩
  | 5, _ => ⟨[108, 101, 116, 32, 102, 32, 61, 32, 41, 59], 8, [⟨4, 0, [108, 101, 116], 0⟩, ⟨1, 4, [102], 0⟩, ⟨5, 6, [61], 0⟩, ⟨5, 8, [41], 0⟩, ⟨5, 9, [59], 0⟩], rfl, rfl, by kernel_rfl, by decide, fun n k p => by kernel_rfl⟩
  | 6, _ => ⟨[100, 97, 116, 97, 32, 100], 5, [⟨4, 0, [100, 97, 116, 97], 0⟩, ⟨1, 5, [100], 0⟩], rfl, rfl, by kernel_rfl, by decide, fun n k p => by kernel_rfl⟩
  | 7, _ => ⟨[100, 97, 116, 97, 32, 68, 32, 61, 32, 59], 9, [⟨4, 0, [100, 97, 116, 97], 0⟩, ⟨2, 5, [68], 0⟩, ⟨5, 7, [61], 0⟩, ⟨5, 9, [59], 0⟩], rfl, rfl, by kernel_rfl, by decide, fun n k p => by kernel_rfl⟩
  | 8, _ => ⟨[100, 97, 116, 97, 32, 68, 32, 61, 32, 67, 32, 124, 59], 12, [⟨4, 0, [100, 97, 116, 97], 0⟩, ⟨2, 5, [68], 0⟩, ⟨5, 7, [61], 0⟩, ⟨2, 9, [67], 0⟩, ⟨5, 11, [124], 0⟩, ⟨5, 12, [59], 0⟩], rfl, rfl, by kernel_rfl, by decide, fun n k p => by kernel_rfl⟩
  | 9, _ => ⟨[108, 101, 116, 32, 102, 32, 61, 32, 40, 97, 44, 32, 59], 12, [⟨4, 0, [108, 101, 116], 0⟩, ⟨1, 4, [102], 0⟩, ⟨5, 6, [61], 0⟩, ⟨5, 8, [40], 0⟩, ⟨1, 9, [97], 0⟩, ⟨5, 10, [44], 0⟩, ⟨5, 12, [59], 0⟩], rfl, rfl, by kernel_rfl, by decide, fun n k p => by kernel_rfl⟩
  | 10, _ => ⟨[108, 101, 116, 32, 102, 32, 61, 32, 99, 97, 115, 101, 32, 120, 32, 111, 102, 32, 123, 125, 59], 19, [⟨4, 0, [108, 101, 116], 0⟩, ⟨1, 4, [102], 0⟩, ⟨5, 6, [61], 0⟩, ⟨4, 8, [99, 97, 115, 101], 0⟩, ⟨1, 13, [120], 0⟩, ⟨4, 15, [111, 102], 0⟩, ⟨5, 18, [123], 0⟩, ⟨5, 19, [125], 0⟩, ⟨5, 20, [59], 0⟩], rfl, rfl, by kernel_rfl, by decide, fun n k p => by kernel_rfl⟩
  | 11, _ => ⟨[108, 101, 116, 32, 102, 32, 61, 32, 92, 32, 45, 62, 32, 120, 59], 10, [⟨4, 0, [108, 101, 116], 0⟩, ⟨1, 4, [102], 0⟩, ⟨5, 6, [61], 0⟩, ⟨5, 8, [92], 0⟩, ⟨5, 10, [45, 62], 0⟩, ⟨1, 13, [120], 0⟩, ⟨5, 14, [59], 0⟩], rfl, rfl, by kernel_rfl, by decide, fun n k p => by kernel_rfl⟩
  | 12, _ => ⟨[108, 101, 116, 32, 102, 32, 61, 32, 105, 102, 32, 97, 32, 116, 104, 101, 110, 32, 98, 59], 19, [⟨4, 0, [108, 101, 116], 0⟩, ⟨1, 4, [102], 0⟩, ⟨5, 6, [61], 0⟩, ⟨4, 8, [105, 102], 0⟩, ⟨1, 11, [97], 0⟩, ⟨4, 13, [116, 104, 101, 110], 0⟩, ⟨1, 18, [98], 0⟩, ⟨5, 19, [59], 0⟩], rfl, rfl, by kernel_rfl, by decide, fun n k p => by kernel_rfl⟩
  | 13, _ => ⟨[108, 101, 116, 32, 102, 32, 61, 32, 49], 9, [⟨4, 0, [108, 101, 116], 0⟩, ⟨1, 4, [102], 0⟩, ⟨5, 6, [61], 0⟩, ⟨3, 8, [], 1⟩], rfl, rfl, by kernel_rfl, by decide, fun n k p => by kernel_rfl⟩
  | 14, _ => ⟨[105, 110], 0, [⟨4, 0, [105, 110], 0⟩], rfl, rfl, by kernel_rfl, by decide, fun n k p => by kernel_rfl⟩
  | i + 15, h => absurd h (by omega)
theorem badEnd {a : List UInt8} (ha : GS a) (la : a.length ≤ 30000) (i : Nat) (hi : i < 15) :
    ∃ w f, badTx[i]? = some w ∧ farTx[i]? = some f ∧ w.length ≤ 40 ∧ 0 ≤ f ∧ f ≤ 100 ∧ parseK 1000000 (a ++ w) = some (⟨[], []⟩, 4, (a.length : Int) + f) := by
  obtain ⟨na, bl, D, BT, ix, c, x1, r1⟩ := ha
  obtain ⟨t1, e1, g1⟩ := lex_of x1
  obtain ⟨w, f, ts, q⟩ := bad_q i hi
  have g3 : lexL (a ++ w) = .ok (t1 ++ ts.map (shift a.length)) := by rw [join_lex na, g1, q.lex]; rfl
  have hln := lexL_len a t1 g1
  have hlw := lexL_len w ts q.lex
  have hq := q.len
  have hbt : (t1.map toT).map bt = bl := by rw [bt_map, e1]
  have hbl : bl.length = t1.length := by rw [← e1, List.length_map]
  have hc := r1.cnt
  obtain ⟨j, hj⟩ : ∃ j, j + 60 + c = 1000000 := ⟨1000000 - 60 - c, by omega⟩
  have em : (t1 ++ ts.map (shift a.length)).map toT ++ [endT (a ++ w).length] = t1.map toT ++ ((ts.map (shift a.length)).map toT ++ [endT (w.length + a.length)]) := by
    rw [List.map_append, List.append_assoc, List.length_append, Nat.add_comm a.length]
  obtain ⟨bs, -, -, hr⟩ := r1.run (t1.map toT) ((ts.map (shift a.length)).map toT ++ [endT (w.length + a.length)]) hbt (by simp) (by simp only [List.length_append, List.length_map, List.length_cons, List.length_nil]; omega) (j + 60) (by rw [List.length_map]; omega)
  have hrun := q.run a.length j ⟨([] : List DataD) ++ D (t1.map toT), ([] : List BindD) ++ bs⟩
  rw [Option.map_eq_some_iff] at hrun
  obtain ⟨⟨p2, s2⟩, h1, h2⟩ := hrun
  simp only [Prod.mk.injEq] at h2
  obtain ⟨h2, h3⟩ := h2
  have hf : f ≤ 100 := by
    have := q.far
    have hall : farTx.all (fun x => decide (x ≤ 100)) = true := by decide
    have := List.all_eq_true.1 hall _ (List.mem_of_getElem? this)
    have := of_decide_eq_true this
    omega
  refine ⟨w, f, q.text, q.far, q.len, by omega, by omega, ?_⟩
  rw [parse_eq g3, em, ← hj, hr, h1]
  simp only [h2, h3]
  rw [show ((f + a.length : Nat) : Int) = (a.length : Int) + (f : Int) by omega]
end Go.Proofs.YtoapgongbackaaaDoor.V
