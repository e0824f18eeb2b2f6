/-
  ParseDeep: for every input the law returns true, and each argument reads as it did. No condition.
-/
import Derived.Test.YtoapgongbackaaaDoorEF
import Derived.Test.YtoapgongbackaaaDoorEC
import Derived.Test.YtoapgongbackaaaDoorEX
set_option linter.unusedVariables false
set_option linter.unusedSimpArgs false
/-! W5: how deep: the texts, and what they are. -/
namespace Go.Proofs.YtoapgongbackaaaDoor.V
open Go Go.Proofs
open Go.Proofs.YtoapgongbackaaaDoor.Lx
set_option maxRecDepth 100000

def pre8 : Nat → List UInt8
  | 0 => [92, 121, 32, 45, 62, 32]
  | 1 => [102, 32, 40]
  | 2 => [40]
  | _ => [108, 101, 116, 32, 121, 32, 61, 32, 49, 32, 105, 110, 32]
def post8 : Nat → List UInt8
  | 1 => [41]
  | 2 => [44, 32, 49, 41]
  | _ => []
def deep8 (h : Nat) : Nat → List UInt8
  | 0 => [120]
  | k + 1 => pre8 h ++ deep8 h k ++ post8 h
def text8 (h k : Nat) : List UInt8 := [108, 101, 116, 32, 97, 32, 61, 32, 49, 59, 32, 108, 101, 116, 32, 113, 32, 61, 32] ++ deep8 h k ++ [59]
def check8 (h k : Nat) : Bool := match parseK 400 (text8 h k) with
  | some (⟨[], []⟩, e, a) => decide (60 ≤ k) && (decide (e = 5) && decide (a = 15))
  | some (⟨[], [_, b]⟩, e, a) => decide (k < 60) && (decide (e = 0) && decide (deepE b.body = (k : Int) + 1))
  | _ => false
theorem d0_0 : (List.range 10).all (fun i => check8 0 (0 + i)) = true := by kernel_rfl
theorem d0_1 : (List.range 10).all (fun i => check8 0 (10 + i)) = true := by kernel_rfl
theorem d0_2 : (List.range 10).all (fun i => check8 0 (20 + i)) = true := by kernel_rfl
theorem d0_3 : (List.range 10).all (fun i => check8 0 (30 + i)) = true := by kernel_rfl
theorem d0_4 : (List.range 10).all (fun i => check8 0 (40 + i)) = true := by kernel_rfl
theorem d0_5 : (List.range 10).all (fun i => check8 0 (50 + i)) = true := by kernel_rfl
theorem d0_6 : (List.range 10).all (fun i => check8 0 (60 + i)) = true := by kernel_rfl
theorem d1_0 : (List.range 10).all (fun i => check8 1 (0 + i)) = true := by kernel_rfl
theorem d1_1 : (List.range 10).all (fun i => check8 1 (10 + i)) = true := by kernel_rfl
theorem d1_2 : (List.range 10).all (fun i => check8 1 (20 + i)) = true := by kernel_rfl
theorem d1_3 : (List.range 10).all (fun i => check8 1 (30 + i)) = true := by kernel_rfl
theorem d1_4 : (List.range 10).all (fun i => check8 1 (40 + i)) = true := by kernel_rfl
theorem d1_5 : (List.range 10).all (fun i => check8 1 (50 + i)) = true := by kernel_rfl
theorem d1_6 : (List.range 10).all (fun i => check8 1 (60 + i)) = true := by kernel_rfl
theorem d2_0 : (List.range 10).all (fun i => check8 2 (0 + i)) = true := by kernel_rfl
theorem d2_1 : (List.range 10).all (fun i => check8 2 (10 + i)) = true := by kernel_rfl
theorem d2_2 : (List.range 10).all (fun i => check8 2 (20 + i)) = true := by kernel_rfl
theorem d2_3 : (List.range 10).all (fun i => check8 2 (30 + i)) = true := by kernel_rfl
theorem d2_4 : (List.range 10).all (fun i => check8 2 (40 + i)) = true := by kernel_rfl
theorem d2_5 : (List.range 10).all (fun i => check8 2 (50 + i)) = true := by kernel_rfl
theorem d2_6 : (List.range 10).all (fun i => check8 2 (60 + i)) = true := by kernel_rfl
theorem d3_0 : (List.range 10).all (fun i => check8 3 (0 + i)) = true := by kernel_rfl
theorem d3_1 : (List.range 10).all (fun i => check8 3 (10 + i)) = true := by kernel_rfl
theorem d3_2 : (List.range 10).all (fun i => check8 3 (20 + i)) = true := by kernel_rfl
theorem d3_3 : (List.range 10).all (fun i => check8 3 (30 + i)) = true := by kernel_rfl
theorem d3_4 : (List.range 10).all (fun i => check8 3 (40 + i)) = true := by kernel_rfl
theorem d3_5 : (List.range 10).all (fun i => check8 3 (50 + i)) = true := by kernel_rfl
theorem d3_6 : (List.range 10).all (fun i => check8 3 (60 + i)) = true := by kernel_rfl
theorem all_at {p : Nat → Bool} (h : (List.range 10).all p = true) {i : Nat} (hi : i < 10) : p i = true := List.all_eq_true.1 h i (List.mem_range.2 hi)
theorem checked8 : ∀ h k : Nat, h < 4 → k < 70 → check8 h k = true := by
  intro h k hh hk
  have hd : k = 10 * (k / 10) + k % 10 := by omega
  have hm : k % 10 < 10 := Nat.mod_lt _ (by decide)
  have hq : k / 10 < 7 := by omega
  generalize k / 10 = j at hd hq
  generalize k % 10 = i at hd hm
  subst hd
  match h, hh, j, hq with
  | 0, _, 0, _ => exact all_at d0_0 hm
  | 0, _, 1, _ => exact all_at d0_1 hm
  | 0, _, 2, _ => exact all_at d0_2 hm
  | 0, _, 3, _ => exact all_at d0_3 hm
  | 0, _, 4, _ => exact all_at d0_4 hm
  | 0, _, 5, _ => exact all_at d0_5 hm
  | 0, _, 6, _ => exact all_at d0_6 hm
  | 1, _, 0, _ => exact all_at d1_0 hm
  | 1, _, 1, _ => exact all_at d1_1 hm
  | 1, _, 2, _ => exact all_at d1_2 hm
  | 1, _, 3, _ => exact all_at d1_3 hm
  | 1, _, 4, _ => exact all_at d1_4 hm
  | 1, _, 5, _ => exact all_at d1_5 hm
  | 1, _, 6, _ => exact all_at d1_6 hm
  | 2, _, 0, _ => exact all_at d2_0 hm
  | 2, _, 1, _ => exact all_at d2_1 hm
  | 2, _, 2, _ => exact all_at d2_2 hm
  | 2, _, 3, _ => exact all_at d2_3 hm
  | 2, _, 4, _ => exact all_at d2_4 hm
  | 2, _, 5, _ => exact all_at d2_5 hm
  | 2, _, 6, _ => exact all_at d2_6 hm
  | 3, _, 0, _ => exact all_at d3_0 hm
  | 3, _, 1, _ => exact all_at d3_1 hm
  | 3, _, 2, _ => exact all_at d3_2 hm
  | 3, _, 3, _ => exact all_at d3_3 hm
  | 3, _, 4, _ => exact all_at d3_4 hm
  | 3, _, 5, _ => exact all_at d3_5 hm
  | 3, _, 6, _ => exact all_at d3_6 hm
end Go.Proofs.YtoapgongbackaaaDoor.V

/-! W6: ParseDeep. -/
namespace Go.Proofs.YtoapgongbackaaaDoor.V
open Go Go.Proofs
open Go.Proofs.YtoapgongbackaaaDoor.Lx
set_option maxRecDepth 100000

theorem run8 (h k : Nat) (hh : h < 4) (hk : k < 70) : (60 ≤ k ∧ parseK 400 (text8 h k) = some (⟨[], []⟩, 5, 15)) ∨ (k < 60 ∧ ∃ b1 b2, parseK 400 (text8 h k) = some (⟨[], [b1, b2]⟩, 0, 0) ∧ deepE b2.body = (k : Int) + 1) := by
  have hc := checked8 h k hh hk
  unfold check8 at hc
  split at hc
  · rename_i e a hr
    simp only [Bool.and_eq_true, decide_eq_true_eq] at hc
    obtain ⟨h1, rfl, rfl⟩ := hc
    exact .inl ⟨h1, hr⟩
  · rename_i b1 b e a hr
    simp only [Bool.and_eq_true, decide_eq_true_eq] at hc
    obtain ⟨h1, rfl, h3⟩ := hc
    refine .inr ⟨h1, b1, b, ?_, h3⟩
    rw [hr]
    unfold parseK at hr
    split at hr
    · cases hr
    · split at hr
      · cases hr
      · split at hr
        · cases hr
        · split at hr
          · cases hr
          · cases hr; rfl
  · cases hc
theorem deep8_len (h : Nat) : ∀ k : Nat, (deep8 h k).length ≤ 17 * k + 1
  | 0 => by simp [deep8]
  | k + 1 => by
    have := deep8_len h k
    have h1 : (pre8 h).length ≤ 13 := by unfold pre8; split <;> decide
    have h2 : (post8 h).length ≤ 4 := by unfold post8; split <;> decide
    simp only [deep8, List.length_append]
    omega
theorem szB {c d : ByteArray} (x y : Nat) (h1 : c.size ≤ x) (h2 : d.size ≤ y) (h : x + y ≤ 1000000) : c.size + d.size ≤ 2 ^ 62 := Nat.le_trans (Nat.add_le_add h1 h2) (Nat.le_trans h (by decide))
theorem szA {c d : ByteArray} (x y : Nat) (h1 : c.size ≤ x) (h2 : d.size ≤ y) : (c ++ d).size ≤ x + y := by rw [ByteArray.size_append]; omega
def pe : List UInt8 := [108, 101, 116, 32, 97, 32, 61, 32, 49, 59, 32, 108, 101, 116, 32, 113, 32, 61, 32]

set_option maxHeartbeats 4000000 in
theorem deepLaw_ct (n m : Int) (h0 : 0 ≤ n) (h1 : n < 256) (g0 : 0 ≤ m) (g1 : m < 256) : Ct 8 [.val (.one (.v (.int .u8 n))), .val (.one (.v (.int .u8 m)))] [.val (.one (.v (.bool true)))] [] := by
  refine ct Tryd.func8 (by kernel_rfl) ?_
  apply evF_of (ts := [(0, .one (.v (.int .u8 n))), (1, .one (.v (.int .u8 m)))]) (bs := []) rfl
  apply seqC
  apply regL
  repeat ((with_reducible apply stepS); (· conv => whnf))
  apply endS
  apply seqC
  apply regL
  repeat ((with_reducible apply stepS); (· conv => whnf))
  apply stepS
  · conv => whnf
    refine ⟨by decide, ?_⟩
    conv => whnf
  repeat ((with_reducible apply stepS); (· conv => whnf))
  apply endS
  apply seqC
  apply regL
  generalize hK : Int.tmod (IntKind.i64.wrap n) _ = K
  have hK2 : K = n.tmod 70 := by rw [← hK, i64_id (by omega) (by omega)]
  have hK3 : n.tmod 70 = n % 70 := Int.tmod_eq_emod_of_nonneg h0
  obtain ⟨k, rfl⟩ : ∃ k : Nat, K = (k : Int) := ⟨K.toNat, by omega⟩
  have hk : k < 70 := by omega
  clear hK hK2 hK3
  obtain ⟨h, hm⟩ : ∃ h : Nat, m.tmod 4 = (h : Int) := ⟨(m.tmod 4).toNat, by
    have := Int.tmod_eq_emod_of_nonneg (b := 4) g0
    omega⟩
  have hh : h < 4 := by
    have := Int.tmod_eq_emod_of_nonneg (b := 4) g0
    omega
  repeat ((with_reducible apply stepS); (· conv => whnf))
  apply endS
  apply seqC
  apply seqC
  apply regL
  repeat ((with_reducible apply stepS); (· conv => whnf))
  apply endS
  apply blockC
  refine loopC (fun n st => ∃ (i : Nat) (z : Int), n = k - i ∧ i ≤ k ∧ z = (i : Int) ∧ st = ⟨[(8, .one (.v (.int .i64 z))), (6, .one (.v (.string (ofL (deep8 h i))))), (5, .one (.v (.int .i64 (k : Int)))), (7, .one (.v (.int .i64 ((k : Int) + 1)))), (1, .one (.v (.int .u8 m)))], [], []⟩)
    ⟨_, _, wk [8, 6, 5, 7, 1] [] [] [] [] [] rfl, 0, 0, rfl, Nat.zero_le _, rfl, ?_⟩ ?_
  · rw [i64_id (x := (k : Int) + 1) (by omega) (by omega)]
    rfl
  rintro n' st ⟨i, z, rfl, hi, rfl, rfl⟩
  have hsz := ofL_size (deep8 h i)
  have hln := deep8_len h i
  apply seqC
  apply seqC
  apply regL
  repeat ((with_reducible apply stepS); (· conv => whnf))
  apply endS
  cases hlt : decide ((i : Int) < (k : Int))
  · apply condF
    · conv => whnf
    apply exitC
    apply seqC
    apply regL
    have hik : i = k := by
      have := of_decide_eq_false hlt
      omega
    subst hik
    have hsz2 : (ofL (deep8 h i)).size ≤ 2000 := by rw [hsz]; omega
    have et : ⟨#[108, 101, 116, 32, 97, 32, 61, 32, 49, 59, 32, 108, 101, 116, 32, 113, 32, 61, 32]⟩ ++ ofL (deep8 h i) ++ ⟨#[59]⟩ = ofL (text8 h i) := by
      show ofL pe ++ ofL (deep8 h i) ++ ofL [59] = _
      rw [ofL_append, ofL_append]
      rfl
    have hlen : (text8 h i).length ≤ 65536 := by
      simp only [text8, List.length_append, List.length_cons, List.length_nil]
      omega
    apply stepS
    · conv => whnf
    apply stepS
    · conv => whnf
      refine ⟨szB 20 2000 (by decide) hsz2 (by decide), ?_⟩
      conv => whnf
    apply stepS
    · conv => whnf
      refine ⟨szB 2020 20 (szA 20 2000 (by decide) hsz2) (by decide) (by decide), ?_⟩
      conv => whnf
    rw [et]
    rcases run8 h i hh hk with ⟨hge, hrun⟩ | ⟨hlt2, b1, b2, hrun, hdeep⟩
    · have hp := parse_ct2 (by decide) hlen hrun
      have hd60 : decide (60 < (i : Int) + 1) = true := decide_eq_true (by omega)
      apply stepS
      · conv => whnf
        refine ⟨_, _, hp, ?_⟩
        conv => whnf
      repeat ((with_reducible apply stepS); (· conv => whnf))
      apply endS
      apply seqC
      apply seqC
      apply regL
      repeat ((with_reducible apply stepS); (· conv => whnf))
      apply endS
      apply condT
      · conv => whnf
        rw [hd60]
      apply seqC
      apply regL
      apply stepS
      · conv => whnf
      apply stepS
      · conv => whnf
        refine ⟨_, _, num_ct _, ?_⟩
        conv => whnf
      repeat ((with_reducible apply stepS); (· conv => whnf))
      apply stepS
      · conv => whnf
        refine ⟨_, _, awake_ct, ?_⟩
        conv => whnf
      repeat ((with_reducible apply stepS); (· conv => whnf))
      apply endS
      apply retC
      conv => whnf
      exact ⟨rfl, rfl⟩
    · have hp := parse_ct2 (by decide) hlen hrun
      have hfine := parse_fine (by decide) hrun
      have hd60 : decide (60 < (i : Int) + 1) = false := decide_eq_false (by omega)
      have hdp := deep_ct _ b2.body (Nat.lt_succ_self _) (hfine.bodies b2 (by simp))
      rw [hdeep] at hdp
      obtain ⟨s2, a2, e2⟩ := b2
      obtain ⟨k2, a3, st2, n2, ks2, as2⟩ := e2
      apply stepS
      · conv => whnf
        refine ⟨_, _, hp, ?_⟩
        conv => whnf
      repeat ((with_reducible apply stepS); (· conv => whnf))
      apply endS
      apply seqC
      apply seqC
      apply regL
      repeat ((with_reducible apply stepS); (· conv => whnf))
      apply endS
      apply condF
      · conv => whnf
        rw [hd60]
      apply skipC
      apply seqC
      apply regL
      apply stepS
      · conv => whnf
      apply stepS
      · conv => whnf
        refine ⟨_, _, num_ct _, ?_⟩
        conv => whnf
      repeat ((with_reducible apply stepS); (· conv => whnf))
      apply stepS
      · conv => whnf
        refine ⟨_, ⟨by decide, rfl⟩, ?_⟩
        conv => whnf
      repeat ((with_reducible apply stepS); (· conv => whnf))
      apply stepS
      · conv => whnf
        refine ⟨_, _, hdp, ?_⟩
        conv => whnf
      repeat ((with_reducible apply stepS); (· conv => whnf))
      rw [show decide ((i : Int) + 1 = (i : Int) + 1) = true from decide_eq_true rfl]
      repeat ((with_reducible apply stepS); (· conv => whnf))
      apply stepS
      · conv => whnf
        refine ⟨_, _, awake_ct, ?_⟩
        conv => whnf
      repeat ((with_reducible apply stepS); (· conv => whnf))
      apply endS
      apply retC
      conv => whnf
      exact ⟨rfl, rfl⟩
  · apply condT
    · conv => whnf
    apply skipC
    apply seqC
    apply blockC
    apply seqC
    apply regL
    repeat ((with_reducible apply stepS); (· conv => whnf))
    apply stepS
    · conv => whnf
      refine ⟨by decide, ?_⟩
      conv => whnf
    rw [hm]
    apply endS
    apply blockC
    apply seqC
    apply regL
    have hsz2 : (ofL (deep8 h i)).size ≤ 2000 := by rw [hsz]; omega
    match h, hh, hm with
    | 0, _, hm =>
      have e : ofL (deep8 0 (i + 1)) = ⟨#[92, 121, 32, 45, 62, 32]⟩ ++ ofL (deep8 0 i) := by
        show ofL (pre8 0 ++ deep8 0 i ++ []) = _
        rw [List.append_nil, ← ofL_append]
        rfl
      repeat ((with_reducible apply stepS); (· conv => whnf))
      apply endS
      apply condT
      · conv => whnf
        rfl
      apply regL
      apply stepS
      · conv => whnf
      apply stepS
      · conv => whnf
        refine ⟨szB 20 2000 (by decide) hsz2 (by decide), ?_⟩
        conv => whnf
      repeat ((with_reducible apply stepS); (· conv => whnf))
      apply endS
      apply regL
      repeat ((with_reducible apply stepS); (· conv => whnf))
      apply endS
      refine ⟨_, _, ?_, wk [8, 6, 5, 7, 1] [] [] [] [] [] rfl, i + 1, _, rfl, ?_, i64_id (by omega) (by omega), ?_⟩
      · have := of_decide_eq_true hlt
        omega
      · have := of_decide_eq_true hlt
        omega
      · rw [e]
        rfl
    | 1, _, hm =>
      have e : ofL (deep8 1 (i + 1)) = ⟨#[102, 32, 40]⟩ ++ ofL (deep8 1 i) ++ ⟨#[41]⟩ := by
        show ofL (pre8 1 ++ deep8 1 i ++ post8 1) = _
        rw [← ofL_append, ← ofL_append]
        rfl
      repeat ((with_reducible apply stepS); (· conv => whnf))
      apply endS
      apply condF
      · conv => whnf
        rfl
      apply seqC
      apply regL
      repeat ((with_reducible apply stepS); (· conv => whnf))
      apply endS
      apply condT
      · conv => whnf
        rfl
      apply regL
      apply stepS
      · conv => whnf
      apply stepS
      · conv => whnf
        refine ⟨szB 20 2000 (by decide) hsz2 (by decide), ?_⟩
        conv => whnf
      apply stepS
      · conv => whnf
        refine ⟨szB 2020 20 (szA 20 2000 (by decide) hsz2) (by decide) (by decide), ?_⟩
        conv => whnf
      repeat ((with_reducible apply stepS); (· conv => whnf))
      apply endS
      apply regL
      repeat ((with_reducible apply stepS); (· conv => whnf))
      apply endS
      refine ⟨_, _, ?_, wk [8, 6, 5, 7, 1] [] [] [] [] [] rfl, i + 1, _, rfl, ?_, i64_id (by omega) (by omega), ?_⟩
      · have := of_decide_eq_true hlt
        omega
      · have := of_decide_eq_true hlt
        omega
      · rw [e]
        rfl
    | 2, _, hm =>
      have e : ofL (deep8 2 (i + 1)) = ⟨#[40]⟩ ++ ofL (deep8 2 i) ++ ⟨#[44, 32, 49, 41]⟩ := by
        show ofL (pre8 2 ++ deep8 2 i ++ post8 2) = _
        rw [← ofL_append, ← ofL_append]
        rfl
      repeat ((with_reducible apply stepS); (· conv => whnf))
      apply endS
      apply condF
      · conv => whnf
        rfl
      apply seqC
      apply regL
      repeat ((with_reducible apply stepS); (· conv => whnf))
      apply endS
      apply condF
      · conv => whnf
        rfl
      apply seqC
      apply regL
      repeat ((with_reducible apply stepS); (· conv => whnf))
      apply endS
      apply condT
      · conv => whnf
        rfl
      apply regL
      apply stepS
      · conv => whnf
      apply stepS
      · conv => whnf
        refine ⟨szB 20 2000 (by decide) hsz2 (by decide), ?_⟩
        conv => whnf
      apply stepS
      · conv => whnf
        refine ⟨szB 2020 20 (szA 20 2000 (by decide) hsz2) (by decide) (by decide), ?_⟩
        conv => whnf
      repeat ((with_reducible apply stepS); (· conv => whnf))
      apply endS
      apply regL
      repeat ((with_reducible apply stepS); (· conv => whnf))
      apply endS
      refine ⟨_, _, ?_, wk [8, 6, 5, 7, 1] [] [] [] [] [] rfl, i + 1, _, rfl, ?_, i64_id (by omega) (by omega), ?_⟩
      · have := of_decide_eq_true hlt
        omega
      · have := of_decide_eq_true hlt
        omega
      · rw [e]
        rfl
    | 3, _, hm =>
      have e : ofL (deep8 3 (i + 1)) = ⟨#[108, 101, 116, 32, 121, 32, 61, 32, 49, 32, 105, 110, 32]⟩ ++ ofL (deep8 3 i) := by
        show ofL (pre8 3 ++ deep8 3 i ++ []) = _
        rw [List.append_nil, ← ofL_append]
        rfl
      repeat ((with_reducible apply stepS); (· conv => whnf))
      apply endS
      apply condF
      · conv => whnf
        rfl
      apply seqC
      apply regL
      repeat ((with_reducible apply stepS); (· conv => whnf))
      apply endS
      apply condF
      · conv => whnf
        rfl
      apply seqC
      apply regL
      repeat ((with_reducible apply stepS); (· conv => whnf))
      apply endS
      apply condF
      · conv => whnf
        rfl
      apply regL
      apply stepS
      · conv => whnf
      apply stepS
      · conv => whnf
        refine ⟨szB 20 2000 (by decide) hsz2 (by decide), ?_⟩
        conv => whnf
      repeat ((with_reducible apply stepS); (· conv => whnf))
      apply endS
      apply regL
      repeat ((with_reducible apply stepS); (· conv => whnf))
      apply endS
      refine ⟨_, _, ?_, wk [8, 6, 5, 7, 1] [] [] [] [] [] rfl, i + 1, _, rfl, ?_, i64_id (by omega) (by omega), ?_⟩
      · have := of_decide_eq_true hlt
        omega
      · have := of_decide_eq_true hlt
        omega
      · rw [e]
        rfl
end Go.Proofs.YtoapgongbackaaaDoor.V

/-! XD: ParseDeep: for every input the law returns true; each argument reads behind the call as it read before. -/
namespace Go.Proofs.YtoapgongbackaaaDoor.V
open Go Go.Proofs
open Go.ChangeShapes Go.WideShapes Go.ChangeAt Go.RowKit
set_option maxRecDepth 100000

theorem par8 : Tryd.f8.params = #[5, 5] := by rfl
theorem contractD (H : Type) (enc : TypeId × Value → H) (W : World) (base : Nat) (args : Array Value) (ds gs : List (DataW H)) (before : List MemPlace)
    (hval : ∀ (j : Nat) t v, Tryd.f8.params[j]? = some t → args[j]? = some v → Value.okWide Tryd.prog W .any base t v)
    (hW : DataW.Whole enc Tryd.prog Tryd.f8.params.toList Rows.parseDeepSpec.vars false W args.toList ds gs before) (hL : laidMetH Tryd.prog Rows.parseDeepRow.laid W) :
    Calls Tryd.prog 8 args W fun e W' => ∃ v, e = .returned v ∧ Rows.parseDeepSpec.post enc Tryd.prog Tryd.f8 false true false false W args v W' := by
  have hW' := hW
  obtain ⟨p, q, hA0, hV, rfl, hfz, hnd⟩ := hW
  have hA : DataW.TrodAll enc Tryd.prog W 0 (fun _ => true) true Tryd.f8.params.toList args.toList ds p := hA0
  rw [par8] at hA hval
  obtain ⟨v0, vs0, d0, ds0, p0, q0, hargs, rfl, rfl, h0, r0⟩ := trodAll_cons hA
  obtain ⟨v1, vs1, d1, ds1, p1, q1, hargs1, rfl, rfl, h1, r1⟩ := trodAll_cons r0
  obtain ⟨rfl, rfl, rfl⟩ := trodAll_nil r1
  subst hargs1
  obtain rfl : args = #[v0, v1] := by cases args; simp_all
  obtain ⟨rfl, rfl⟩ := trodVars_none hV
  obtain ⟨n, rfl, rfl, rfl, hwf⟩ := open_int und5 (hval 0 5 v0 rfl rfl) h0
  obtain ⟨m, rfl, rfl, rfl, hwg⟩ := open_int und5 (hval 1 5 v1 rfl rfl) h1
  clear hA0
  simp only [List.append_nil] at hW'
  obtain ⟨hn0, hn1⟩ := u8_wf hwf
  obtain ⟨hm0, hm1⟩ := u8_wf hwg
  have hct := deepLaw_ct n m hn0 hn1 hm0 hm1 (HG W) W [.int .u8 n, .int .u8 m] (hg_ok W) (glob_ok hL) ⟨.one _ _ (.v _ rfl), .one _ _ (.v _ rfl), trivial⟩ List.nodup_nil
  refine hct.mono fun e W' ⟨v, H', he, hp⟩ => ?_
  subst he
  obtain rfl := bool_of hp
  have hk := kept_of hp rfl
  exact ⟨_, rfl, _, _, _, [], [], [], hW', trodAll_cons_mk (shut_bool und4 _) trodAll_mk0, trodAll_cons_mk (shut_int und5 hwf) (trodAll_cons_mk (shut_int und5 hwg) trodAll_mk0), rfl, World.keptBut_mono (fun _ h => h.elim) hk, fun h => nomatch h⟩
theorem laidD (os : Os) : laidMet Tryd.prog Rows.parseDeepRow.laid ((laidWorld os).forCall (fun _ _ => 0) ⟨#[], #[.int .u8 0, .int .u8 0], []⟩).memory :=
  laidMet_of_run' 8 (by kernel_rfl) (by kernel_rfl)
theorem readsD (os : Os) {H : Type} (enc : TypeId × Value → H) : ∃ places, DataW.whole enc Tryd.prog ((laidWorld os).forCall (fun _ _ => 0) ⟨#[], #[.int .u8 0, .int .u8 0], []⟩).memory Tryd.f8.params.toList Rows.parseDeepSpec.vars false #[Value.int .u8 0, Value.int .u8 0].toList 8 = some ([.lit (.int .u8 0), .lit (.int .u8 0)], [], places) :=
  ⟨[], by kernel_rfl⟩
theorem liftedD (os : Os) (started : os.Started) (H : Type) (enc : TypeId × Value → H) (F : Stop.Interp) :
    ReturnsInHanded {} Tryd.checked os 8 .any ((OpenSpec.ofChange Rows.parseDeepSpec).preRow enc Tryd.prog Tryd.f8 Rows.parseDeepRow.domain false Rows.parseDeepRow.laid) (((OpenSpec.ofChange Rows.parseDeepSpec).at F).post enc Tryd.prog Tryd.f8 false true false false) := by
  obtain ⟨places, hx⟩ := readsD os enc
  refine returnsInHanded_of_row (C := Tryd.checked) (s := OpenSpec.ofChange Rows.parseDeepSpec) own started (by kernel_rfl) Tryd.func8
    (witness_row_at (enc := enc) (C := Tryd.checked) false (laidWorld os) #[.int .u8 0, .int .u8 0] rfl (by kernel_rfl) (by kernel_rfl) (by kernel_rfl)
      (OpenSpec.preRow_of_cond 8 hx (by kernel_rfl) (fun k hk => by cases hk) (by kernel_rfl) (laidD os))) ?_
  intro W base args ds gs before hval hW _ _ _ hL _ _
  exact contractD H enc W base args ds gs before hval hW hL
theorem saidD : Rows.ParseDeepSaid :=
  OpenClaim.holds_of_cond 8 Tryd.f8 rfl rfl rfl rfl rfl rfl rfl ⟨rfl, rfl, rfl, rfl, rfl⟩ rfl rfl rfl rfl rfl (by kernel_rfl) Tryd.func8 (by kernel_rfl)
    (of_decide_eq_true (by kernel_rfl)) (by unfold Func.isWrapper; first | (rw [if_pos (by decide +kernel)]; kernel_rfl) | (rw [if_neg (by decide +kernel)]; exact ⟨rfl, rfl⟩))
    (fun os started H enc _ F => by rw [OpenClaim.pre_eq_preRow]; exact liftedD os started H enc F)
theorem plainD (f : FuncId) (fn : Func) (hf : Tryd.pinned.checked.prog.funcNamed "warp/warplaw10.ParseDeep" = some f) (hfn : Tryd.pinned.checked.prog.funcs[f]? = some fn) :
    false = Tryd.pinned.checked.prog.looks [] ∧ ∀ (j : Nat) t, fn.params[j]? = some t → Tryd.pinned.checked.prog.wantsStandIn t = false := by
  obtain rfl : f = 8 := Option.some.inj ((show Tryd.prog.funcNamed "warp/warplaw10.ParseDeep" = some 8 by kernel_rfl).symm.trans hf) |>.symm
  obtain rfl : fn = Tryd.f8 := (Option.some.inj (Tryd.func8.symm.trans hfn)).symm
  refine ⟨by kernel_rfl, fun j t ht => ?_⟩
  rw [par8] at ht
  obtain rfl : t = 5 := by simpa using Array.mem_of_getElem? ht
  exact (show Tryd.prog.wantsStandIn 5 = false by kernel_rfl)
end Go.Proofs.YtoapgongbackaaaDoor.V
namespace Go.Proofs.YtoapgongbackaaaDoor
open Go Go.Proofs Go.Proofs.YtoapgongbackaaaDoor.V
theorem parseDeep_holds : Rows.ParseDeepCardSaid :=
  Claim7.holds_tied_plain_at .later [] _ _ _ _ saidD (fun _ h => by cases h) (by kernel_rfl) (fun _ h => by cases h) parseDeep_row_tie rfl ⟨rfl, rfl⟩ (by kernel_rfl) rfl plainD (by kernel_rfl)
#print axioms parseDeep_holds
end Go.Proofs.YtoapgongbackaaaDoor
