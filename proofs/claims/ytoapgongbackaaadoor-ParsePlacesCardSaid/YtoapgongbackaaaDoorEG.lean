/-
  A program is one with itself; the reference: how deep; its atoms, alternatives, expressions. Conditions stand in the theorems (short lists of tokens).
-/
import Derived.Test.YtoapgongbackaaaDoorEF
import Derived.Test.YtoapgongbackaaaDoorEC
import Derived.Test.YtoapgongbackaaaDoorEE
set_option linter.unusedVariables false
set_option linter.unusedSimpArgs false
/-! S1: a program is one with itself, says the reference. -/
namespace Go.Proofs.YtoapgongbackaaaDoor.V
open Go Go.Proofs
set_option maxRecDepth 100000

theorem dI (a : Int) : decide (a = a) = true := decide_eq_true rfl
theorem dS (a : ByteArray) : decide (a = a) = true := decide_eq_true rfl
theorem sameTs_self {l : List Ty} (hB : l.length ≤ 4294967296) (hf : fineTs l) : Ct 39 [.val (.one (.sl 59 4 (tysC l) none)), .val (.one (.sl 59 4 (tysC l) none))] [.val (.one (.v (.bool true)))] [] := by
  have h : ∀ l : List Ty, sameTs l l = true := by
    have key : ∀ n, ∀ t : Ty, SizeOf.sizeOf t < n → sameT t t = true := by
      intro n
      induction n with
      | zero => intro t h; omega
      | succ n ih =>
        rintro ⟨k, m, s, q⟩ h
        have : ∀ q : List Ty, (∀ t ∈ q, sameT t t = true) → sameTs q q = true := by
          intro q
          induction q with
          | nil => intro _; simp [sameTs]
          | cons t q ihq => intro hq; simp [sameTs, hq t (List.mem_cons_self ..), ihq fun t ht => hq t (List.mem_cons_of_mem _ ht)]
        simp only [sameT, decide_true, Bool.true_and]
        exact this q fun t ht => ih t (by have := List.sizeOf_lt_of_mem ht; simp at h; omega)
    intro l
    induction l with
    | nil => simp [sameTs]
    | cons t l ih => simp [sameTs, ih, key (SizeOf.sizeOf t + 1) t (by omega)]
  have := sameTs_ct (l := l) (l' := l) hB fun t ht t' => sameT_ct (SizeOf.sizeOf t + 1) t t' (by omega) (by
    obtain ⟨i, hi⟩ := List.getElem?_of_mem ht
    exact fineTs_get hf hi)
  rwa [h] at this
theorem texts_self (l : List ByteArray) (hB : l.length ≤ 4294967296) : Ct 40 [.val (.one (.sl 9 1 (l.map str) none)), .val (.one (.sl 9 1 (l.map str) none))] [.val (.one (.v (.bool true)))] [] := by
  refine ct Tryd.func40 (by kernel_rfl) ?_
  conv => whnf
  rw [dI]
  conv => whnf
  refine ⟨fun n st => ∃ m i, n = l.length - m ∧ m ≤ l.length ∧ i = ((m : Nat) : Int) ∧
    st = ⟨[(5, .one (.v (.int .i64 i))), (0, .one (.sl 9 1 (l.map str) none)), (1, .one (.sl 9 1 (l.map str) none))], [], []⟩,
    ⟨_, _, wk [5, 0, 1] [] [] [] [] [] rfl, 0, 0, rfl, Nat.zero_le _, rfl, rfl⟩, ?_⟩
  rintro n st ⟨m, i, rfl, hm, rfl, rfl⟩
  conv => whnf
  cases hlt : decide (((m : Nat) : Int) < ((l.map str).length : Int))
  · conv => whnf
    exact ⟨rfl, rfl⟩
  · have hm2 : m < l.length := by simpa using hlt
    conv => whnf
    refine ⟨_, get_map (List.getElem?_eq_getElem hm2), ?_⟩
    conv => whnf
    refine ⟨_, get_map (List.getElem?_eq_getElem hm2), ?_⟩
    conv => whnf
    refine ⟨by kernel_rfl, ?_⟩
    conv => whnf
    rw [dS]
    conv => whnf
    refine ⟨_, _, ?_, wk [5, 0, 1] [] [] [] [] [] rfl, m + 1, _, rfl, hm2, i64_id (x := (m : Int) + 1) (by omega) (by omega), rfl⟩
    omega
theorem ex_at {l : List Exp} {m : Nat} (h : m < l.length) : ∃ e, e ∈ l ∧ (0 ≤ (m : Int) ∧ (exsC l)[((m : Nat) : Int).toNat]? = some (exC e)) := ⟨_, List.getElem_mem h, get_exs (List.getElem?_eq_getElem h)⟩
theorem alt_at {l : List Alt} {m : Nat} (h : m < l.length) : ∃ e, e ∈ l ∧ (0 ≤ (m : Int) ∧ (altsC l)[((m : Nat) : Int).toNat]? = some (altC e)) := ⟨_, List.getElem_mem h, get_alts (List.getElem?_eq_getElem h)⟩
theorem fineEs_mem {l : List Exp} (h : fineEs l) {e : Exp} (he : e ∈ l) : fineE e := by
  obtain ⟨i, hi⟩ := List.getElem?_of_mem he
  exact fineEs_get h hi
theorem fineAs_mem {l : List Alt} (h : fineAs l) {e : Alt} (he : e ∈ l) : fineA e := by
  obtain ⟨i, hi⟩ := List.getElem?_of_mem he
  exact fineAs_get h hi

set_option maxHeartbeats 4000000 in
theorem sameE_self : ∀ (n : Nat) (e : Exp), SizeOf.sizeOf e < n → fineE e → Ct 36 [.val (.agg (exC e)), .val (.agg (exC e))] [.val (.one (.v (.bool true)))] []
  | 0, _, h, _ => absurd h (Nat.not_lt_zero _)
  | n + 1, .mk k a s nn kids alts, hn, hf => by
    obtain ⟨f1, f2, f3, f4⟩ := hf
    have ihk : ∀ e ∈ kids, Ct 36 [.val (.agg (exC e)), .val (.agg (exC e))] [.val (.one (.v (.bool true)))] [] := fun e he => sameE_self n e (by
      have := List.sizeOf_lt_of_mem he
      simp at hn
      omega) (fineEs_mem f3 he)
    have iha : ∀ x ∈ alts, ∀ a1 s1 l1 b1, x = .mk a1 s1 l1 b1 → Ct 36 [.val (.agg (exC b1)), .val (.agg (exC b1))] [.val (.one (.v (.bool true)))] [] := fun x hx a1 s1 l1 b1 e => sameE_self n b1 (by
      have := List.sizeOf_lt_of_mem hx
      subst e
      simp at hn this
      omega) (by have := fineAs_mem f4 hx; subst e; exact this.2)
    refine ct Tryd.func36 (by kernel_rfl) ?_
    apply evF_of rfl
    apply seqC
    apply regL
    repeat ((with_reducible apply stepS); (· conv => whnf))
    apply endS; apply seqC; apply seqC; apply regL
    repeat ((with_reducible apply stepS); (· conv => whnf))
    rw [dI]
    repeat ((with_reducible apply stepS); (· conv => whnf))
    rw [dI]
    repeat ((with_reducible apply stepS); (· conv => whnf))
    rw [dS]
    repeat ((with_reducible apply stepS); (· conv => whnf))
    rw [dI]
    repeat ((with_reducible apply stepS); (· conv => whnf))
    rw [dI]
    repeat ((with_reducible apply stepS); (· conv => whnf))
    rw [dI]
    repeat ((with_reducible apply stepS); (· conv => whnf))
    apply endS
    apply condF; (· (conv => whnf); try rfl)
    apply skipC
    apply seqC
    apply seqC
    apply regL
    repeat ((with_reducible apply stepS); (· conv => whnf))
    apply endS
    apply blockC
    refine loopC (fun n st => ∃ m i, n = kids.length - m ∧ m ≤ kids.length ∧ i = ((m : Nat) : Int) ∧
      st = ⟨[(5, .one (.v (.int .i64 i))), (2, .one (.ptr 2 0 0)), (3, .one (.ptr 3 0 0))], [(2, ⟨0, 53, exC (.mk k a s nn kids alts)⟩), (3, ⟨0, 53, exC (.mk k a s nn kids alts)⟩)], []⟩)
      ⟨_, _, wk [5, 2, 3] [2, 3] [] [] [] [] rfl, 0, 0, rfl, Nat.zero_le _, rfl, rfl⟩ ?_
    rintro n' st ⟨m, i, rfl, hm, rfl, rfl⟩
    apply seqC
    apply seqC
    apply regL
    repeat ((with_reducible apply stepS); (· conv => whnf))
    apply endS
    cases hlt : decide (((m : Nat) : Int) < ((exsC kids).length : Int))
    · apply condF; (· (conv => whnf); try rfl)
      apply exitC
      apply seqC
      apply seqC
      apply regL
      repeat ((with_reducible apply stepS); (· conv => whnf))
      apply endS
      apply blockC
      refine loopC (fun n st => ∃ m i, n = alts.length - m ∧ m ≤ alts.length ∧ i = ((m : Nat) : Int) ∧
        st = ⟨[(6, .one (.v (.int .i64 i))), (2, .one (.ptr 2 0 0)), (3, .one (.ptr 3 0 0))], [(2, ⟨0, 53, exC (.mk k a s nn kids alts)⟩), (3, ⟨0, 53, exC (.mk k a s nn kids alts)⟩)], []⟩)
        ⟨_, _, wk [6, 2, 3] [2, 3] [] [] [] [] rfl, 0, 0, rfl, Nat.zero_le _, rfl, rfl⟩ ?_
      rintro n' st ⟨m, i, rfl, hm, rfl, rfl⟩
      apply seqC
      apply seqC
      apply regL
      repeat ((with_reducible apply stepS); (· conv => whnf))
      apply endS
      cases hlt : decide (((m : Nat) : Int) < ((altsC alts).length : Int))
      · apply condF; (· (conv => whnf); try rfl)
        apply exitC
        apply seqC
        apply regL
        repeat ((with_reducible apply stepS); (· conv => whnf))
        apply endS
        apply retC
        conv => whnf
        exact ⟨rfl, rfl⟩
      · have hm2 : m < alts.length := by rw [altsC_length] at hlt; simpa using hlt
        obtain ⟨⟨a1, s1, l1, b1⟩, hmem, hget⟩ := alt_at hm2
        have hb := iha _ hmem a1 s1 l1 b1 rfl
        have hfa : l1.length ≤ 4294967296 := (fineAs_mem f4 hmem).1
        obtain ⟨k2, a2, s2, n2, ks2, as2⟩ := b1
        apply condT; (· (conv => whnf); try rfl)
        apply skipC
        apply seqC
        apply blockC
        apply seqC
        apply regDL
        repeat ((with_reducible apply stepD); (· (conv => whnf); refine ⟨⟨rfl, rfl⟩, ?_⟩; (conv => whnf)))
        apply stepD; (· (conv => whnf); refine ⟨_, hget, ?_⟩; (conv => whnf); refine ⟨⟨rfl, rfl⟩, ?_⟩; (conv => whnf))
        repeat ((with_reducible apply stepD); (· (conv => whnf); refine ⟨⟨rfl, rfl⟩, ?_⟩; (conv => whnf)))
        apply stepD; (· (conv => whnf); refine ⟨_, hget, ?_⟩; (conv => whnf); refine ⟨⟨rfl, rfl⟩, ?_⟩; (conv => whnf))
        repeat ((with_reducible apply stepD); (· (conv => whnf); refine ⟨⟨rfl, rfl⟩, ?_⟩; (conv => whnf)))
        apply endD; (· exact apart_of (by kernel_rfl))
        apply seqC
        apply regL
        repeat ((with_reducible apply stepS); (· conv => whnf))
        rw [dI]
        repeat ((with_reducible apply stepS); (· conv => whnf))
        rw [dS]
        repeat ((with_reducible apply stepS); (· conv => whnf))
        apply stepS; (· (conv => whnf); refine ⟨_, _, texts_self l1 hfa, ?_⟩; (conv => whnf))
        repeat ((with_reducible apply stepS); (· conv => whnf))
        apply stepS; (· (conv => whnf); refine ⟨_, _, hb, ?_⟩; (conv => whnf))
        repeat ((with_reducible apply stepS); (· conv => whnf))
        apply endS
        apply condF; (· (conv => whnf); try rfl)
        apply skipC
        apply regL
        repeat ((with_reducible apply stepS); (· conv => whnf))
        apply endS
        refine ⟨_, _, ?_, wk [6, 2, 3] [2, 3] [] [] [] [] rfl, m + 1, _, rfl, hm2, i64_id (x := (m : Int) + 1) (by omega) (by omega), rfl⟩
        omega
    · have hm2 : m < kids.length := by rw [exsC_length] at hlt; simpa using hlt
      obtain ⟨e1, hmem, hget⟩ := ex_at hm2
      have hb := ihk e1 hmem
      obtain ⟨k2, a2, s2, n2, ks2, as2⟩ := e1
      apply condT; (· (conv => whnf); try rfl)
      apply skipC
      apply seqC
      apply blockC
      apply seqC
      apply regDL
      repeat ((with_reducible apply stepD); (· (conv => whnf); refine ⟨⟨rfl, rfl⟩, ?_⟩; (conv => whnf)))
      apply stepD; (· (conv => whnf); refine ⟨_, hget, ?_⟩; (conv => whnf); refine ⟨⟨rfl, rfl⟩, ?_⟩; (conv => whnf))
      repeat ((with_reducible apply stepD); (· (conv => whnf); refine ⟨⟨rfl, rfl⟩, ?_⟩; (conv => whnf)))
      apply stepD; (· (conv => whnf); refine ⟨_, hget, ?_⟩; (conv => whnf); refine ⟨⟨rfl, rfl⟩, ?_⟩; (conv => whnf))
      repeat ((with_reducible apply stepD); (· (conv => whnf); refine ⟨⟨rfl, rfl⟩, ?_⟩; (conv => whnf)))
      apply stepD; (· (conv => whnf); refine ⟨_, _, hb, ?_⟩; (conv => whnf); refine ⟨⟨rfl, rfl⟩, ?_⟩; (conv => whnf))
      repeat ((with_reducible apply stepD); (· (conv => whnf); refine ⟨⟨rfl, rfl⟩, ?_⟩; (conv => whnf)))
      apply endD; (· exact apart_of (by kernel_rfl))
      apply condF; (· (conv => whnf); try rfl)
      apply skipC
      apply regL
      repeat ((with_reducible apply stepS); (· conv => whnf))
      apply endS
      refine ⟨_, _, ?_, wk [5, 2, 3] [2, 3] [] [] [] [] rfl, m + 1, _, rfl, hm2, i64_id (x := (m : Int) + 1) (by omega) (by omega), rfl⟩
      omega
end Go.Proofs.YtoapgongbackaaaDoor.V

/-! S2: a program is one with itself: data, programs. -/
namespace Go.Proofs.YtoapgongbackaaaDoor.V
open Go Go.Proofs
set_option maxRecDepth 100000

structure FineDs (l : List DataD) : Prop where
  len : l.length ≤ 4294967296
  cons : ∀ d ∈ l, d.cons.length ≤ 4294967296 ∧ d.vars.length ≤ 4294967296
  args : ∀ d ∈ l, ∀ c ∈ d.cons, c.args.length ≤ 4294967296 ∧ fineTs c.args
theorem map_at {α : Type} {f : α → List AC} {l : List α} {m : Nat} (h : m < l.length) : ∃ e, e ∈ l ∧ (0 ≤ (m : Int) ∧ (l.map f)[((m : Nat) : Int).toNat]? = some (f e)) := ⟨_, List.getElem_mem h, get_map (List.getElem?_eq_getElem h)⟩
set_option maxHeartbeats 4000000 in
theorem sameDs_self {l : List DataD} (hf : FineDs l) : Ct 22 [.val (.one (.sl 62 4 (l.map dataC) none)), .val (.one (.sl 62 4 (l.map dataC) none))] [.val (.one (.v (.bool true)))] [] := by
  obtain ⟨f0, f1, f2⟩ := hf
  refine ct Tryd.func22 (by kernel_rfl) ?_
  apply evF_of (ts := [(0, .one (.sl 62 4 (l.map dataC) none)), (1, .one (.sl 62 4 (l.map dataC) none))]) (bs := []) rfl
  apply seqC
  apply regL
  repeat ((with_reducible apply stepS); (· conv => whnf))
  apply endS; apply seqC; apply seqC; apply regL
  repeat ((with_reducible apply stepS); (· conv => whnf))
  rw [dI]
  apply endS
  apply condF; (· (conv => whnf); try rfl)
  apply skipC
  apply seqC
  apply seqC
  apply regL
  repeat ((with_reducible apply stepS); (· conv => whnf))
  apply endS
  apply blockC
  refine loopC (fun n st => ∃ m i, n = l.length - m ∧ m ≤ l.length ∧ i = ((m : Nat) : Int) ∧
    st = ⟨[(5, .one (.v (.int .i64 i))), (0, .one (.sl 62 4 (l.map dataC) none)), (1, .one (.sl 62 4 (l.map dataC) none))], [], []⟩)
    ⟨_, _, wk [5, 0, 1] [] [] [] [] [] rfl, 0, 0, rfl, Nat.zero_le _, rfl, rfl⟩ ?_
  rintro n' st ⟨m, i, rfl, hm, rfl, rfl⟩
  apply seqC
  apply seqC
  apply regL
  repeat ((with_reducible apply stepS); (· conv => whnf))
  apply endS
  cases hlt : decide (((m : Nat) : Int) < ((l.map dataC).length : Int))
  · apply condF; (· (conv => whnf); try rfl)
    apply exitC
    apply seqC
    apply regL
    repeat ((with_reducible apply stepS); (· conv => whnf))
    apply endS
    apply retC
    conv => whnf
    exact ⟨rfl, rfl⟩
  · have hm2 : m < l.length := by simpa using hlt
    obtain ⟨⟨s1, a1, v1, c1⟩, hmem, hget⟩ := map_at (f := dataC) hm2
    have hv := (f1 _ hmem).2
    have hc : c1.length ≤ 4294967296 := (f1 _ hmem).1
    have ha := f2 _ hmem
    apply condT; (· (conv => whnf); try rfl)
    apply skipC
    apply seqC
    apply blockC
    apply seqC
    apply regDL
    repeat ((with_reducible apply stepD); (· (conv => whnf); refine ⟨⟨rfl, rfl⟩, ?_⟩; (conv => whnf)))
    apply stepD; (· (conv => whnf); refine ⟨_, hget, ?_⟩; (conv => whnf); refine ⟨⟨rfl, rfl⟩, ?_⟩; (conv => whnf))
    repeat ((with_reducible apply stepD); (· (conv => whnf); refine ⟨⟨rfl, rfl⟩, ?_⟩; (conv => whnf)))
    apply stepD; (· (conv => whnf); refine ⟨_, hget, ?_⟩; (conv => whnf); refine ⟨⟨rfl, rfl⟩, ?_⟩; (conv => whnf))
    repeat ((with_reducible apply stepD); (· (conv => whnf); refine ⟨⟨rfl, rfl⟩, ?_⟩; (conv => whnf)))
    apply endD; (· exact apart_of (by kernel_rfl))
    apply seqC
    apply seqC
    apply regL
    repeat ((with_reducible apply stepS); (· conv => whnf))
    rw [dS]
    repeat ((with_reducible apply stepS); (· conv => whnf))
    rw [dI]
    repeat ((with_reducible apply stepS); (· conv => whnf))
    apply stepS; (· (conv => whnf); refine ⟨_, _, texts_self v1 hv, ?_⟩; (conv => whnf))
    repeat ((with_reducible apply stepS); (· conv => whnf))
    rw [dI]
    repeat ((with_reducible apply stepS); (· conv => whnf))
    apply endS
    apply condF; (· (conv => whnf); try rfl)
    apply skipC
    apply seqC
    apply regL
    repeat ((with_reducible apply stepS); (· conv => whnf))
    apply endS
    apply blockC
    refine loopC (fun n st => ∃ q j, n = c1.length - q ∧ q ≤ c1.length ∧ j = ((q : Nat) : Int) ∧
      st = ⟨[(8, .one (.v (.int .i64 j))), (5, .one (.v (.int .i64 (m : Int)))), (0, .one (.sl 62 4 (l.map dataC) none)), (1, .one (.sl 62 4 (l.map dataC) none)), (6, .one (.ptr 6 0 0)), (7, .one (.ptr 7 0 0))], [(6, ⟨0, 62, dataC ⟨s1, a1, v1, c1⟩⟩), (7, ⟨0, 62, dataC ⟨s1, a1, v1, c1⟩⟩)], []⟩)
      ⟨_, _, wk [8, 5, 0, 1, 6, 7] [6, 7] [] [] [] [] rfl, 0, 0, rfl, Nat.zero_le _, rfl, rfl⟩ ?_
    rintro n' st ⟨q, j, rfl, hq, rfl, rfl⟩
    apply seqC
    apply seqC
    apply regL
    repeat ((with_reducible apply stepS); (· conv => whnf))
    apply endS
    cases hlt : decide (((q : Nat) : Int) < ((c1.map conC).length : Int))
    · apply condF; (· (conv => whnf); try rfl)
      apply exitC
      apply regL
      repeat ((with_reducible apply stepS); (· conv => whnf))
      apply endS
      refine ⟨_, _, ?_, wk [5, 0, 1] [] [] [] [] [] rfl, m + 1, _, rfl, hm2, i64_id (x := (m : Int) + 1) (by omega) (by omega), rfl⟩
      omega
    · have hq2 : q < c1.length := by simpa using hlt
      obtain ⟨⟨s2, a2, g2⟩, hmem2, hget2⟩ := map_at (f := conC) hq2
      have hg := ha _ hmem2
      apply condT; (· (conv => whnf); try rfl)
      apply skipC
      apply seqC
      apply blockC
      apply seqC
      apply regDL
      repeat ((with_reducible apply stepD); (· (conv => whnf); refine ⟨⟨rfl, rfl⟩, ?_⟩; (conv => whnf)))
      apply stepD; (· (conv => whnf); refine ⟨_, hget2, ?_⟩; (conv => whnf); refine ⟨⟨rfl, rfl⟩, ?_⟩; (conv => whnf))
      repeat ((with_reducible apply stepD); (· (conv => whnf); refine ⟨⟨rfl, rfl⟩, ?_⟩; (conv => whnf)))
      apply stepD; (· (conv => whnf); refine ⟨_, hget2, ?_⟩; (conv => whnf); refine ⟨⟨rfl, rfl⟩, ?_⟩; (conv => whnf))
      repeat ((with_reducible apply stepD); (· (conv => whnf); refine ⟨⟨rfl, rfl⟩, ?_⟩; (conv => whnf)))
      rw [dS]
      repeat ((with_reducible apply stepD); (· (conv => whnf); refine ⟨⟨rfl, rfl⟩, ?_⟩; (conv => whnf)))
      apply stepD; (· (conv => whnf); refine ⟨_, hget2, ?_⟩; (conv => whnf); refine ⟨⟨rfl, rfl⟩, ?_⟩; (conv => whnf))
      repeat ((with_reducible apply stepD); (· (conv => whnf); refine ⟨⟨rfl, rfl⟩, ?_⟩; (conv => whnf)))
      apply stepD; (· (conv => whnf); refine ⟨_, hget2, ?_⟩; (conv => whnf); refine ⟨⟨rfl, rfl⟩, ?_⟩; (conv => whnf))
      repeat ((with_reducible apply stepD); (· (conv => whnf); refine ⟨⟨rfl, rfl⟩, ?_⟩; (conv => whnf)))
      rw [dI]
      repeat ((with_reducible apply stepD); (· (conv => whnf); refine ⟨⟨rfl, rfl⟩, ?_⟩; (conv => whnf)))
      apply stepD; (· (conv => whnf); refine ⟨_, hget2, ?_⟩; (conv => whnf); refine ⟨⟨rfl, rfl⟩, ?_⟩; (conv => whnf))
      repeat ((with_reducible apply stepD); (· (conv => whnf); refine ⟨⟨rfl, rfl⟩, ?_⟩; (conv => whnf)))
      apply stepD; (· (conv => whnf); refine ⟨_, hget2, ?_⟩; (conv => whnf); refine ⟨⟨rfl, rfl⟩, ?_⟩; (conv => whnf))
      repeat ((with_reducible apply stepD); (· (conv => whnf); refine ⟨⟨rfl, rfl⟩, ?_⟩; (conv => whnf)))
      apply stepD; (· (conv => whnf); refine ⟨_, _, sameTs_self hg.1 hg.2, ?_⟩; (conv => whnf); refine ⟨⟨rfl, rfl⟩, ?_⟩; (conv => whnf))
      repeat ((with_reducible apply stepD); (· (conv => whnf); refine ⟨⟨rfl, rfl⟩, ?_⟩; (conv => whnf)))
      apply endD; (· exact apart_of (by kernel_rfl))
      apply condF; (· (conv => whnf); try rfl)
      apply skipC
      apply regL
      repeat ((with_reducible apply stepS); (· conv => whnf))
      apply endS
      refine ⟨_, _, ?_, wk [8, 5, 0, 1, 6, 7] [6, 7] [] [] [] [] rfl, q + 1, _, rfl, hq2, i64_id (x := (q : Int) + 1) (by omega) (by omega), rfl⟩
      omega
set_option maxHeartbeats 4000000 in
theorem sameP_self {p : ProgD} (hp : FineP p) : Ct 14 [.val (.agg (progC p)), .val (.agg (progC p))] [.val (.one (.v (.bool true)))] [] := by
  obtain ⟨ds, bs⟩ := p
  obtain ⟨f1, f2, f3, f4, f5⟩ := hp
  have f1 : bs.length ≤ 4294967296 := f1
  have hd := sameDs_self ⟨f2, f4, f5⟩
  refine ct Tryd.func14 (by kernel_rfl) ?_
  apply evF_of (ts := [(0, .agg [.sl 62 4 (ds.map dataC) none, .sl 55 8 (bs.map bindC) none]), (1, .agg [.sl 62 4 (ds.map dataC) none, .sl 55 8 (bs.map bindC) none])]) (bs := []) rfl
  apply seqC
  apply regL
  repeat ((with_reducible apply stepS); (· conv => whnf))
  apply endS; apply seqC; apply seqC; apply regL
  repeat ((with_reducible apply stepS); (· conv => whnf))
  apply stepS; (· (conv => whnf); refine ⟨_, _, hd, ?_⟩; (conv => whnf))
  repeat ((with_reducible apply stepS); (· conv => whnf))
  rw [dI]
  repeat ((with_reducible apply stepS); (· conv => whnf))
  apply endS
  apply condF; (· (conv => whnf); try rfl)
  apply skipC
  apply seqC
  apply seqC
  apply regL
  repeat ((with_reducible apply stepS); (· conv => whnf))
  apply endS
  apply blockC
  refine loopC (fun n st => ∃ m i, n = bs.length - m ∧ m ≤ bs.length ∧ i = ((m : Nat) : Int) ∧
    st = ⟨[(5, .one (.v (.int .i64 i))), (2, .one (.ptr 2 0 0)), (3, .one (.ptr 3 0 0))], [(2, ⟨0, 26, [.sl 62 4 (ds.map dataC) none, .sl 55 8 (bs.map bindC) none]⟩), (3, ⟨0, 26, [.sl 62 4 (ds.map dataC) none, .sl 55 8 (bs.map bindC) none]⟩)], []⟩)
    ⟨_, _, wk [5, 2, 3] [2, 3] [] [] [] [] rfl, 0, 0, rfl, Nat.zero_le _, rfl, rfl⟩ ?_
  rintro n' st ⟨m, i, rfl, hm, rfl, rfl⟩
  apply seqC
  apply seqC
  apply regL
  repeat ((with_reducible apply stepS); (· conv => whnf))
  apply endS
  cases hlt : decide (((m : Nat) : Int) < ((bs.map bindC).length : Int))
  · apply condF; (· (conv => whnf); try rfl)
    apply exitC
    apply seqC
    apply regL
    repeat ((with_reducible apply stepS); (· conv => whnf))
    apply endS
    apply retC
    conv => whnf
    exact ⟨rfl, rfl⟩
  · have hm2 : m < bs.length := by simpa using hlt
    obtain ⟨⟨s1, a1, b1⟩, hmem, hget⟩ := map_at (f := bindC) hm2
    have hb := sameE_self _ b1 (Nat.lt_succ_self _) (f3 _ hmem)
    obtain ⟨k2, a2, s2, n2, ks2, as2⟩ := b1
    apply condT; (· (conv => whnf); try rfl)
    apply skipC
    apply seqC
    apply blockC
    apply seqC
    apply regDL
    repeat ((with_reducible apply stepD); (· (conv => whnf); refine ⟨⟨rfl, rfl⟩, ?_⟩; (conv => whnf)))
    apply stepD; (· (conv => whnf); refine ⟨_, hget, ?_⟩; (conv => whnf); refine ⟨⟨rfl, rfl⟩, ?_⟩; (conv => whnf))
    repeat ((with_reducible apply stepD); (· (conv => whnf); refine ⟨⟨rfl, rfl⟩, ?_⟩; (conv => whnf)))
    apply stepD; (· (conv => whnf); refine ⟨_, hget, ?_⟩; (conv => whnf); refine ⟨⟨rfl, rfl⟩, ?_⟩; (conv => whnf))
    repeat ((with_reducible apply stepD); (· (conv => whnf); refine ⟨⟨rfl, rfl⟩, ?_⟩; (conv => whnf)))
    apply endD; (· exact apart_of (by kernel_rfl))
    apply seqC
    apply regL
    repeat ((with_reducible apply stepS); (· conv => whnf))
    rw [dS]
    repeat ((with_reducible apply stepS); (· conv => whnf))
    rw [dI]
    repeat ((with_reducible apply stepS); (· conv => whnf))
    apply stepS; (· (conv => whnf); refine ⟨_, _, hb, ?_⟩; (conv => whnf))
    repeat ((with_reducible apply stepS); (· conv => whnf))
    apply endS
    apply condF; (· (conv => whnf); try rfl)
    apply skipC
    apply regL
    repeat ((with_reducible apply stepS); (· conv => whnf))
    apply endS
    refine ⟨_, _, ?_, wk [5, 2, 3] [2, 3] [] [] [] [] rfl, m + 1, _, rfl, hm2, i64_id (x := (m : Int) + 1) (by omega) (by omega), rfl⟩
    omega
end Go.Proofs.YtoapgongbackaaaDoor.V

/-! S3: how deep, says the reference. -/
namespace Go.Proofs.YtoapgongbackaaaDoor.V
open Go Go.Proofs
set_option maxRecDepth 100000

theorem rhigh_ct : ∀ (n : Nat) (t : Ty), SizeOf.sizeOf t < n → fineT t → Ct 69 [.val (.agg (tyC t))] [.val (.one (.v (.int .i64 (deepT t))))] []
  | 0, _, h, _ => by omega
  | n + 1, .mk k nn s kids, h, hf => by
    obtain ⟨hf1, hf2⟩ := hf
    refine ct Tryd.func69 (by kernel_rfl) ?_
    unfold deepT
    conv => whnf
    refine ⟨fun j st => ∃ m i x, j = kids.length - m ∧ m ≤ kids.length ∧ i = ((m : Nat) : Int) ∧ deepTs 0 kids = deepTs x (kids.drop m) ∧
      st = ⟨[(3, .one (.v (.int .i64 x))), (4, .one (.v (.int .i64 i))), (1, .one (.ptr 1 0 0))], [(1, ⟨0, 59, tyC (.mk k nn s kids)⟩)], []⟩,
      ⟨_, _, wk [3, 4, 1] [1] [] [] [] [] rfl, 0, 0, 0, rfl, Nat.zero_le _, rfl, rfl, rfl⟩, ?_⟩
    rintro j st ⟨m, i, x, rfl, hm, rfl, hx, rfl⟩
    conv => whnf
    cases hlt : decide (((m : Nat) : Int) < ((tysC kids).length : Int))
    · conv => whnf
      have : m = kids.length := by simp [tysC_length] at hlt; omega
      subst this
      rw [hx, List.drop_length]
      exact ⟨rfl, rfl⟩
    · have hm2 : m < kids.length := by simpa [tysC_length] using hlt
      rw [List.drop_eq_getElem_cons hm2] at hx
      have hsz : SizeOf.sizeOf kids[m] < n := by
        have := List.sizeOf_lt_of_mem (List.getElem_mem hm2)
        simp at h
        omega
      have hg := get_tys (List.getElem?_eq_getElem hm2)
      have hft := fineTs_get hf2 (List.getElem?_eq_getElem hm2)
      generalize kids[m] = t2 at hx hsz hg hft
      obtain ⟨k2, n2, s2, kids2⟩ := t2
      conv => whnf
      refine ⟨_, hg, ?_⟩
      conv => whnf
      refine ⟨_, _, rhigh_ct n _ hsz hft, ?_⟩
      conv => whnf
      refine ⟨_, _, ?_, wk [3, 4, 1] [1] [] [] [] [] rfl, m + 1, _, _, rfl, hm2, i64_id (x := (m : Int) + 1) (by omega) (by omega), hx, rfl⟩
      omega
theorem rdeep_ct : ∀ (n : Nat) (e : Exp), SizeOf.sizeOf e < n → fineE e → Ct 68 [.val (.agg (exC e))] [.val (.one (.v (.int .i64 (deepE e))))] []
  | 0, _, h, _ => by omega
  | n + 1, .mk k at_ s nn kids alts, h, hf => by
    obtain ⟨hf1, hf2, hf3, hf4⟩ := hf
    refine ct Tryd.func68 (by kernel_rfl) ?_
    unfold deepE
    conv => whnf
    refine ⟨fun j st => ∃ m i x, j = kids.length - m ∧ m ≤ kids.length ∧ i = ((m : Nat) : Int) ∧ deepEs 0 kids = deepEs x (kids.drop m) ∧
      st = ⟨[(3, .one (.v (.int .i64 x))), (4, .one (.v (.int .i64 i))), (1, .one (.ptr 1 0 0))], [(1, ⟨0, 53, exC (.mk k at_ s nn kids alts)⟩)], []⟩,
      ⟨_, _, wk [3, 4, 1] [1] [] [] [] [] rfl, 0, 0, 0, rfl, Nat.zero_le _, rfl, rfl, rfl⟩, ?_⟩
    rintro j st ⟨m, i, x, rfl, hm, rfl, hx, rfl⟩
    conv => whnf
    cases hlt : decide (((m : Nat) : Int) < ((exsC kids).length : Int))
    · have : m = kids.length := by simp [exsC_length] at hlt; omega
      subst this
      rw [List.drop_length] at hx
      rw [hx]
      unfold deepEs
      conv => whnf
      refine ⟨fun j st => ∃ m i y, j = alts.length - m ∧ m ≤ alts.length ∧ i = ((m : Nat) : Int) ∧ deepAs x alts = deepAs y (alts.drop m) ∧
        st = ⟨[(3, .one (.v (.int .i64 y))), (5, .one (.v (.int .i64 i))), (1, .one (.ptr 1 0 0))], [(1, ⟨0, 53, exC (.mk k at_ s nn kids alts)⟩)], []⟩,
        ⟨_, _, wk [3, 5, 1] [1] [] [] [] [] rfl, 0, 0, x, rfl, Nat.zero_le _, rfl, rfl, rfl⟩, ?_⟩
      rintro j st ⟨m, i, y, rfl, hm, rfl, hy, rfl⟩
      conv => whnf
      cases hlt : decide (((m : Nat) : Int) < ((altsC alts).length : Int))
      · conv => whnf
        have : m = alts.length := by simp [altsC_length] at hlt; omega
        subst this
        rw [hy, List.drop_length]
        exact ⟨rfl, rfl⟩
      · have hm2 : m < alts.length := by simpa [altsC_length] using hlt
        rw [List.drop_eq_getElem_cons hm2] at hy
        have hsz : SizeOf.sizeOf alts[m] < n := by
          have := List.sizeOf_lt_of_mem (List.getElem_mem hm2)
          simp at h
          omega
        have hg := get_alts (List.getElem?_eq_getElem hm2)
        have hft := fineAs_get hf4 (List.getElem?_eq_getElem hm2)
        generalize alts[m] = t2 at hy hsz hg hft
        obtain ⟨a2, s2, names2, b2⟩ := t2
        have hsz2 : SizeOf.sizeOf b2 < n := by simp at hsz; omega
        obtain ⟨k3, a3, s3, n3, kids3, alts3⟩ := b2
        conv => whnf
        refine ⟨_, hg, ?_⟩
        conv => whnf
        refine ⟨_, _, rdeep_ct n _ hsz2 hft.2, ?_⟩
        conv => whnf
        refine ⟨_, _, ?_, wk [3, 5, 1] [1] [] [] [] [] rfl, m + 1, _, _, rfl, hm2, i64_id (x := (m : Int) + 1) (by omega) (by omega), hy, rfl⟩
        omega
    · have hm2 : m < kids.length := by simpa [exsC_length] using hlt
      rw [List.drop_eq_getElem_cons hm2] at hx
      have hsz : SizeOf.sizeOf kids[m] < n := by
        have := List.sizeOf_lt_of_mem (List.getElem_mem hm2)
        simp at h
        omega
      have hg := get_exs (List.getElem?_eq_getElem hm2)
      have hft := fineEs_get hf3 (List.getElem?_eq_getElem hm2)
      generalize kids[m] = t2 at hx hsz hg hft
      obtain ⟨k2, a2, s2, n2, kids2, alts2⟩ := t2
      conv => whnf
      refine ⟨_, hg, ?_⟩
      conv => whnf
      refine ⟨_, _, rdeep_ct n _ hsz hft, ?_⟩
      conv => whnf
      refine ⟨_, _, ?_, wk [3, 4, 1] [1] [] [] [] [] rfl, m + 1, _, _, rfl, hm2, i64_id (x := (m : Int) + 1) (by omega) (by omega), hx, rfl⟩
      omega
/-- The reference's way: place after place. -/
def lowArgs (z : Int) : Int → List Ty → Int
  | a, [] => a
  | a, t :: l => lowArgs z (match decide (60 < deepT t) with | true => leastP a z | false => a) l
theorem least_idem (a z : Int) : leastP (leastP a z) z = leastP a z := by
  unfold leastP
  by_cases h1 : a < 0
  · simp [h1]
    cases decide (z < 0) <;> rfl
  · by_cases h2 : z < a
    · simp [h1, h2]
      cases decide (z < 0) <;> rfl
    · simp [h1, h2]
theorem overFrom_ge : ∀ (l : List Ty) (i : Nat), overFrom l i = -1 ∨ 0 ≤ overFrom l i
  | [], _ => .inl rfl
  | t :: l, i => by
    unfold overFrom
    split
    · exact .inr (by omega)
    · exact overFrom_ge l (i + 1)
theorem overFrom_next : ∀ (l : List Ty) (i j : Nat), decide (0 ≤ overFrom l i) = decide (0 ≤ overFrom l j)
  | [], _, _ => rfl
  | t :: l, i, j => by
    unfold overFrom
    split
    · rw [decide_eq_true (by omega), decide_eq_true (by omega)]
    · exact overFrom_next l (i + 1) (j + 1)
theorem lowArgs_least (z : Int) : ∀ (l : List Ty) (a : Int), lowArgs z (leastP a z) l = leastP a z
  | [], _ => rfl
  | t :: l, a => by
    unfold lowArgs
    split
    · rw [least_idem]; exact lowArgs_least z l a
    · exact lowArgs_least z l a
theorem lowArgs_eq (z : Int) : ∀ (l : List Ty) (a : Int), lowArgs z a l = match decide (0 ≤ overFrom l 0) with | true => leastP a z | false => a
  | [], a => rfl
  | t :: l, a => by
    unfold lowArgs overFrom overT
    cases hd : decide (60 < deepT t) with
    | true =>
      simp only
      rw [lowArgs_least]
      rfl
    | false =>
      simp only
      rw [lowArgs_eq z l a, overFrom_next l (0 + 1) 0]
theorem lowC_cons (a : Int) (c : ConD) (l : List ConD) : lowC a (c :: l) = lowC (lowArgs c.at_ a c.args) l := by
  rw [lowArgs_eq]
  conv => lhs; unfold lowC
  split <;> rename_i h <;> rw [h]
theorem lowB_cons (a : Int) (b : BindD) (l : List BindD) : lowB a (b :: l) = lowB (match decide (60 < deepE b.body) with | true => leastP a b.at_ | false => a) l := by
  conv => lhs; unfold lowB
  split <;> rename_i h <;> rw [h]
theorem lowD_cons (a : Int) (d : DataD) (l : List DataD) : lowD a (d :: l) = lowD (lowC a d.cons) l := rfl
set_option maxHeartbeats 16000000 in
theorem tooDeep_ct {p : ProgD} (hp : FineP p) : Ct 35 [.val (.agg (progC p))] [.val (.one (.v (.int .i64 (deepestP p))))] [] := by
  obtain ⟨ds, bs⟩ := p
  obtain ⟨f1, f2, f3, f4, f5⟩ := hp
  have f1 : bs.length ≤ 4294967296 := f1
  have f2 : ds.length ≤ 4294967296 := f2
  unfold deepestP
  simp only
  refine ct Tryd.func35 (by kernel_rfl) ?_
  apply evF_of (ts := [(0, .agg [.sl 62 4 (ds.map dataC) none, .sl 55 8 (bs.map bindC) none])]) (bs := []) rfl
  apply seqC
  apply regL
  repeat ((with_reducible apply stepS); (· conv => whnf))
  apply endS; apply seqC; apply regL
  repeat ((with_reducible apply stepS); (· conv => whnf))
  apply endS; apply seqC; apply seqC; apply regL
  repeat ((with_reducible apply stepS); (· conv => whnf))
  apply endS
  apply blockC
  refine loopC (fun n st => ∃ m i x, n = bs.length - m ∧ m ≤ bs.length ∧ i = ((m : Nat) : Int) ∧ lowB (-1) bs = lowB x (bs.drop m) ∧
    st = ⟨[(3, .one (.v (.int .i64 x))), (4, .one (.v (.int .i64 i))), (1, .one (.ptr 1 0 0))], [(1, ⟨0, 26, [.sl 62 4 (ds.map dataC) none, .sl 55 8 (bs.map bindC) none]⟩)], []⟩)
    ⟨_, _, wk [3, 4, 1] [1] [] [] [] [] rfl, 0, 0, -1, rfl, Nat.zero_le _, rfl, rfl, rfl⟩ ?_
  rintro n' st ⟨m, i, x, rfl, hm, rfl, hx, rfl⟩
  apply seqC
  apply seqC
  apply regL
  repeat ((with_reducible apply stepS); (· conv => whnf))
  apply endS
  cases hlt : decide (((m : Nat) : Int) < ((bs.map bindC).length : Int))
  · apply condF; (· (conv => whnf); try rfl)
    apply exitC
    have : m = bs.length := by simp at hlt; omega
    subst this
    rw [List.drop_length] at hx
    rw [hx]
    unfold lowB
    clear hx
    apply seqC
    apply seqC
    apply regL
    repeat ((with_reducible apply stepS); (· conv => whnf))
    apply endS
    apply blockC
    refine loopC (fun n st => ∃ m i y, n = ds.length - m ∧ m ≤ ds.length ∧ i = ((m : Nat) : Int) ∧ lowD x ds = lowD y (ds.drop m) ∧
      st = ⟨[(3, .one (.v (.int .i64 y))), (5, .one (.v (.int .i64 i))), (1, .one (.ptr 1 0 0))], [(1, ⟨0, 26, [.sl 62 4 (ds.map dataC) none, .sl 55 8 (bs.map bindC) none]⟩)], []⟩)
      ⟨_, _, wk [3, 5, 1] [1] [] [] [] [] rfl, 0, 0, x, rfl, Nat.zero_le _, rfl, rfl, rfl⟩ ?_
    rintro n' st ⟨m, i, y, rfl, hm, rfl, hy, rfl⟩
    apply seqC
    apply seqC
    apply regL
    repeat ((with_reducible apply stepS); (· conv => whnf))
    apply endS
    cases hlt : decide (((m : Nat) : Int) < ((ds.map dataC).length : Int))
    · apply condF; (· (conv => whnf); try rfl)
      apply exitC
      have : m = ds.length := by simp at hlt; omega
      subst this
      rw [List.drop_length] at hy
      rw [hy]
      unfold lowD
      apply seqC
      apply regL
      repeat ((with_reducible apply stepS); (· conv => whnf))
      apply endS
      apply retC
      conv => whnf
      exact ⟨rfl, rfl⟩
    · have hm2 : m < ds.length := by simpa using hlt
      rw [List.drop_eq_getElem_cons hm2, lowD_cons] at hy
      have hg := get_map (f := dataC) (List.getElem?_eq_getElem hm2)
      have hmem := List.getElem_mem hm2
      generalize ds[m] = d at hy hg hmem
      obtain ⟨s1, a1, v1, c1⟩ := d
      have hc1 : c1.length ≤ 4294967296 := (f4 _ hmem).1
      have hargs := f5 _ hmem
      simp only at hy hargs
      apply condT; (· (conv => whnf); try rfl)
      apply skipC
      apply seqC
      apply blockC
      apply seqC
      apply regL
      repeat ((with_reducible apply stepS); (· conv => whnf))
      apply endS
      apply blockC
      refine loopC (fun n st => ∃ q j z, n = c1.length - q ∧ q ≤ c1.length ∧ j = ((q : Nat) : Int) ∧ lowD x ds = lowD (lowC z (c1.drop q)) (ds.drop (m + 1)) ∧
        st = ⟨[(3, .one (.v (.int .i64 z))), (6, .one (.v (.int .i64 j))), (5, .one (.v (.int .i64 (m : Int)))), (1, .one (.ptr 1 0 0))], [(1, ⟨0, 26, [.sl 62 4 (ds.map dataC) none, .sl 55 8 (bs.map bindC) none]⟩)], []⟩)
        ⟨_, _, wk [3, 6, 5, 1] [1] [] [] [] [] rfl, 0, 0, y, rfl, Nat.zero_le _, rfl, hy, rfl⟩ ?_
      rintro n' st ⟨q, j, z, rfl, hq, rfl, hz, rfl⟩
      apply seqC
      apply seqC
      apply regL
      repeat ((with_reducible apply stepS); (· conv => whnf))
      apply stepS; (· (conv => whnf); refine ⟨_, hg, ?_⟩; (conv => whnf))
      repeat ((with_reducible apply stepS); (· conv => whnf))
      apply endS
      cases hlt : decide (((q : Nat) : Int) < ((c1.map conC).length : Int))
      · apply condF; (· (conv => whnf); try rfl)
        apply exitC
        have : q = c1.length := by simp at hlt; omega
        subst this
        rw [List.drop_length] at hz
        unfold lowC at hz
        apply regL
        repeat ((with_reducible apply stepS); (· conv => whnf))
        apply endS
        refine ⟨_, _, ?_, wk [3, 5, 1] [1] [] [] [] [] rfl, m + 1, _, z, rfl, hm2, i64_id (x := (m : Int) + 1) (by omega) (by omega), hz, rfl⟩
        omega
      · have hq2 : q < c1.length := by simpa using hlt
        rw [List.drop_eq_getElem_cons hq2, lowC_cons] at hz
        have hg2 := get_map (f := conC) (List.getElem?_eq_getElem hq2)
        have hmem2 := List.getElem_mem hq2
        generalize c1[q] = c at hz hg2 hmem2
        obtain ⟨s2, a2, g2⟩ := c
        have hfa := hargs _ hmem2
        simp only at hz hfa
        obtain ⟨hfl, hft⟩ := hfa
        apply condT; (· (conv => whnf); try rfl)
        apply skipC
        apply seqC
        apply blockC
        apply seqC
        apply regL
        repeat ((with_reducible apply stepS); (· conv => whnf))
        apply stepS; (· (conv => whnf); refine ⟨_, hg, ?_⟩; (conv => whnf))
        repeat ((with_reducible apply stepS); (· conv => whnf))
        apply stepS; (· (conv => whnf); refine ⟨_, hg2, ?_⟩; (conv => whnf))
        repeat ((with_reducible apply stepS); (· conv => whnf))
        apply endS
        apply seqC
        apply regL
        repeat ((with_reducible apply stepS); (· conv => whnf))
        apply endS
        apply blockC
        refine loopC (fun n st => ∃ h2 j2 u, n = g2.length - h2 ∧ h2 ≤ g2.length ∧ j2 = ((h2 : Nat) : Int) ∧ lowD x ds = lowD (lowC (lowArgs a2 u (g2.drop h2)) (c1.drop (q + 1))) (ds.drop (m + 1)) ∧
          st = ⟨[(3, .one (.v (.int .i64 u))), (8, .one (.v (.int .i64 j2))), (6, .one (.v (.int .i64 (q : Int)))), (5, .one (.v (.int .i64 (m : Int)))), (1, .one (.ptr 1 0 0)), (7, .one (.ptr 7 0 0))], [(1, ⟨0, 26, [.sl 62 4 (ds.map dataC) none, .sl 55 8 (bs.map bindC) none]⟩), (7, ⟨0, 64, conC ⟨s2, a2, g2⟩⟩)], []⟩)
          ⟨_, _, wk [3, 8, 6, 5, 1, 7] [1, 7] [] [] [] [] rfl, 0, 0, z, rfl, Nat.zero_le _, rfl, hz, rfl⟩ ?_
        rintro n' st ⟨h2, j2, u, rfl, hh, rfl, hu, rfl⟩
        apply seqC
        apply seqC
        apply regL
        repeat ((with_reducible apply stepS); (· conv => whnf))
        apply endS
        cases hlt : decide (((h2 : Nat) : Int) < ((tysC g2).length : Int))
        · apply condF; (· (conv => whnf); try rfl)
          apply exitC
          have : h2 = g2.length := by simp [tysC_length] at hlt; omega
          subst this
          rw [List.drop_length] at hu
          unfold lowArgs at hu
          apply regL
          repeat ((with_reducible apply stepS); (· conv => whnf))
          apply endS
          refine ⟨_, _, ?_, wk [3, 6, 5, 1] [1] [] [] [] [] rfl, q + 1, _, u, rfl, hq2, i64_id (x := (q : Int) + 1) (by omega) (by omega), hu, rfl⟩
          omega
        · have hh2 : h2 < g2.length := by simpa [tysC_length] using hlt
          rw [List.drop_eq_getElem_cons hh2] at hu
          have hg3 := get_tys (List.getElem?_eq_getElem hh2)
          have hf3 := fineTs_get hft (List.getElem?_eq_getElem hh2)
          generalize g2[h2] = t at hu hg3 hf3
          have hct := rhigh_ct _ t (Nat.lt_succ_self _) hf3
          obtain ⟨k4, n4, s4, q4⟩ := t
          unfold lowArgs at hu
          apply condT; (· (conv => whnf); try rfl)
          apply skipC
          apply seqC
          apply blockC
          apply seqC
          apply regL
          repeat ((with_reducible apply stepS); (· conv => whnf))
          apply stepS; (· (conv => whnf); refine ⟨_, hg3, ?_⟩; (conv => whnf))
          repeat ((with_reducible apply stepS); (· conv => whnf))
          apply stepS; (· (conv => whnf); refine ⟨_, _, hct, ?_⟩; (conv => whnf))
          repeat ((with_reducible apply stepS); (· conv => whnf))
          cases hd : decide (60 < deepT (.mk k4 n4 s4 q4))
          · rw [hd] at hu
            repeat ((with_reducible apply stepS); (· conv => whnf))
            apply endS
            apply condF; (· (conv => whnf); try rfl)
            apply skipC
            apply regL
            repeat ((with_reducible apply stepS); (· conv => whnf))
            apply endS
            refine ⟨_, _, ?_, wk [3, 8, 6, 5, 1, 7] [1, 7] [] [] [] [] rfl, h2 + 1, _, u, rfl, hh2, i64_id (x := (h2 : Int) + 1) (by omega) (by omega), hu, rfl⟩
            omega
          · rw [hd] at hu
            repeat ((with_reducible apply stepS); (· conv => whnf))
            cases hn : decide (u < 0)
            · repeat ((with_reducible apply stepS); (· conv => whnf))
              cases hl : decide (a2 < u)
              · have e : leastP u a2 = u := by unfold leastP; rw [hn, hl]
                simp only [e] at hu
                repeat ((with_reducible apply stepS); (· conv => whnf))
                apply endS
                apply condF; (· (conv => whnf); try rfl)
                apply skipC
                apply regL
                repeat ((with_reducible apply stepS); (· conv => whnf))
                apply endS
                refine ⟨_, _, ?_, wk [3, 8, 6, 5, 1, 7] [1, 7] [] [] [] [] rfl, h2 + 1, _, u, rfl, hh2, i64_id (x := (h2 : Int) + 1) (by omega) (by omega), hu, rfl⟩
                omega
              · have e : leastP u a2 = a2 := by unfold leastP; rw [hn, hl]
                simp only [e] at hu
                repeat ((with_reducible apply stepS); (· conv => whnf))
                apply endS
                apply condT; (· (conv => whnf); try rfl)
                apply regL
                repeat ((with_reducible apply stepS); (· conv => whnf))
                apply endS
                apply regL
                repeat ((with_reducible apply stepS); (· conv => whnf))
                apply endS
                refine ⟨_, _, ?_, wk [3, 8, 6, 5, 1, 7] [1, 7] [] [] [] [] rfl, h2 + 1, _, a2, rfl, hh2, i64_id (x := (h2 : Int) + 1) (by omega) (by omega), hu, rfl⟩
                omega
            · have e : leastP u a2 = a2 := by unfold leastP; rw [hn]
              simp only [e] at hu
              repeat ((with_reducible apply stepS); (· conv => whnf))
              apply endS
              apply condT; (· (conv => whnf); try rfl)
              apply regL
              repeat ((with_reducible apply stepS); (· conv => whnf))
              apply endS
              apply regL
              repeat ((with_reducible apply stepS); (· conv => whnf))
              apply endS
              refine ⟨_, _, ?_, wk [3, 8, 6, 5, 1, 7] [1, 7] [] [] [] [] rfl, h2 + 1, _, a2, rfl, hh2, i64_id (x := (h2 : Int) + 1) (by omega) (by omega), hu, rfl⟩
              omega
  · have hm2 : m < bs.length := by simpa using hlt
    rw [List.drop_eq_getElem_cons hm2, lowB_cons] at hx
    have hg := get_map (f := bindC) (List.getElem?_eq_getElem hm2)
    have hmem := List.getElem_mem hm2
    generalize bs[m] = b at hx hg hmem
    have hfe := f3 _ hmem
    obtain ⟨s1, a1, b1⟩ := b
    simp only at hx hfe
    have hct := rdeep_ct _ b1 (Nat.lt_succ_self _) hfe
    obtain ⟨k2, a2, s2, n2, ks2, as2⟩ := b1
    apply condT; (· (conv => whnf); try rfl)
    apply skipC
    apply seqC
    apply blockC
    apply seqC
    apply regL
    repeat ((with_reducible apply stepS); (· conv => whnf))
    apply stepS; (· (conv => whnf); refine ⟨_, hg, ?_⟩; (conv => whnf))
    repeat ((with_reducible apply stepS); (· conv => whnf))
    apply stepS; (· (conv => whnf); refine ⟨_, _, hct, ?_⟩; (conv => whnf))
    repeat ((with_reducible apply stepS); (· conv => whnf))
    cases hd : decide (60 < deepE (.mk k2 a2 s2 n2 ks2 as2))
    · rw [hd] at hx
      repeat ((with_reducible apply stepS); (· conv => whnf))
      apply endS
      apply condF; (· (conv => whnf); try rfl)
      apply skipC
      apply regL
      repeat ((with_reducible apply stepS); (· conv => whnf))
      apply endS
      refine ⟨_, _, ?_, wk [3, 4, 1] [1] [] [] [] [] rfl, m + 1, _, x, rfl, hm2, i64_id (x := (m : Int) + 1) (by omega) (by omega), hx, rfl⟩
      omega
    · rw [hd] at hx
      repeat ((with_reducible apply stepS); (· conv => whnf))
      cases hn : decide (x < 0)
      · repeat ((with_reducible apply stepS); (· conv => whnf))
        apply stepS; (· (conv => whnf); refine ⟨_, hg, ?_⟩; (conv => whnf))
        repeat ((with_reducible apply stepS); (· conv => whnf))
        cases hl : decide (a1 < x)
        · have e : leastP x a1 = x := by unfold leastP; rw [hn, hl]
          simp only [e] at hx
          repeat ((with_reducible apply stepS); (· conv => whnf))
          apply endS
          apply condF; (· (conv => whnf); try rfl)
          apply skipC
          apply regL
          repeat ((with_reducible apply stepS); (· conv => whnf))
          apply endS
          refine ⟨_, _, ?_, wk [3, 4, 1] [1] [] [] [] [] rfl, m + 1, _, x, rfl, hm2, i64_id (x := (m : Int) + 1) (by omega) (by omega), hx, rfl⟩
          omega
        · have e : leastP x a1 = a1 := by unfold leastP; rw [hn, hl]
          simp only [e] at hx
          repeat ((with_reducible apply stepS); (· conv => whnf))
          apply endS
          apply condT; (· (conv => whnf); try rfl)
          apply regL
          repeat ((with_reducible apply stepS); (· conv => whnf))
          apply stepS; (· (conv => whnf); refine ⟨_, hg, ?_⟩; (conv => whnf))
          repeat ((with_reducible apply stepS); (· conv => whnf))
          apply endS
          apply regL
          repeat ((with_reducible apply stepS); (· conv => whnf))
          apply endS
          refine ⟨_, _, ?_, wk [3, 4, 1] [1] [] [] [] [] rfl, m + 1, _, a1, rfl, hm2, i64_id (x := (m : Int) + 1) (by omega) (by omega), hx, rfl⟩
          omega
      · have e : leastP x a1 = a1 := by unfold leastP; rw [hn]
        simp only [e] at hx
        repeat ((with_reducible apply stepS); (· conv => whnf))
        apply endS
        apply condT; (· (conv => whnf); try rfl)
        apply regL
        repeat ((with_reducible apply stepS); (· conv => whnf))
        apply stepS; (· (conv => whnf); refine ⟨_, hg, ?_⟩; (conv => whnf))
        repeat ((with_reducible apply stepS); (· conv => whnf))
        apply endS
        apply regL
        repeat ((with_reducible apply stepS); (· conv => whnf))
        apply endS
        refine ⟨_, _, ?_, wk [3, 4, 1] [1] [] [] [] [] rfl, m + 1, _, a1, rfl, hm2, i64_id (x := (m : Int) + 1) (by omega) (by omega), hx, rfl⟩
        omega
end Go.Proofs.YtoapgongbackaaaDoor.V

/-! R1: the reference's parser: its small parts. -/
namespace Go.Proofs.YtoapgongbackaaaDoor.V
open Go Go.Proofs
set_option maxRecDepth 100000

/-- The reference's parser: all tokens, how many are taken. -/
structure RS where
  l : List Tok
  i : Nat
  end_ : Int
  bad : Bool
  at_ : Int
@[reducible] def rst (r : RS) : List AC := [.sl 74 4 (r.l.map tok) none, .v (.int .i64 (r.i : Int)), .v (.int .i64 r.end_), .v (.bool r.bad), .v (.int .i64 r.at_)]
@[reducible] def rstA (r : RS) : Arg := .box 84 (rst r)
def rfail (r : RS) : RS := match r.bad with
  | true => r
  | false => match r.l[r.i]? with
    | some t => ⟨r.l, r.i, r.end_, true, t.at_⟩
    | none => ⟨r.l, r.i, r.end_, true, r.end_⟩
def rpeek (r : RS) (k : Int) (s : ByteArray) : Bool := match r.bad with
  | true => false
  | false => match r.l[r.i]? with
    | none => false
    | some t => decide (t.k = k) && (decide (s = .empty) || decide (t.s = s))
theorem rfail_ct (r : RS) : Ct 62 [rstA r] [] [rst (rfail r)] := by
  obtain ⟨l, i, e, bad, a⟩ := r
  refine ct Tryd.func62 (by kernel_rfl) ?_
  cases bad
  · cases hg : l[i]? with
    | none =>
      have hlt : decide ((i : Int) < ((l.map tok).length : Int)) = false := by
        have := List.getElem?_eq_none_iff.1 hg
        simp; omega
      rw [show rfail ⟨l, i, e, false, a⟩ = ⟨l, i, e, true, e⟩ from by simp [rfail, hg]]
      conv => whnf
      refine ⟨by kernel_rfl, ?_⟩
      conv => whnf
      rw [hlt]
      conv => whnf
      exact ⟨rfl, rfl⟩
    | some t =>
      have hi : i < l.length := by
        have := List.getElem?_eq_some_iff.1 hg
        exact this.1
      have hlt : decide ((i : Int) < ((l.map tok).length : Int)) = true := by simp; omega
      rw [show rfail ⟨l, i, e, false, a⟩ = ⟨l, i, e, true, t.at_⟩ from by simp [rfail, hg]]
      conv => whnf
      refine ⟨by kernel_rfl, ?_⟩
      conv => whnf
      rw [hlt]
      conv => whnf
      refine ⟨_, get_map (f := tok) hg, ?_⟩
      conv => whnf
      refine ⟨by kernel_rfl, ?_⟩
      conv => whnf
      exact ⟨rfl, rfl⟩
  · conv => whnf
    exact ⟨rfl, rfl⟩
end Go.Proofs.YtoapgongbackaaaDoor.V

/-! R2: the reference's parser: what comes next. -/
namespace Go.Proofs.YtoapgongbackaaaDoor.V
open Go Go.Proofs
set_option maxRecDepth 100000

set_option maxHeartbeats 4000000 in
theorem rpeek_ct (r : RS) (k : Int) (s : ByteArray) : Ct 27 [rstA r, .val (.one (.v (.int .i64 k))), .val (.one (.v (.string s)))] [.val (.one (.v (.bool (rpeek r k s))))] [rst r] := by
  obtain ⟨l, i, e, bad, a⟩ := r
  refine ct Tryd.func27 (by kernel_rfl) ?_
  apply evF_of rfl
  apply seqC
  apply regS
  apply stepS
  · conv => whnf
  apply endS
  apply seqC
  apply regD
  cases bad
  rotate_left
  · repeat (apply stepD; (· (conv => whnf); refine ⟨⟨rfl, rfl⟩, ?_⟩; (conv => whnf)))
    apply endD
    · exact apart_of (by kernel_rfl)
    conv => whnf
    exact ⟨rfl, rfl⟩
  · repeat (apply stepD; (· (conv => whnf); refine ⟨⟨rfl, rfl⟩, ?_⟩; (conv => whnf)))
    cases hg : l[i]? with
    | none =>
      have hlt : decide ((i : Int) < ((l.map tok).length : Int)) = false := by
        have := List.getElem?_eq_none_iff.1 hg
        simp; omega
      rw [hlt, show rpeek ⟨l, i, e, false, a⟩ k s = false from by simp [rpeek, hg]]
      repeat (apply stepD; (· (conv => whnf); refine ⟨⟨rfl, rfl⟩, ?_⟩; (conv => whnf)))
      apply endD
      · exact apart_of (by kernel_rfl)
      conv => whnf
      exact ⟨rfl, rfl⟩
    | some t =>
      have hi : i < l.length := (List.getElem?_eq_some_iff.1 hg).1
      have hlt : decide ((i : Int) < ((l.map tok).length : Int)) = true := by simp; omega
      rw [hlt, show rpeek ⟨l, i, e, false, a⟩ k s = (decide (t.k = k) && (decide (s = .empty) || decide (t.s = s))) from by simp [rpeek, hg]]
      repeat (apply stepD; (· (conv => whnf); refine ⟨⟨rfl, rfl⟩, ?_⟩; (conv => whnf)))
      apply stepD
      · conv => whnf
        refine ⟨_, get_map (f := tok) hg, ?_⟩
        conv => whnf
        refine ⟨⟨rfl, rfl⟩, ?_⟩
        conv => whnf
      repeat (apply stepD; (· (conv => whnf); refine ⟨⟨rfl, rfl⟩, ?_⟩; (conv => whnf)))
      cases h1 : decide (t.k = k)
      · repeat (apply stepD; (· (conv => whnf); refine ⟨⟨rfl, rfl⟩, ?_⟩; (conv => whnf)))
        apply endD
        · exact apart_of (by kernel_rfl)
        conv => whnf
        exact ⟨rfl, rfl⟩
      · repeat (apply stepD; (· (conv => whnf); refine ⟨⟨rfl, rfl⟩, ?_⟩; (conv => whnf)))
        cases h2 : decide (s = (⟨#[]⟩ : ByteArray))
        · rw [show decide (s = .empty) = false from h2, Bool.true_and, Bool.false_or]
          repeat (apply stepD; (· (conv => whnf); refine ⟨⟨rfl, rfl⟩, ?_⟩; (conv => whnf)))
          apply stepD
          · conv => whnf
            refine ⟨_, get_map (f := tok) hg, ?_⟩
            conv => whnf
            refine ⟨⟨rfl, rfl⟩, ?_⟩
            conv => whnf
          repeat (apply stepD; (· (conv => whnf); refine ⟨⟨rfl, rfl⟩, ?_⟩; (conv => whnf)))
          apply endD
          · exact apart_of (by kernel_rfl)
          conv => whnf
          exact ⟨rfl, rfl⟩
        · rw [show decide (s = .empty) = true from h2, Bool.true_and, Bool.true_or]
          repeat (apply stepD; (· (conv => whnf); refine ⟨⟨rfl, rfl⟩, ?_⟩; (conv => whnf)))
          apply endD
          · exact apart_of (by kernel_rfl)
          conv => whnf
          exact ⟨rfl, rfl⟩
end Go.Proofs.YtoapgongbackaaaDoor.V

/-! R3: the reference's parser: takes. -/
namespace Go.Proofs.YtoapgongbackaaaDoor.V
open Go Go.Proofs
set_option maxRecDepth 100000

def reat (r : RS) (k : Int) (s : ByteArray) : Tok × RS := match rpeek r k s with
  | false => (noTok, rfail r)
  | true => (r.l.getD r.i noTok, ⟨r.l, r.i + 1, r.end_, r.bad, r.at_⟩)
theorem rpeek_some {r : RS} {k : Int} {s : ByteArray} (h : rpeek r k s = true) : ∃ t, r.l[r.i]? = some t := by
  unfold rpeek at h
  split at h
  · cases h
  · split at h
    · cases h
    · exact ⟨_, by assumption⟩
theorem reat_ct (r : RS) (k : Int) (s : ByteArray) (hB : r.l.length ≤ 4294967296) : Ct 28 [rstA r, .val (.one (.v (.int .i64 k))), .val (.one (.v (.string s)))] [.val (.agg (tok (reat r k s).1))] [rst (reat r k s).2] := by
  refine ct Tryd.func28 (by kernel_rfl) ?_
  unfold reat
  conv => whnf
  refine ⟨_, _, rpeek_ct r k s, ?_⟩
  cases h : rpeek r k s
  · conv => whnf
    refine ⟨_, _, rfail_ct r, ?_⟩
    conv => whnf
    exact ⟨rfl, rfl⟩
  · obtain ⟨t, ht⟩ := rpeek_some h
    have hi : r.i < r.l.length := (List.getElem?_eq_some_iff.1 ht).1
    have hw : IntKind.i64.wrap ((r.i : Int) + 1) = ((r.i + 1 : Nat) : Int) := by rw [i64_id (by omega) (by omega)]; omega
    have hw2 : IntKind.i64.wrap (((r.i + 1 : Nat) : Int) - 1) = ((r.i : Nat) : Int) := by rw [i64_id (by omega) (by omega)]; omega
    have hgd : r.l.getD r.i noTok = t := by rw [List.getD_eq_getElem?_getD, ht]; rfl
    conv => whnf
    rw [hw, hw2]
    refine ⟨_, get_map (f := tok) ht, ?_⟩
    rw [hgd]
    conv => whnf
    refine ⟨by kernel_rfl, ?_⟩
    conv => whnf
    exact ⟨rfl, rfl⟩
theorem rsign_ct (r : RS) (s : ByteArray) (hB : r.l.length ≤ 4294967296) : Ct 30 [rstA r, .val (.one (.v (.string s)))] [] [rst (reat r 5 s).2] := by
  refine ct Tryd.func30 (by kernel_rfl) ?_
  conv => whnf
  refine ⟨_, _, reat_ct r 5 s hB, ?_⟩
  conv => whnf
  exact ⟨rfl, rfl⟩
def rtry (r : RS) (s : ByteArray) : Bool × RS := match rpeek r 5 s with
  | false => (false, r)
  | true => (true, ⟨r.l, r.i + 1, r.end_, r.bad, r.at_⟩)
theorem rtry_ct (r : RS) (s : ByteArray) (hB : r.l.length ≤ 4294967296) : Ct 32 [rstA r, .val (.one (.v (.string s)))] [.val (.one (.v (.bool (rtry r s).1)))] [rst (rtry r s).2] := by
  refine ct Tryd.func32 (by kernel_rfl) ?_
  unfold rtry
  conv => whnf
  refine ⟨_, _, rpeek_ct r 5 s, ?_⟩
  cases h : rpeek r 5 s
  · conv => whnf
    exact ⟨rfl, rfl⟩
  · obtain ⟨t, ht⟩ := rpeek_some h
    have hi : r.i < r.l.length := (List.getElem?_eq_some_iff.1 ht).1
    have hw : IntKind.i64.wrap ((r.i : Int) + 1) = ((r.i + 1 : Nat) : Int) := by rw [i64_id (by omega) (by omega)]; omega
    conv => whnf
    rw [hw]
    exact ⟨rfl, rfl⟩
end Go.Proofs.YtoapgongbackaaaDoor.V

/-! R4: the reference's parser: names, lams, what may begin. -/
namespace Go.Proofs.YtoapgongbackaaaDoor.V
open Go Go.Proofs
set_option maxRecDepth 100000

def rnamesA : Nat → List Tok → RS → Option (List Tok × RS)
  | 0, _, _ => none
  | k + 1, acc, r => match rpeek r 1 .empty with
    | false => some (acc, r)
    | true => rnamesA k (acc ++ [(reat r 1 .empty).1]) (reat r 1 .empty).2
theorem reat_l (r : RS) (k : Int) (s : ByteArray) : (reat r k s).2.l = r.l := by
  unfold reat rfail
  split
  · split
    · rfl
    · split <;> rfl
  · rfl
theorem rnames_ct {k : Nat} (hk : k ≤ 4294967296) {r r' : RS} {l : List Tok} (hB : r.l.length ≤ 4294967296) (h : rnamesA k [] r = some (l, r')) : Ct 29 [rstA r] [.row 74 4 (l.map tok)] [rst r'] := by
  refine ct Tryd.func29 (by kernel_rfl) ?_
  conv => whnf
  refine ⟨fun j st => ∃ acc r1, j ≤ k ∧ rnamesA j acc r1 = some (l, r') ∧ acc.length + j ≤ 4294967296 + 4294967296 ∧ r1.l.length ≤ 4294967296 ∧
    st = ⟨[(3, .one (.sl 74 4 (acc.map tok) (some (10, 0)))), (0, .one (.ptr 0 0 0))], [(0, ⟨0, 84, rst r1⟩)], [(10, ⟨0, 74, 4, true⟩)]⟩,
    ⟨_, _, wk [3, 0] [0] [] [] [(3, 10, 74, 4)] [] rfl, [], r, Nat.le_refl k, h, by simp; omega, hB, rfl⟩, ?_⟩
  rintro j st ⟨acc, r1, hj, h1, hlen, hB1, rfl⟩
  conv => whnf
  refine ⟨_, _, rpeek_ct r1 1 .empty, ?_⟩
  cases j with
  | zero => simp [rnamesA] at h1
  | succ j =>
    unfold rnamesA at h1
    cases hp : rpeek r1 1 .empty
    · rw [hp] at h1
      simp only [Option.some.injEq, Prod.mk.injEq] at h1
      obtain ⟨rfl, rfl⟩ := h1
      conv => whnf
      exact ⟨rfl, rfl⟩
    · rw [hp] at h1
      simp only at h1
      have hl := reat_l r1 1 .empty
      have he := reat_ct r1 1 .empty hB1
      generalize reat r1 1 .empty = q at h1 hl he
      obtain ⟨t, r2⟩ := q
      simp only at h1 hl he
      conv => whnf
      refine ⟨_, _, he, ?_⟩
      conv => whnf
      refine ⟨by simp [lim]; omega, ?_⟩
      conv => whnf
      refine ⟨j, _, Nat.lt_succ_self j, wk [3, 0] [0] [10] [] [] [] rfl, _, r2, by omega, h1, by simp; omega, by rw [hl]; exact hB1, by rw [List.map_append]; rfl⟩
end Go.Proofs.YtoapgongbackaaaDoor.V

/-! R5: the reference's parser: lams. -/
namespace Go.Proofs.YtoapgongbackaaaDoor.V
open Go Go.Proofs
set_option maxRecDepth 100000

theorem rlams_ct (l : List Tok) (a : Int) (b : Exp) (hB : l.length ≤ 4294967296) : Ct 33 [.val (.one (.sl 74 4 (l.map tok) none)), .val (.one (.v (.int .i64 a))), .val (.agg (exC b))] [.val (.agg (exC (lamsP l a b)))] [] := by
  obtain ⟨k2, a2, s2, n2, ks2, as2⟩ := b
  refine ct Tryd.func33 (by kernel_rfl) ?_
  have hw : IntKind.i64.wrap (((l.map tok).length : Int) - 1) = (l.length : Int) - 1 := by rw [List.length_map, i64_id (by omega) (by omega)]
  conv => whnf
  rw [hw]
  refine ⟨fun j st => ∃ x k6 a6 s6 n6 ks6 as6 c5, j ≤ l.length ∧ x = (j : Int) - 1 ∧ lamsP l a (.mk k2 a2 s2 n2 ks2 as2) = lamsP (l.take j) a (.mk k6 a6 s6 n6 ks6 as6) ∧ (c5 = .nil 96 9 ∧ as6 = [] ∨ c5 = .sl 96 9 (altsC as6) none) ∧
    st = ⟨[(0, .one (.sl 74 4 (l.map tok) none)), (1, .one (.v (.int .i64 a))), (7, .one (.v (.int .i64 x))), (5, .one (.ptr 5 0 0)), (6, .one (.ptr 6 0 0))],
      [(5, ⟨0, 53, [.v (.int .i64 k6), .v (.int .i64 a6), .v (.string s6), .v (.int .i64 n6), .sl 53 6 (exsC ks6) none, c5]⟩), (6, ⟨0, 53, [.v (.int .i64 0), .v (.int .i64 0), .v (.string .empty), .v (.int .i64 0), .nil 53 6, .nil 96 9]⟩)], []⟩,
    ⟨l.length, _, wk [0, 1, 7, 5, 6] [5, 6] [] [] [] [] rfl, _, k2, a2, s2, n2, ks2, as2, _, Nat.le_refl _, rfl, by rw [List.take_length], .inr rfl, rfl⟩, ?_⟩
  rintro j st ⟨x, k6, a6, s6, n6, ks6, as6, c5, hj, rfl, hx, hc, rfl⟩
  cases hz : decide ((0 : Int) ≤ (j : Int) - 1)
  · have : j = 0 := by have := of_decide_eq_false hz; omega
    subst this
    rw [hx, List.take_zero]
    rcases hc with ⟨rfl, rfl⟩ | rfl
    · conv => whnf
      exact ⟨rfl, rfl⟩
    · conv => whnf
      exact ⟨rfl, rfl⟩
  · cases j with
    | zero => simp at hz
    | succ j =>
      have hj2 : j < l.length := by omega
      have he : ((j + 1 : Nat) : Int) - 1 = ((j : Nat) : Int) := by omega
      rw [he] at hz ⊢
      have hg := get_map (f := tok) (List.getElem?_eq_getElem hj2)
      have hstep : lamsP (l.take (j + 1)) a (.mk k6 a6 s6 n6 ks6 as6) = lamsP (l.take j) a (.mk 6 a l[j].s 0 [.mk k6 a6 s6 n6 ks6 as6] []) := by
        rw [List.take_succ_eq_append_getElem hj2]; unfold lamsP; rw [List.foldr_append]; rfl
      rw [hstep] at hx
      generalize l[j] = t at hg hx
      have hw2 : IntKind.i64.wrap (((j : Nat) : Int) - 1) = ((j : Nat) : Int) - 1 := i64_id (by omega) (by omega)
      rcases hc with ⟨rfl, rfl⟩ | rfl
      · conv => whnf
        rw [hz]
        conv => whnf
        refine ⟨_, hg, ?_⟩
        conv => whnf
        refine ⟨by kernel_rfl, ?_⟩
        conv => whnf
        refine ⟨j, _, Nat.lt_succ_self j, wk [0, 1, 7, 5, 6] [5, 6] [] [] [] [] rfl, _, 6, a, t.s, 0, [.mk k6 a6 s6 n6 ks6 []], [], _, by omega, hw2, hx, .inl ⟨rfl, rfl⟩, rfl⟩
      · conv => whnf
        rw [hz]
        conv => whnf
        refine ⟨_, hg, ?_⟩
        conv => whnf
        refine ⟨by kernel_rfl, ?_⟩
        conv => whnf
        refine ⟨j, _, Nat.lt_succ_self j, wk [0, 1, 7, 5, 6] [5, 6] [] [] [] [] rfl, _, 6, a, t.s, 0, [.mk k6 a6 s6 n6 ks6 as6], [], _, by omega, hw2, hx, .inl ⟨rfl, rfl⟩, rfl⟩
end Go.Proofs.YtoapgongbackaaaDoor.V

/-! R6: the reference's parser: may an atom begin here. -/
namespace Go.Proofs.YtoapgongbackaaaDoor.V
open Go Go.Proofs
set_option maxRecDepth 100000

def ratomic (r : RS) : Bool := rpeek r 1 .empty || (rpeek r 2 .empty || (rpeek r 3 .empty || (rpeek r 4 trueS.s || (rpeek r 4 falseS.s || rpeek r 5 lpar.s))))
def ratypic (r : RS) : Bool := rpeek r 1 .empty || (rpeek r 2 .empty || rpeek r 5 lpar.s)
theorem ratomic_ct (r : RS) : Ct 67 [rstA r] [.val (.one (.v (.bool (ratomic r))))] [rst r] := by
  refine ct Tryd.func67 (by kernel_rfl) ?_
  unfold ratomic
  apply evF_of rfl
  apply seqC
  apply regS
  apply stepS
  · conv => whnf
  apply endS
  apply seqC
  apply regS
  repeat (apply stepS; (· conv => whnf))
  apply stepS
  · conv => whnf
    refine ⟨_, _, rpeek_ct r 1 .empty, ?_⟩
    conv => whnf
  cases h0 : rpeek r 1 .empty
  rotate_left
  · repeat (apply stepS; (· conv => whnf))
    apply endS
    conv => whnf
    exact ⟨rfl, rfl⟩
  repeat (apply stepS; (· conv => whnf))
  apply stepS
  · conv => whnf
    refine ⟨_, _, rpeek_ct r 2 .empty, ?_⟩
    conv => whnf
  cases h1 : rpeek r 2 .empty
  rotate_left
  · repeat (apply stepS; (· conv => whnf))
    apply endS
    conv => whnf
    exact ⟨rfl, rfl⟩
  repeat (apply stepS; (· conv => whnf))
  apply stepS
  · conv => whnf
    refine ⟨_, _, rpeek_ct r 3 .empty, ?_⟩
    conv => whnf
  cases h2 : rpeek r 3 .empty
  rotate_left
  · repeat (apply stepS; (· conv => whnf))
    apply endS
    conv => whnf
    exact ⟨rfl, rfl⟩
  repeat (apply stepS; (· conv => whnf))
  apply stepS
  · conv => whnf
    refine ⟨_, _, rpeek_ct r 4 trueS.s, ?_⟩
    conv => whnf
  cases h3 : rpeek r 4 trueS.s
  rotate_left
  · repeat (apply stepS; (· conv => whnf))
    apply endS
    conv => whnf
    exact ⟨rfl, rfl⟩
  repeat (apply stepS; (· conv => whnf))
  apply stepS
  · conv => whnf
    refine ⟨_, _, rpeek_ct r 4 falseS.s, ?_⟩
    conv => whnf
  cases h4 : rpeek r 4 falseS.s
  rotate_left
  · repeat (apply stepS; (· conv => whnf))
    apply endS
    conv => whnf
    exact ⟨rfl, rfl⟩
  repeat (apply stepS; (· conv => whnf))
  apply stepS
  · conv => whnf
    refine ⟨_, _, rpeek_ct r 5 lpar.s, ?_⟩
    conv => whnf
  repeat (apply stepS; (· conv => whnf))
  apply endS
  conv => whnf
  exact ⟨rfl, rfl⟩
theorem ratypic_ct (r : RS) : Ct 63 [rstA r] [.val (.one (.v (.bool (ratypic r))))] [rst r] := by
  refine ct Tryd.func63 (by kernel_rfl) ?_
  unfold ratypic
  apply evF_of rfl
  apply seqC
  apply regS
  apply stepS
  · conv => whnf
  apply endS
  apply seqC
  apply regS
  repeat (apply stepS; (· conv => whnf))
  apply stepS
  · conv => whnf
    refine ⟨_, _, rpeek_ct r 1 .empty, ?_⟩
    conv => whnf
  cases h0 : rpeek r 1 .empty
  rotate_left
  · repeat (apply stepS; (· conv => whnf))
    apply endS
    conv => whnf
    exact ⟨rfl, rfl⟩
  repeat (apply stepS; (· conv => whnf))
  apply stepS
  · conv => whnf
    refine ⟨_, _, rpeek_ct r 2 .empty, ?_⟩
    conv => whnf
  cases h1 : rpeek r 2 .empty
  rotate_left
  · repeat (apply stepS; (· conv => whnf))
    apply endS
    conv => whnf
    exact ⟨rfl, rfl⟩
  repeat (apply stepS; (· conv => whnf))
  apply stepS
  · conv => whnf
    refine ⟨_, _, rpeek_ct r 5 lpar.s, ?_⟩
    conv => whnf
  repeat (apply stepS; (· conv => whnf))
  apply endS
  conv => whnf
  exact ⟨rfl, rfl⟩
theorem rplace_ct (l : List ByteArray) (v : ByteArray) (hB : l.length ≤ 4294967296) : Ct 90 [.val (.one (.sl 9 1 (l.map str) none)), .val (.one (.v (.string v)))] [.val (.one (.v (.int .i64 (indexFrom v l 0))))] [] := by
  refine ct Tryd.func90 (by kernel_rfl) ?_
  conv => whnf
  refine ⟨fun n st => ∃ m i, n = l.length - m ∧ m ≤ l.length ∧ i = ((m : Nat) : Int) ∧ indexFrom v l 0 = indexFrom v (l.drop m) m ∧
    st = ⟨[(5, .one (.v (.int .i64 i))), (0, .one (.sl 9 1 (l.map str) none)), (1, .one (.v (.string v)))], [], []⟩,
    ⟨_, _, wk [5, 0, 1] [] [] [] [] [] rfl, 0, 0, rfl, Nat.zero_le _, rfl, rfl, rfl⟩, ?_⟩
  rintro n st ⟨m, i, rfl, hm, rfl, hix, rfl⟩
  conv => whnf
  cases hlt : decide (((m : Nat) : Int) < ((l.map str).length : Int))
  · conv => whnf
    have : m = l.length := by simp at hlt; omega
    subst this
    rw [hix, List.drop_length]
    exact ⟨rfl, rfl⟩
  · have hm2 : m < l.length := by simpa using hlt
    rw [List.drop_eq_getElem_cons hm2] at hix
    simp only [indexFrom] at hix
    rw [show decide (v = l[m]) = decide (l[m] = v) from decide_eq_decide.2 ⟨Eq.symm, Eq.symm⟩] at hix
    conv => whnf
    refine ⟨_, get_map (List.getElem?_eq_getElem hm2), ?_⟩
    conv => whnf
    cases he : decide (l[m] = v)
    · rw [he] at hix
      conv => whnf
      refine ⟨_, _, ?_, wk [5, 0, 1] [] [] [] [] [] rfl, m + 1, _, rfl, hm2, i64_id (x := (m : Int) + 1) (by omega) (by omega), hix, rfl⟩
      omega
    · rw [he] at hix
      conv => whnf
      rw [hix]
      exact ⟨rfl, rfl⟩
end Go.Proofs.YtoapgongbackaaaDoor.V

/-! R7: the reference's atom. -/
namespace Go.Proofs.YtoapgongbackaaaDoor.V
open Go Go.Proofs
set_option maxRecDepth 100000

def rinc (r : RS) : RS := ⟨r.l, r.i + 1, r.end_, r.bad, r.at_⟩
theorem ratomic_bad {r : RS} (h : ratomic r = true) : r.bad = false := by
  cases hb : r.bad with
  | false => rfl
  | true => simp [ratomic, rpeek, hb] at h
/-- The rounds of a bracket: what the reference makes of the parts behind commas. -/
inductive RKid : Nat → RS → List Exp → Option (List Exp) → RS → Prop
  | stop {n : Nat} {r : RS} {acc : List Exp} (h : rpeek r 5 comma.s = false) : RKid n r acc (some acc) r
  | full {n : Nat} {r : RS} {acc : List Exp} (h : rpeek r 5 comma.s = true) (hl : acc.length = 8) : RKid n r acc none (rfail r)
  | step {n : Nat} {r r1 r2 : RS} {acc : List Exp} {e : Exp} {o : Option (List Exp)} (h : rpeek r 5 comma.s = true) (hl : acc.length ≠ 8) (hx : Ct 34 [rstA (rinc r)] [.val (.agg (exC e))] [rst r1]) (hr : r1.l = r.l)
      (k : RKid n r1 (acc ++ [e]) o r2) : RKid (n + 1) r acc o r2
def rtup (a : Int) : List Exp → Exp
  | [e] => e
  | l => .mk 8 a .empty 0 l []
def boolE (s : ByteArray) : Int := if s = trueS.s then 1 else 0
structure RAtomP (r : RS) (t : Tok) (e : Exp) (r2 : RS) : Prop where
  get : r.l[r.i]? = some t
  at_ : ratomic r = true
  res : (t.k = 1 ∧ e = .mk 1 t.at_ t.s 0 [] [] ∧ r2 = rinc r) ∨ (t.k = 2 ∧ e = .mk 2 t.at_ t.s 0 [] [] ∧ r2 = rinc r) ∨ (t.k = 3 ∧ e = .mk 3 t.at_ .empty t.n [] [] ∧ r2 = rinc r) ∨
    (t.k = 4 ∧ e = .mk 4 t.at_ .empty (boolE t.s) [] [] ∧ r2 = rinc r)

theorem ratom_no (r : RS) (h : ratomic r = false) : Ct 66 [rstA r] [.val (.agg (exC noExp))] [rst (rfail r)] := by
  have hc := ratomic_ct r
  rw [h] at hc
  have hf := rfail_ct r
  generalize rfail r = r2 at hf
  obtain ⟨l2, i2, e2, b2, a2⟩ := r2
  obtain ⟨l, i, e, b, a⟩ := r
  refine ct Tryd.func66 (by kernel_rfl) ?_
  apply evF_of rfl
  apply seqC
  apply regL
  repeat ((with_reducible apply stepS); (· conv => whnf))
  apply endS; apply seqC; apply seqC; apply regL
  repeat ((with_reducible apply stepS); (· conv => whnf))
  apply stepS; (· (conv => whnf); refine ⟨_, _, hc, ?_⟩; (conv => whnf))
  repeat ((with_reducible apply stepS); (· conv => whnf))
  apply endS
  apply condT; (· (conv => whnf); try rfl)
  apply seqC
  apply regL
  repeat ((with_reducible apply stepS); (· conv => whnf))
  apply stepS; (· (conv => whnf); refine ⟨_, _, hf, ?_⟩; (conv => whnf))
  repeat ((with_reducible apply stepS); (· conv => whnf))
  apply endS; apply seqC; apply regL
  repeat ((with_reducible apply stepS); (· conv => whnf))
  apply endS
  apply retC
  conv => whnf
  exact ⟨rfl, rfl⟩
set_option maxHeartbeats 4000000 in
theorem ratom_one {r r2 : RS} {t : Tok} {e : Exp} (hB : r.l.length ≤ 4294967296) (hp : RAtomP r t e r2) : Ct 66 [rstA r] [.val (.agg (exC e))] [rst r2] := by
  obtain ⟨hget, hat, hres⟩ := hp
  have hc := ratomic_ct r
  rw [hat] at hc
  obtain ⟨l, i, en, b, a⟩ := r
  obtain ⟨tk, ta, ts, tn⟩ := t
  have hi : i < l.length := (List.getElem?_eq_some_iff.1 hget).1
  simp only at hget hB
  have hw : IntKind.i64.wrap ((i : Int) + 1) = ((i + 1 : Nat) : Int) := i64_id (by omega) (by omega)
  refine ct Tryd.func66 (by kernel_rfl) ?_
  apply evF_of rfl
  apply seqC
  apply regL
  repeat ((with_reducible apply stepS); (· conv => whnf))
  apply endS; apply seqC; apply seqC; apply regL
  repeat ((with_reducible apply stepS); (· conv => whnf))
  apply stepS; (· (conv => whnf); refine ⟨_, _, hc, ?_⟩; (conv => whnf))
  repeat ((with_reducible apply stepS); (· conv => whnf))
  apply endS
  apply condF; (· (conv => whnf); try rfl)
  apply skipC
  apply seqC
  apply regDL
  repeat ((with_reducible apply stepD); (· (conv => whnf); refine ⟨⟨rfl, rfl⟩, ?_⟩; (conv => whnf)))
  apply stepD; (· (conv => whnf); refine ⟨_, get_map (f := tok) hget, ?_⟩; (conv => whnf); refine ⟨⟨rfl, rfl⟩, ?_⟩; (conv => whnf))
  repeat ((with_reducible apply stepD); (· (conv => whnf); refine ⟨⟨rfl, rfl⟩, ?_⟩; (conv => whnf)))
  apply endD; (· exact apart_of (by kernel_rfl))
  apply seqC
  apply regL
  repeat ((with_reducible apply stepS); (· conv => whnf))
  rw [hw]
  apply endS; apply seqC; apply seqC; apply regL
  repeat ((with_reducible apply stepS); (· conv => whnf))
  apply endS
  apply blockC
  apply seqC
  apply regL
  repeat ((with_reducible apply stepS); (· conv => whnf))
  apply endS
  simp only [rinc] at hres
  rcases hres with ⟨h, rfl, rfl⟩ | ⟨h, rfl, rfl⟩ | ⟨h, rfl, rfl⟩ | ⟨h, rfl, rfl⟩ <;> subst h
  · apply condT; (· (conv => whnf); try rfl)
    apply seqC
    apply regL
    repeat ((with_reducible apply stepS); (· conv => whnf))
    apply endS
    apply retC
    conv => whnf
    exact ⟨rfl, rfl⟩
  · apply condF; (· (conv => whnf); try rfl)
    apply seqC
    apply regL
    repeat ((with_reducible apply stepS); (· conv => whnf))
    apply endS
    apply condT; (· (conv => whnf); try rfl)
    apply seqC
    apply regL
    repeat ((with_reducible apply stepS); (· conv => whnf))
    apply endS
    apply retC
    conv => whnf
    exact ⟨rfl, rfl⟩
  · apply condF; (· (conv => whnf); try rfl)
    apply seqC
    apply regL
    repeat ((with_reducible apply stepS); (· conv => whnf))
    apply endS
    apply condF; (· (conv => whnf); try rfl)
    apply seqC
    apply regL
    repeat ((with_reducible apply stepS); (· conv => whnf))
    apply endS
    apply condT; (· (conv => whnf); try rfl)
    apply seqC
    apply regL
    repeat ((with_reducible apply stepS); (· conv => whnf))
    apply endS
    apply retC
    conv => whnf
    exact ⟨rfl, rfl⟩
  · apply condF; (· (conv => whnf); try rfl)
    apply seqC
    apply regL
    repeat ((with_reducible apply stepS); (· conv => whnf))
    apply endS
    apply condF; (· (conv => whnf); try rfl)
    apply seqC
    apply regL
    repeat ((with_reducible apply stepS); (· conv => whnf))
    apply endS
    apply condF; (· (conv => whnf); try rfl)
    apply seqC
    apply regL
    repeat ((with_reducible apply stepS); (· conv => whnf))
    apply endS
    apply condT; (· (conv => whnf); try rfl)
    apply seqC
    apply regL
    repeat ((with_reducible apply stepS); (· conv => whnf))
    apply endS; apply seqC; apply seqC; apply regL
    repeat ((with_reducible apply stepS); (· conv => whnf))
    apply endS
    cases hs : decide (ts = (⟨#[116, 114, 117, 101]⟩ : ByteArray))
    · apply condF; (· (conv => whnf); try rfl)
      apply skipC
      apply seqC
      apply regL
      repeat ((with_reducible apply stepS); (· conv => whnf))
      apply endS
      apply retC
      have hb : boolE ts = 0 := if_neg (of_decide_eq_false hs)
      rw [hb]
      conv => whnf
      exact ⟨rfl, rfl⟩
    · apply condT; (· (conv => whnf); try rfl)
      apply regL
      repeat ((with_reducible apply stepS); (· conv => whnf))
      apply endS; apply seqC; apply regL
      repeat ((with_reducible apply stepS); (· conv => whnf))
      apply endS
      apply retC
      have hb : boolE ts = 1 := if_pos (of_decide_eq_true hs)
      rw [hb]
      conv => whnf
      exact ⟨rfl, rfl⟩
end Go.Proofs.YtoapgongbackaaaDoor.V

/-! R8: the reference's atom: brackets. -/
namespace Go.Proofs.YtoapgongbackaaaDoor.V
open Go Go.Proofs
set_option maxRecDepth 100000

theorem rpeek_bad {r : RS} {k : Int} {s : ByteArray} (h : rpeek r k s = true) : r.bad = false := by
  cases hb : r.bad with
  | false => rfl
  | true => simp [rpeek, hb] at h
theorem rfail_l (r : RS) : (rfail r).l = r.l := by
  unfold rfail
  split
  · rfl
  · split <;> rfl
theorem RKid.len {n : Nat} {r r2 : RS} {acc : List Exp} {o : Option (List Exp)} (h : RKid n r acc o r2) : r2.l = r.l := by
  induction h with
  | stop => rfl
  | full => exact rfail_l _
  | step _ _ _ hr _ ih => exact ih.trans hr
set_option maxHeartbeats 8000000 in
theorem ratom_tup {r r1 r2 : RS} {t : Tok} {e1 : Exp} {n : Nat} {o : Option (List Exp)} (hB : r.l.length ≤ 4294967296) (hget : r.l[r.i]? = some t) (hat : ratomic r = true)
    (h1 : decide (t.k = 1) = false) (h2 : decide (t.k = 2) = false) (h3 : decide (t.k = 3) = false) (h4 : decide (t.k = 4) = false)
    (hx : Ct 34 [rstA (rinc r)] [.val (.agg (exC e1))] [rst r1]) (hr1 : r1.l = r.l) (hk : RKid n r1 [e1] o r2) :
    Ct 66 [rstA r] [.val (.agg (exC (match o with | none => noExp | some l => rtup t.at_ l)))] [rst (match o with | none => r2 | some _ => (reat r2 5 rpar.s).2)] := by
  have hc := ratomic_ct r
  rw [hat] at hc
  obtain ⟨l, i, en, b, a⟩ := r
  obtain ⟨tk, ta, ts, tn⟩ := t
  have hi : i < l.length := (List.getElem?_eq_some_iff.1 hget).1
  simp only at hget hB h1 h2 h3 h4 hr1
  have hw : IntKind.i64.wrap ((i : Int) + 1) = ((i + 1 : Nat) : Int) := i64_id (by omega) (by omega)
  obtain ⟨k4, a4, st4, n4, ks4, as4⟩ := e1
  obtain ⟨l1, i1, en1, b1, a1⟩ := r1
  simp only at hr1
  subst hr1
  simp only [rinc] at hx
  refine ct Tryd.func66 (by kernel_rfl) ?_
  apply evF_of rfl
  apply seqC
  apply regL
  repeat ((with_reducible apply stepS); (· conv => whnf))
  apply endS; apply seqC; apply seqC; apply regL
  repeat ((with_reducible apply stepS); (· conv => whnf))
  apply stepS; (· (conv => whnf); refine ⟨_, _, hc, ?_⟩; (conv => whnf))
  repeat ((with_reducible apply stepS); (· conv => whnf))
  apply endS
  apply condF; (· (conv => whnf); try rfl)
  apply skipC
  apply seqC
  apply regDL
  repeat ((with_reducible apply stepD); (· (conv => whnf); refine ⟨⟨rfl, rfl⟩, ?_⟩; (conv => whnf)))
  apply stepD; (· (conv => whnf); refine ⟨_, get_map (f := tok) hget, ?_⟩; (conv => whnf); refine ⟨⟨rfl, rfl⟩, ?_⟩; (conv => whnf))
  repeat ((with_reducible apply stepD); (· (conv => whnf); refine ⟨⟨rfl, rfl⟩, ?_⟩; (conv => whnf)))
  apply endD; (· exact apart_of (by kernel_rfl))
  apply seqC
  apply regL
  repeat ((with_reducible apply stepS); (· conv => whnf))
  rw [hw]
  apply endS; apply seqC; apply seqC; apply regL
  repeat ((with_reducible apply stepS); (· conv => whnf))
  apply endS
  apply blockC
  apply seqC
  apply regL
  repeat ((with_reducible apply stepS); (· conv => whnf))
  rw [h1]
  apply endS
  apply condF; (· (conv => whnf); try rfl)
  apply seqC
  apply regL
  repeat ((with_reducible apply stepS); (· conv => whnf))
  rw [h2]
  apply endS
  apply condF; (· (conv => whnf); try rfl)
  apply seqC
  apply regL
  repeat ((with_reducible apply stepS); (· conv => whnf))
  rw [h3]
  apply endS
  apply condF; (· (conv => whnf); try rfl)
  apply seqC
  apply regL
  repeat ((with_reducible apply stepS); (· conv => whnf))
  rw [h4]
  apply endS
  apply condF; (· (conv => whnf); try rfl)
  apply skipC
  apply seqC
  apply regL
  repeat ((with_reducible apply stepS); (· conv => whnf))
  apply stepS; (· (conv => whnf); refine ⟨_, _, hx, ?_⟩; (conv => whnf))
  repeat ((with_reducible apply stepS); (· conv => whnf))
  apply endS
  apply seqC
  apply blockC
  refine loopC (fun n st => ∃ acc r5, RKid n r5 acc o r2 ∧ r5.l.length ≤ 4294967296 ∧ acc.length ≤ 8 ∧
      st = ⟨[(0, .one (.ptr 0 0 0)), (2, .one (.ptr 2 0 0)), (3, .one (.ptr 3 0 0)), (5, .one (.sl 53 6 (exsC acc) (some (91, 0))))],
        [(0, ⟨0, 84, rst r5⟩), (2, ⟨0, 53, [.v (.int .i64 0), .v (.int .i64 0), .v (.string .empty), .v (.int .i64 0), .nil 53 6, .nil 96 9]⟩), (3, ⟨0, 74, tok ⟨tk, ta, ts, tn⟩⟩)], [(91, ⟨0, 53, 6, true⟩)]⟩)
      ⟨_, _, wk [0, 2, 3, 5] [0, 2, 3] [64] [(64, 91)] [] [] rfl, _, _, hk, hB, by simp, rfl⟩ ?_
  rintro n' st ⟨acc, r5, hk, hB5, hla, rfl⟩
  obtain ⟨l5, i5, en5, b5, a5⟩ := r5
  simp only at hB5
  apply seqC
  apply seqC
  apply regL
  repeat ((with_reducible apply stepS); (· conv => whnf))
  cases hk with
  | stop h =>
    have hp := rpeek_ct ⟨l5, i5, en5, b5, a5⟩ 5 comma.s
    rw [h] at hp
    have hs := rsign_ct ⟨l5, i5, en5, b5, a5⟩ rpar.s hB5
    generalize (reat ⟨l5, i5, en5, b5, a5⟩ 5 rpar.s).2 = r6 at hs
    obtain ⟨l6, i6, en6, b6, a6⟩ := r6
    cases b5
    · repeat ((with_reducible apply stepS); (· conv => whnf))
      apply stepS; (· (conv => whnf); refine ⟨_, _, hp, ?_⟩; (conv => whnf))
      repeat ((with_reducible apply stepS); (· conv => whnf))
      apply endS
      apply condF; (· (conv => whnf); try rfl)
      apply exitC
      apply seqC
      apply regL
      repeat ((with_reducible apply stepS); (· conv => whnf))
      apply stepS; (· (conv => whnf); refine ⟨_, _, hs, ?_⟩; (conv => whnf))
      repeat ((with_reducible apply stepS); (· conv => whnf))
      apply endS
      apply seqC
      apply seqC
      apply regL
      repeat ((with_reducible apply stepS); (· conv => whnf))
      apply endS
      match acc with
      | [] =>
        apply condF; (· (conv => whnf); try rfl)
        apply skipC
        apply seqC
        apply regL
        repeat ((with_reducible apply stepS); (· conv => whnf))
        apply endS
        apply retC
        conv => whnf
        exact ⟨rfl, rfl⟩
      | [.mk k3 a3 st3 n3 ks3 as3] =>
        apply condT; (· (conv => whnf); try rfl)
        apply seqC
        apply regL
        repeat ((with_reducible apply stepS); (· conv => whnf))
        apply stepS; (· (conv => whnf); refine ⟨_, ⟨by decide, rfl⟩, ?_⟩; (conv => whnf))
        repeat ((with_reducible apply stepS); (· conv => whnf))
        apply endS
        apply retC
        conv => whnf
        exact ⟨rfl, rfl⟩
      | x :: y :: z =>
        have hne : decide (((exsC (x :: y :: z)).length : Int) = 1) = false := decide_eq_false (by rw [exsC_length]; simp; omega)
        rw [hne]
        apply condF; (· (conv => whnf); try rfl)
        apply skipC
        apply seqC
        apply regL
        repeat ((with_reducible apply stepS); (· conv => whnf))
        apply endS
        apply retC
        conv => whnf
        exact ⟨rfl, rfl⟩
    · repeat ((with_reducible apply stepS); (· conv => whnf))
      apply endS
      apply condF; (· (conv => whnf); try rfl)
      apply exitC
      apply seqC
      apply regL
      repeat ((with_reducible apply stepS); (· conv => whnf))
      apply stepS; (· (conv => whnf); refine ⟨_, _, hs, ?_⟩; (conv => whnf))
      repeat ((with_reducible apply stepS); (· conv => whnf))
      apply endS
      apply seqC
      apply seqC
      apply regL
      repeat ((with_reducible apply stepS); (· conv => whnf))
      apply endS
      match acc with
      | [] =>
        apply condF; (· (conv => whnf); try rfl)
        apply skipC
        apply seqC
        apply regL
        repeat ((with_reducible apply stepS); (· conv => whnf))
        apply endS
        apply retC
        conv => whnf
        exact ⟨rfl, rfl⟩
      | [.mk k3 a3 st3 n3 ks3 as3] =>
        apply condT; (· (conv => whnf); try rfl)
        apply seqC
        apply regL
        repeat ((with_reducible apply stepS); (· conv => whnf))
        apply stepS; (· (conv => whnf); refine ⟨_, ⟨by decide, rfl⟩, ?_⟩; (conv => whnf))
        repeat ((with_reducible apply stepS); (· conv => whnf))
        apply endS
        apply retC
        conv => whnf
        exact ⟨rfl, rfl⟩
      | x :: y :: z =>
        have hne : decide (((exsC (x :: y :: z)).length : Int) = 1) = false := decide_eq_false (by rw [exsC_length]; simp; omega)
        rw [hne]
        apply condF; (· (conv => whnf); try rfl)
        apply skipC
        apply seqC
        apply regL
        repeat ((with_reducible apply stepS); (· conv => whnf))
        apply endS
        apply retC
        conv => whnf
        exact ⟨rfl, rfl⟩
  | full h hl =>
    have hb := rpeek_bad h
    simp only at hb
    subst hb
    have hp := rpeek_ct ⟨l5, i5, en5, false, a5⟩ 5 comma.s
    rw [h] at hp
    have hf := rfail_ct ⟨l5, i5, en5, false, a5⟩
    have hl8 : decide (((exsC acc).length : Int) = 8) = true := decide_eq_true (by rw [exsC_length, hl]; rfl)
    repeat ((with_reducible apply stepS); (· conv => whnf))
    apply stepS; (· (conv => whnf); refine ⟨_, _, hp, ?_⟩; (conv => whnf))
    repeat ((with_reducible apply stepS); (· conv => whnf))
    apply endS
    apply condT; (· (conv => whnf); try rfl)
    apply skipC
    apply blockC
    apply seqC
    apply seqC
    apply regL
    repeat ((with_reducible apply stepS); (· conv => whnf))
    rw [hl8]
    apply endS
    apply condT; (· (conv => whnf); try rfl)
    apply seqC
    apply regL
    repeat ((with_reducible apply stepS); (· conv => whnf))
    apply stepS; (· (conv => whnf); refine ⟨_, _, hf, ?_⟩; (conv => whnf))
    repeat ((with_reducible apply stepS); (· conv => whnf))
    apply endS; apply seqC; apply regL
    repeat ((with_reducible apply stepS); (· conv => whnf))
    apply endS
    apply retC
    conv => whnf
    exact ⟨rfl, rfl⟩
  | @step m _ r7 _ _ e7 _ h hl hx7 hr7 hk7 =>
    have hb := rpeek_bad h
    simp only at hb
    subst hb
    have hp := rpeek_ct ⟨l5, i5, en5, false, a5⟩ 5 comma.s
    rw [h] at hp
    obtain ⟨t5, ht5⟩ := rpeek_some h
    have hi5 : i5 < l5.length := (List.getElem?_eq_some_iff.1 ht5).1
    have hw5 : IntKind.i64.wrap ((i5 : Int) + 1) = ((i5 + 1 : Nat) : Int) := i64_id (by omega) (by omega)
    have hl8 : decide (((exsC acc).length : Int) = 8) = false := decide_eq_false (by rw [exsC_length]; omega)
    obtain ⟨k7, a7, st7, n7, ks7, as7⟩ := e7
    simp only [rinc] at hx7
    repeat ((with_reducible apply stepS); (· conv => whnf))
    apply stepS; (· (conv => whnf); refine ⟨_, _, hp, ?_⟩; (conv => whnf))
    repeat ((with_reducible apply stepS); (· conv => whnf))
    apply endS
    apply condT; (· (conv => whnf); try rfl)
    apply skipC
    apply blockC
    apply seqC
    apply seqC
    apply regL
    repeat ((with_reducible apply stepS); (· conv => whnf))
    rw [hl8]
    apply endS
    apply condF; (· (conv => whnf); try rfl)
    apply skipC
    apply seqC
    apply regL
    repeat ((with_reducible apply stepS); (· conv => whnf))
    rw [hw5]
    apply endS
    apply regL
    repeat ((with_reducible apply stepS); (· conv => whnf))
    apply stepS; (· (conv => whnf); refine ⟨_, _, hx7, ?_⟩; (conv => whnf))
    repeat ((with_reducible apply stepS); (· conv => whnf))
    apply stepS; (· (conv => whnf); refine ⟨(by rw [exsC_length]; simp [lim]; omega), ?_⟩; (conv => whnf))
    repeat ((with_reducible apply stepS); (· conv => whnf))
    apply endS
    refine ⟨m, _, Nat.lt_succ_self m, wk [0, 2, 3, 5] [0, 2, 3] [91] [] [] [] rfl, _, r7, hk7, by rw [hr7]; exact hB5, ?_, by rw [exsC_append]; rfl⟩
    simp
    omega
end Go.Proofs.YtoapgongbackaaaDoor.V

/-! R9: the reference's alt. -/
namespace Go.Proofs.YtoapgongbackaaaDoor.V
open Go Go.Proofs
set_option maxRecDepth 100000

set_option maxHeartbeats 8000000 in
theorem ralt_ct {r r2 r4 : RS} {l : List Tok} {b : Exp} {k : Nat} (hB : r.l.length ≤ 4294967296) (hk : k ≤ 4294967296) (hn : rnamesA k [] (reat r 2 .empty).2 = some (l, r2)) (hr2 : r2.l = r.l) (hll : l.length ≤ 4294967296)
    (hx : Ct 34 [rstA (reat r2 5 arrow.s).2] [.val (.agg (exC b))] [rst r4]) :
    Ct 65 [rstA r] [.val (.agg (altC (.mk (reat r 2 .empty).1.at_ (reat r 2 .empty).1.s (l.map (·.s)) b)))] [rst r4] := by
  have he := reat_ct r 2 .empty hB
  have hnm := rnames_ct hk (by rw [reat_l]; exact hB) hn
  have hs := rsign_ct r2 arrow.s (by rw [hr2]; exact hB)
  generalize (reat r2 5 arrow.s).2 = r3 at hs hx
  generalize (reat r 2 .empty).2 = r1 at he hnm
  generalize (reat r 2 .empty).1 = c at he
  obtain ⟨k2, a2, s2, n2, ks2, as2⟩ := b
  refine ct Tryd.func65 (by kernel_rfl) ?_
  apply evF_of rfl
  apply seqC
  apply regL
  repeat ((with_reducible apply stepS); (· conv => whnf))
  apply endS; apply seqC; apply regL
  repeat ((with_reducible apply stepS); (· conv => whnf))
  apply stepS; (· (conv => whnf); refine ⟨_, _, he, ?_⟩; (conv => whnf))
  repeat ((with_reducible apply stepS); (· conv => whnf))
  apply endS; apply seqC; apply regL
  repeat ((with_reducible apply stepS); (· conv => whnf))
  apply stepS; (· (conv => whnf); refine ⟨_, _, hnm, ?_⟩; (conv => whnf))
  repeat ((with_reducible apply stepS); (· conv => whnf))
  apply endS; apply seqC; apply regL
  repeat ((with_reducible apply stepS); (· conv => whnf))
  apply stepS; (· (conv => whnf); refine ⟨_, _, hs, ?_⟩; (conv => whnf))
  repeat ((with_reducible apply stepS); (· conv => whnf))
  apply endS
  apply seqC
  apply regDL
  repeat ((with_reducible apply stepD); (· (conv => whnf); refine ⟨⟨rfl, rfl⟩, ?_⟩; (conv => whnf)))
  apply stepD; (· (conv => whnf); refine ⟨_, _, hx, ?_⟩; (conv => whnf); refine ⟨⟨rfl, rfl⟩, ?_⟩; (conv => whnf))
  repeat ((with_reducible apply stepD); (· (conv => whnf); refine ⟨⟨rfl, rfl⟩, ?_⟩; (conv => whnf)))
  apply endD; (· exact apart_of (by kernel_rfl))
  apply seqC
  apply seqC
  apply regL
  repeat ((with_reducible apply stepS); (· conv => whnf))
  apply endS
  apply blockC
  refine loopC (fun n st => ∃ m i, n = l.length - m ∧ m ≤ l.length ∧ i = ((m : Nat) : Int) ∧
    st = ⟨[(0, .one (.ptr 0 0 0)), (2, .one (.ptr 2 0 0)), (5, .one (.ptr 5 0 0)), (4, .one (.sl 74 4 (l.map tok) none)), (6, .one (.v (.int .i64 i)))],
      [(0, ⟨0, 84, rst r4⟩), (2, ⟨0, 96, [.v (.int .i64 0), .v (.string .empty), .nil 9 1, .v (.int .i64 0), .v (.int .i64 0), .v (.string .empty), .v (.int .i64 0), .nil 53 6, .nil 96 9]⟩),
       (5, ⟨0, 96, .v (.int .i64 c.at_) :: .v (.string c.s) :: .sl 9 1 (((l.take m).map (·.s)).map str) (some (34, 0)) :: exC (.mk k2 a2 s2 n2 ks2 as2)⟩)], [(34, ⟨0, 9, 1, true⟩)]⟩)
    ⟨_, _, wk [0, 2, 5, 4, 6] [0, 2, 5] [] [] [] [(5, 2, 34, 9, 1)] rfl, 0, 0, rfl, Nat.zero_le _, rfl, rfl⟩ ?_
  rintro n' st ⟨m, i, rfl, hm, rfl, rfl⟩
  apply seqC
  apply seqC
  apply regL
  repeat ((with_reducible apply stepS); (· conv => whnf))
  apply endS
  cases hlt : decide (((m : Nat) : Int) < ((l.map tok).length : Int))
  · apply condF; (· (conv => whnf); try rfl)
    apply exitC
    have : m = l.length := by simp at hlt; omega
    subst this
    rw [List.take_length]
    apply seqC
    apply regL
    repeat ((with_reducible apply stepS); (· conv => whnf))
    apply endS
    apply retC
    conv => whnf
    exact ⟨rfl, rfl⟩
  · have hm2 : m < l.length := by simpa using hlt
    apply condT; (· (conv => whnf); try rfl)
    apply skipC
    apply seqC
    apply blockC
    apply regDL
    repeat ((with_reducible apply stepD); (· (conv => whnf); refine ⟨⟨rfl, rfl⟩, ?_⟩; (conv => whnf)))
    apply stepD; (· (conv => whnf); refine ⟨_, get_map (List.getElem?_eq_getElem hm2), ?_⟩; (conv => whnf); refine ⟨⟨rfl, rfl⟩, ?_⟩; (conv => whnf))
    repeat ((with_reducible apply stepD); (· (conv => whnf); refine ⟨⟨rfl, rfl⟩, ?_⟩; (conv => whnf)))
    apply stepD; (· (conv => whnf); refine ⟨(by simp [lim]; omega), ?_⟩; (conv => whnf); refine ⟨⟨rfl, rfl⟩, ?_⟩; (conv => whnf))
    repeat ((with_reducible apply stepD); (· (conv => whnf); refine ⟨⟨rfl, rfl⟩, ?_⟩; (conv => whnf)))
    apply endD; (· exact apart_of (by kernel_rfl))
    apply regL
    repeat ((with_reducible apply stepS); (· conv => whnf))
    apply endS
    refine ⟨_, _, ?_, wk [0, 2, 5, 4, 6] [0, 2, 5] [34] [] [] [] rfl, m + 1, _, rfl, hm2, i64_id (x := (m : Int) + 1) (by omega) (by omega), ?_⟩
    · omega
    · rw [List.take_succ_eq_append_getElem hm2, List.map_append, List.map_append]; rfl
end Go.Proofs.YtoapgongbackaaaDoor.V

/-! R10: the reference's expr. -/
namespace Go.Proofs.YtoapgongbackaaaDoor.V
open Go Go.Proofs
set_option maxRecDepth 100000

theorem tryF {r : RS} {s : ByteArray} (hB : r.l.length ≤ 4294967296) (h : rpeek r 5 s = false) : Ct 32 [rstA r, .val (.one (.v (.string s)))] [.val (.one (.v (.bool false)))] [rst r] := by
  have := rtry_ct r s hB
  unfold rtry at this
  rw [h] at this
  exact this
theorem tryT {r : RS} {s : ByteArray} (hB : r.l.length ≤ 4294967296) (h : rpeek r 5 s = true) : Ct 32 [rstA r, .val (.one (.v (.string s)))] [.val (.one (.v (.bool true)))] [rst (rinc r)] := by
  have := rtry_ct r s hB
  unfold rtry at this
  rw [h] at this
  exact this
theorem peekV {r : RS} {k : Int} {s : ByteArray} {b : Bool} (h : rpeek r k s = b) : Ct 27 [rstA r, .val (.one (.v (.int .i64 k))), .val (.one (.v (.string s)))] [.val (.one (.v (.bool b)))] [rst r] := by
  have := rpeek_ct r k s
  rwa [h] at this
theorem rexpr_bad (r : RS) (h : r.bad = true) : Ct 34 [rstA r] [.val (.agg (exC noExp))] [rst (rfail r)] := by
  have hf := rfail_ct r
  obtain ⟨l, i, en, bd, a⟩ := r
  simp only at h
  subst h
  refine ct Tryd.func34 (by kernel_rfl) ?_
  apply evF_of rfl
  apply seqC
  apply regL
  repeat ((with_reducible apply stepS); (· conv => whnf))
  apply endS
  apply seqC
  apply seqC
  apply regDL
  repeat ((with_reducible apply stepD); (· (conv => whnf); refine ⟨⟨rfl, rfl⟩, ?_⟩; (conv => whnf)))
  apply endD; (· exact apart_of (by kernel_rfl))
  apply condT; (· (conv => whnf); try rfl)
  apply seqC
  apply regL
  repeat ((with_reducible apply stepS); (· conv => whnf))
  apply stepS; (· (conv => whnf); refine ⟨_, _, hf, ?_⟩; (conv => whnf))
  repeat ((with_reducible apply stepS); (· conv => whnf))
  apply endS; apply seqC; apply regL
  repeat ((with_reducible apply stepS); (· conv => whnf))
  apply endS
  apply retC
  conv => whnf
  exact ⟨rfl, rfl⟩
theorem rexpr_end (r : RS) (hb : r.bad = false) (h : r.l.length ≤ r.i) : Ct 34 [rstA r] [.val (.agg (exC noExp))] [rst (rfail r)] := by
  have hf := rfail_ct r
  obtain ⟨l, i, en, bd, a⟩ := r
  simp only at h hb
  subst hb
  have hge : decide (((l.map tok).length : Int) ≤ (i : Int)) = true := decide_eq_true (by simp; omega)
  refine ct Tryd.func34 (by kernel_rfl) ?_
  apply evF_of rfl
  apply seqC
  apply regL
  repeat ((with_reducible apply stepS); (· conv => whnf))
  apply endS
  apply seqC
  apply seqC
  apply regDL
  repeat ((with_reducible apply stepD); (· (conv => whnf); refine ⟨⟨rfl, rfl⟩, ?_⟩; (conv => whnf)))
  rw [hge]
  apply endD; (· exact apart_of (by kernel_rfl))
  apply condT; (· (conv => whnf); try rfl)
  apply seqC
  apply regL
  repeat ((with_reducible apply stepS); (· conv => whnf))
  apply stepS; (· (conv => whnf); refine ⟨_, _, hf, ?_⟩; (conv => whnf))
  repeat ((with_reducible apply stepS); (· conv => whnf))
  apply endS; apply seqC; apply regL
  repeat ((with_reducible apply stepS); (· conv => whnf))
  apply endS
  apply retC
  conv => whnf
  exact ⟨rfl, rfl⟩
set_option maxHeartbeats 8000000 in
theorem rexpr_lam {r : RS} {t : Tok} (hB : r.l.length ≤ 4294967296) (hb : r.bad = false) (hget : r.l[r.i]? = some t) {r3 r5 : RS} {l : List Tok} {b : Exp} {k : Nat} (hp1 : rpeek r 5 lamS.s = true) (hk : k ≤ 4294967296) (hn : rnamesA k [] (reat (rinc r) 1 .empty).2 = some (l, r3)) (hr3 : r3.l = r.l) (hll : l.length ≤ 4294967290)
    (hx : Ct 34 [rstA (reat r3 5 arrow.s).2] [.val (.agg (exC b))] [rst r5]) :
    Ct 34 [rstA r] [.val (.agg (exC (lamsP ((reat (rinc r) 1 .empty).1 :: l) t.at_ b)))] [rst r5] := by
  have h1 := tryT hB hp1
  have he := reat_ct (rinc r) 1 .empty hB
  have hnm := rnames_ct hk (by rw [reat_l]; exact hB) hn
  have hs := rsign_ct r3 arrow.s (by rw [hr3]; exact hB)
  generalize (reat r3 5 arrow.s).2 = r4 at hs hx
  generalize (reat (rinc r) 1 .empty).2 = r2 at he hnm
  generalize (reat (rinc r) 1 .empty).1 = c at he
  simp only [rinc] at h1 he
  obtain ⟨k2, a2, s2, n2, ks2, as2⟩ := b
  have hlm := rlams_ct (c :: l) t.at_ (.mk k2 a2 s2 n2 ks2 as2) (by simp; omega)
  generalize lamsP (c :: l) t.at_ (.mk k2 a2 s2 n2 ks2 as2) = res at hlm
  obtain ⟨k6, a6, s6, n6, ks6, as6⟩ := res
  obtain ⟨lt, i, en, bd, a⟩ := r
  obtain ⟨tk, ta, ts, tn⟩ := t
  simp only at hb
  subst hb
  have hi : i < lt.length := (List.getElem?_eq_some_iff.1 hget).1
  simp only at hget hB
  have hw : IntKind.i64.wrap ((i : Int) + 1) = ((i + 1 : Nat) : Int) := i64_id (by omega) (by omega)
  have hge : decide (((lt.map tok).length : Int) ≤ (i : Int)) = false := decide_eq_false (by simp; omega)
  refine ct Tryd.func34 (by kernel_rfl) ?_
  apply evF_of rfl
  apply seqC
  apply regL
  repeat ((with_reducible apply stepS); (· conv => whnf))
  apply endS
  apply seqC
  apply seqC
  apply regDL
  repeat ((with_reducible apply stepD); (· (conv => whnf); refine ⟨⟨rfl, rfl⟩, ?_⟩; (conv => whnf)))
  rw [hge]
  apply endD; (· exact apart_of (by kernel_rfl))
  apply condF; (· (conv => whnf); try rfl)
  apply skipC
  apply seqC
  apply regDL
  repeat ((with_reducible apply stepD); (· (conv => whnf); refine ⟨⟨rfl, rfl⟩, ?_⟩; (conv => whnf)))
  apply stepD; (· (conv => whnf); refine ⟨_, get_map (f := tok) hget, ?_⟩; (conv => whnf); refine ⟨⟨rfl, rfl⟩, ?_⟩; (conv => whnf))
  repeat ((with_reducible apply stepD); (· (conv => whnf); refine ⟨⟨rfl, rfl⟩, ?_⟩; (conv => whnf)))
  apply endD; (· exact apart_of (by kernel_rfl))
  apply seqC
  apply blockC
  apply seqC
  apply regL
  repeat ((with_reducible apply stepS); (· conv => whnf))
  apply stepS; (· (conv => whnf); refine ⟨_, _, h1, ?_⟩; (conv => whnf))
  repeat ((with_reducible apply stepS); (· conv => whnf))
  apply endS
  apply condT; (· (conv => whnf); try rfl)
  apply seqC
  apply regL
  repeat ((with_reducible apply stepS); (· conv => whnf))
  apply stepS; (· (conv => whnf); refine ⟨_, _, he, ?_⟩; (conv => whnf))
  repeat ((with_reducible apply stepS); (· conv => whnf))
  apply endS; apply seqC; apply regL
  repeat ((with_reducible apply stepS); (· conv => whnf))
  apply stepS; (· (conv => whnf); refine ⟨_, _, hnm, ?_⟩; (conv => whnf))
  repeat ((with_reducible apply stepS); (· conv => whnf))
  apply stepS; (· (conv => whnf); refine ⟨(by simp [lim]; omega), ?_⟩; (conv => whnf))
  repeat ((with_reducible apply stepS); (· conv => whnf))
  apply endS; apply seqC; apply regL
  repeat ((with_reducible apply stepS); (· conv => whnf))
  apply stepS; (· (conv => whnf); refine ⟨_, _, hs, ?_⟩; (conv => whnf))
  repeat ((with_reducible apply stepS); (· conv => whnf))
  apply endS
  apply seqC
  apply regDL
  repeat ((with_reducible apply stepD); (· (conv => whnf); refine ⟨⟨rfl, rfl⟩, ?_⟩; (conv => whnf)))
  apply stepD; (· (conv => whnf); refine ⟨_, _, hx, ?_⟩; (conv => whnf); refine ⟨⟨rfl, rfl⟩, ?_⟩; (conv => whnf))
  repeat ((with_reducible apply stepD); (· (conv => whnf); refine ⟨⟨rfl, rfl⟩, ?_⟩; (conv => whnf)))
  apply stepD; (· (conv => whnf); refine ⟨_, _, hlm, ?_⟩; (conv => whnf); refine ⟨⟨rfl, rfl⟩, ?_⟩; (conv => whnf))
  repeat ((with_reducible apply stepD); (· (conv => whnf); refine ⟨⟨rfl, rfl⟩, ?_⟩; (conv => whnf)))
  apply endD; (· exact apart_of (by kernel_rfl))
  apply retC
  conv => whnf
  exact ⟨rfl, rfl⟩
set_option maxHeartbeats 8000000 in
theorem rexpr_let {r : RS} {t : Tok} (hB : r.l.length ≤ 4294967296) (hb : r.bad = false) (hget : r.l[r.i]? = some t) {r3 r5 r7 : RS} {l : List Tok} {d b : Exp} {k : Nat} (hp1 : rpeek r 5 lamS.s = false) (hp2 : rpeek r 4 letS.s = true) (hk : k ≤ 4294967296) (hn : rnamesA k [] (reat (rinc r) 1 .empty).2 = some (l, r3)) (hr3 : r3.l = r.l) (hll : l.length ≤ 4294967290)
    (hx : Ct 34 [rstA (reat r3 5 eqS.s).2] [.val (.agg (exC d))] [rst r5]) (hr5 : r5.l = r.l) (hy : Ct 34 [rstA (reat r5 4 inS.s).2] [.val (.agg (exC b))] [rst r7]) :
    Ct 34 [rstA r] [.val (.agg (exC (.mk 7 t.at_ (reat (rinc r) 1 .empty).1.s 0 [lamsP l (reat (rinc r) 1 .empty).1.at_ d, b] [])))] [rst r7] := by
  have h1 := tryF hB hp1
  have h2 := peekV hp2
  have he := reat_ct (rinc r) 1 .empty hB
  have hnm := rnames_ct hk (by rw [reat_l]; exact hB) hn
  have hs := rsign_ct r3 eqS.s (by rw [hr3]; exact hB)
  have hin := reat_ct r5 4 inS.s (by rw [hr5]; exact hB)
  generalize (reat r3 5 eqS.s).2 = r4 at hs hx
  generalize (reat r5 4 inS.s).2 = r6 at hin hy
  generalize (reat r5 4 inS.s).1 = t6 at hin
  generalize (reat (rinc r) 1 .empty).2 = r2 at he hnm
  generalize (reat (rinc r) 1 .empty).1 = c at he
  simp only [rinc] at he
  obtain ⟨k2, a2, s2, n2, ks2, as2⟩ := d
  obtain ⟨k3, a3, s3, n3, ks3, as3⟩ := b
  have hlm := rlams_ct l c.at_ (.mk k2 a2 s2 n2 ks2 as2) (by omega)
  generalize lamsP l c.at_ (.mk k2 a2 s2 n2 ks2 as2) = res at hlm
  obtain ⟨k6, a6, s6, n6, ks6, as6⟩ := res
  obtain ⟨lt, i, en, bd, a⟩ := r
  obtain ⟨tk, ta, ts, tn⟩ := t
  simp only at hb
  subst hb
  have hi : i < lt.length := (List.getElem?_eq_some_iff.1 hget).1
  simp only at hget hB
  have hw : IntKind.i64.wrap ((i : Int) + 1) = ((i + 1 : Nat) : Int) := i64_id (by omega) (by omega)
  have hge : decide (((lt.map tok).length : Int) ≤ (i : Int)) = false := decide_eq_false (by simp; omega)
  refine ct Tryd.func34 (by kernel_rfl) ?_
  apply evF_of rfl
  apply seqC
  apply regL
  repeat ((with_reducible apply stepS); (· conv => whnf))
  apply endS
  apply seqC
  apply seqC
  apply regDL
  repeat ((with_reducible apply stepD); (· (conv => whnf); refine ⟨⟨rfl, rfl⟩, ?_⟩; (conv => whnf)))
  rw [hge]
  apply endD; (· exact apart_of (by kernel_rfl))
  apply condF; (· (conv => whnf); try rfl)
  apply skipC
  apply seqC
  apply regDL
  repeat ((with_reducible apply stepD); (· (conv => whnf); refine ⟨⟨rfl, rfl⟩, ?_⟩; (conv => whnf)))
  apply stepD; (· (conv => whnf); refine ⟨_, get_map (f := tok) hget, ?_⟩; (conv => whnf); refine ⟨⟨rfl, rfl⟩, ?_⟩; (conv => whnf))
  repeat ((with_reducible apply stepD); (· (conv => whnf); refine ⟨⟨rfl, rfl⟩, ?_⟩; (conv => whnf)))
  apply endD; (· exact apart_of (by kernel_rfl))
  apply seqC
  apply blockC
  apply seqC
  apply regL
  repeat ((with_reducible apply stepS); (· conv => whnf))
  apply stepS; (· (conv => whnf); refine ⟨_, _, h1, ?_⟩; (conv => whnf))
  repeat ((with_reducible apply stepS); (· conv => whnf))
  apply endS
  apply condF; (· (conv => whnf); try rfl)
  apply seqC
  apply regL
  repeat ((with_reducible apply stepS); (· conv => whnf))
  apply stepS; (· (conv => whnf); refine ⟨_, _, h2, ?_⟩; (conv => whnf))
  repeat ((with_reducible apply stepS); (· conv => whnf))
  apply endS
  apply condT; (· (conv => whnf); try rfl)
  apply seqC
  apply regL
  repeat ((with_reducible apply stepS); (· conv => whnf))
  rw [hw]
  apply endS
  apply seqC
  apply regL
  repeat ((with_reducible apply stepS); (· conv => whnf))
  apply stepS; (· (conv => whnf); refine ⟨_, _, he, ?_⟩; (conv => whnf))
  repeat ((with_reducible apply stepS); (· conv => whnf))
  apply endS; apply seqC; apply regL
  repeat ((with_reducible apply stepS); (· conv => whnf))
  apply stepS; (· (conv => whnf); refine ⟨_, _, hnm, ?_⟩; (conv => whnf))
  repeat ((with_reducible apply stepS); (· conv => whnf))
  apply endS; apply seqC; apply regL
  repeat ((with_reducible apply stepS); (· conv => whnf))
  apply stepS; (· (conv => whnf); refine ⟨_, _, hs, ?_⟩; (conv => whnf))
  repeat ((with_reducible apply stepS); (· conv => whnf))
  apply endS
  apply seqC
  apply regDL
  repeat ((with_reducible apply stepD); (· (conv => whnf); refine ⟨⟨rfl, rfl⟩, ?_⟩; (conv => whnf)))
  apply stepD; (· (conv => whnf); refine ⟨_, _, hx, ?_⟩; (conv => whnf); refine ⟨⟨rfl, rfl⟩, ?_⟩; (conv => whnf))
  repeat ((with_reducible apply stepD); (· (conv => whnf); refine ⟨⟨rfl, rfl⟩, ?_⟩; (conv => whnf)))
  apply stepD; (· (conv => whnf); refine ⟨_, _, hlm, ?_⟩; (conv => whnf); refine ⟨⟨rfl, rfl⟩, ?_⟩; (conv => whnf))
  repeat ((with_reducible apply stepD); (· (conv => whnf); refine ⟨⟨rfl, rfl⟩, ?_⟩; (conv => whnf)))
  apply endD; (· exact apart_of (by kernel_rfl))
  apply seqC
  apply regL
  repeat ((with_reducible apply stepS); (· conv => whnf))
  apply stepS; (· (conv => whnf); refine ⟨_, _, hin, ?_⟩; (conv => whnf))
  repeat ((with_reducible apply stepS); (· conv => whnf))
  apply endS
  apply seqC
  apply regDL
  repeat ((with_reducible apply stepD); (· (conv => whnf); refine ⟨⟨rfl, rfl⟩, ?_⟩; (conv => whnf)))
  apply stepD; (· (conv => whnf); refine ⟨_, _, hy, ?_⟩; (conv => whnf); refine ⟨⟨rfl, rfl⟩, ?_⟩; (conv => whnf))
  repeat ((with_reducible apply stepD); (· (conv => whnf); refine ⟨⟨rfl, rfl⟩, ?_⟩; (conv => whnf)))
  apply endD; (· exact apart_of (by kernel_rfl))
  apply retC
  conv => whnf
  exact ⟨rfl, rfl⟩
set_option maxHeartbeats 8000000 in
theorem rexpr_if {r : RS} {t : Tok} (hB : r.l.length ≤ 4294967296) (hb : r.bad = false) (hget : r.l[r.i]? = some t) {r1 r3 r5 : RS} {x y z : Exp} (hp1 : rpeek r 5 lamS.s = false) (hp2 : rpeek r 4 letS.s = false) (hp3 : rpeek r 4 ifS.s = true)
    (hx : Ct 34 [rstA (rinc r)] [.val (.agg (exC x))] [rst r1]) (hr1 : r1.l = r.l) (hy : Ct 34 [rstA (reat r1 4 thenS.s).2] [.val (.agg (exC y))] [rst r3]) (hr3 : r3.l = r.l) (hz : Ct 34 [rstA (reat r3 4 elseS.s).2] [.val (.agg (exC z))] [rst r5]) :
    Ct 34 [rstA r] [.val (.agg (exC (.mk 9 t.at_ .empty 0 [x, y, z] [])))] [rst r5] := by
  have h1 := tryF hB hp1
  have h2 := peekV hp2
  have h3 := peekV hp3
  have ht := reat_ct r1 4 thenS.s (by rw [hr1]; exact hB)
  have hl := reat_ct r3 4 elseS.s (by rw [hr3]; exact hB)
  generalize (reat r1 4 thenS.s).2 = r2 at ht hy
  generalize (reat r1 4 thenS.s).1 = t2 at ht
  generalize (reat r3 4 elseS.s).2 = r4 at hl hz
  generalize (reat r3 4 elseS.s).1 = t4 at hl
  simp only [rinc] at hx
  obtain ⟨k2, a2, s2, n2, ks2, as2⟩ := x
  obtain ⟨k3, a3, s3, n3, ks3, as3⟩ := y
  obtain ⟨k4, a4, s4, n4, ks4, as4⟩ := z
  obtain ⟨l, i, en, bd, a⟩ := r
  obtain ⟨tk, ta, ts, tn⟩ := t
  simp only at hb
  subst hb
  have hi : i < l.length := (List.getElem?_eq_some_iff.1 hget).1
  simp only at hget hB
  have hw : IntKind.i64.wrap ((i : Int) + 1) = ((i + 1 : Nat) : Int) := i64_id (by omega) (by omega)
  have hge : decide (((l.map tok).length : Int) ≤ (i : Int)) = false := decide_eq_false (by simp; omega)
  refine ct Tryd.func34 (by kernel_rfl) ?_
  apply evF_of rfl
  apply seqC
  apply regL
  repeat ((with_reducible apply stepS); (· conv => whnf))
  apply endS
  apply seqC
  apply seqC
  apply regDL
  repeat ((with_reducible apply stepD); (· (conv => whnf); refine ⟨⟨rfl, rfl⟩, ?_⟩; (conv => whnf)))
  rw [hge]
  apply endD; (· exact apart_of (by kernel_rfl))
  apply condF; (· (conv => whnf); try rfl)
  apply skipC
  apply seqC
  apply regDL
  repeat ((with_reducible apply stepD); (· (conv => whnf); refine ⟨⟨rfl, rfl⟩, ?_⟩; (conv => whnf)))
  apply stepD; (· (conv => whnf); refine ⟨_, get_map (f := tok) hget, ?_⟩; (conv => whnf); refine ⟨⟨rfl, rfl⟩, ?_⟩; (conv => whnf))
  repeat ((with_reducible apply stepD); (· (conv => whnf); refine ⟨⟨rfl, rfl⟩, ?_⟩; (conv => whnf)))
  apply endD; (· exact apart_of (by kernel_rfl))
  apply seqC
  apply blockC
  apply seqC
  apply regL
  repeat ((with_reducible apply stepS); (· conv => whnf))
  apply stepS; (· (conv => whnf); refine ⟨_, _, h1, ?_⟩; (conv => whnf))
  repeat ((with_reducible apply stepS); (· conv => whnf))
  apply endS
  apply condF; (· (conv => whnf); try rfl)
  apply seqC
  apply regL
  repeat ((with_reducible apply stepS); (· conv => whnf))
  apply stepS; (· (conv => whnf); refine ⟨_, _, h2, ?_⟩; (conv => whnf))
  repeat ((with_reducible apply stepS); (· conv => whnf))
  apply endS
  apply condF; (· (conv => whnf); try rfl)
  apply seqC
  apply regL
  repeat ((with_reducible apply stepS); (· conv => whnf))
  apply stepS; (· (conv => whnf); refine ⟨_, _, h3, ?_⟩; (conv => whnf))
  repeat ((with_reducible apply stepS); (· conv => whnf))
  apply endS
  apply condT; (· (conv => whnf); try rfl)
  apply seqC
  apply regL
  repeat ((with_reducible apply stepS); (· conv => whnf))
  rw [hw]
  apply endS
  apply seqC
  apply regL
  repeat ((with_reducible apply stepS); (· conv => whnf))
  apply stepS; (· (conv => whnf); refine ⟨_, _, hx, ?_⟩; (conv => whnf))
  repeat ((with_reducible apply stepS); (· conv => whnf))
  apply endS; apply seqC; apply regL
  repeat ((with_reducible apply stepS); (· conv => whnf))
  apply stepS; (· (conv => whnf); refine ⟨_, _, ht, ?_⟩; (conv => whnf))
  repeat ((with_reducible apply stepS); (· conv => whnf))
  apply endS; apply seqC; apply regL
  repeat ((with_reducible apply stepS); (· conv => whnf))
  apply stepS; (· (conv => whnf); refine ⟨_, _, hy, ?_⟩; (conv => whnf))
  repeat ((with_reducible apply stepS); (· conv => whnf))
  apply endS; apply seqC; apply regL
  repeat ((with_reducible apply stepS); (· conv => whnf))
  apply stepS; (· (conv => whnf); refine ⟨_, _, hl, ?_⟩; (conv => whnf))
  repeat ((with_reducible apply stepS); (· conv => whnf))
  apply endS
  apply seqC
  apply regDL
  repeat ((with_reducible apply stepD); (· (conv => whnf); refine ⟨⟨rfl, rfl⟩, ?_⟩; (conv => whnf)))
  apply stepD; (· (conv => whnf); refine ⟨_, _, hz, ?_⟩; (conv => whnf); refine ⟨⟨rfl, rfl⟩, ?_⟩; (conv => whnf))
  repeat ((with_reducible apply stepD); (· (conv => whnf); refine ⟨⟨rfl, rfl⟩, ?_⟩; (conv => whnf)))
  apply endD; (· exact apart_of (by kernel_rfl))
  apply retC
  conv => whnf
  exact ⟨rfl, rfl⟩
end Go.Proofs.YtoapgongbackaaaDoor.V

/-! R11: the reference's expr: case, application. -/
namespace Go.Proofs.YtoapgongbackaaaDoor.V
open Go Go.Proofs
set_option maxRecDepth 100000

inductive RAlt : Nat → RS → List Alt → List Alt → RS → Prop
  | stop {n : Nat} {r : RS} {acc : List Alt} (h : rpeek r 5 semi.s = false) : RAlt n r acc acc r
  | step {n : Nat} {r r1 r2 : RS} {acc l : List Alt} {x : Alt} (h : rpeek r 5 semi.s = true) (hx : Ct 65 [rstA (rinc r)] [.val (.agg (altC x))] [rst r1]) (hr : r1.l = r.l) (k : RAlt n r1 (acc ++ [x]) l r2) : RAlt (n + 1) r acc l r2
inductive RApp : Nat → RS → Exp → Exp → RS → Prop
  | stop {n : Nat} {r : RS} {e : Exp} (h : ratomic r = false) : RApp n r e e r
  | step {n : Nat} {r r1 r2 : RS} {e a e2 : Exp} (h : ratomic r = true) (hx : Ct 66 [rstA r] [.val (.agg (exC a))] [rst r1]) (hr : r1.l = r.l) (k : RApp n r1 (.mk 5 e.at_ .empty 0 [e, a] []) e2 r2) : RApp (n + 1) r e e2 r2
theorem RAlt.len {n : Nat} {r r2 : RS} {acc l : List Alt} (h : RAlt n r acc l r2) : r2.l = r.l := by
  induction h with
  | stop => rfl
  | step _ _ hr _ ih => exact ih.trans hr
theorem RApp.len {n : Nat} {r r2 : RS} {e e2 : Exp} (h : RApp n r e e2 r2) : r2.l = r.l := by
  induction h with
  | stop => rfl
  | step _ _ hr _ ih => exact ih.trans hr
set_option maxHeartbeats 8000000 in
theorem rexpr_case {r : RS} {t : Tok} (hB : r.l.length ≤ 4294967296) (hb : r.bad = false) (hget : r.l[r.i]? = some t) {r1 r4 r5 : RS} {x : Exp} {x1 : Alt} {ls : List Alt} {n : Nat} (hp1 : rpeek r 5 lamS.s = false) (hp2 : rpeek r 4 letS.s = false) (hp3 : rpeek r 4 ifS.s = false) (hp4 : rpeek r 4 caseS.s = true)
    (hx : Ct 34 [rstA (rinc r)] [.val (.agg (exC x))] [rst r1]) (hr1 : r1.l = r.l) (hy : Ct 65 [rstA (reat (reat r1 4 ofS.s).2 5 lbrace.s).2] [.val (.agg (altC x1))] [rst r4]) (hr4 : r4.l = r.l) (hk : RAlt n r4 [x1] ls r5) (hn : n ≤ 4294967296) :
    Ct 34 [rstA r] [.val (.agg (exC (.mk 10 t.at_ .empty 0 [x] ls)))] [rst (reat r5 5 rbrace.s).2] := by
  have h1 := tryF hB hp1
  have h2 := peekV hp2
  have h3 := peekV hp3
  have h4 := peekV hp4
  have ho := reat_ct r1 4 ofS.s (by rw [hr1]; exact hB)
  have hlb := rsign_ct (reat r1 4 ofS.s).2 lbrace.s (by rw [reat_l, hr1]; exact hB)
  have hrb := rsign_ct r5 rbrace.s (by rw [hk.len, hr4]; exact hB)
  generalize (reat (reat r1 4 ofS.s).2 5 lbrace.s).2 = r3 at hlb hy
  generalize (reat r1 4 ofS.s).2 = r2 at ho hlb
  generalize (reat r1 4 ofS.s).1 = t2 at ho
  generalize (reat r5 5 rbrace.s).2 = r6 at hrb
  simp only [rinc] at hx
  obtain ⟨k2, a2, s2, n2, ks2, as2⟩ := x
  obtain ⟨a7, s7, l7, b7⟩ := x1
  obtain ⟨k8, a8, s8, n8, ks8, as8⟩ := b7
  obtain ⟨l, i, en, bd, a⟩ := r
  obtain ⟨tk, ta, ts, tn⟩ := t
  simp only at hb
  subst hb
  have hi : i < l.length := (List.getElem?_eq_some_iff.1 hget).1
  simp only at hget hB
  have hw : IntKind.i64.wrap ((i : Int) + 1) = ((i + 1 : Nat) : Int) := i64_id (by omega) (by omega)
  have hge : decide (((l.map tok).length : Int) ≤ (i : Int)) = false := decide_eq_false (by simp; omega)
  refine ct Tryd.func34 (by kernel_rfl) ?_
  apply evF_of rfl
  apply seqC
  apply regL
  repeat ((with_reducible apply stepS); (· conv => whnf))
  apply endS
  apply seqC
  apply seqC
  apply regDL
  repeat ((with_reducible apply stepD); (· (conv => whnf); refine ⟨⟨rfl, rfl⟩, ?_⟩; (conv => whnf)))
  rw [hge]
  apply endD; (· exact apart_of (by kernel_rfl))
  apply condF; (· (conv => whnf); try rfl)
  apply skipC
  apply seqC
  apply regDL
  repeat ((with_reducible apply stepD); (· (conv => whnf); refine ⟨⟨rfl, rfl⟩, ?_⟩; (conv => whnf)))
  apply stepD; (· (conv => whnf); refine ⟨_, get_map (f := tok) hget, ?_⟩; (conv => whnf); refine ⟨⟨rfl, rfl⟩, ?_⟩; (conv => whnf))
  repeat ((with_reducible apply stepD); (· (conv => whnf); refine ⟨⟨rfl, rfl⟩, ?_⟩; (conv => whnf)))
  apply endD; (· exact apart_of (by kernel_rfl))
  apply seqC
  apply blockC
  apply seqC
  apply regL
  repeat ((with_reducible apply stepS); (· conv => whnf))
  apply stepS; (· (conv => whnf); refine ⟨_, _, h1, ?_⟩; (conv => whnf))
  repeat ((with_reducible apply stepS); (· conv => whnf))
  apply endS
  apply condF; (· (conv => whnf); try rfl)
  apply seqC
  apply regL
  repeat ((with_reducible apply stepS); (· conv => whnf))
  apply stepS; (· (conv => whnf); refine ⟨_, _, h2, ?_⟩; (conv => whnf))
  repeat ((with_reducible apply stepS); (· conv => whnf))
  apply endS
  apply condF; (· (conv => whnf); try rfl)
  apply seqC
  apply regL
  repeat ((with_reducible apply stepS); (· conv => whnf))
  apply stepS; (· (conv => whnf); refine ⟨_, _, h3, ?_⟩; (conv => whnf))
  repeat ((with_reducible apply stepS); (· conv => whnf))
  apply endS
  apply condF; (· (conv => whnf); try rfl)
  apply seqC
  apply regL
  repeat ((with_reducible apply stepS); (· conv => whnf))
  apply stepS; (· (conv => whnf); refine ⟨_, _, h4, ?_⟩; (conv => whnf))
  repeat ((with_reducible apply stepS); (· conv => whnf))
  apply endS
  apply condT; (· (conv => whnf); try rfl)
  apply seqC
  apply regL
  repeat ((with_reducible apply stepS); (· conv => whnf))
  rw [hw]
  apply endS
  apply seqC
  apply regDL
  repeat ((with_reducible apply stepD); (· (conv => whnf); refine ⟨⟨rfl, rfl⟩, ?_⟩; (conv => whnf)))
  apply stepD; (· (conv => whnf); refine ⟨_, _, hx, ?_⟩; (conv => whnf); refine ⟨⟨rfl, rfl⟩, ?_⟩; (conv => whnf))
  repeat ((with_reducible apply stepD); (· (conv => whnf); refine ⟨⟨rfl, rfl⟩, ?_⟩; (conv => whnf)))
  apply endD; (· exact apart_of (by kernel_rfl))
  apply seqC
  apply regL
  repeat ((with_reducible apply stepS); (· conv => whnf))
  apply stepS; (· (conv => whnf); refine ⟨_, _, ho, ?_⟩; (conv => whnf))
  repeat ((with_reducible apply stepS); (· conv => whnf))
  apply endS; apply seqC; apply regL
  repeat ((with_reducible apply stepS); (· conv => whnf))
  apply stepS; (· (conv => whnf); refine ⟨_, _, hlb, ?_⟩; (conv => whnf))
  repeat ((with_reducible apply stepS); (· conv => whnf))
  apply endS
  apply seqC
  apply regDL
  repeat ((with_reducible apply stepD); (· (conv => whnf); refine ⟨⟨rfl, rfl⟩, ?_⟩; (conv => whnf)))
  apply stepD; (· (conv => whnf); refine ⟨_, _, hy, ?_⟩; (conv => whnf); refine ⟨⟨rfl, rfl⟩, ?_⟩; (conv => whnf))
  repeat ((with_reducible apply stepD); (· (conv => whnf); refine ⟨⟨rfl, rfl⟩, ?_⟩; (conv => whnf)))
  apply stepD; (· (conv => whnf); refine ⟨(by simp [lim]), ?_⟩; (conv => whnf); refine ⟨⟨rfl, rfl⟩, ?_⟩; (conv => whnf))
  repeat ((with_reducible apply stepD); (· (conv => whnf); refine ⟨⟨rfl, rfl⟩, ?_⟩; (conv => whnf)))
  apply endD; (· exact apart_of (by kernel_rfl))
  apply seqC
  apply blockC
  refine loopC (fun q st => ∃ acc r9, RAlt q r9 acc ls r5 ∧ r9.l.length ≤ 4294967296 ∧ acc.length + q ≤ 8589934592 ∧
      st = ⟨[(0, .one (.ptr 0 0 0)), (2, .one (.ptr 2 0 0)), (10, .one (.ptr 10 0 0))],
        [(0, ⟨0, 84, rst r9⟩), (2, ⟨0, 53, [.v (.int .i64 0), .v (.int .i64 0), .v (.string .empty), .v (.int .i64 0), .nil 53 6, .nil 96 9]⟩),
         (10, ⟨0, 53, [.v (.int .i64 10), .v (.int .i64 ta), .v (.string .empty), .v (.int .i64 0), .sl 53 6 (exsC [.mk k2 a2 s2 n2 ks2 as2]) none, .sl 96 9 (altsC acc) (some (153, 0))]⟩)], [(153, ⟨0, 96, 9, true⟩)]⟩)
      ⟨_, _, wk [0, 2, 10] [0, 2, 10] [144] [(144, 153)] [] [] rfl, _, _, hk, by rw [hr4]; exact hB, by simp; omega, rfl⟩ ?_
  rintro n' st ⟨acc, r9, hk9, hB9, hla, rfl⟩
  apply seqC
  apply seqC
  apply regL
  repeat ((with_reducible apply stepS); (· conv => whnf))
  cases hk9 with
  | stop h =>
    have hq := tryF hB9 h
    apply stepS; (· (conv => whnf); refine ⟨_, _, hq, ?_⟩; (conv => whnf))
    repeat ((with_reducible apply stepS); (· conv => whnf))
    apply endS
    apply condF; (· (conv => whnf); try rfl)
    apply exitC
    apply seqC
    apply regL
    repeat ((with_reducible apply stepS); (· conv => whnf))
    apply stepS; (· (conv => whnf); refine ⟨_, _, hrb, ?_⟩; (conv => whnf))
    repeat ((with_reducible apply stepS); (· conv => whnf))
    apply endS; apply seqC; apply regL
    repeat ((with_reducible apply stepS); (· conv => whnf))
    apply endS
    apply retC
    conv => whnf
    exact ⟨rfl, rfl⟩
  | @step m _ r11 _ _ _ x9 h hx9 hr9 hk10 =>
    have hq := tryT hB9 h
    obtain ⟨a9, s9, l9, b9⟩ := x9
    obtain ⟨k9, a10, s10, n10, ks10, as10⟩ := b9
    apply stepS; (· (conv => whnf); refine ⟨_, _, hq, ?_⟩; (conv => whnf))
    repeat ((with_reducible apply stepS); (· conv => whnf))
    apply endS
    apply condT; (· (conv => whnf); try rfl)
    apply skipC
    apply blockC
    apply regDL
    repeat ((with_reducible apply stepD); (· (conv => whnf); refine ⟨⟨rfl, rfl⟩, ?_⟩; (conv => whnf)))
    apply stepD; (· (conv => whnf); refine ⟨_, _, hx9, ?_⟩; (conv => whnf); refine ⟨⟨rfl, rfl⟩, ?_⟩; (conv => whnf))
    repeat ((with_reducible apply stepD); (· (conv => whnf); refine ⟨⟨rfl, rfl⟩, ?_⟩; (conv => whnf)))
    apply stepD; (· (conv => whnf); refine ⟨(by rw [altsC_length]; simp [lim]; omega), ?_⟩; (conv => whnf); refine ⟨⟨rfl, rfl⟩, ?_⟩; (conv => whnf))
    repeat ((with_reducible apply stepD); (· (conv => whnf); refine ⟨⟨rfl, rfl⟩, ?_⟩; (conv => whnf)))
    apply endD; (· exact apart_of (by kernel_rfl))
    refine ⟨m, _, Nat.lt_succ_self m, wk [0, 2, 10] [0, 2, 10] [153] [] [] [] rfl, _, r11, hk10, by rw [hr9]; exact hB9, ?_, by rw [altsC_append]; rfl⟩
    simp
    omega
set_option maxHeartbeats 8000000 in
theorem rexpr_app {r : RS} {t : Tok} (hB : r.l.length ≤ 4294967296) (hb : r.bad = false) (hget : r.l[r.i]? = some t) {r1 r2 : RS} {e1 e2 : Exp} {n : Nat} (hp1 : rpeek r 5 lamS.s = false) (hp2 : rpeek r 4 letS.s = false) (hp3 : rpeek r 4 ifS.s = false) (hp4 : rpeek r 4 caseS.s = false)
    (hx : Ct 66 [rstA r] [.val (.agg (exC e1))] [rst r1]) (hr1 : r1.l = r.l) (hk : RApp n r1 e1 e2 r2) :
    Ct 34 [rstA r] [.val (.agg (exC e2))] [rst r2] := by
  have h1 := tryF hB hp1
  have h2 := peekV hp2
  have h3 := peekV hp3
  have h4 := peekV hp4
  obtain ⟨k2, a2, s2, n2, ks2, as2⟩ := e1
  obtain ⟨l, i, en, bd, a⟩ := r
  obtain ⟨tk, ta, ts, tn⟩ := t
  simp only at hb
  subst hb
  have hi : i < l.length := (List.getElem?_eq_some_iff.1 hget).1
  simp only at hget hB
  have hw : IntKind.i64.wrap ((i : Int) + 1) = ((i + 1 : Nat) : Int) := i64_id (by omega) (by omega)
  have hge : decide (((l.map tok).length : Int) ≤ (i : Int)) = false := decide_eq_false (by simp; omega)
  refine ct Tryd.func34 (by kernel_rfl) ?_
  apply evF_of rfl
  apply seqC
  apply regL
  repeat ((with_reducible apply stepS); (· conv => whnf))
  apply endS
  apply seqC
  apply seqC
  apply regDL
  repeat ((with_reducible apply stepD); (· (conv => whnf); refine ⟨⟨rfl, rfl⟩, ?_⟩; (conv => whnf)))
  rw [hge]
  apply endD; (· exact apart_of (by kernel_rfl))
  apply condF; (· (conv => whnf); try rfl)
  apply skipC
  apply seqC
  apply regDL
  repeat ((with_reducible apply stepD); (· (conv => whnf); refine ⟨⟨rfl, rfl⟩, ?_⟩; (conv => whnf)))
  apply stepD; (· (conv => whnf); refine ⟨_, get_map (f := tok) hget, ?_⟩; (conv => whnf); refine ⟨⟨rfl, rfl⟩, ?_⟩; (conv => whnf))
  repeat ((with_reducible apply stepD); (· (conv => whnf); refine ⟨⟨rfl, rfl⟩, ?_⟩; (conv => whnf)))
  apply endD; (· exact apart_of (by kernel_rfl))
  apply seqC
  apply blockC
  apply seqC
  apply regL
  repeat ((with_reducible apply stepS); (· conv => whnf))
  apply stepS; (· (conv => whnf); refine ⟨_, _, h1, ?_⟩; (conv => whnf))
  repeat ((with_reducible apply stepS); (· conv => whnf))
  apply endS
  apply condF; (· (conv => whnf); try rfl)
  apply seqC
  apply regL
  repeat ((with_reducible apply stepS); (· conv => whnf))
  apply stepS; (· (conv => whnf); refine ⟨_, _, h2, ?_⟩; (conv => whnf))
  repeat ((with_reducible apply stepS); (· conv => whnf))
  apply endS
  apply condF; (· (conv => whnf); try rfl)
  apply seqC
  apply regL
  repeat ((with_reducible apply stepS); (· conv => whnf))
  apply stepS; (· (conv => whnf); refine ⟨_, _, h3, ?_⟩; (conv => whnf))
  repeat ((with_reducible apply stepS); (· conv => whnf))
  apply endS
  apply condF; (· (conv => whnf); try rfl)
  apply seqC
  apply regL
  repeat ((with_reducible apply stepS); (· conv => whnf))
  apply stepS; (· (conv => whnf); refine ⟨_, _, h4, ?_⟩; (conv => whnf))
  repeat ((with_reducible apply stepS); (· conv => whnf))
  apply endS
  apply condF; (· (conv => whnf); try rfl)
  apply skipC
  apply seqC
  apply regL
  repeat ((with_reducible apply stepS); (· conv => whnf))
  apply stepS; (· (conv => whnf); refine ⟨_, _, hx, ?_⟩; (conv => whnf))
  repeat ((with_reducible apply stepS); (· conv => whnf))
  apply endS
  apply seqC
  apply blockC
  refine loopC (fun q st => ∃ k a s n ks as1 c5 r9, RApp q r9 (.mk k a s n ks as1) e2 r2 ∧ (c5 = .nil 96 9 ∧ as1 = [] ∨ c5 = .sl 96 9 (altsC as1) none) ∧
      st = ⟨[(0, .one (.ptr 0 0 0)), (2, .one (.ptr 2 0 0)), (11, .one (.ptr 11 0 0))],
        [(0, ⟨0, 84, rst r9⟩), (2, ⟨0, 53, [.v (.int .i64 0), .v (.int .i64 0), .v (.string .empty), .v (.int .i64 0), .nil 53 6, .nil 96 9]⟩),
         (11, ⟨0, 53, [.v (.int .i64 k), .v (.int .i64 a), .v (.string s), .v (.int .i64 n), .sl 53 6 (exsC ks) none, c5]⟩)], []⟩)
      ⟨_, _, wk [0, 2, 11] [0, 2, 11] [] [] [] [] rfl, k2, a2, s2, n2, ks2, as2, _, r1, hk, .inr rfl, rfl⟩ ?_
  rintro n' st ⟨k6, a6, s6, n6, ks6, as6, c5, r9, hk9, hc5, rfl⟩
  have hat := ratomic_ct r9
  apply seqC
  apply seqC
  apply regL
  repeat ((with_reducible apply stepS); (· conv => whnf))
  cases hk9 with
  | stop h =>
    rw [h] at hat
    apply stepS; (· (conv => whnf); refine ⟨_, _, hat, ?_⟩; (conv => whnf))
    repeat ((with_reducible apply stepS); (· conv => whnf))
    apply endS
    apply condF; (· (conv => whnf); try rfl)
    apply exitC
    apply seqC
    apply regL
    rcases hc5 with ⟨rfl, rfl⟩ | rfl
    · repeat ((with_reducible apply stepS); (· conv => whnf))
      apply endS
      apply retC
      conv => whnf
      exact ⟨rfl, rfl⟩
    · repeat ((with_reducible apply stepS); (· conv => whnf))
      apply endS
      apply retC
      conv => whnf
      exact ⟨rfl, rfl⟩
  | @step m _ r11 _ _ x9 _ h hx9 hr9 hk10 =>
    rw [h] at hat
    obtain ⟨k9, a9, s9, n9, ks9, as9⟩ := x9
    apply stepS; (· (conv => whnf); refine ⟨_, _, hat, ?_⟩; (conv => whnf))
    repeat ((with_reducible apply stepS); (· conv => whnf))
    apply endS
    apply condT; (· (conv => whnf); try rfl)
    apply skipC
    apply blockC
    apply seqC
    apply regL
    repeat ((with_reducible apply stepS); (· conv => whnf))
    apply stepS; (· (conv => whnf); refine ⟨_, _, hx9, ?_⟩; (conv => whnf))
    repeat ((with_reducible apply stepS); (· conv => whnf))
    apply endS
    apply regL
    rcases hc5 with ⟨rfl, rfl⟩ | rfl
    · repeat ((with_reducible apply stepS); (· conv => whnf))
      apply endS
      refine ⟨m, _, Nat.lt_succ_self m, wk [0, 2, 11] [0, 2, 11] [] [] [] [] rfl, 5, a6, .empty, 0, [.mk k6 a6 s6 n6 ks6 [], .mk k9 a9 s9 n9 ks9 as9], [], _, r11, hk10, .inl ⟨rfl, rfl⟩, rfl⟩
    · repeat ((with_reducible apply stepS); (· conv => whnf))
      apply endS
      refine ⟨m, _, Nat.lt_succ_self m, wk [0, 2, 11] [0, 2, 11] [] [] [] [] rfl, 5, a6, .empty, 0, [.mk k6 a6 s6 n6 ks6 as6, .mk k9 a9 s9 n9 ks9 as9], [], _, r11, hk10, .inl ⟨rfl, rfl⟩, rfl⟩
end Go.Proofs.YtoapgongbackaaaDoor.V
