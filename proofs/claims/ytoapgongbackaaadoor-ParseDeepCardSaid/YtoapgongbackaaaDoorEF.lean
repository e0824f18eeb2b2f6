/-
  What the parser gives is fine (its lists are short); SameType; the example 'awake'. No condition.
-/
import Derived.Test.YtoapgongbackaaaDoorEE
import Derived.Test.YtoapgongbackaaaDoorEC
set_option linter.unusedVariables false
set_option linter.unusedSimpArgs false
/-! W1: what the parser gives is fine: all its lists are short. -/
namespace Go.Proofs.YtoapgongbackaaaDoor.V
open Go Go.Proofs
open Go.Proofs.YtoapgongbackaaaDoor.Lx
set_option maxRecDepth 100000

theorem fineTs_app : ∀ {l : List Ty} {t : Ty}, fineTs l → fineT t → fineTs (l ++ [t])
  | [], _, _, h => ⟨h, trivial⟩
  | _ :: _, _, h, k => ⟨h.1, fineTs_app h.2 k⟩
theorem fineEs_app : ∀ {l : List Exp} {t : Exp}, fineEs l → fineE t → fineEs (l ++ [t])
  | [], _, _, h => ⟨h, trivial⟩
  | _ :: _, _, h, k => ⟨h.1, fineEs_app h.2 k⟩
theorem fineAs_app : ∀ {l : List Alt} {t : Alt}, fineAs l → fineA t → fineAs (l ++ [t])
  | [], _, _, h => ⟨h, trivial⟩
  | _ :: _, _, h, k => ⟨h.1, fineAs_app h.2 k⟩
structure FTy (k : Nat) : Prop where
  a : ∀ vars s t s', atypeP k vars s = some (t, s') → fineT t
  l : ∀ vars acc s l s', atypesP k vars acc s = some (l, s') → acc.length + k ≤ 4294967296 → fineTs acc → l.length ≤ 4294967296 ∧ fineTs l
  t : ∀ vars s t s', typP k vars s = some (t, s') → fineT t
  u : ∀ vars t0 s t s', tailP k vars t0 s = some (t, s') → fineT t0 → fineT t
  q : ∀ vars acc s l s', kidsP k vars acc s = some (l, s') → acc.length + k ≤ 4294967296 → fineTs acc → l.length ≤ 4294967296 ∧ fineTs l
theorem fty : ∀ k, k ≤ 4294967290 → FTy k
  | 0, _ => ⟨fun _ _ _ _ h => by simp [atypeP] at h, fun _ _ _ _ _ h => by simp [atypesP] at h, fun _ _ _ _ h => by simp [typP] at h, fun _ _ _ _ _ h => by simp [tailP] at h, fun _ _ _ _ _ h => by simp [kidsP] at h⟩
  | k + 1, hk => by
    have ih := fty k (by omega)
    refine ⟨fun vars s t s' h => ?_, fun vars acc s l s' h hB hf => ?_, fun vars s t s' h => ?_, fun vars t0 s t s' h hf => ?_, fun vars acc s l s' h hB hf => ?_⟩
    · unfold atypeP at h
      split at h
      · split at h <;> (cases h; simp [fineT, fineTs])
      · split at h
        · cases h; simp [fineT, fineTs]
        · split at h
          · cases h; simp [fineT, fineTs]
          · split at h
            · cases h
            · rename_i t1 s2 h1
              have f1 := ih.t _ _ _ _ h1
              split at h
              · cases h
              · rename_i l s3 h2
                have f2 := ih.l _ _ _ _ _ h2 (by simp; omega) ⟨f1, trivial⟩
                split at h
                · cases h; exact f2.2.1
                · cases h; exact f2
    · unfold atypesP at h
      split at h
      · cases h; exact ⟨by omega, hf⟩
      · split at h
        · cases h
        · rename_i t1 s2 h1
          exact ih.l _ _ _ _ _ h (by simp; omega) (fineTs_app hf (ih.t _ _ _ _ h1))
    · unfold typP at h
      split at h
      · split at h
        · cases h
        · rename_i ks s1 h1
          have f1 := ih.q _ _ _ _ _ h1 (by simp; omega) trivial
          exact ih.u _ _ _ _ _ h f1
      · split at h
        · cases h
        · rename_i t1 s1 h1
          exact ih.u _ _ _ _ _ h (ih.a _ _ _ _ h1)
    · unfold tailP at h
      split at h
      · cases h; exact hf
      · split at h
        · cases h
        · rename_i u s3 h1
          cases h
          exact ⟨by simp, hf, ih.t _ _ _ _ h1, trivial⟩
    · unfold kidsP at h
      split at h
      · cases h; exact ⟨by omega, hf⟩
      · split at h
        · cases h
        · rename_i t1 s2 h1
          exact ih.q _ _ _ _ _ h (by simp; omega) (fineTs_app hf (ih.a _ _ _ _ h1))
theorem lamsP_fine {a : Int} {b : Exp} (h : fineE b) : ∀ l : List Tok, fineE (lamsP l a b)
  | [] => h
  | t :: l => ⟨by simp, by simp, ⟨lamsP_fine h l, trivial⟩, trivial⟩
structure FEx (k : Nat) : Prop where
  e : ∀ s e s', exprP k s = some (e, s') → fineE e
  c : ∀ b acc s l s', altsP k b acc s = some (l, s') → acc.length + k ≤ 4294967296 → fineAs acc → l.length ≤ 4294967296 ∧ fineAs l
  p : ∀ e0 s e s', appP k e0 s = some (e, s') → fineE e0 → fineE e
  b : ∀ t s e s', boundP k t s = some (e, s') → fineE e
  a : ∀ s e s', atomP k s = some (e, s') → fineE e
  l : ∀ acc s l s', kidsE k acc s = some (l, s') → acc.length + k ≤ 4294967296 → fineEs acc → l.length ≤ 4294967296 ∧ fineEs l
theorem fex : ∀ k, k ≤ 4294967290 → FEx k
  | 0, _ => ⟨fun _ _ _ h => by simp [exprP] at h, fun _ _ _ _ _ h => by simp [altsP] at h, fun _ _ _ _ h => by simp [appP] at h, fun _ _ _ _ h => by simp [boundP] at h, fun _ _ _ h => by simp [atomP] at h, fun _ _ _ _ h => by simp [kidsE] at h⟩
  | k + 1, hk => by
    have ih := fex k (by omega)
    have z : ∀ {k a s n}, fineE (.mk k a s n [] []) := by simp [fineE, fineEs, fineAs]
    refine ⟨fun s e s' h => ?_, fun b acc s l s' h hB hf => ?_, fun e0 s e s' h hf => ?_, fun t s e s' h => ?_, fun s e s' h => ?_, fun acc s l s' h hB hf => ?_⟩
    · unfold exprP at h
      split at h
      · cases h; exact z
      · split at h
        · split at h
          · cases h
          · split at h
            · cases h
            · rename_i b s4 h1
              cases h
              exact lamsP_fine (ih.e _ _ _ h1) _
        · split at h
          · split at h
            · cases h
            · rename_i a s2 h1
              split at h
              · cases h
              · rename_i b s3 h2
                cases h
                exact ⟨by simp, by simp, ⟨ih.b _ _ _ _ h1, ih.e _ _ _ h2, trivial⟩, trivial⟩
          · split at h
            · split at h
              · cases h
              · rename_i a s1 h1
                split at h
                · cases h
                · rename_i b s2 h2
                  split at h
                  · cases h
                  · rename_i c s3 h3
                    cases h
                    exact ⟨by simp, by simp, ⟨ih.e _ _ _ h1, ih.e _ _ _ h2, ih.e _ _ _ h3, trivial⟩, trivial⟩
            · split at h
              · split at h
                · cases h
                · rename_i a s1 h1
                  split at h
                  · cases h
                  · rename_i l s2 h2
                    cases h
                    have := ih.c _ _ _ _ _ h2 (by simp; omega) trivial
                    exact ⟨by simp, this.1, ⟨ih.e _ _ _ h1, trivial⟩, this.2⟩
              · split at h
                · cases h
                · rename_i a s1 h1
                  exact ih.p _ _ _ _ h (ih.a _ _ _ h1)
    · unfold altsP at h
      cases b with
      | false => cases h; exact ⟨by omega, hf⟩
      | true =>
        simp only at h
        split at h
        · cases h
        · rename_i l1 s1 h1
          split at h
          · cases h
          · rename_i b s2 h2
            exact ih.c _ _ _ _ _ h (by simp; omega) (fineAs_app hf ⟨by simpa using namesG_len h1, ih.e _ _ _ h2⟩)
    · unfold appP at h
      split at h
      · cases h; exact hf
      · split at h
        · cases h
        · rename_i a s1 h1
          exact ih.p _ _ _ _ h ⟨by simp, by simp, ⟨hf, ih.a _ _ _ h1, trivial⟩, trivial⟩
    · unfold boundP at h
      split at h
      · cases h
      · split at h
        · cases h
        · rename_i b s2 h2
          cases h
          exact lamsP_fine (ih.e _ _ _ h2) _
    · unfold atomP at h
      split at h
      · cases h; exact z
      · repeat' (split at h; (cases h; exact z))
        split at h
        · cases h
        · rename_i e1 s2 h1
          have f1 := ih.e _ _ _ h1
          split at h
          · cases h
          · rename_i l s3 h2
            have f2 := ih.l _ _ _ _ h2 (by simp; omega) ⟨f1, trivial⟩
            split at h
            · cases h; exact f2.2.1
            · cases h; exact ⟨f2.1, by simp, f2.2, trivial⟩
    · unfold kidsE at h
      split at h
      · cases h; exact ⟨by omega, hf⟩
      · split at h
        · cases h
        · rename_i t1 s2 h1
          exact ih.l _ _ _ _ h (by simp; omega) (fineEs_app hf (ih.e _ _ _ h1))
def FineC (c : ConD) : Prop := c.args.length ≤ 4294967296 ∧ fineTs c.args
def FineD (d : DataD) : Prop := d.cons.length ≤ 4294967296 ∧ d.vars.length ≤ 4294967296 ∧ ∀ c ∈ d.cons, FineC c
theorem consP_fine : ∀ k, k ≤ 4294967290 → ∀ vars b acc s l s', consP k vars b acc s = some (l, s') → acc.length + k ≤ 4294967296 → (∀ c ∈ acc, FineC c) → l.length ≤ 4294967296 ∧ ∀ c ∈ l, FineC c
  | 0, _, _, _, _, _, _, _, h, _, _ => by simp [consP] at h
  | k + 1, hk, vars, b, acc, s, l, s', h, hB, hf => by
    unfold consP at h
    cases b with
    | false => cases h; exact ⟨by omega, hf⟩
    | true =>
      simp only at h
      split at h
      · cases h
      · rename_i l1 s1 h1
        refine consP_fine k (by omega) _ _ _ _ _ _ h (by simp; omega) fun c hc => ?_
        rcases List.mem_append.1 hc with hc | hc
        · exact hf c hc
        · simp only [List.mem_singleton] at hc
          subst hc
          exact (fty k (by omega)).q _ _ _ _ _ h1 (by simp; omega) trivial
theorem dataP_fine {k : Nat} (hk : k ≤ 4294967290) {s s' : PS} {d : DataD} (h : dataP k s = some (d, s')) : FineD d := by
  unfold dataP at h
  split at h
  · cases h
  · rename_i l s1 h1
    split at h
    · cases h
    · rename_i cs s3 h2
      cases h
      have := consP_fine k hk _ _ _ _ _ _ h2 (by simp; omega) (by simp)
      exact ⟨this.1, by simpa using namesG_len h1, this.2⟩
theorem progP_fine : ∀ k, k ≤ 4294967290 → ∀ p s p' s', progP k p s = some (p', s') → p.datas.length + k ≤ 4294967296 → p.binds.length + k ≤ 4294967296 → (∀ d ∈ p.datas, FineD d) → (∀ b ∈ p.binds, fineE b.body) →
    p'.datas.length ≤ 4294967296 ∧ p'.binds.length ≤ 4294967296 ∧ (∀ d ∈ p'.datas, FineD d) ∧ ∀ b ∈ p'.binds, fineE b.body
  | 0, _, _, _, _, _, h, _, _, _, _ => by simp [progP] at h
  | k + 1, hk, p, s, p', s', h, h1, h2, h3, h4 => by
    unfold progP at h
    split at h
    · cases h; exact ⟨by omega, by omega, h3, h4⟩
    · split at h
      · cases h; exact ⟨by omega, by omega, h3, h4⟩
      · split at h
        · split at h
          · cases h
          · rename_i d s1 hd
            refine progP_fine k (by omega) _ _ _ _ h (by simp; omega) (by simp; omega) (fun d' hd' => ?_) h4
            rcases List.mem_append.1 hd' with hd' | hd'
            · exact h3 d' hd'
            · simp only [List.mem_singleton] at hd'
              subst hd'
              exact dataP_fine (by omega) hd
        · split at h
          · split at h
            · cases h
            · rename_i b s1 hb
              refine progP_fine k (by omega) _ _ _ _ h (by simp; omega) (by simp; omega) h3 (fun b' hb' => ?_)
              rcases List.mem_append.1 hb' with hb' | hb'
              · exact h4 b' hb'
              · simp only [List.mem_singleton] at hb'
                subst hb'
                exact (fex k (by omega)).b _ _ _ _ hb
          · exact progP_fine k (by omega) _ _ _ _ h (by omega) (by omega) h3 h4
theorem fineP_of {k : Nat} (hk : k ≤ 4294967290) {s s' : PS} {p : ProgD} (h : progP k ⟨[], []⟩ s = some (p, s')) : FineP p := by
  obtain ⟨h1, h2, h3, h4⟩ := progP_fine k hk _ _ _ _ h (by simp; omega) (by simp; omega) (by simp) (by simp)
  exact ⟨h2, h1, h4, fun d hd => ⟨(h3 d hd).1, (h3 d hd).2.1⟩, fun d hd c hc => (h3 d hd).2.2 c hc⟩
/-- What Parse comes to. -/
theorem parse_ct2 {k : Nat} (hk : k ≤ 4294967290) {l : List UInt8} (hB : l.length ≤ 65536) {p : ProgD} {e a : Int} (h : parseK k l = some (p, e, a)) :
    Ct 12 [.val (.one (.v (.string (ofL l))))] [.val (.agg (progC p)), .val (.one (.v (.int .i64 e))), .val (.one (.v (.int .i64 a)))] [] :=
  parse_ct (by omega) hB h fun _ _ _ _ hp => fineP_of hk hp
end Go.Proofs.YtoapgongbackaaaDoor.V

/-! W2: Num; are two types one; the document's example. -/
namespace Go.Proofs.YtoapgongbackaaaDoor.V
open Go Go.Proofs
open Go.Proofs.YtoapgongbackaaaDoor.Lx
set_option maxRecDepth 100000

theorem num_ct (e : Int) : Ct 15 [.val (.one (.v (.int .i64 e)))] [.val (.one (.v (.int .i64 e)))] [] := by
  refine ct Tryd.func15 (by kernel_rfl) ?_
  conv => whnf
  exact ⟨rfl, rfl⟩

mutual
def sameT : Ty → Ty → Bool
  | .mk k n s l, .mk k' n' s' l' => decide (k = k') && (decide (n = n') && (decide (s = s') && sameTs l l'))
def sameTs : List Ty → List Ty → Bool
  | [], [] => true
  | t :: l, t' :: l' => sameT t t' && sameTs l l'
  | _, _ => false
end
theorem p1 : parseK 20 [] = some (⟨[], []⟩, 0, 0) := by kernel_rfl
theorem p2 : parseK 40 [108, 101, 116, 32, 102, 32, 120, 32, 61, 32, 120, 59] = some (⟨[], [⟨ofL [102], 4, .mk 6 4 (ofL [120]) 0 [.mk 1 10 (ofL [120]) 0 [] []] []⟩]⟩, 0, 0) := by kernel_rfl
theorem sameTs_len : ∀ {l l' : List Ty}, l.length ≠ l'.length → sameTs l l' = false
  | [], [], h => absurd rfl h
  | [], _ :: _, _ => by simp [sameTs]
  | _ :: _, [], _ => by simp [sameTs]
  | t :: l, t' :: l', h => by
    simp only [sameTs, sameTs_len (l := l) (l' := l') (by simpa using h), Bool.and_false]
theorem sameTs_ct {l l' : List Ty} (hB : l.length ≤ 4294967296) (ih : ∀ t ∈ l, ∀ t', Ct 21 [.val (.agg (tyC t)), .val (.agg (tyC t'))] [.val (.one (.v (.bool (sameT t t'))))] []) :
    Ct 39 [.val (.one (.sl 59 4 (tysC l) none)), .val (.one (.sl 59 4 (tysC l') none))] [.val (.one (.v (.bool (sameTs l l'))))] [] := by
  refine ct Tryd.func39 (by kernel_rfl) ?_
  have hl := tysC_length l
  have hl' := tysC_length l'
  conv => whnf
  cases he : decide (((tysC l).length : Int) = ((tysC l').length : Int))
  · rw [sameTs_len (l := l) (l' := l') (by rw [hl, hl'] at he; have := of_decide_eq_false he; omega)]
    conv => whnf
    exact ⟨rfl, rfl⟩
  have hll : l.length = l'.length := by rw [hl, hl'] at he; have := of_decide_eq_true he; omega
  conv => whnf
  refine ⟨fun n st => ∃ m i, n = l.length - m ∧ m ≤ l.length ∧ i = ((m : Nat) : Int) ∧ sameTs l l' = sameTs (l.drop m) (l'.drop m) ∧
    st = ⟨[(5, .one (.v (.int .i64 i))), (0, .one (.sl 59 4 (tysC l) none)), (1, .one (.sl 59 4 (tysC l') none))], [], []⟩,
    ⟨_, _, wk [5, 0, 1] [] [] [] [] [] rfl, 0, 0, rfl, Nat.zero_le _, rfl, rfl, rfl⟩, ?_⟩
  rintro n st ⟨m, i, rfl, hm, rfl, hix, rfl⟩
  conv => whnf
  cases hlt : decide (((m : Nat) : Int) < ((tysC l).length : Int))
  · conv => whnf
    have : m = l.length := by rw [hl] at hlt; simp at hlt; omega
    subst this
    rw [hix, List.drop_length, hll, List.drop_length]
    exact ⟨rfl, rfl⟩
  · have hm2 : m < l.length := by rw [hl] at hlt; simpa using hlt
    have hm3 : m < l'.length := by omega
    rw [List.drop_eq_getElem_cons hm2, List.drop_eq_getElem_cons hm3] at hix
    simp only [sameTs] at hix
    have h1 := List.getElem?_eq_getElem hm2
    have h2 := List.getElem?_eq_getElem hm3
    have hmem : l[m] ∈ l := List.getElem_mem hm2
    generalize l[m] = t at hix h1 hmem
    generalize l'[m] = t' at hix h2
    have hc := ih t hmem t'
    obtain ⟨k1, n1, s1, q1⟩ := t
    obtain ⟨k2, n2, s2, q2⟩ := t'
    conv => whnf
    refine ⟨_, get_tys h1, ?_⟩
    conv => whnf
    refine ⟨_, get_tys h2, ?_⟩
    conv => whnf
    refine ⟨_, _, hc, ?_⟩
    cases hb : sameT (.mk k1 n1 s1 q1) (.mk k2 n2 s2 q2)
    · rw [hb, Bool.false_and] at hix
      conv => whnf
      refine ⟨by kernel_rfl, ?_⟩
      conv => whnf
      rw [hix]
      exact ⟨rfl, rfl⟩
    · rw [hb, Bool.true_and] at hix
      conv => whnf
      refine ⟨by kernel_rfl, ?_⟩
      conv => whnf
      refine ⟨_, _, ?_, wk [5, 0, 1] [] [] [] [] [] rfl, m + 1, _, rfl, hm2, i64_id (x := (m : Int) + 1) (by omega) (by omega), hix, rfl⟩
      omega
theorem sameT_ct : ∀ (n : Nat) (t t' : Ty), SizeOf.sizeOf t < n → fineT t → Ct 21 [.val (.agg (tyC t)), .val (.agg (tyC t'))] [.val (.one (.v (.bool (sameT t t'))))] []
  | 0, _, _, h, _ => absurd h (Nat.not_lt_zero _)
  | n + 1, .mk k1 n1 s1 q1, .mk k2 n2 s2 q2, hn, hf => by
    have hc := sameTs_ct (l := q1) (l' := q2) hf.1 fun t ht t' => sameT_ct n t t' (by
      have := List.sizeOf_lt_of_mem ht
      simp at hn
      omega) (by
      obtain ⟨i, hi⟩ := List.getElem?_of_mem ht
      exact fineTs_get hf.2 hi)
    refine ct Tryd.func21 (by kernel_rfl) ?_
    simp only [sameT]
    apply evF_of rfl
    apply seqC
    apply regS
    repeat (apply stepS; (· conv => whnf))
    cases h1 : decide (k1 = k2)
    · repeat (apply stepS; (· conv => whnf))
      apply endS
      conv => whnf
      exact ⟨rfl, rfl⟩
    repeat (apply stepS; (· conv => whnf))
    cases h2 : decide (n1 = n2)
    · repeat (apply stepS; (· conv => whnf))
      apply endS
      conv => whnf
      exact ⟨rfl, rfl⟩
    repeat (apply stepS; (· conv => whnf))
    cases h3 : decide (s1 = s2)
    · repeat (apply stepS; (· conv => whnf))
      apply endS
      conv => whnf
      exact ⟨rfl, rfl⟩
    repeat (apply stepS; (· conv => whnf))
    apply stepS
    · conv => whnf
      refine ⟨_, _, hc, ?_⟩
      conv => whnf
    repeat (apply stepS; (· conv => whnf))
    apply endS
    conv => whnf
    exact ⟨rfl, rfl⟩
end Go.Proofs.YtoapgongbackaaaDoor.V

/-! W3: the document's example, and one more. -/
namespace Go.Proofs.YtoapgongbackaaaDoor.V
open Go Go.Proofs
open Go.Proofs.YtoapgongbackaaaDoor.Lx
set_option maxRecDepth 100000

theorem awake_ct : Ct 11 [] [.val (.one (.v (.bool true)))] [] := by
  have h1 : Ct 12 [.val (.one (.v (.string ⟨#[]⟩)))] _ [] := parse_ct2 (by decide) (by decide) p1
  have h2 : Ct 12 [.val (.one (.v (.string ⟨#[108, 101, 116, 32, 102, 32, 120, 32, 61, 32, 120, 59]⟩)))] _ [] := parse_ct2 (by decide) (by decide) p2
  refine ct Tryd.func11 (by kernel_rfl) ?_
  apply evF_of (ts := []) (bs := []) rfl
  apply seqC
  apply regL
  repeat ((with_reducible apply stepS); (· conv => whnf))
  apply endS
  apply seqC
  apply regL
  apply stepS
  · conv => whnf
    refine ⟨_, _, h1, ?_⟩
    conv => whnf
  repeat ((with_reducible apply stepS); (· conv => whnf))
  apply endS
  apply seqC
  apply regL
  apply stepS
  · conv => whnf
    refine ⟨_, _, h2, ?_⟩
    conv => whnf
  repeat ((with_reducible apply stepS); (· conv => whnf))
  apply endS
  apply seqC
  apply regL
  apply stepS
  · conv => whnf
  apply stepS
  · conv => whnf
    refine ⟨_, _, num_ct _, ?_⟩
    conv => whnf
  apply stepS
  · conv => whnf
  apply stepS
  · conv => whnf
    refine ⟨_, _, num_ct _, ?_⟩
    conv => whnf
  repeat ((with_reducible apply stepS); (· conv => whnf))
  apply stepS
  · conv => whnf
    refine ⟨_, ⟨by decide, rfl⟩, ?_⟩
    conv => whnf
  repeat ((with_reducible apply stepS); (· conv => whnf))
  apply stepS
  · conv => whnf
    refine ⟨_, ⟨by decide, rfl⟩, ?_⟩
    conv => whnf
  repeat ((with_reducible apply stepS); (· conv => whnf))
  apply endS
  conv => whnf
  exact ⟨rfl, rfl⟩
theorem parse_fine {k : Nat} (hk : k ≤ 4294967290) {l : List UInt8} {p : ProgD} {e a : Int} (h : parseK k l = some (p, e, a)) : FineP p := by
  have hz : FineP ⟨[], []⟩ := ⟨by simp, by simp, by simp, by simp, by simp⟩
  unfold parseK at h
  split at h
  · cases h; exact hz
  · split at h
    · cases h
    · rename_i p1 s1 h1
      split at h
      · cases h; exact hz
      · split at h
        · cases h; exact hz
        · cases h; exact fineP_of hk h1
end Go.Proofs.YtoapgongbackaaaDoor.V
