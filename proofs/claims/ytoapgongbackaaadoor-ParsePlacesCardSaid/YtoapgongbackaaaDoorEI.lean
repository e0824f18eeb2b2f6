/-
  The reference: types, programs; beside the program's parser: the same result for every text of at most 65536 bytes; with fuel enough the parser ends.
-/
import Derived.Test.YtoapgongbackaaaDoorEC
import Derived.Test.YtoapgongbackaaaDoorEG
import Derived.Test.YtoapgongbackaaaDoorEH
import Derived.Test.YtoapgongbackaaaDoorEF
set_option linter.unusedVariables false
set_option linter.unusedSimpArgs false
/-! V30: a call whose result's nils stay nils. -/
namespace Go.Proofs.YtoapgongbackaaaDoor.V
open Go

section
variable {P : Program} {T : Tab} {J : Kn} {G : Nat → Option (List AC)} {κ : Con} {H : Fz} {s : St} {a : Act} {w : World}

def keepN : AC → Option AC
  | .nil e sz => some (.nil e sz)
  | .v x => some (.v x)
  | _ => none
def keepNL : List AC → Option (List AC)
  | [] => some []
  | c :: cs => match keepN c, keepNL cs with
    | some x, some xs => some (x :: xs)
    | _, _ => none
theorem keepN_r {c c' : AC} {u : Value} (h : keepN c = some c') (hu : ACr κ H c u) : ACr Con.no H c' u := by
  unfold keepN at h
  split at h
  · cases h; cases hu with | zero => exact .zero _ _
  · cases h; cases hu with | v _ h => exact .v _ h
  · cases h
theorem keepNL_r : ∀ {cs cs' : List AC} {us : List Value}, keepNL cs = some cs' → Cs κ H cs us → Cs Con.no H cs' us
  | [], cs', us, h, hc => by simp only [keepNL, Option.some.injEq] at h; subst h; rw [hc.inv_nil]; exact .nil
  | c :: cs, cs', us, h, hc => by
    obtain ⟨u, us', rfl, h1, h2⟩ := hc.inv_cons
    unfold keepNL at h
    split at h
    · rename_i x xs e1 e2
      cases h
      exact .cons (keepN_r e1 h1) (keepNL_r e2 h2)
    · cases h
def resN (T : Tab) (x ty : Nat) (s : St) (K : List AC → Prop) : Prop := match find x s.tmps with
  | some (.one (.ptr d g off)) => match find d s.boxes with
    | some b => match Nat.beq b.gen g with
      | true => match partOf T ty b.cells off with
        | some (.agg cs) => match keepNL cs with
          | some cs => K cs
          | none => False
        | _ => False
      | false => False
    | none => False
  | _ => False
theorem CT_ofN (E : Env P T J) {f : Nat} {fn : Func} {c : Code} {ars : List Arg} {x ty : Nat} {v : List AC} {css : List (List AC)} (hf : P.funcs[f]? = some fn) (hb : fn.body = some c) (hok : okCode fn.ntmps ars.length c = true) (hn : Nat.ble ars.length fn.ntmps = true) (hr : fn.results.toList = [.cell x ty])
    (he : evC P T J G c ⟨(args0 0 ars).1, (args0 0 ars).2, []⟩ fun ex s => match ex with
      | .exit _ => False
      | _ => resN T x ty s fun cs => finP (args0 0 ars).2 s fun css' => cs = v ∧ css' = css) : CT P G f ars [.val (.agg v)] css := by
  intro H w us hfz hG hargs hnd
  have hn := Nat.le_of_ble_eq_true hn
  have hul := argsR_len hargs
  refine calls_of_wp hf hb ?_
  obtain ⟨a1, a2⟩ := args0_r 0 hargs
  let X : Ctx := { W0 := w, H0 := H, Pr := fun b => b < w.heap.size ∧ b ∉ blocksOf ars us, N := fn.ntmps, A := ars.length, ab := abOf us, lt := fun _ h => h.1 }
  let κ0 : Con := { blk := fun d _ => abOf us d, row := fun _ _ => undef, nb := fun d => if (find d (args0 0 ars).2).isSome then 1 else 0, nr := fun _ => 0 }
  have hrel : Rel X κ0 H ⟨(args0 0 ars).1, (args0 0 ars).2, []⟩ { tmps := us.toArray ++ Array.replicate (fn.ntmps - us.toArray.size) undef, defers := [] } w := by
    refine { size := by simp [X]; omega, tmps := ?_, defers := rfl, fz := hfz, hk := fun _ _ => rfl, h0 := Fz.le_refl H, box := ?_, nobox := ?_, args := ?_, perm := by simp [find], noperm := fun _ _ => rfl, bb := ?_, rr := by simp [find], br := by simp [find], pb := ?_, pr := by simp [find], keep := fun _ _ => rfl, grown := Nat.le_refl _, os := rfl, tape := rfl, output := rfl }
    · intro t v hft
      obtain ⟨j, u, e1, e2, e3⟩ := a1 t v hft
      have e1' : t = j := by omega
      subst e1'
      have hget : (us.toArray ++ Array.replicate (fn.ntmps - us.toArray.size) undef).getD t undef = u := by
        have hlt := (List.getElem?_eq_some_iff.1 e2).1
        rw [Array.getD_eq_getD_getElem?, Array.getElem?_append_left (by simpa using hlt)]
        simp [e2]
      rw [hget]
      rcases e3 with ⟨rfl, h1, rfl⟩ | h1
      · refine .one _ _ (ACr.ptr (κ := κ0) t 0 0 ?_)
        simp [κ0, h1]
      · exact h1.mono (Con.no_le κ0) (Fz.le_refl H)
    · intro d b hfd
      obtain ⟨j, e1, e2, e3, e4, -⟩ := a2 d b hfd
      have e1' : d = j := by omega
      subst e1'
      obtain ⟨m1, us', m2, m3⟩ := e4
      refine ⟨by simp [κ0, hfd, e3], m1, us', m2, m3.mono (Con.no_le κ0) (Fz.le_refl H)⟩
    · intro d hfd
      simp only at hfd
      simp [κ0, hfd]
    · intro d b _ _; rfl
    · intro d d' b b' h1 h2 hq
      exact blocks_inj 0 hargs hnd d d' b b' h1 h2 hq
    · intro d b hfd hp
      obtain ⟨j, e1, -, -, -, e5⟩ := a2 d b hfd
      have e1' : d = j := by omega
      subst e1'
      exact hp.2 e5
  refine evC_good (X := X) E hG c hok _ _ κ0 H _ w hrel he _ fun ex s κ' H' a' w' h hk => ?_
  have fin : resN T x ty s (fun cs => finP (args0 0 ars).2 s fun css' => cs = v ∧ css' = css) →
      a'.defers = [] ∧ ∃ v', (results fn a'.tmps).run P w' = .ok v' w' ∧ ∃ v'' H', Ending.returned v' = .returned v'' ∧ CPost H w ars us [.val (.agg v)] css v'' H' w' := by
    intro hk
    unfold resN at hk
    split at hk
    · rename_i d g off hfx
      have hav := h.tmps x _ hfx
      split at hk
      · rename_i b hbx
        split at hk
        · rename_i hg
          have hg := beq_true hg
          split at hk
          · rename_i cs hv
            split at hk
            · rename_i cs' hkp
              obtain ⟨css', ⟨rfl, rfl⟩, m2, m3⟩ := finP_r h hk
              obtain ⟨cu, hu, hc, hcell⟩ := box_cells h hbx
              obtain ⟨u, hrun, hau⟩ := loadAt_r E (base := 0) (off := off) hv hc hcell
              have hptr := (inv_ptr hav).1
              rw [← hg] at hptr
              have hres : AVr Con.no H' (.agg cs') u := by
                cases hau with | agg _ us' hu' => exact .agg _ _ (keepNL_r hkp hu')
              have hrr : (results fn a'.tmps).run P w' = .ok (valueOf [u]) w' := by
                refine results_run (by rw [hr]; rfl) fun j v u' hv' hu' => ?_
                rw [hr] at hv'
                match j, hv', hu' with
                | 0, hv', hu' =>
                  cases hv'
                  cases hu'
                  simp only [hptr, asAddr, Sem.run_bind, Sem.run_pure, Result.andThen_ok]
                  simpa [Instr.loadAt, Instr.sureAddr] using hrun
              refine ⟨h.defers, valueOf [u], hrr, valueOf [u], H', rfl, ?_⟩
              have hab : ∀ (i d : Nat) (b0 : Box) (cs : List AC), (args0 0 ars).2[i]? = some (d, b0) → css'[i]? = some cs → (∃ b, find d s.boxes = some b ∧ κ'.blk d b.gen = abOf us d) ∧ BoxIn Con.no H' w' (abOf us d) b0.ty cs := by
                intro i d b0 cs hi hc
                obtain ⟨b, h1, h2⟩ := m3 i d b0 cs hi hc
                have hd : d < ars.length := by
                  have := args0_lt ars 0 i d b0 hi
                  omega
                have := h.args d b hd h1
                exact ⟨⟨b, h1, this⟩, by rw [this] at h2; exact h2⟩
              refine { le := h.h0, fz := h.fz, keep := fun b hb1 hb2 => ⟨h.keep b ⟨hb1, hb2⟩, h.hk b ⟨hb1, hb2⟩⟩, outs := ?_, grown := h.grown, os := h.os, tape := h.tape, output := h.output, res := ⟨[u], ?_, rfl⟩ }
              · exact outs_of 0 hargs m2 fun k d b0 cs hk hc => (hab k d b0 cs hk hc).2
              · exact ⟨hres, trivial⟩
            · exact hk.elim
          · exact hk.elim
        · exact hk.elim
      · exact hk.elim
    · exact hk.elim
  cases ex with
  | normal => exact fin hk
  | ret => exact fin hk
  | exit i => exact hk.elim
end
end Go.Proofs.YtoapgongbackaaaDoor.V

/-! T1: the reference's atype. -/
namespace Go.Proofs.YtoapgongbackaaaDoor.V
open Go Go.Proofs
set_option maxRecDepth 100000

def noTy : Ty := .mk 0 0 .empty []
inductive RTid (vars : List ByteArray) : Nat → RS → List Ty → Option (List Ty) → RS → Prop
  | stop {n : Nat} {r : RS} {acc : List Ty} (h : rpeek r 5 comma.s = false) : RTid vars n r acc (some acc) r
  | full {n : Nat} {r : RS} {acc : List Ty} (h : rpeek r 5 comma.s = true) (hl : acc.length = 8) : RTid vars n r acc none (rfail r)
  | step {n : Nat} {r r1 r2 : RS} {acc : List Ty} {e : Ty} {o : Option (List Ty)} (h : rpeek r 5 comma.s = true) (hl : acc.length ≠ 8) (hx : Ct 91 [rstA (rinc r), varsA vars] [.val (.agg (tyC e))] [rst r1]) (hr : r1.l = r.l)
      (k : RTid vars n r1 (acc ++ [e]) o r2) : RTid vars (n + 1) r acc o r2
theorem RTid.len {vars : List ByteArray} {n : Nat} {r r2 : RS} {acc : List Ty} {o : Option (List Ty)} (h : RTid vars n r acc o r2) : r2.l = r.l := by
  induction h with
  | stop => rfl
  | full => exact rfail_l _
  | step _ _ _ hr _ ih => exact ih.trans hr
def rtupT : List Ty → Ty
  | [e] => e
  | l => .mk 2 0 commaT l
def rvar (vars : List ByteArray) (s : ByteArray) : Ty := match decide (0 ≤ indexFrom s vars 0) with
  | true => .mk 1 (indexFrom s vars 0) .empty []
  | false => .mk 1 (-1) s []
theorem ratype_no (r : RS) (vars : List ByteArray) (h : ratypic r = false) : Ct 64 [rstA r, varsA vars] [.val (.agg (tyC noTy))] [rst (rfail r)] := by
  have hc := ratypic_ct r
  rw [h] at hc
  have hf := rfail_ct r
  obtain ⟨l, i, e, b, a⟩ := r
  refine ct Tryd.func64 (by kernel_rfl) ?_
  apply evF_of rfl
  apply seqC
  apply regL
  repeat ((with_reducible apply stepS); (· conv => whnf))
  apply endS; apply seqC; apply seqC; apply regL
  repeat ((with_reducible apply stepS); (· conv => whnf))
  apply stepS; (· (conv => whnf); refine ⟨_, _, hc, ?_⟩; (conv => whnf))
  repeat ((with_reducible apply stepS); (· conv => whnf))
  apply endS
  apply condT; (· (conv => whnf); try rfl)
  apply seqC
  apply regL
  repeat ((with_reducible apply stepS); (· conv => whnf))
  apply stepS; (· (conv => whnf); refine ⟨_, _, hf, ?_⟩; (conv => whnf))
  repeat ((with_reducible apply stepS); (· conv => whnf))
  apply endS; apply seqC; apply regL
  repeat ((with_reducible apply stepS); (· conv => whnf))
  apply endS
  apply retC
  conv => whnf
  exact ⟨rfl, rfl⟩
set_option maxHeartbeats 8000000 in
theorem ratype_name {r : RS} {t : Tok} {vars : List ByteArray} (hB : r.l.length ≤ 4294967296) (hget : r.l[r.i]? = some t) (hat : ratypic r = true) (hv : vars.length ≤ 4294967296) (hk : t.k = 1) : Ct 64 [rstA r, varsA vars] [.val (.agg (tyC (rvar vars t.s)))] [rst (rinc r)] := by
  have hc := ratypic_ct r
  rw [hat] at hc
  have hpl := rplace_ct vars t.s hv
  obtain ⟨l, i, en, b, a⟩ := r
  obtain ⟨tk, ta, ts, tn⟩ := t
  have hi : i < l.length := (List.getElem?_eq_some_iff.1 hget).1
  simp only at hget hB
  have hw : IntKind.i64.wrap ((i : Int) + 1) = ((i + 1 : Nat) : Int) := i64_id (by omega) (by omega)
  simp only at hk hpl
  subst hk
  simp only [rinc, rvar]
  refine ct Tryd.func64 (by kernel_rfl) ?_
  apply evF_of rfl
  apply seqC
  apply regL
  repeat ((with_reducible apply stepS); (· conv => whnf))
  apply endS; apply seqC; apply seqC; apply regL
  repeat ((with_reducible apply stepS); (· conv => whnf))
  apply stepS; (· (conv => whnf); refine ⟨_, _, hc, ?_⟩; (conv => whnf))
  repeat ((with_reducible apply stepS); (· conv => whnf))
  apply endS
  apply condF; (· (conv => whnf); try rfl)
  apply skipC
  apply seqC
  apply regDL
  repeat ((with_reducible apply stepD); (· (conv => whnf); refine ⟨⟨rfl, rfl⟩, ?_⟩; (conv => whnf)))
  apply stepD; (· (conv => whnf); refine ⟨_, get_map (f := tok) hget, ?_⟩; (conv => whnf); refine ⟨⟨rfl, rfl⟩, ?_⟩; (conv => whnf))
  repeat ((with_reducible apply stepD); (· (conv => whnf); refine ⟨⟨rfl, rfl⟩, ?_⟩; (conv => whnf)))
  apply endD; (· exact apart_of (by kernel_rfl))
  apply seqC
  apply regL
  repeat ((with_reducible apply stepS); (· conv => whnf))
  rw [hw]
  apply endS; apply seqC; apply seqC; apply regL
  repeat ((with_reducible apply stepS); (· conv => whnf))
  apply endS
  apply blockC
  apply seqC
  apply regL
  repeat ((with_reducible apply stepS); (· conv => whnf))
  apply endS
  apply condT; (· (conv => whnf); try rfl)
  apply seqC
  apply seqC
  apply regL
  repeat ((with_reducible apply stepS); (· conv => whnf))
  apply stepS; (· (conv => whnf); refine ⟨_, _, hpl, ?_⟩; (conv => whnf))
  repeat ((with_reducible apply stepS); (· conv => whnf))
  apply endS; apply seqC; apply regL
  repeat ((with_reducible apply stepS); (· conv => whnf))
  apply endS
  cases hd : decide (0 ≤ indexFrom ts vars 0)
  · apply condF; (· (conv => whnf); try rfl)
    apply skipC
    apply seqC
    apply regL
    repeat ((with_reducible apply stepS); (· conv => whnf))
    apply endS
    apply retC
    conv => whnf
    exact ⟨rfl, rfl⟩
  · apply condT; (· (conv => whnf); try rfl)
    apply seqC
    apply regL
    repeat ((with_reducible apply stepS); (· conv => whnf))
    apply endS
    apply retC
    conv => whnf
    exact ⟨rfl, rfl⟩
set_option maxHeartbeats 8000000 in
theorem ratype_con {r : RS} {t : Tok} {vars : List ByteArray} (hB : r.l.length ≤ 4294967296) (hget : r.l[r.i]? = some t) (hat : ratypic r = true) (hk : t.k = 2) : Ct 64 [rstA r, varsA vars] [.val (.agg (tyC (.mk 2 0 t.s [])))] [rst (rinc r)] := by
  have hc := ratypic_ct r
  rw [hat] at hc
  obtain ⟨l, i, en, b, a⟩ := r
  obtain ⟨tk, ta, ts, tn⟩ := t
  have hi : i < l.length := (List.getElem?_eq_some_iff.1 hget).1
  simp only at hget hB
  have hw : IntKind.i64.wrap ((i : Int) + 1) = ((i + 1 : Nat) : Int) := i64_id (by omega) (by omega)
  simp only at hk
  subst hk
  simp only [rinc]
  refine ct Tryd.func64 (by kernel_rfl) ?_
  apply evF_of rfl
  apply seqC
  apply regL
  repeat ((with_reducible apply stepS); (· conv => whnf))
  apply endS; apply seqC; apply seqC; apply regL
  repeat ((with_reducible apply stepS); (· conv => whnf))
  apply stepS; (· (conv => whnf); refine ⟨_, _, hc, ?_⟩; (conv => whnf))
  repeat ((with_reducible apply stepS); (· conv => whnf))
  apply endS
  apply condF; (· (conv => whnf); try rfl)
  apply skipC
  apply seqC
  apply regDL
  repeat ((with_reducible apply stepD); (· (conv => whnf); refine ⟨⟨rfl, rfl⟩, ?_⟩; (conv => whnf)))
  apply stepD; (· (conv => whnf); refine ⟨_, get_map (f := tok) hget, ?_⟩; (conv => whnf); refine ⟨⟨rfl, rfl⟩, ?_⟩; (conv => whnf))
  repeat ((with_reducible apply stepD); (· (conv => whnf); refine ⟨⟨rfl, rfl⟩, ?_⟩; (conv => whnf)))
  apply endD; (· exact apart_of (by kernel_rfl))
  apply seqC
  apply regL
  repeat ((with_reducible apply stepS); (· conv => whnf))
  rw [hw]
  apply endS; apply seqC; apply seqC; apply regL
  repeat ((with_reducible apply stepS); (· conv => whnf))
  apply endS
  apply blockC
  apply seqC
  apply regL
  repeat ((with_reducible apply stepS); (· conv => whnf))
  apply endS
  apply condF; (· (conv => whnf); try rfl)
  apply seqC
  apply regL
  repeat ((with_reducible apply stepS); (· conv => whnf))
  apply endS
  apply condT; (· (conv => whnf); try rfl)
  apply seqC
  apply regL
  repeat ((with_reducible apply stepS); (· conv => whnf))
  apply endS
  apply retC
  conv => whnf
  exact ⟨rfl, rfl⟩
set_option maxHeartbeats 8000000 in
theorem ratype_conN {r : RS} {t : Tok} {vars : List ByteArray} (hB : r.l.length ≤ 4294967296) (hget : r.l[r.i]? = some t) (hat : ratypic r = true) (hk : t.k = 2) : Ct 64 [rstA r, varsA vars] [.val (.agg [.v (.int .i64 2), .v (.int .i64 0), .v (.string t.s), .nil 59 4])] [rst (rinc r)] := by
  have hc := ratypic_ct r
  rw [hat] at hc
  obtain ⟨l, i, en, b, a⟩ := r
  obtain ⟨tk, ta, ts, tn⟩ := t
  have hi : i < l.length := (List.getElem?_eq_some_iff.1 hget).1
  simp only at hget hB
  have hw : IntKind.i64.wrap ((i : Int) + 1) = ((i + 1 : Nat) : Int) := i64_id (by omega) (by omega)
  simp only at hk
  subst hk
  simp only [rinc]
  refine CT_ofN (T := T) (J := J) E (c := bodyOf Tryd.f64) Tryd.func64 rfl (by kernel_rfl) rfl rfl ?_
  apply seqC
  apply regL
  repeat ((with_reducible apply stepS); (· conv => whnf))
  apply endS; apply seqC; apply seqC; apply regL
  repeat ((with_reducible apply stepS); (· conv => whnf))
  apply stepS; (· (conv => whnf); refine ⟨_, _, hc, ?_⟩; (conv => whnf))
  repeat ((with_reducible apply stepS); (· conv => whnf))
  apply endS
  apply condF; (· (conv => whnf); try rfl)
  apply skipC
  apply seqC
  apply regDL
  repeat ((with_reducible apply stepD); (· (conv => whnf); refine ⟨⟨rfl, rfl⟩, ?_⟩; (conv => whnf)))
  apply stepD; (· (conv => whnf); refine ⟨_, get_map (f := tok) hget, ?_⟩; (conv => whnf); refine ⟨⟨rfl, rfl⟩, ?_⟩; (conv => whnf))
  repeat ((with_reducible apply stepD); (· (conv => whnf); refine ⟨⟨rfl, rfl⟩, ?_⟩; (conv => whnf)))
  apply endD; (· exact apart_of (by kernel_rfl))
  apply seqC
  apply regL
  repeat ((with_reducible apply stepS); (· conv => whnf))
  rw [hw]
  apply endS; apply seqC; apply seqC; apply regL
  repeat ((with_reducible apply stepS); (· conv => whnf))
  apply endS
  apply blockC
  apply seqC
  apply regL
  repeat ((with_reducible apply stepS); (· conv => whnf))
  apply endS
  apply condF; (· (conv => whnf); try rfl)
  apply seqC
  apply regL
  repeat ((with_reducible apply stepS); (· conv => whnf))
  apply endS
  apply condT; (· (conv => whnf); try rfl)
  apply seqC
  apply regL
  repeat ((with_reducible apply stepS); (· conv => whnf))
  apply endS
  apply retC
  conv => whnf
  exact ⟨rfl, rfl⟩
set_option maxHeartbeats 8000000 in
theorem ratype_tup {r r1 r2 : RS} {t : Tok} {vars : List ByteArray} {e1 : Ty} {n : Nat} {o : Option (List Ty)} (hB : r.l.length ≤ 4294967296) (hget : r.l[r.i]? = some t) (hat : ratypic r = true)
    (h1 : decide (t.k = 1) = false) (h2 : decide (t.k = 2) = false)
    (hx : Ct 91 [rstA (rinc r), varsA vars] [.val (.agg (tyC e1))] [rst r1]) (hr1 : r1.l = r.l) (hk : RTid vars n r1 [e1] o r2) :
    Ct 64 [rstA r, varsA vars] [.val (.agg (tyC (match o with | none => noTy | some l => rtupT l)))] [rst (match o with | none => r2 | some _ => (reat r2 5 rpar.s).2)] := by
  have hc := ratypic_ct r
  rw [hat] at hc
  obtain ⟨l, i, en, b, a⟩ := r
  obtain ⟨tk, ta, ts, tn⟩ := t
  have hi : i < l.length := (List.getElem?_eq_some_iff.1 hget).1
  simp only at hget hB h1 h2 hr1
  have hw : IntKind.i64.wrap ((i : Int) + 1) = ((i + 1 : Nat) : Int) := i64_id (by omega) (by omega)
  obtain ⟨k4, n4, st4, ks4⟩ := e1
  obtain ⟨l1, i1, en1, b1, a1⟩ := r1
  simp only at hr1
  subst hr1
  simp only [rinc] at hx
  refine ct Tryd.func64 (by kernel_rfl) ?_
  apply evF_of rfl
  apply seqC
  apply regL
  repeat ((with_reducible apply stepS); (· conv => whnf))
  apply endS; apply seqC; apply seqC; apply regL
  repeat ((with_reducible apply stepS); (· conv => whnf))
  apply stepS; (· (conv => whnf); refine ⟨_, _, hc, ?_⟩; (conv => whnf))
  repeat ((with_reducible apply stepS); (· conv => whnf))
  apply endS
  apply condF; (· (conv => whnf); try rfl)
  apply skipC
  apply seqC
  apply regDL
  repeat ((with_reducible apply stepD); (· (conv => whnf); refine ⟨⟨rfl, rfl⟩, ?_⟩; (conv => whnf)))
  apply stepD; (· (conv => whnf); refine ⟨_, get_map (f := tok) hget, ?_⟩; (conv => whnf); refine ⟨⟨rfl, rfl⟩, ?_⟩; (conv => whnf))
  repeat ((with_reducible apply stepD); (· (conv => whnf); refine ⟨⟨rfl, rfl⟩, ?_⟩; (conv => whnf)))
  apply endD; (· exact apart_of (by kernel_rfl))
  apply seqC
  apply regL
  repeat ((with_reducible apply stepS); (· conv => whnf))
  rw [hw]
  apply endS; apply seqC; apply seqC; apply regL
  repeat ((with_reducible apply stepS); (· conv => whnf))
  apply endS
  apply blockC
  apply seqC
  apply regL
  repeat ((with_reducible apply stepS); (· conv => whnf))
  rw [h1]
  apply endS
  apply condF; (· (conv => whnf); try rfl)
  apply seqC
  apply regL
  repeat ((with_reducible apply stepS); (· conv => whnf))
  rw [h2]
  apply endS
  apply condF; (· (conv => whnf); try rfl)
  apply skipC
  apply seqC
  apply regL
  repeat ((with_reducible apply stepS); (· conv => whnf))
  apply stepS; (· (conv => whnf); refine ⟨_, _, hx, ?_⟩; (conv => whnf))
  repeat ((with_reducible apply stepS); (· conv => whnf))
  apply endS
  apply seqC
  apply blockC
  refine loopC (fun n st => ∃ acc r5, RTid vars n r5 acc o r2 ∧ r5.l.length ≤ 4294967296 ∧ acc.length ≤ 8 ∧
      st = ⟨[(0, .one (.ptr 0 0 0)), (1, .one (.sl 9 1 (vars.map str) none)), (4, .one (.ptr 4 0 0)), (7, .one (.sl 59 4 (tysC acc) (some (82, 0))))],
        [(0, ⟨0, 84, rst r5⟩), (4, ⟨0, 59, [.v (.int .i64 0), .v (.int .i64 0), .v (.string .empty), .nil 59 4]⟩)], [(82, ⟨0, 59, 4, true⟩)]⟩)
      ⟨_, _, wk [0, 1, 4, 7] [0, 4] [54] [(54, 82)] [] [] rfl, _, _, hk, hB, by simp, rfl⟩ ?_
  rintro n' st ⟨acc, r5, hk, hB5, hla, rfl⟩
  obtain ⟨l5, i5, en5, b5, a5⟩ := r5
  simp only at hB5
  apply seqC
  apply seqC
  apply regL
  repeat ((with_reducible apply stepS); (· conv => whnf))
  cases hk with
  | stop h =>
    have hp := rpeek_ct ⟨l5, i5, en5, b5, a5⟩ 5 comma.s
    rw [h] at hp
    have hs := rsign_ct ⟨l5, i5, en5, b5, a5⟩ rpar.s hB5
    generalize (reat ⟨l5, i5, en5, b5, a5⟩ 5 rpar.s).2 = r6 at hs
    obtain ⟨l6, i6, en6, b6, a6⟩ := r6
    cases b5
    · repeat ((with_reducible apply stepS); (· conv => whnf))
      apply stepS; (· (conv => whnf); refine ⟨_, _, hp, ?_⟩; (conv => whnf))
      repeat ((with_reducible apply stepS); (· conv => whnf))
      apply endS
      apply condF; (· (conv => whnf); try rfl)
      apply exitC
      apply seqC
      apply regL
      repeat ((with_reducible apply stepS); (· conv => whnf))
      apply stepS; (· (conv => whnf); refine ⟨_, _, hs, ?_⟩; (conv => whnf))
      repeat ((with_reducible apply stepS); (· conv => whnf))
      apply endS
      apply seqC
      apply seqC
      apply regL
      repeat ((with_reducible apply stepS); (· conv => whnf))
      apply endS
      match acc with
      | [] =>
        apply condF; (· (conv => whnf); try rfl)
        apply skipC
        apply seqC
        apply regL
        repeat ((with_reducible apply stepS); (· conv => whnf))
        apply endS
        apply retC
        conv => whnf
        exact ⟨rfl, rfl⟩
      | [.mk k3 n3 st3 ks3] =>
        apply condT; (· (conv => whnf); try rfl)
        apply seqC
        apply regL
        repeat ((with_reducible apply stepS); (· conv => whnf))
        apply stepS; (· (conv => whnf); refine ⟨_, ⟨by decide, rfl⟩, ?_⟩; (conv => whnf))
        repeat ((with_reducible apply stepS); (· conv => whnf))
        apply endS
        apply retC
        conv => whnf
        exact ⟨rfl, rfl⟩
      | x :: y :: z =>
        have hne : decide (((tysC (x :: y :: z)).length : Int) = 1) = false := decide_eq_false (by rw [tysC_length]; simp; omega)
        rw [hne]
        apply condF; (· (conv => whnf); try rfl)
        apply skipC
        apply seqC
        apply regL
        repeat ((with_reducible apply stepS); (· conv => whnf))
        apply endS
        apply retC
        conv => whnf
        exact ⟨rfl, rfl⟩
    · repeat ((with_reducible apply stepS); (· conv => whnf))
      apply endS
      apply condF; (· (conv => whnf); try rfl)
      apply exitC
      apply seqC
      apply regL
      repeat ((with_reducible apply stepS); (· conv => whnf))
      apply stepS; (· (conv => whnf); refine ⟨_, _, hs, ?_⟩; (conv => whnf))
      repeat ((with_reducible apply stepS); (· conv => whnf))
      apply endS
      apply seqC
      apply seqC
      apply regL
      repeat ((with_reducible apply stepS); (· conv => whnf))
      apply endS
      match acc with
      | [] =>
        apply condF; (· (conv => whnf); try rfl)
        apply skipC
        apply seqC
        apply regL
        repeat ((with_reducible apply stepS); (· conv => whnf))
        apply endS
        apply retC
        conv => whnf
        exact ⟨rfl, rfl⟩
      | [.mk k3 n3 st3 ks3] =>
        apply condT; (· (conv => whnf); try rfl)
        apply seqC
        apply regL
        repeat ((with_reducible apply stepS); (· conv => whnf))
        apply stepS; (· (conv => whnf); refine ⟨_, ⟨by decide, rfl⟩, ?_⟩; (conv => whnf))
        repeat ((with_reducible apply stepS); (· conv => whnf))
        apply endS
        apply retC
        conv => whnf
        exact ⟨rfl, rfl⟩
      | x :: y :: z =>
        have hne : decide (((tysC (x :: y :: z)).length : Int) = 1) = false := decide_eq_false (by rw [tysC_length]; simp; omega)
        rw [hne]
        apply condF; (· (conv => whnf); try rfl)
        apply skipC
        apply seqC
        apply regL
        repeat ((with_reducible apply stepS); (· conv => whnf))
        apply endS
        apply retC
        conv => whnf
        exact ⟨rfl, rfl⟩
  | full h hl =>
    have hb := rpeek_bad h
    simp only at hb
    subst hb
    have hp := rpeek_ct ⟨l5, i5, en5, false, a5⟩ 5 comma.s
    rw [h] at hp
    have hf := rfail_ct ⟨l5, i5, en5, false, a5⟩
    have hl8 : decide (((tysC acc).length : Int) = 8) = true := decide_eq_true (by rw [tysC_length, hl]; rfl)
    repeat ((with_reducible apply stepS); (· conv => whnf))
    apply stepS; (· (conv => whnf); refine ⟨_, _, hp, ?_⟩; (conv => whnf))
    repeat ((with_reducible apply stepS); (· conv => whnf))
    apply endS
    apply condT; (· (conv => whnf); try rfl)
    apply skipC
    apply blockC
    apply seqC
    apply seqC
    apply regL
    repeat ((with_reducible apply stepS); (· conv => whnf))
    rw [hl8]
    apply endS
    apply condT; (· (conv => whnf); try rfl)
    apply seqC
    apply regL
    repeat ((with_reducible apply stepS); (· conv => whnf))
    apply stepS; (· (conv => whnf); refine ⟨_, _, hf, ?_⟩; (conv => whnf))
    repeat ((with_reducible apply stepS); (· conv => whnf))
    apply endS; apply seqC; apply regL
    repeat ((with_reducible apply stepS); (· conv => whnf))
    apply endS
    apply retC
    conv => whnf
    exact ⟨rfl, rfl⟩
  | @step m _ r7 _ _ e7 _ h hl hx7 hr7 hk7 =>
    have hb := rpeek_bad h
    simp only at hb
    subst hb
    have hp := rpeek_ct ⟨l5, i5, en5, false, a5⟩ 5 comma.s
    rw [h] at hp
    obtain ⟨t5, ht5⟩ := rpeek_some h
    have hi5 : i5 < l5.length := (List.getElem?_eq_some_iff.1 ht5).1
    have hw5 : IntKind.i64.wrap ((i5 : Int) + 1) = ((i5 + 1 : Nat) : Int) := i64_id (by omega) (by omega)
    have hl8 : decide (((tysC acc).length : Int) = 8) = false := decide_eq_false (by rw [tysC_length]; omega)
    obtain ⟨k7, n7, st7, ks7⟩ := e7
    simp only [rinc] at hx7
    repeat ((with_reducible apply stepS); (· conv => whnf))
    apply stepS; (· (conv => whnf); refine ⟨_, _, hp, ?_⟩; (conv => whnf))
    repeat ((with_reducible apply stepS); (· conv => whnf))
    apply endS
    apply condT; (· (conv => whnf); try rfl)
    apply skipC
    apply blockC
    apply seqC
    apply seqC
    apply regL
    repeat ((with_reducible apply stepS); (· conv => whnf))
    rw [hl8]
    apply endS
    apply condF; (· (conv => whnf); try rfl)
    apply skipC
    apply seqC
    apply regL
    repeat ((with_reducible apply stepS); (· conv => whnf))
    rw [hw5]
    apply endS
    apply regL
    repeat ((with_reducible apply stepS); (· conv => whnf))
    apply stepS; (· (conv => whnf); refine ⟨_, _, hx7, ?_⟩; (conv => whnf))
    repeat ((with_reducible apply stepS); (· conv => whnf))
    apply stepS; (· (conv => whnf); refine ⟨(by rw [tysC_length]; simp [lim]; omega), ?_⟩; (conv => whnf))
    repeat ((with_reducible apply stepS); (· conv => whnf))
    apply endS
    refine ⟨m, _, Nat.lt_succ_self m, wk [0, 1, 4, 7] [0, 4] [82] [] [] [] rfl, _, r7, hk7, by rw [hr7]; exact hB5, ?_, by rw [tysC_append]; rfl⟩
    simp
    omega
end Go.Proofs.YtoapgongbackaaaDoor.V

/-! T2: the reference's typ, con. -/
namespace Go.Proofs.YtoapgongbackaaaDoor.V
open Go Go.Proofs
set_option maxRecDepth 100000

inductive RTq (vars : List ByteArray) : Nat → RS → List Ty → List Ty → RS → Prop
  | stop {n : Nat} {r : RS} {acc : List Ty} (h : ratypic r = false) : RTq vars n r acc acc r
  | step {n : Nat} {r r1 r2 : RS} {acc l : List Ty} {e : Ty} (h : ratypic r = true) (hx : Ct 64 [rstA r, varsA vars] [.val (.agg (tyC e))] [rst r1]) (hr : r1.l = r.l) (k : RTq vars n r1 (acc ++ [e]) l r2) : RTq vars (n + 1) r acc l r2
theorem RTq.len {vars : List ByteArray} {n : Nat} {r r2 : RS} {acc l : List Ty} (h : RTq vars n r acc l r2) : r2.l = r.l := by
  induction h with
  | stop => rfl
  | step _ _ hr _ ih => exact ih.trans hr
/-- What stands behind a type: an arrow, or nothing. -/
inductive RTail (vars : List ByteArray) : RS → Ty → Ty → RS → Prop
  | no {r : RS} {t : Ty} (h : rpeek r 5 arrow.s = false) : RTail vars r t t r
  | yes {r r2 : RS} {t u : Ty} (h : rpeek r 5 arrow.s = true) (hx : Ct 91 [rstA (rinc r), varsA vars] [.val (.agg (tyC u))] [rst r2]) (hr : r2.l = r.l) : RTail vars r t (.mk 2 0 arrowT [t, u]) r2
theorem RTail.len {vars : List ByteArray} {r r2 : RS} {t u : Ty} (h : RTail vars r t u r2) : r2.l = r.l := by
  cases h with
  | no => rfl
  | yes _ _ hr => exact hr
set_option maxHeartbeats 8000000 in
theorem rtyp_plain {r r1 r2 : RS} {vars : List ByteArray} {t u : Ty} (hB : r.l.length ≤ 4294967296) (hp : rpeek r 2 .empty = false) (hx : Ct 64 [rstA r, varsA vars] [.val (.agg (tyC t))] [rst r1]) (hr1 : r1.l = r.l) (ht : RTail vars r1 t u r2) :
    Ct 91 [rstA r, varsA vars] [.val (.agg (tyC u))] [rst r2] := by
  have h1 := peekV hp
  have hB1 : r1.l.length ≤ 4294967296 := by rw [hr1]; exact hB
  obtain ⟨k4, n4, st4, ks4⟩ := t
  refine ct Tryd.func91 (by kernel_rfl) ?_
  apply evF_of rfl
  apply seqC
  apply regL
  repeat ((with_reducible apply stepS); (· conv => whnf))
  apply endS; apply seqC; apply regL
  repeat ((with_reducible apply stepS); (· conv => whnf))
  apply stepS; (· (conv => whnf); refine ⟨_, _, h1, ?_⟩; (conv => whnf))
  repeat ((with_reducible apply stepS); (· conv => whnf))
  apply endS; apply seqC; apply regL
  repeat ((with_reducible apply stepS); (· conv => whnf))
  apply stepS; (· (conv => whnf); refine ⟨_, _, hx, ?_⟩; (conv => whnf))
  repeat ((with_reducible apply stepS); (· conv => whnf))
  apply endS
  apply seqC
  apply blockC
  refine loopC (fun q st => st = ⟨[(0, .one (.ptr 0 0 0)), (1, .one (.sl 9 1 (vars.map str) none)), (4, .one (.ptr 4 0 0)), (5, .one (.v (.bool false))), (6, .one (.ptr 6 0 0))],
      [(0, ⟨0, 84, rst r1⟩), (4, ⟨0, 59, [.v (.int .i64 0), .v (.int .i64 0), .v (.string .empty), .nil 59 4]⟩), (6, ⟨0, 59, tyC (.mk k4 n4 st4 ks4)⟩)], []⟩)
      ⟨0, _, wk [0, 1, 4, 5, 6] [0, 4, 6] [] [] [] [] rfl, rfl⟩ ?_
  rintro n' st rfl
  apply seqC
  apply seqC
  apply regL
  repeat ((with_reducible apply stepS); (· conv => whnf))
  apply endS
  apply condF; (· (conv => whnf); try rfl)
  apply exitC
  apply seqC
  apply seqC
  apply regL
  repeat ((with_reducible apply stepS); (· conv => whnf))
  cases ht with
  | no h =>
    apply stepS; (· (conv => whnf); refine ⟨_, _, tryF hB1 h, ?_⟩; (conv => whnf))
    repeat ((with_reducible apply stepS); (· conv => whnf))
    apply endS
    apply condF; (· (conv => whnf); try rfl)
    apply skipC
    apply seqC
    apply regL
    repeat ((with_reducible apply stepS); (· conv => whnf))
    apply endS
    apply retC
    conv => whnf
    exact ⟨rfl, rfl⟩
  | @yes _ _ u h hy hr =>
    obtain ⟨k5, n5, st5, ks5⟩ := u
    apply stepS; (· (conv => whnf); refine ⟨_, _, tryT hB1 h, ?_⟩; (conv => whnf))
    repeat ((with_reducible apply stepS); (· conv => whnf))
    apply endS
    apply condT; (· (conv => whnf); try rfl)
    apply seqC
    apply regDL
    repeat ((with_reducible apply stepD); (· (conv => whnf); refine ⟨⟨rfl, rfl⟩, ?_⟩; (conv => whnf)))
    apply stepD; (· (conv => whnf); refine ⟨_, _, hy, ?_⟩; (conv => whnf); refine ⟨⟨rfl, rfl⟩, ?_⟩; (conv => whnf))
    repeat ((with_reducible apply stepD); (· (conv => whnf); refine ⟨⟨rfl, rfl⟩, ?_⟩; (conv => whnf)))
    apply endD; (· exact apart_of (by kernel_rfl))
    apply retC
    conv => whnf
    exact ⟨rfl, rfl⟩
set_option maxHeartbeats 8000000 in
theorem rtyp_con {r r1 r2 : RS} {vars : List ByteArray} {s : ByteArray} {l : List Ty} {u : Ty} {n : Nat} (hB : r.l.length ≤ 4294967296) (hp : rpeek r 2 .empty = true) (hx : Ct 64 [rstA r, varsA vars] [.val (.agg [.v (.int .i64 2), .v (.int .i64 0), .v (.string s), .nil 59 4])] [rst (rinc r)])
    (hq : RTq vars n (rinc r) [] l r1) (hn : n ≤ 4294967296) (ht : RTail vars r1 (.mk 2 0 s l) u r2) :
    Ct 91 [rstA r, varsA vars] [.val (.agg (tyC u))] [rst r2] := by
  have h1 := peekV hp
  have hB1 : r1.l.length ≤ 4294967296 := by rw [hq.len]; exact hB
  simp only [rinc] at hx hq
  refine ct Tryd.func91 (by kernel_rfl) ?_
  apply evF_of rfl
  apply seqC
  apply regL
  repeat ((with_reducible apply stepS); (· conv => whnf))
  apply endS; apply seqC; apply regL
  repeat ((with_reducible apply stepS); (· conv => whnf))
  apply stepS; (· (conv => whnf); refine ⟨_, _, h1, ?_⟩; (conv => whnf))
  repeat ((with_reducible apply stepS); (· conv => whnf))
  apply endS; apply seqC; apply regL
  repeat ((with_reducible apply stepS); (· conv => whnf))
  apply stepS; (· (conv => whnf); refine ⟨_, _, hx, ?_⟩; (conv => whnf))
  repeat ((with_reducible apply stepS); (· conv => whnf))
  apply endS
  apply seqC
  apply blockC
  refine loopC (fun q st => ∃ acc r9, RTq vars q r9 acc l r1 ∧ acc.length + q ≤ 8589934592 ∧ st = ⟨[(0, .one (.ptr 0 0 0)), (1, .one (.sl 9 1 (vars.map str) none)), (4, .one (.ptr 4 0 0)), (5, .one (.v (.bool true))), (6, .one (.ptr 6 0 0))],
      [(0, ⟨0, 84, rst r9⟩), (4, ⟨0, 59, [.v (.int .i64 0), .v (.int .i64 0), .v (.string .empty), .nil 59 4]⟩), (6, ⟨0, 59, [.v (.int .i64 2), .v (.int .i64 0), .v (.string s), .sl 59 4 (tysC acc) (some (23, 0))]⟩)], [(23, ⟨0, 59, 4, true⟩)]⟩)
      ⟨_, _, wk [0, 1, 4, 5, 6] [0, 4, 6] [] [] [] [(6, 3, 23, 59, 4)] rfl, _, _, hq, by simp; omega, rfl⟩ ?_
  rintro n' st ⟨acc, r9, hq9, hla, rfl⟩
  have hat := ratypic_ct r9
  apply seqC
  apply seqC
  apply regL
  repeat ((with_reducible apply stepS); (· conv => whnf))
  cases hq9 with
  | stop h =>
    rw [h] at hat
    apply stepS; (· (conv => whnf); refine ⟨_, _, hat, ?_⟩; (conv => whnf))
    repeat ((with_reducible apply stepS); (· conv => whnf))
    apply endS
    apply condF; (· (conv => whnf); try rfl)
    apply exitC
    apply seqC
    apply seqC
    apply regL
    repeat ((with_reducible apply stepS); (· conv => whnf))
    cases ht with
    | no h =>
      apply stepS; (· (conv => whnf); refine ⟨_, _, tryF hB1 h, ?_⟩; (conv => whnf))
      repeat ((with_reducible apply stepS); (· conv => whnf))
      apply endS
      apply condF; (· (conv => whnf); try rfl)
      apply skipC
      apply seqC
      apply regL
      repeat ((with_reducible apply stepS); (· conv => whnf))
      apply endS
      apply retC
      conv => whnf
      exact ⟨rfl, rfl⟩
    | @yes _ _ u h hy hr =>
      obtain ⟨k5, n5, st5, ks5⟩ := u
      apply stepS; (· (conv => whnf); refine ⟨_, _, tryT hB1 h, ?_⟩; (conv => whnf))
      repeat ((with_reducible apply stepS); (· conv => whnf))
      apply endS
      apply condT; (· (conv => whnf); try rfl)
      apply seqC
      apply regDL
      repeat ((with_reducible apply stepD); (· (conv => whnf); refine ⟨⟨rfl, rfl⟩, ?_⟩; (conv => whnf)))
      apply stepD; (· (conv => whnf); refine ⟨_, _, hy, ?_⟩; (conv => whnf); refine ⟨⟨rfl, rfl⟩, ?_⟩; (conv => whnf))
      repeat ((with_reducible apply stepD); (· (conv => whnf); refine ⟨⟨rfl, rfl⟩, ?_⟩; (conv => whnf)))
      apply endD; (· exact apart_of (by kernel_rfl))
      apply retC
      conv => whnf
      exact ⟨rfl, rfl⟩
  | @step m _ r11 _ _ _ x9 h hx9 hr9 hk10 =>
    rw [h] at hat
    obtain ⟨k9, n9, s9, ks9⟩ := x9
    apply stepS; (· (conv => whnf); refine ⟨_, _, hat, ?_⟩; (conv => whnf))
    repeat ((with_reducible apply stepS); (· conv => whnf))
    apply endS
    apply condT; (· (conv => whnf); try rfl)
    apply skipC
    apply blockC
    apply regDL
    repeat ((with_reducible apply stepD); (· (conv => whnf); refine ⟨⟨rfl, rfl⟩, ?_⟩; (conv => whnf)))
    apply stepD; (· (conv => whnf); refine ⟨_, _, hx9, ?_⟩; (conv => whnf); refine ⟨⟨rfl, rfl⟩, ?_⟩; (conv => whnf))
    repeat ((with_reducible apply stepD); (· (conv => whnf); refine ⟨⟨rfl, rfl⟩, ?_⟩; (conv => whnf)))
    apply stepD; (· (conv => whnf); refine ⟨(by rw [tysC_length]; simp [lim]; omega), ?_⟩; (conv => whnf); refine ⟨⟨rfl, rfl⟩, ?_⟩; (conv => whnf))
    repeat ((with_reducible apply stepD); (· (conv => whnf); refine ⟨⟨rfl, rfl⟩, ?_⟩; (conv => whnf)))
    apply endD; (· exact apart_of (by kernel_rfl))
    refine ⟨m, _, Nat.lt_succ_self m, wk [0, 1, 4, 5, 6] [0, 4, 6] [23] [] [] [] rfl, _, r11, hk10, ?_, by rw [tysC_append]; rfl⟩
    simp
    omega
set_option maxHeartbeats 8000000 in
theorem rcon_ct {r r1 : RS} {vars : List ByteArray} {l : List Ty} {n : Nat} (hB : r.l.length ≤ 4294967296) (hq : RTq vars n (reat r 2 .empty).2 [] l r1) (hn : n ≤ 4294967296) :
    Ct 31 [rstA r, varsA vars] [.val (.agg (conC ⟨(reat r 2 .empty).1.s, (reat r 2 .empty).1.at_, l⟩))] [rst r1] := by
  have he := reat_ct r 2 .empty hB
  generalize (reat r 2 .empty).2 = r0 at he hq
  generalize (reat r 2 .empty).1 = c at he
  refine ct Tryd.func31 (by kernel_rfl) ?_
  apply evF_of rfl
  apply seqC
  apply regL
  repeat ((with_reducible apply stepS); (· conv => whnf))
  apply endS; apply seqC; apply regL
  repeat ((with_reducible apply stepS); (· conv => whnf))
  apply stepS; (· (conv => whnf); refine ⟨_, _, he, ?_⟩; (conv => whnf))
  repeat ((with_reducible apply stepS); (· conv => whnf))
  apply endS; apply seqC; apply regL
  repeat ((with_reducible apply stepS); (· conv => whnf))
  apply endS
  apply seqC
  apply blockC
  refine loopC (fun q st => ∃ acc r9, RTq vars q r9 acc l r1 ∧ acc.length + q ≤ 8589934592 ∧ st = ⟨[(0, .one (.ptr 0 0 0)), (1, .one (.sl 9 1 (vars.map str) none)), (4, .one (.ptr 4 0 0)), (6, .one (.ptr 6 0 0))],
      [(0, ⟨0, 84, rst r9⟩), (4, ⟨0, 64, [.v (.string .empty), .v (.int .i64 0), .nil 59 4]⟩), (6, ⟨0, 64, [.v (.string c.s), .v (.int .i64 c.at_), .sl 59 4 (tysC acc) (some (22, 0))]⟩)], [(22, ⟨0, 59, 4, true⟩)]⟩)
      ⟨_, _, wk [0, 1, 4, 6] [0, 4, 6] [] [] [] [(6, 2, 22, 59, 4)] rfl, _, _, hq, by simp; omega, rfl⟩ ?_
  rintro n' st ⟨acc, r9, hq9, hla, rfl⟩
  have hat := ratypic_ct r9
  apply seqC
  apply seqC
  apply regL
  repeat ((with_reducible apply stepS); (· conv => whnf))
  cases hq9 with
  | stop h =>
    rw [h] at hat
    apply stepS; (· (conv => whnf); refine ⟨_, _, hat, ?_⟩; (conv => whnf))
    repeat ((with_reducible apply stepS); (· conv => whnf))
    apply endS
    apply condF; (· (conv => whnf); try rfl)
    apply exitC
    apply seqC
    apply regL
    repeat ((with_reducible apply stepS); (· conv => whnf))
    apply endS
    apply retC
    conv => whnf
    exact ⟨rfl, rfl⟩
  | @step m _ r11 _ _ _ x9 h hx9 hr9 hk10 =>
    rw [h] at hat
    obtain ⟨k9, n9, s9, ks9⟩ := x9
    apply stepS; (· (conv => whnf); refine ⟨_, _, hat, ?_⟩; (conv => whnf))
    repeat ((with_reducible apply stepS); (· conv => whnf))
    apply endS
    apply condT; (· (conv => whnf); try rfl)
    apply skipC
    apply blockC
    apply regDL
    repeat ((with_reducible apply stepD); (· (conv => whnf); refine ⟨⟨rfl, rfl⟩, ?_⟩; (conv => whnf)))
    apply stepD; (· (conv => whnf); refine ⟨_, _, hx9, ?_⟩; (conv => whnf); refine ⟨⟨rfl, rfl⟩, ?_⟩; (conv => whnf))
    repeat ((with_reducible apply stepD); (· (conv => whnf); refine ⟨⟨rfl, rfl⟩, ?_⟩; (conv => whnf)))
    apply stepD; (· (conv => whnf); refine ⟨(by rw [tysC_length]; simp [lim]; omega), ?_⟩; (conv => whnf); refine ⟨⟨rfl, rfl⟩, ?_⟩; (conv => whnf))
    repeat ((with_reducible apply stepD); (· (conv => whnf); refine ⟨⟨rfl, rfl⟩, ?_⟩; (conv => whnf)))
    apply endD; (· exact apart_of (by kernel_rfl))
    refine ⟨m, _, Nat.lt_succ_self m, wk [0, 1, 4, 6] [0, 4, 6] [22] [] [] [] rfl, _, r11, hk10, ?_, by rw [tysC_append]; rfl⟩
    simp
    omega
end Go.Proofs.YtoapgongbackaaaDoor.V

/-! T3: the reference's Parse. -/
namespace Go.Proofs.YtoapgongbackaaaDoor.V
open Go Go.Proofs
open Go.Proofs.YtoapgongbackaaaDoor.Lx
set_option maxRecDepth 100000

inductive RCons (vars : List ByteArray) : Nat → RS → List ConD → List ConD → RS → Prop
  | stop {n : Nat} {r : RS} {acc : List ConD} (h : rpeek r 5 barS.s = false) : RCons vars n r acc acc r
  | step {n : Nat} {r r1 r2 : RS} {acc l : List ConD} {c : ConD} (h : rpeek r 5 barS.s = true) (hx : Ct 31 [rstA (rinc r), varsA vars] [.val (.agg (conC c))] [rst r1]) (hr : r1.l = r.l) (k : RCons vars n r1 (acc ++ [c]) l r2) : RCons vars (n + 1) r acc l r2
theorem RCons.len {vars : List ByteArray} {n : Nat} {r r2 : RS} {acc l : List ConD} (h : RCons vars n r acc l r2) : r2.l = r.l := by
  induction h with
  | stop => rfl
  | step _ _ hr _ ih => exact ih.trans hr
structure RData (r : RS) (d : DataD) (r2 : RS) : Prop where
  w : ∃ (k n : Nat) (l : List Tok) (r3 r4 r5 : RS) (c1 : ConD) (cs : List ConD), k ≤ 4294967296 ∧ n ≤ 4294967296 ∧ l.length ≤ 4294967290 ∧ rnamesA k [] (reat (rinc r) 2 .empty).2 = some (l, r3) ∧ r3.l = r.l ∧
    Ct 31 [rstA (reat r3 5 eqS.s).2, varsA (l.map (·.s))] [.val (.agg (conC c1))] [rst r4] ∧ r4.l = r.l ∧ RCons (l.map (·.s)) n r4 [c1] cs r5 ∧ r2 = (reat r5 5 semi.s).2 ∧
    d = ⟨(reat (rinc r) 2 .empty).1.s, (reat (rinc r) 2 .empty).1.at_, l.map (·.s), cs⟩
theorem RData.len {r r2 : RS} {d : DataD} (h : RData r d r2) : r2.l = r.l := by
  obtain ⟨k, n, l, r3, r4, r5, c1, cs, -, -, -, -, -, -, h4, hk, rfl, -⟩ := h.w
  rw [reat_l, hk.len, h4]
structure RBind (r : RS) (b : BindD) (r2 : RS) : Prop where
  w : ∃ (k : Nat) (l : List Tok) (r3 r5 : RS) (e : Exp), k ≤ 4294967296 ∧ l.length ≤ 4294967290 ∧ rnamesA k [] (reat (reat r 4 letS.s).2 1 .empty).2 = some (l, r3) ∧ r3.l = r.l ∧
    Ct 34 [rstA (reat r3 5 eqS.s).2] [.val (.agg (exC e))] [rst r5] ∧ r5.l = r.l ∧ r2 = (reat r5 5 semi.s).2 ∧
    b = ⟨(reat (reat r 4 letS.s).2 1 .empty).1.s, (reat (reat r 4 letS.s).2 1 .empty).1.at_, lamsP l (reat (reat r 4 letS.s).2 1 .empty).1.at_ e⟩
theorem RBind.len {r r2 : RS} {b : BindD} (h : RBind r b r2) : r2.l = r.l := by
  obtain ⟨k, l, r3, r5, e, -, -, -, -, -, h5, rfl, -⟩ := h.w
  rw [reat_l, h5]
inductive RProg : Nat → RS → ProgD → ProgD → RS → Prop
  | stop {n : Nat} {r : RS} {p : ProgD} (h : r.l.length ≤ r.i ∨ r.bad = true) : RProg n r p p r
  | data {n : Nat} {r r2 r3 : RS} {p p2 : ProgD} {d : DataD} (hb : r.bad = false) (hi : r.i < r.l.length) (h : rpeek r 4 dataS.s = true) (hd : RData r d r2) (k : RProg n r2 ⟨p.datas ++ [d], p.binds⟩ p2 r3) : RProg (n + 1) r p p2 r3
  | bind {n : Nat} {r r2 r3 : RS} {p p2 : ProgD} {b : BindD} (hb : r.bad = false) (hi : r.i < r.l.length) (h : rpeek r 4 dataS.s = false) (hd : RBind r b r2) (k : RProg n r2 ⟨p.datas, p.binds ++ [b]⟩ p2 r3) : RProg (n + 1) r p p2 r3
def rres (p : ProgD) (r : RS) : List AC := match r.bad with
  | true => [.sl 62 4 [] none, .sl 55 8 [] none, .v (.int .i64 4), .v (.int .i64 r.at_)]
  | false => match decide (0 ≤ deepestP p) with
    | true => [.sl 62 4 [] none, .sl 55 8 [] none, .v (.int .i64 5), .v (.int .i64 (deepestP p))]
    | false => [.sl 62 4 (p.datas.map dataC) none, .sl 55 8 (p.binds.map bindC) none, .v (.int .i64 0), .v (.int .i64 0)]
theorem rparse_err {l : List UInt8} (hB : l.length ≤ 65536) {e : Nat} (h : lexL l = .error e) : Ct 13 [.val (.one (.v (.string (ofL l))))] [.val (.agg [.sl 62 4 [] none, .sl 55 8 [] none, .v (.int .i64 3), .v (.int .i64 (e : Int))])] [] := by
  have hlex := rlex_ct l hB
  rw [h] at hlex
  generalize ofL l = s at hlex
  refine ct Tryd.func13 (by kernel_rfl) ?_
  apply evF_of rfl
  apply seqC
  apply regL
  repeat ((with_reducible apply stepS); (· conv => whnf))
  apply endS; apply seqC; apply regL
  repeat ((with_reducible apply stepS); (· conv => whnf))
  apply stepS; (· (conv => whnf); refine ⟨_, _, hlex, ?_⟩; (conv => whnf))
  repeat ((with_reducible apply stepS); (· conv => whnf))
  apply endS; apply seqC; apply seqC; apply regL
  repeat ((with_reducible apply stepS); (· conv => whnf))
  apply endS
  apply condT; (· (conv => whnf); try rfl)
  apply seqC
  apply regL
  repeat ((with_reducible apply stepS); (· conv => whnf))
  apply endS
  apply retC
  conv => whnf
  exact ⟨rfl, rfl⟩
set_option maxHeartbeats 64000000 in
theorem rparse_ok {l : List UInt8} (hB : l.length ≤ 65536) {ts : List Tk} (h : lexL l = .ok ts) (hts : ts.length ≤ 65536) {n : Nat} (hn : n ≤ 4294967296) {p : ProgD} {rE : RS} (hk : RProg n ⟨ts.map toT, 0, (l.length : Int), false, 0⟩ ⟨[], []⟩ p rE) (hf : rE.bad = false → FineP p) :
    Ct 13 [.val (.one (.v (.string (ofL l))))] [.val (.agg (rres p rE))] [] := by
  have hlex := rlex_ct l hB
  rw [h] at hlex
  have hsz := ofL_size l
  generalize ofL l = s at hlex hsz
  have hB0 : (ts.map toT).length ≤ 65536 := by simpa using hts
  simp only [lexedC] at hlex
  generalize ts.map toT = toks at hlex hk hB0
  rw [← hsz] at hk
  refine ct Tryd.func13 (by kernel_rfl) ?_
  apply evF_of rfl
  apply seqC
  apply regL
  repeat ((with_reducible apply stepS); (· conv => whnf))
  apply endS; apply seqC; apply regL
  repeat ((with_reducible apply stepS); (· conv => whnf))
  apply stepS; (· (conv => whnf); refine ⟨_, _, hlex, ?_⟩; (conv => whnf))
  repeat ((with_reducible apply stepS); (· conv => whnf))
  apply endS; apply seqC; apply seqC; apply regL
  repeat ((with_reducible apply stepS); (· conv => whnf))
  apply endS
  apply condF; (· (conv => whnf); try rfl)
  apply skipC
  apply seqC
  apply regL
  repeat ((with_reducible apply stepS); (· conv => whnf))
  apply endS; apply seqC; apply regL
  repeat ((with_reducible apply stepS); (· conv => whnf))
  apply endS
  apply seqC
  apply blockC
  refine loopC (fun q st => ∃ r p1, RProg q r p1 p rE ∧ r.l.length ≤ 65536 ∧ p1.datas.length + q ≤ 8589934592 ∧ p1.binds.length + q ≤ 8589934592 ∧
    st = ⟨[(4, .one (.ptr 29 0 0)), (2, .one (.ptr 2 0 0)), (5, .one (.ptr 5 0 0))],
      [(2, ⟨0, 31, [.nil 62 4, .nil 55 8, .v (.int .i64 0), .v (.int .i64 0)]⟩), (29, ⟨0, 84, rst r⟩), (5, ⟨0, 26, [.sl 62 4 (p1.datas.map dataC) (some (109, 0)), .sl 55 8 (p1.binds.map bindC) (some (136, 0))]⟩)], [(109, ⟨0, 62, 4, true⟩), (136, ⟨0, 55, 8, true⟩)]⟩)
    ⟨_, _, wk [4, 2, 5] [2, 29, 5] [] [] [] [(5, 0, 109, 62, 4), (5, 1, 136, 55, 8)] rfl, _, ⟨[], []⟩, hk, hB0, by simp; omega, by simp; omega, rfl⟩ ?_
  rintro n' st ⟨r, p1, hk1, hB1, hc1, hc2, rfl⟩
  obtain ⟨ds, bs⟩ := p1
  simp only at hc1 hc2
  apply seqC
  apply seqC
  apply regDL
  cases hk1 with
  | stop h =>
    obtain ⟨l1, i1, en1, bd1, a1⟩ := rE
    simp only at h hB1
    repeat ((with_reducible apply stepD); (· (conv => whnf); refine ⟨⟨rfl, rfl⟩, ?_⟩; (conv => whnf)))
    cases hlt : decide (((i1 : Nat) : Int) < ((l1.map tok).length : Int))
    · repeat ((with_reducible apply stepD); (· (conv => whnf); refine ⟨⟨rfl, rfl⟩, ?_⟩; (conv => whnf)))
      apply endD; (· exact apart_of (by kernel_rfl))
      apply condF; (· (conv => whnf); try rfl)
      apply exitC
      cases bd1
      rotate_left
      · apply seqC
        apply seqC
        apply regL
        repeat ((with_reducible apply stepS); (· conv => whnf))
        apply endS
        apply condT; (· (conv => whnf); try rfl)
        apply seqC
        apply regL
        repeat ((with_reducible apply stepS); (· conv => whnf))
        apply endS
        apply retC
        conv => whnf
        exact ⟨rfl, rfl⟩
      apply seqC
      apply seqC
      apply regL
      repeat ((with_reducible apply stepS); (· conv => whnf))
      apply endS
      apply condF; (· (conv => whnf); try rfl)
      apply skipC
      apply seqC
      apply seqC
      apply regL
      repeat ((with_reducible apply stepS); (· conv => whnf))
      apply stepS; (· (conv => whnf); refine ⟨_, _, tooDeep_ct (hf rfl), ?_⟩; (conv => whnf))
      repeat ((with_reducible apply stepS); (· conv => whnf))
      apply endS
      apply seqC
      apply regL
      repeat ((with_reducible apply stepS); (· conv => whnf))
      apply endS
      cases hd : decide (0 ≤ deepestP ⟨ds, bs⟩)
      · have hr : rres ⟨ds, bs⟩ ⟨l1, i1, en1, false, a1⟩ = [.sl 62 4 (ds.map dataC) none, .sl 55 8 (bs.map bindC) none, .v (.int .i64 0), .v (.int .i64 0)] := by
          unfold rres
          simp only
          rw [hd]
        rw [hr]
        apply condF; (· (conv => whnf); try rfl)
        apply skipC
        apply seqC
        apply regL
        repeat ((with_reducible apply stepS); (· conv => whnf))
        apply endS
        apply retC
        conv => whnf
        exact ⟨rfl, rfl⟩
      · have hr : rres ⟨ds, bs⟩ ⟨l1, i1, en1, false, a1⟩ = [.sl 62 4 [] none, .sl 55 8 [] none, .v (.int .i64 5), .v (.int .i64 (deepestP ⟨ds, bs⟩))] := by
          unfold rres
          simp only
          rw [hd]
        rw [hr]
        apply condT; (· (conv => whnf); try rfl)
        apply seqC
        apply regL
        repeat ((with_reducible apply stepS); (· conv => whnf))
        apply endS
        apply retC
        conv => whnf
        exact ⟨rfl, rfl⟩
    · have hb : bd1 = true := by
        rcases h with h | h
        · exfalso
          have := of_decide_eq_true hlt
          simp at this
          omega
        · exact h
      subst hb
      repeat ((with_reducible apply stepD); (· (conv => whnf); refine ⟨⟨rfl, rfl⟩, ?_⟩; (conv => whnf)))
      apply endD; (· exact apart_of (by kernel_rfl))
      apply condF; (· (conv => whnf); try rfl)
      apply exitC
      apply seqC
      apply seqC
      apply regL
      repeat ((with_reducible apply stepS); (· conv => whnf))
      apply endS
      apply condT; (· (conv => whnf); try rfl)
      apply seqC
      apply regL
      repeat ((with_reducible apply stepS); (· conv => whnf))
      apply endS
      apply retC
      conv => whnf
      exact ⟨rfl, rfl⟩
  | @data m _ r9 _ _ _ d hb hi h hd hk2 =>
    have hl9 := hd.len
    obtain ⟨k, n1, tl, r3, r4, r5, c1, cs, hk1, hn1, htl, hnm, hl3, hx, hl4, hcs, rfl, rfl⟩ := hd.w
    have hB1' : r.l.length ≤ 4294967296 := by omega
    have he := reat_ct (rinc r) 2 .empty hB1'
    have hnc := rnames_ct hk1 (by rw [reat_l]; exact hB1') hnm
    have hsg := rsign_ct r3 eqS.s (by rw [hl3]; exact hB1')
    have hl5 : r5.l = r.l := hcs.len.trans hl4
    have hsm := rsign_ct r5 semi.s (by rw [hl5]; exact hB1')
    have h1 := peekV h
    generalize (reat r5 5 semi.s).2 = r10 at hk2 hl9 hsm
    generalize (reat r3 5 eqS.s).2 = r6 at hsg hx
    generalize (reat (rinc r) 2 .empty).2 = r7 at he hnc
    generalize (reat (rinc r) 2 .empty).1 = c at he hk2
    obtain ⟨l1, i1, en1, bd1, a1⟩ := r
    simp only at hb hi hB1 hl9 hl3 hl4 hl5
    subst hb
    simp only [rinc] at he
    have hw : IntKind.i64.wrap ((i1 : Int) + 1) = ((i1 + 1 : Nat) : Int) := i64_id (by omega) (by omega)
    have hlt : decide (((i1 : Nat) : Int) < ((l1.map tok).length : Int)) = true := decide_eq_true (by simp; omega)
    repeat ((with_reducible apply stepD); (· (conv => whnf); refine ⟨⟨rfl, rfl⟩, ?_⟩; (conv => whnf)))
    rw [hlt]
    repeat ((with_reducible apply stepD); (· (conv => whnf); refine ⟨⟨rfl, rfl⟩, ?_⟩; (conv => whnf)))
    apply endD; (· exact apart_of (by kernel_rfl))
    apply condT; (· (conv => whnf); try rfl)
    apply skipC
    apply blockC
    apply seqC
    apply seqC
    apply regL
    repeat ((with_reducible apply stepS); (· conv => whnf))
    apply stepS; (· (conv => whnf); refine ⟨_, _, h1, ?_⟩; (conv => whnf))
    repeat ((with_reducible apply stepS); (· conv => whnf))
    apply endS
    apply condT; (· (conv => whnf); try rfl)
    apply seqC
    apply regL
    repeat ((with_reducible apply stepS); (· conv => whnf))
    rw [hw]
    apply endS; apply seqC; apply regL
    repeat ((with_reducible apply stepS); (· conv => whnf))
    apply stepS; (· (conv => whnf); refine ⟨_, _, he, ?_⟩; (conv => whnf))
    repeat ((with_reducible apply stepS); (· conv => whnf))
    apply endS; apply seqC; apply regL
    repeat ((with_reducible apply stepS); (· conv => whnf))
    apply stepS; (· (conv => whnf); refine ⟨_, _, hnc, ?_⟩; (conv => whnf))
    repeat ((with_reducible apply stepS); (· conv => whnf))
    apply endS; apply seqC; apply regL
    repeat ((with_reducible apply stepS); (· conv => whnf))
    apply endS
    apply seqC
    apply seqC
    apply regL
    repeat ((with_reducible apply stepS); (· conv => whnf))
    apply endS
    apply blockC
    refine loopC (fun q st => ∃ m2 i2, q = tl.length - m2 ∧ m2 ≤ tl.length ∧ i2 = ((m2 : Nat) : Int) ∧
      st = ⟨[(4, .one (.ptr 29 0 0)), (2, .one (.ptr 2 0 0)), (5, .one (.ptr 5 0 0)), (8, .one (.ptr 8 0 0)), (7, .one (.sl 74 4 (tl.map tok) none)), (9, .one (.v (.int .i64 i2)))],
        [(2, ⟨0, 31, [.nil 62 4, .nil 55 8, .v (.int .i64 0), .v (.int .i64 0)]⟩), (29, ⟨0, 84, rst r3⟩), (5, ⟨0, 26, [.sl 62 4 (ds.map dataC) (some (109, 0)), .sl 55 8 (bs.map bindC) (some (136, 0))]⟩), (8, ⟨0, 62, [.v (.string c.s), .v (.int .i64 c.at_), .sl 9 1 (((tl.take m2).map (·.s)).map str) (some (79, 0)), .nil 64 3]⟩)], [(109, ⟨0, 62, 4, true⟩), (136, ⟨0, 55, 8, true⟩), (79, ⟨0, 9, 1, true⟩)]⟩)
      ⟨_, _, wk [4, 2, 5, 8, 7, 9] [2, 29, 5, 8] [109, 136] [] [] [(8, 2, 79, 9, 1)] rfl, 0, 0, rfl, Nat.zero_le _, rfl, rfl⟩ ?_
    rintro n2 st ⟨m2, i2, rfl, hm2, rfl, rfl⟩
    apply seqC
    apply seqC
    apply regL
    repeat ((with_reducible apply stepS); (· conv => whnf))
    apply endS
    cases hlt2 : decide (((m2 : Nat) : Int) < ((tl.map tok).length : Int))
    rotate_left
    · have hm3 : m2 < tl.length := by simpa using hlt2
      apply condT; (· (conv => whnf); try rfl)
      apply skipC
      apply seqC
      apply blockC
      apply regDL
      repeat ((with_reducible apply stepD); (· (conv => whnf); refine ⟨⟨rfl, rfl⟩, ?_⟩; (conv => whnf)))
      apply stepD; (· (conv => whnf); refine ⟨_, get_map (List.getElem?_eq_getElem hm3), ?_⟩; (conv => whnf); refine ⟨⟨rfl, rfl⟩, ?_⟩; (conv => whnf))
      repeat ((with_reducible apply stepD); (· (conv => whnf); refine ⟨⟨rfl, rfl⟩, ?_⟩; (conv => whnf)))
      apply stepD; (· (conv => whnf); refine ⟨(by simp [lim]; omega), ?_⟩; (conv => whnf); refine ⟨⟨rfl, rfl⟩, ?_⟩; (conv => whnf))
      repeat ((with_reducible apply stepD); (· (conv => whnf); refine ⟨⟨rfl, rfl⟩, ?_⟩; (conv => whnf)))
      apply endD; (· exact apart_of (by kernel_rfl))
      apply regL
      repeat ((with_reducible apply stepS); (· conv => whnf))
      apply endS
      refine ⟨_, _, ?_, wk [4, 2, 5, 8, 7, 9] [2, 29, 5, 8] [109, 136, 79] [] [] [] rfl, m2 + 1, _, rfl, hm3, i64_id (x := (m2 : Int) + 1) (by omega) (by omega), ?_⟩
      · omega
      · rw [List.take_succ_eq_append_getElem hm3, List.map_append, List.map_append]; rfl
    have hm3 : m2 = tl.length := by simp at hlt2; omega
    subst hm3
    rw [List.take_length]
    apply condF; (· (conv => whnf); try rfl)
    apply exitC
    apply seqC
    apply regL
    repeat ((with_reducible apply stepS); (· conv => whnf))
    apply stepS; (· (conv => whnf); refine ⟨_, _, hsg, ?_⟩; (conv => whnf))
    repeat ((with_reducible apply stepS); (· conv => whnf))
    apply endS
    apply seqC
    apply regDL
    repeat ((with_reducible apply stepD); (· (conv => whnf); refine ⟨⟨rfl, rfl⟩, ?_⟩; (conv => whnf)))
    apply stepD; (· (conv => whnf); refine ⟨_, _, hx, ?_⟩; (conv => whnf); refine ⟨⟨rfl, rfl⟩, ?_⟩; (conv => whnf))
    repeat ((with_reducible apply stepD); (· (conv => whnf); refine ⟨⟨rfl, rfl⟩, ?_⟩; (conv => whnf)))
    apply stepD; (· (conv => whnf); refine ⟨(by simp [lim]), ?_⟩; (conv => whnf); refine ⟨⟨rfl, rfl⟩, ?_⟩; (conv => whnf))
    repeat ((with_reducible apply stepD); (· (conv => whnf); refine ⟨⟨rfl, rfl⟩, ?_⟩; (conv => whnf)))
    apply endD; (· exact apart_of (by kernel_rfl))
    apply seqC
    apply blockC
    refine loopC (fun q st => ∃ acc r11, RCons (tl.map (·.s)) q r11 acc cs r5 ∧ r11.l.length ≤ 65536 ∧ acc.length + q ≤ 8589934592 ∧
      st = ⟨[(4, .one (.ptr 29 0 0)), (2, .one (.ptr 2 0 0)), (5, .one (.ptr 5 0 0)), (8, .one (.ptr 8 0 0))],
        [(2, ⟨0, 31, [.nil 62 4, .nil 55 8, .v (.int .i64 0), .v (.int .i64 0)]⟩), (29, ⟨0, 84, rst r11⟩), (5, ⟨0, 26, [.sl 62 4 (ds.map dataC) (some (109, 0)), .sl 55 8 (bs.map bindC) (some (136, 0))]⟩), (8, ⟨0, 62, [.v (.string c.s), .v (.int .i64 c.at_), .sl 9 1 ((tl.map (·.s)).map str) none, .sl 64 3 (acc.map conC) (some (101, 0))]⟩)], [(109, ⟨0, 62, 4, true⟩), (136, ⟨0, 55, 8, true⟩), (101, ⟨0, 64, 3, true⟩)]⟩)
      ⟨_, _, wk [4, 2, 5, 8] [2, 29, 5, 8] [109, 136, 90] [(90, 101)] [] [] rfl, _, _, hcs, by rw [hl4]; exact hB1, by simp; omega, rfl⟩ ?_
    rintro n3 st ⟨acc, r11, hcs2, hB11, hla, rfl⟩
    have hB11' : r11.l.length ≤ 4294967296 := by omega
    apply seqC
    apply seqC
    apply regL
    repeat ((with_reducible apply stepS); (· conv => whnf))
    cases hcs2 with
    | stop h2 =>
      apply stepS; (· (conv => whnf); refine ⟨_, _, tryF hB11' h2, ?_⟩; (conv => whnf))
      repeat ((with_reducible apply stepS); (· conv => whnf))
      apply endS
      apply condF; (· (conv => whnf); try rfl)
      apply exitC
      apply seqC
      apply regL
      repeat ((with_reducible apply stepS); (· conv => whnf))
      apply stepS; (· (conv => whnf); refine ⟨_, _, hsm, ?_⟩; (conv => whnf))
      repeat ((with_reducible apply stepS); (· conv => whnf))
      apply endS
      apply seqC
      apply regL
      repeat ((with_reducible apply stepS); (· conv => whnf))
      apply stepS; (· (conv => whnf); refine ⟨(by simp [lim]; omega), ?_⟩; (conv => whnf))
      repeat ((with_reducible apply stepS); (· conv => whnf))
      apply endS
      apply exitC
      refine ⟨m, _, Nat.lt_succ_self m, wk [4, 2, 5] [2, 29, 5] [109, 136] [] [] [] rfl, _, _, hk2, by rw [hl9]; exact hB1, ?_, ?_, ?_⟩
      · simp
        omega
      · simp
        omega
      · simp only [List.map_append]
        rfl
    | @step m5 _ r12 _ _ _ c5 h2 hx5 hr5 hk5 =>
      apply stepS; (· (conv => whnf); refine ⟨_, _, tryT hB11' h2, ?_⟩; (conv => whnf))
      repeat ((with_reducible apply stepS); (· conv => whnf))
      apply endS
      apply condT; (· (conv => whnf); try rfl)
      apply skipC
      apply blockC
      apply regDL
      repeat ((with_reducible apply stepD); (· (conv => whnf); refine ⟨⟨rfl, rfl⟩, ?_⟩; (conv => whnf)))
      apply stepD; (· (conv => whnf); refine ⟨_, _, hx5, ?_⟩; (conv => whnf); refine ⟨⟨rfl, rfl⟩, ?_⟩; (conv => whnf))
      repeat ((with_reducible apply stepD); (· (conv => whnf); refine ⟨⟨rfl, rfl⟩, ?_⟩; (conv => whnf)))
      apply stepD; (· (conv => whnf); refine ⟨(by simp [lim]; omega), ?_⟩; (conv => whnf); refine ⟨⟨rfl, rfl⟩, ?_⟩; (conv => whnf))
      repeat ((with_reducible apply stepD); (· (conv => whnf); refine ⟨⟨rfl, rfl⟩, ?_⟩; (conv => whnf)))
      apply endD; (· exact apart_of (by kernel_rfl))
      refine ⟨m5, _, Nat.lt_succ_self m5, wk [4, 2, 5, 8] [2, 29, 5, 8] [109, 136, 101] [] [] [] rfl, _, r12, hk5, by rw [hr5]; exact hB11, ?_, by simp only [List.map_append]; rfl⟩
      simp
      omega
  | @bind m _ r9 _ _ _ b hb hi h hd hk2 =>
    have hl9 := hd.len
    obtain ⟨k, tl, r3, r5, e, hk1, htl, hnm, hl3, hx, hl5, rfl, rfl⟩ := hd.w
    have hB1' : r.l.length ≤ 4294967296 := by omega
    have hlet := reat_ct r 4 letS.s hB1'
    have he := reat_ct (reat r 4 letS.s).2 1 .empty (by rw [reat_l]; exact hB1')
    have hnc := rnames_ct hk1 (by rw [reat_l, reat_l]; exact hB1') hnm
    have hsg := rsign_ct r3 eqS.s (by rw [hl3]; exact hB1')
    have hsm := rsign_ct r5 semi.s (by rw [hl5]; exact hB1')
    have h1 := peekV h
    generalize (reat r5 5 semi.s).2 = r10 at hk2 hl9 hsm
    generalize (reat r3 5 eqS.s).2 = r6 at hsg hx
    generalize (reat (reat r 4 letS.s).2 1 .empty).2 = r7 at he hnc
    generalize (reat (reat r 4 letS.s).2 1 .empty).1 = c at he hk2
    generalize (reat r 4 letS.s).2 = r8 at hlet he
    generalize (reat r 4 letS.s).1 = t8 at hlet
    obtain ⟨l1, i1, en1, bd1, a1⟩ := r
    simp only at hb hi hB1 hl9 hl3 hl5
    subst hb
    have hlt : decide (((i1 : Nat) : Int) < ((l1.map tok).length : Int)) = true := decide_eq_true (by simp; omega)
    obtain ⟨k2, a2, s2, n2, ks2, as2⟩ := e
    have hlm := rlams_ct tl c.at_ (.mk k2 a2 s2 n2 ks2 as2) (by omega)
    generalize lamsP tl c.at_ (.mk k2 a2 s2 n2 ks2 as2) = res at hlm hk2
    obtain ⟨k6, a6, s6, n6, ks6, as6⟩ := res
    repeat ((with_reducible apply stepD); (· (conv => whnf); refine ⟨⟨rfl, rfl⟩, ?_⟩; (conv => whnf)))
    rw [hlt]
    repeat ((with_reducible apply stepD); (· (conv => whnf); refine ⟨⟨rfl, rfl⟩, ?_⟩; (conv => whnf)))
    apply endD; (· exact apart_of (by kernel_rfl))
    apply condT; (· (conv => whnf); try rfl)
    apply skipC
    apply blockC
    apply seqC
    apply seqC
    apply regL
    repeat ((with_reducible apply stepS); (· conv => whnf))
    apply stepS; (· (conv => whnf); refine ⟨_, _, h1, ?_⟩; (conv => whnf))
    repeat ((with_reducible apply stepS); (· conv => whnf))
    apply endS
    apply condF; (· (conv => whnf); try rfl)
    apply skipC
    apply seqC
    apply regL
    repeat ((with_reducible apply stepS); (· conv => whnf))
    apply stepS; (· (conv => whnf); refine ⟨_, _, hlet, ?_⟩; (conv => whnf))
    repeat ((with_reducible apply stepS); (· conv => whnf))
    apply endS; apply seqC; apply regL
    repeat ((with_reducible apply stepS); (· conv => whnf))
    apply stepS; (· (conv => whnf); refine ⟨_, _, he, ?_⟩; (conv => whnf))
    repeat ((with_reducible apply stepS); (· conv => whnf))
    apply endS; apply seqC; apply regL
    repeat ((with_reducible apply stepS); (· conv => whnf))
    apply stepS; (· (conv => whnf); refine ⟨_, _, hnc, ?_⟩; (conv => whnf))
    repeat ((with_reducible apply stepS); (· conv => whnf))
    apply endS; apply seqC; apply regL
    repeat ((with_reducible apply stepS); (· conv => whnf))
    apply stepS; (· (conv => whnf); refine ⟨_, _, hsg, ?_⟩; (conv => whnf))
    repeat ((with_reducible apply stepS); (· conv => whnf))
    apply endS
    apply seqC
    apply regDL
    repeat ((with_reducible apply stepD); (· (conv => whnf); refine ⟨⟨rfl, rfl⟩, ?_⟩; (conv => whnf)))
    apply stepD; (· (conv => whnf); refine ⟨_, _, hx, ?_⟩; (conv => whnf); refine ⟨⟨rfl, rfl⟩, ?_⟩; (conv => whnf))
    repeat ((with_reducible apply stepD); (· (conv => whnf); refine ⟨⟨rfl, rfl⟩, ?_⟩; (conv => whnf)))
    apply stepD; (· (conv => whnf); refine ⟨_, _, hlm, ?_⟩; (conv => whnf); refine ⟨⟨rfl, rfl⟩, ?_⟩; (conv => whnf))
    repeat ((with_reducible apply stepD); (· (conv => whnf); refine ⟨⟨rfl, rfl⟩, ?_⟩; (conv => whnf)))
    apply endD; (· exact apart_of (by kernel_rfl))
    apply seqC
    apply regL
    repeat ((with_reducible apply stepS); (· conv => whnf))
    apply stepS; (· (conv => whnf); refine ⟨_, _, hsm, ?_⟩; (conv => whnf))
    repeat ((with_reducible apply stepS); (· conv => whnf))
    apply endS
    apply regL
    repeat ((with_reducible apply stepS); (· conv => whnf))
    apply stepS; (· (conv => whnf); refine ⟨(by simp [lim]; omega), ?_⟩; (conv => whnf))
    repeat ((with_reducible apply stepS); (· conv => whnf))
    apply endS
    refine ⟨m, _, Nat.lt_succ_self m, wk [4, 2, 5] [2, 29, 5] [109, 136] [] [] [] rfl, _, _, hk2, by rw [hl9]; exact hB1, ?_, ?_, ?_⟩
    · simp
      omega
    · simp
      omega
    · simp only [List.map_append]
      rfl
end Go.Proofs.YtoapgongbackaaaDoor.V

/-! Q1: the reference's state beside the program's. -/
namespace Go.Proofs.YtoapgongbackaaaDoor.V
open Go Go.Proofs
set_option maxRecDepth 100000

structure Sim (r : RS) (s : PS) : Prop where
  toks : s.t :: s.r = r.l.drop r.i ++ [⟨0, r.end_, .empty, 0⟩]
  bad : s.bad = r.bad
  at_ : s.at_ = r.at_
def Query (x : Sg) : Prop := ((x.k = 1 ∨ x.k = 2 ∨ x.k = 3) ∧ x.s = .empty) ∨ ((x.k = 4 ∨ x.k = 5) ∧ x.s ≠ .empty)
theorem ofP_k (t : Tok) : (ofP t).k = t.k := by
  unfold ofP
  split
  · rfl
  · split <;> rfl
theorem drop_none {l : List Tok} {i : Nat} (h : l[i]? = none) : l.drop i = [] := List.drop_eq_nil_of_le (List.getElem?_eq_none_iff.1 h)
theorem drop_some {l : List Tok} {i : Nat} {t : Tok} (h : l[i]? = some t) : l.drop i = t :: l.drop (i + 1) := by
  obtain ⟨hi, rfl⟩ := List.getElem?_eq_some_iff.1 h
  exact List.drop_eq_getElem_cons hi
theorem Sim.cur {r : RS} {s : PS} (h : Sim r s) {t : Tok} (ht : r.l[r.i]? = some t) : s.t = t ∧ s.r = r.l.drop (r.i + 1) ++ [⟨0, r.end_, .empty, 0⟩] := by
  have := h.toks
  rw [drop_some ht] at this
  simpa using this
theorem Sim.fin {r : RS} {s : PS} (h : Sim r s) (ht : r.l[r.i]? = none) : s.t = ⟨0, r.end_, .empty, 0⟩ ∧ s.r = [] := by
  have := h.toks
  rw [drop_none ht] at this
  simpa using this
theorem Sim.peek {r : RS} {s : PS} (h : Sim r s) {x : Sg} (hq : Query x) : rpeek r x.k x.s = nextP s x := by
  unfold rpeek nextP
  rw [h.bad]
  cases hb : r.bad with
  | true => rfl
  | false =>
    simp only
    cases hg : r.l[r.i]? with
    | none =>
      have := (h.fin hg).1
      simp only
      rw [this]
      have hk : x.k ≠ 0 := by rcases hq with ⟨h, -⟩ | ⟨h, -⟩ <;> omega
      have : decide ((ofP ⟨0, r.end_, .empty, 0⟩).k = x.k) = false := decide_eq_false fun e => hk (by rw [ofP_k] at e; exact e.symm)
      rw [this]; rfl
    | some t =>
      have := (h.cur hg).1
      simp only
      rw [this]
      by_cases hk : t.k = x.k
      · have e1 : decide (t.k = x.k) = true := decide_eq_true hk
        have e2 : decide ((ofP t).k = x.k) = true := decide_eq_true (by rw [ofP_k]; exact hk)
        rw [e1, e2]
        rcases hq with ⟨hk2, hs⟩ | ⟨hk2, hs⟩
        · have : (ofP t).s = .empty := by unfold ofP; rw [if_neg (by omega), if_neg (by omega)]
          rw [this, hs]
          rfl
        · have : (ofP t).s = t.s := by
            unfold ofP
            rcases hk2 with h4 | h5
            · rw [if_pos (by omega)]
            · rw [if_neg (by omega), if_pos (by omega)]
          rw [this]
          simp [hs]
      · have e1 : decide (t.k = x.k) = false := decide_eq_false hk
        have e2 : decide ((ofP t).k = x.k) = false := decide_eq_false (by rw [ofP_k]; exact hk)
        rw [e1, e2]; rfl
theorem Sim.take {r : RS} {s : PS} (h : Sim r s) {t : Tok} (ht : r.l[r.i]? = some t) : Sim (rinc r) (takeP s) := by
  obtain ⟨h1, h2⟩ := h.cur ht
  unfold takeP
  cases hr : s.r with
  | nil => rw [hr] at h2; simp at h2
  | cons t' q => exact ⟨by rw [← hr, h2]; rfl, h.bad, h.at_⟩
theorem Sim.fail {r : RS} {s : PS} (h : Sim r s) : Sim (rfail r) (failP s) := by
  unfold rfail failP
  rw [h.bad]
  cases hb : r.bad with
  | true => exact h
  | false =>
    simp only
    cases hg : r.l[r.i]? with
    | none =>
      refine ⟨h.toks, rfl, ?_⟩
      simp [(h.fin hg).1]
    | some t =>
      refine ⟨h.toks, rfl, ?_⟩
      simp [(h.cur hg).1]
theorem Sim.eat {r : RS} {s : PS} (h : Sim r s) {x : Sg} (hq : Query x) : Sim (reat r x.k x.s).2 (needP s x).2 ∧ (reat r x.k x.s).1 = (needP s x).1 := by
  unfold reat needP
  have hp := h.peek hq
  rw [← hp]
  cases hb : rpeek r x.k x.s with
  | false => exact ⟨h.fail, rfl⟩
  | true =>
    obtain ⟨t, ht⟩ := rpeek_some hb
    exact ⟨h.take ht, by simp [List.getD, ht, (h.cur ht).1]⟩
theorem Sim.names : ∀ (q : List Tok) (t : Tok) (bad : Bool) (a : Int) (r : RS) (acc l : List Tok) (s' : PS), Sim r ⟨t, q, bad, a⟩ → namesL (fun t r => ⟨t, r, bad, a⟩) t q = some (l, s') →
    ∃ r', rnamesA (q.length + 1) acc r = some (acc ++ l, r') ∧ Sim r' s' ∧ r'.l = r.l ∧ l.length ≤ q.length
  | [], t, bad, a, r, acc, l, s', h, hn => by
    unfold namesL at hn
    have hp := h.peek (x := ⟨1, .empty⟩) (.inl ⟨.inl rfl, rfl⟩)
    simp only at hp
    split at hn
    · cases hn
    · rename_i hf
      cases hn
      rw [hf] at hp
      refine ⟨r, ?_, h, rfl, by simp⟩
      simp [rnamesA, hp]
  | t' :: q, t, bad, a, r, acc, l, s', h, hn => by
    unfold namesL at hn
    have hp := h.peek (x := ⟨1, .empty⟩) (.inl ⟨.inl rfl, rfl⟩)
    simp only at hp
    split at hn
    · rename_i hf
      rw [hf] at hp
      obtain ⟨t0, ht⟩ := rpeek_some hp
      have hcur := h.cur ht
      have htk := h.take ht
      rw [Option.map_eq_some_iff] at hn
      obtain ⟨⟨l1, s1⟩, h1, h2⟩ := hn
      simp only [Prod.mk.injEq] at h2
      obtain ⟨rfl, rfl⟩ := h2
      have hS : Sim (rinc r) ⟨t', q, bad, a⟩ := htk
      obtain ⟨r', k1, k2, k3, k4⟩ := Sim.names q t' bad a (rinc r) (acc ++ [t]) l1 s1 hS h1
      refine ⟨r', ?_, k2, k3, by simp; omega⟩
      show rnamesA (q.length + 1 + 1) acc r = _
      unfold rnamesA
      rw [hp]
      simp only
      have e1 : (reat r 1 .empty).1 = t := by simp [reat, hp, List.getD, ht, hcur.1.symm]
      have e2 : (reat r 1 .empty).2 = rinc r := by simp [reat, hp, rinc]
      rw [e1, e2, k1, List.append_assoc]
      rfl
    · rename_i hf
      cases hn
      rw [hf] at hp
      refine ⟨r, ?_, h, rfl, by simp⟩
      show rnamesA (q.length + 1 + 1) acc r = _
      simp [rnamesA, hp]
theorem Sim.namesG {r : RS} {s s' : PS} {l : List Tok} (h : Sim r s) (hB : r.l.length ≤ 65536) (hn : namesG s = some (l, s')) : ∃ k r', k ≤ 65537 ∧ rnamesA k [] r = some (l, r') ∧ Sim r' s' ∧ r'.l = r.l ∧ l.length ≤ 65537 := by
  unfold V.namesG at hn
  split at hn
  · cases hn
  · rename_i l1 s1 h1
    split at hn
    · cases hn
      obtain ⟨t, q, bad, a⟩ := s
      have hq : q.length ≤ 65536 := by
        have := congrArg List.length h.toks
        simp at this
        omega
      obtain ⟨r', k1, k2, k3, k4⟩ := Sim.names q t bad a r [] l s' h h1
      exact ⟨q.length + 1, r', by omega, by simpa using k1, k2, k3, by omega⟩
    · cases hn
theorem Sim.end_ {r : RS} {s : PS} (h : Sim r s) (hl : r.l.length ≤ r.i) : s.t = ⟨0, r.end_, .empty, 0⟩ := (h.fin (List.getElem?_eq_none_iff.2 hl)).1
end Go.Proofs.YtoapgongbackaaaDoor.V

/-! Q2: what is bad stays bad. -/
namespace Go.Proofs.YtoapgongbackaaaDoor.V
open Go Go.Proofs
set_option maxRecDepth 100000

theorem takeP_bad (s : PS) : (takeP s).bad = s.bad := by unfold takeP; split <;> rfl
theorem failP_bad (s : PS) : (failP s).bad = true := by
  unfold failP
  split
  · assumption
  · rfl
theorem nextP_bad {s : PS} (h : s.bad = true) (x : Sg) : nextP s x = false := by unfold nextP; rw [h]
theorem needP_bad {s : PS} (h : s.bad = true) (x : Sg) : (needP s x).2.bad = true := by
  unfold needP
  rw [nextP_bad h]
  exact failP_bad s
theorem skipP_bad {s : PS} (h : s.bad = true) (x : Sg) : (skipP s x).2.bad = true := by
  unfold skipP
  rw [nextP_bad h]
  exact h
theorem moreP_bad {s : PS} (h : s.bad = true) (n : Int) : (moreP s n).2.bad = true := by
  unfold moreP
  split
  · split
    · exact skipP_bad (failP_bad s) _
    · exact skipP_bad h _
  · exact skipP_bad h _
theorem namesL_bad : ∀ (q : List Tok) (t : Tok) (bad : Bool) (a : Int) (l : List Tok) (s' : PS), namesL (fun t r => ⟨t, r, bad, a⟩) t q = some (l, s') → s'.bad = bad
  | [], t, bad, a, l, s', h => by
    unfold namesL at h
    split at h
    · cases h
    · cases h; rfl
  | t' :: q, t, bad, a, l, s', h => by
    unfold namesL at h
    split at h
    · rw [Option.map_eq_some_iff] at h
      obtain ⟨⟨l1, s1⟩, h1, h2⟩ := h
      cases h2
      exact namesL_bad q t' bad a l1 _ h1
    · cases h; rfl
theorem namesG_bad {s s' : PS} {l : List Tok} (h : namesG s = some (l, s')) : s'.bad = s.bad := by
  unfold namesG at h
  split at h
  · cases h
  · rename_i l1 s1 h1
    split at h
    · cases h; exact namesL_bad _ _ _ _ _ _ h1
    · cases h
structure BadE (k : Nat) : Prop where
  e : ∀ s e s', exprP k s = some (e, s') → s.bad = true → s'.bad = true
  c : ∀ b acc s l s', altsP k b acc s = some (l, s') → s.bad = true → s'.bad = true
  p : ∀ e0 s e s', appP k e0 s = some (e, s') → s.bad = true → s'.bad = true
  b : ∀ t s e s', boundP k t s = some (e, s') → s.bad = true → s'.bad = true
  a : ∀ s e s', atomP k s = some (e, s') → s.bad = true → s'.bad = true
  l : ∀ acc s l s', kidsE k acc s = some (l, s') → s.bad = true → s'.bad = true
theorem badE : ∀ k, BadE k
  | 0 => ⟨fun _ _ _ h => by simp [exprP] at h, fun _ _ _ _ _ h => by simp [altsP] at h, fun _ _ _ _ h => by simp [appP] at h, fun _ _ _ _ h => by simp [boundP] at h, fun _ _ _ h => by simp [atomP] at h, fun _ _ _ _ h => by simp [kidsE] at h⟩
  | k + 1 => by
    have ih := badE k
    refine ⟨fun s e s' h hb => ?_, fun b acc s l s' h hb => ?_, fun e0 s e s' h hb => ?_, fun t s e s' h hb => ?_, fun s e s' h hb => ?_, fun acc s l s' h hb => ?_⟩
    · unfold exprP at h
      rw [hb] at h
      cases h; exact hb
    · unfold altsP at h
      cases b with
      | false => cases h; exact hb
      | true =>
        simp only at h
        split at h
        · cases h
        · rename_i l1 s1 h1
          split at h
          · cases h
          · rename_i b s2 h2
            exact ih.c _ _ _ _ _ h (skipP_bad (ih.e _ _ _ h2 (needP_bad ((namesG_bad h1).trans (needP_bad hb _)) _)) _)
    · unfold appP at h
      have : beginsP s = false := by unfold beginsP; rw [hb]
      rw [this] at h
      cases h; exact hb
    · unfold boundP at h
      split at h
      · cases h
      · rename_i l1 s1 h1
        split at h
        · cases h
        · rename_i b s2 h2
          cases h
          exact ih.e _ _ _ h2 (needP_bad ((namesG_bad h1).trans hb) _)
    · unfold atomP at h
      have : beginsP s = false := by unfold beginsP; rw [hb]
      rw [this] at h
      cases h; exact failP_bad s
    · unfold kidsE at h
      split at h
      · cases h; exact moreP_bad hb _
      · split at h
        · cases h
        · rename_i t1 s2 h1
          exact ih.l _ _ _ _ h (ih.e _ _ _ h1 (moreP_bad hb _))
theorem not_bad {s s' : PS} (h : s.bad = true → s'.bad = true) (k : s'.bad = false) : s.bad = false := by
  cases hb : s.bad with
  | false => rfl
  | true => rw [h hb] at k; cases k
end Go.Proofs.YtoapgongbackaaaDoor.V

/-! Q3: the reference's expr gives what the program's gives. -/
namespace Go.Proofs.YtoapgongbackaaaDoor.V
open Go Go.Proofs
set_option maxRecDepth 100000

theorem ne_empty (l : List UInt8) (h : l ≠ []) : (⟨l.toArray⟩ : ByteArray) ≠ .empty := fun e => h (by
  have := congrArg (fun b : ByteArray => b.data.toList) e
  simpa using this)
theorem q_name : Query nameS := .inl ⟨.inl rfl, rfl⟩
theorem q_con : Query conS := .inl ⟨.inr (.inl rfl), rfl⟩
theorem q_int : Query intS := .inl ⟨.inr (.inr rfl), rfl⟩
theorem q_word (l : List UInt8) (h : l ≠ []) : Query ⟨4, ⟨l.toArray⟩⟩ := .inr ⟨.inl rfl, ne_empty l h⟩
theorem q_sign (l : List UInt8) (h : l ≠ []) : Query ⟨5, ⟨l.toArray⟩⟩ := .inr ⟨.inr rfl, ne_empty l h⟩
theorem q_true : Query trueS := q_word [116, 114, 117, 101] (by simp)
theorem q_false : Query falseS := q_word [102, 97, 108, 115, 101] (by simp)
theorem q_lpar : Query lpar := q_sign [40] (by simp)
theorem q_rpar : Query rpar := q_sign [41] (by simp)
theorem q_comma : Query comma := q_sign [44] (by simp)
theorem q_arrow : Query arrow := q_sign [45, 62] (by simp)
theorem q_lam : Query lamS := q_sign [92] (by simp)
theorem q_eq : Query eqS := q_sign [61] (by simp)
theorem q_semi : Query semi := q_sign [59] (by simp)
theorem q_bar : Query barS := q_sign [124] (by simp)
theorem q_lbrace : Query lbrace := q_sign [123] (by simp)
theorem q_rbrace : Query rbrace := q_sign [125] (by simp)
theorem q_let : Query letS := q_word [108, 101, 116] (by simp)
theorem q_data : Query dataS := q_word [100, 97, 116, 97] (by simp)
theorem q_in : Query inS := q_word [105, 110] (by simp)
theorem q_if : Query ifS := q_word [105, 102] (by simp)
theorem q_then : Query thenS := q_word [116, 104, 101, 110] (by simp)
theorem q_else : Query elseS := q_word [101, 108, 115, 101] (by simp)
theorem q_case : Query caseS := q_word [99, 97, 115, 101] (by simp)
theorem q_of : Query ofS := q_word [111, 102] (by simp)

theorem Sim.atomic {r : RS} {s : PS} (h : Sim r s) : ratomic r = beginsP s := by
  have e : ∀ x, s.bad = false → nextP s x = isS s.t x := fun x hb => by unfold nextP isS; rw [hb]
  unfold ratomic beginsP
  cases hb : s.bad with
  | true =>
    have hr : r.bad = true := by rw [← h.bad]; exact hb
    have : ∀ k x, rpeek r k x = false := fun k x => by unfold rpeek; rw [hr]
    simp [this]
  | false =>
    simp only
    rw [← e _ hb, ← e _ hb, ← e _ hb, ← e _ hb, ← e _ hb, ← e _ hb, ← h.peek q_name, ← h.peek q_con, ← h.peek q_int, ← h.peek q_true, ← h.peek q_false, ← h.peek q_lpar]
    rfl
theorem rfail_id {r : RS} (h : r.bad = true) : rfail r = r := by unfold rfail; rw [h]
theorem atomP_no {k : Nat} {s s' : PS} {e : Exp} (hb : beginsP s = false) (h : atomP k s = some (e, s')) : e = noExp ∧ s' = failP s := by
  cases k with
  | zero => simp [atomP] at h
  | succ k =>
    unfold atomP at h
    rw [hb] at h
    simp only [Option.some.injEq, Prod.mk.injEq] at h
    exact ⟨h.1.symm, h.2.symm⟩
theorem appP_no {k : Nat} {s s' : PS} {e0 e : Exp} (hb : beginsP s = false) (h : appP k e0 s = some (e, s')) : e = e0 ∧ s' = s := by
  cases k with
  | zero => simp [appP] at h
  | succ k =>
    unfold appP at h
    rw [hb] at h
    simp only [Option.some.injEq, Prod.mk.injEq] at h
    exact ⟨h.1.symm, h.2.symm⟩
theorem begins_bad {s : PS} (h : s.bad = true) : beginsP s = false := by unfold beginsP; rw [h]
structure SimE (k : Nat) : Prop where
  e : ∀ {s : PS} {e : Exp} {s' : PS} {r : RS}, exprP k s = some (e, s') → Sim r s → r.l.length ≤ 65536 → ∃ e' r', Ct 34 [rstA r] [.val (.agg (exC e'))] [rst r'] ∧ r'.l = r.l ∧ Sim r' s' ∧ (s'.bad = false → e' = e)
  a : ∀ {s : PS} {e : Exp} {s' : PS} {r : RS}, atomP k s = some (e, s') → Sim r s → r.l.length ≤ 65536 → ∃ e' r', Ct 66 [rstA r] [.val (.agg (exC e'))] [rst r'] ∧ r'.l = r.l ∧ Sim r' s' ∧ (s'.bad = false → e' = e)
  c : ∀ {acc acc' : List Alt} {s : PS} {l : List Alt} {s' : PS} {r : RS}, altsP k true acc s = some (l, s') → Sim r s → r.l.length ≤ 65536 →
    ∃ x r1 l' r2 n, Ct 65 [rstA r] [.val (.agg (altC x))] [rst r1] ∧ r1.l = r.l ∧ RAlt n r1 (acc' ++ [x]) l' r2 ∧ n ≤ k ∧ Sim r2 s' ∧ (s'.bad = false → acc' = acc → l' = l)
  p : ∀ {e0 e0' : Exp} {s : PS} {e : Exp} {s' : PS} {r : RS}, appP k e0 s = some (e, s') → Sim r s → r.l.length ≤ 65536 → ∃ e' r' n, RApp n r e0' e' r' ∧ Sim r' s' ∧ (s'.bad = false → e0' = e0 → e' = e)
  l : ∀ {acc acc' : List Exp} {s : PS} {l : List Exp} {s' : PS} {r : RS}, kidsE k acc s = some (l, s') → Sim r s → r.l.length ≤ 65536 → acc'.length = acc.length → acc.length ≤ 8 →
    ∃ o r' n, RKid n r acc' o r' ∧ Sim r' s' ∧ ((o = none ∧ s'.bad = true) ∨ ∃ l', o = some l' ∧ (s'.bad = false → acc' = acc → l' = l))

theorem isS_k {t : Tok} {x : Sg} (h : isS t x = true) : t.k = x.k := by
  simp only [isS, Bool.and_eq_true, decide_eq_true_eq] at h
  rw [← ofP_k]; exact h.1
theorem isS_s {t : Tok} {x : Sg} (h : isS t x = true) (h4 : x.k = 4) : t.s = x.s := by
  have hk := isS_k h
  simp only [isS, Bool.and_eq_true, decide_eq_true_eq] at h
  have : (ofP t).s = t.s := by unfold ofP; rw [if_pos (by omega)]
  rw [← this]; exact h.2
theorem tup_eq {a : Int} {l : List Exp} {s2 : PS} {e' : Exp} {s' : PS} (h : (match l with
    | [e] => some (e, (needP s2 rpar).2)
    | l => some (Exp.mk 8 a .empty 0 l [], (needP s2 rpar).2)) = some (e', s')) : s' = (needP s2 rpar).2 ∧ e' = rtup a l := by
  split at h
  · simp only [Option.some.injEq, Prod.mk.injEq] at h
    exact ⟨h.2.symm, h.1.symm⟩
  · rename_i l hne
    simp only [Option.some.injEq, Prod.mk.injEq] at h
    refine ⟨h.2.symm, ?_⟩
    rw [← h.1]
    unfold rtup
    split
    · rename_i e; exact absurd rfl (hne e)
    · rfl
theorem sim_atom {k : Nat} (ih : SimE k) {s : PS} {e : Exp} {s' : PS} {r : RS} (h : atomP (k + 1) s = some (e, s')) (hS : Sim r s) (hB : r.l.length ≤ 65536) : ∃ e' r', Ct 66 [rstA r] [.val (.agg (exC e'))] [rst r'] ∧ r'.l = r.l ∧ Sim r' s' ∧ (s'.bad = false → e' = e) := by
  cases hb : beginsP s with
  | false =>
    obtain ⟨rfl, rfl⟩ := atomP_no hb h
    exact ⟨noExp, rfail r, ratom_no r (hS.atomic.trans hb), rfail_l r, hS.fail, fun _ => rfl⟩
  | true =>
    have hat : ratomic r = true := hS.atomic.trans hb
    have hrb : r.bad = false := ratomic_bad hat
    have hsb : s.bad = false := hS.bad.trans hrb
    obtain ⟨t, ht⟩ : ∃ t, r.l[r.i]? = some t := by
      cases hg : r.l[r.i]? with
      | some t => exact ⟨t, rfl⟩
      | none =>
        have : ∀ k x, rpeek r k x = false := fun k x => by unfold rpeek; rw [hrb, hg]
        simp [ratomic, this] at hat
    have hcur := (hS.cur ht).1
    have hB' : r.l.length ≤ 4294967296 := by omega
    have one : ∀ e', RAtomP r t e' (rinc r) → s' = takeP s → e' = e → ∃ e' r', Ct 66 [rstA r] [.val (.agg (exC e'))] [rst r'] ∧ r'.l = r.l ∧ Sim r' s' ∧ (s'.bad = false → e' = e) := fun e' hp hs he =>
      ⟨e', rinc r, ratom_one hB' hp, rfl, hs ▸ hS.take ht, fun _ => he⟩
    unfold atomP at h
    rw [hb] at h
    simp only at h
    rw [hcur] at h
    split at h
    · rename_i h1
      cases h
      exact one _ ⟨ht, hat, .inl ⟨isS_k h1, rfl, rfl⟩⟩ rfl rfl
    · rename_i n1
      split at h
      · rename_i h1
        cases h
        exact one _ ⟨ht, hat, .inr (.inl ⟨isS_k h1, rfl, rfl⟩)⟩ rfl rfl
      · rename_i n2
        split at h
        · rename_i h1
          cases h
          exact one _ ⟨ht, hat, .inr (.inr (.inl ⟨isS_k h1, rfl, rfl⟩))⟩ rfl rfl
        · rename_i n3
          split at h
          · rename_i h1
            cases h
            refine one _ ⟨ht, hat, .inr (.inr (.inr ⟨isS_k h1, rfl, rfl⟩))⟩ rfl ?_
            rw [boolE, if_pos (isS_s h1 rfl)]
          · rename_i n4
            split at h
            · rename_i h1
              cases h
              refine one _ ⟨ht, hat, .inr (.inr (.inr ⟨isS_k h1, rfl, rfl⟩))⟩ rfl ?_
              rw [boolE, if_neg]
              rw [isS_s h1 rfl]
              decide
            · rename_i n5
              -- a bracket
              have hl : isS t lpar = true := by
                unfold beginsP at hb
                rw [hsb, hcur, n1, n2, n3, n4, n5] at hb
                simpa using hb
              have hk5 : t.k = 5 := isS_k hl
              split at h
              · cases h
              · rename_i e1 s1 h1
                obtain ⟨e1', r1, c1, l1, S1, q1⟩ := ih.e h1 (hS.take ht) hB
                split at h
                · cases h
                · rename_i l s2 h2
                  obtain ⟨rfl, rfl⟩ := tup_eq h
                  obtain ⟨o, r2, n, c2, S2, q2⟩ := ih.l (acc' := [e1']) h2 S1 (by rw [l1]; exact hB) rfl (by simp)
                  have hw := ratom_tup hB' ht hat (decide_eq_false (by omega)) (decide_eq_false (by omega)) (decide_eq_false (by omega)) (decide_eq_false (by omega)) c1 l1 c2
                  have hl2 : r2.l = r.l := c2.len.trans l1
                  rcases q2 with ⟨rfl, hbad⟩ | ⟨l', rfl, q2⟩
                  · refine ⟨noExp, r2, hw, hl2, ?_, fun hn => ?_⟩
                    · have e1 : (needP s2 rpar).2 = s2 := by
                        unfold needP
                        rw [nextP_bad hbad]
                        simp [failP, hbad]
                      rw [e1]; exact S2
                    · rw [needP_bad hbad] at hn; cases hn
                  · refine ⟨rtup t.at_ l', (reat r2 5 rpar.s).2, hw, (reat_l _ _ _).trans hl2, (S2.eat q_rpar).1, fun hn => ?_⟩
                    have b2 : s2.bad = false := not_bad (fun h => needP_bad h rpar) hn
                    have b1 : s1.bad = false := not_bad (fun h => (badE k).l _ _ _ _ h2 h) b2
                    rw [q2 b2 (by rw [q1 b1])]
end Go.Proofs.YtoapgongbackaaaDoor.V

/-! Q4: the reference's expr gives what the program's gives: the whole. -/
namespace Go.Proofs.YtoapgongbackaaaDoor.V
open Go Go.Proofs
set_option maxRecDepth 100000

theorem more_no {s : PS} (h : nextP s comma = false) (n : Int) : moreP s n = (false, s) := by
  unfold moreP
  have : skipP s comma = (false, s) := by unfold skipP; rw [h]
  split
  · rw [h]; exact this
  · exact this
theorem more_full {s : PS} (h : nextP s comma = true) {n : Int} (hn : 8 ≤ n) : moreP s n = (false, failP s) := by
  unfold moreP
  rw [decide_eq_true hn]
  simp only
  rw [h]
  simp only
  unfold skipP
  rw [nextP_bad (failP_bad s)]
theorem more_yes {s : PS} (h : nextP s comma = true) {n : Int} (hn : n < 8) : moreP s n = (true, takeP s) := by
  unfold moreP
  rw [decide_eq_false (by omega)]
  simp only
  unfold skipP
  rw [h]
theorem sim_kids {k : Nat} (ih : SimE k) {acc acc' : List Exp} {s : PS} {l : List Exp} {s' : PS} {r : RS} (h : kidsE (k + 1) acc s = some (l, s')) (hS : Sim r s) (hB : r.l.length ≤ 65536) (hl : acc'.length = acc.length) (h8 : acc.length ≤ 8) :
    ∃ o r' n, RKid n r acc' o r' ∧ Sim r' s' ∧ ((o = none ∧ s'.bad = true) ∨ ∃ l', o = some l' ∧ (s'.bad = false → acc' = acc → l' = l)) := by
  unfold kidsE at h
  have hp := hS.peek q_comma
  cases hc : nextP s comma with
  | false =>
    rw [more_no hc] at h
    cases h
    rw [hc] at hp
    exact ⟨some acc', r, 0, .stop hp, hS, .inr ⟨acc', rfl, fun _ e => e⟩⟩
  | true =>
    rw [hc] at hp
    by_cases h9 : acc.length = 8
    · rw [more_full hc (by omega)] at h
      cases h
      exact ⟨none, rfail r, 0, .full hp (by omega), hS.fail, .inl ⟨rfl, failP_bad s⟩⟩
    · rw [more_yes hc (by omega)] at h
      simp only at h
      obtain ⟨t, ht⟩ := rpeek_some hp
      split at h
      · cases h
      · rename_i e1 s1 h1
        obtain ⟨e1', r1, c1, l1, S1, q1⟩ := ih.e h1 (hS.take ht) hB
        obtain ⟨o, r', n, c2, S2, q2⟩ := ih.l (acc' := acc' ++ [e1']) h S1 (by rw [l1]; exact hB) (by simp [hl]) (by simp; omega)
        refine ⟨o, r', n + 1, .step hp (by omega) c1 l1 c2, S2, ?_⟩
        rcases q2 with q2 | ⟨l', e, q2⟩
        · exact .inl q2
        · refine .inr ⟨l', e, fun hb ha => q2 hb ?_⟩
          have b1 : s1.bad = false := not_bad (fun h9 => (badE k).l _ _ _ _ h h9) hb
          rw [ha, q1 b1]
theorem sim_app {k : Nat} (ih : SimE k) {e0 e0' : Exp} {s : PS} {e : Exp} {s' : PS} {r : RS} (h : appP (k + 1) e0 s = some (e, s')) (hS : Sim r s) (hB : r.l.length ≤ 65536) : ∃ e' r' n, RApp n r e0' e' r' ∧ Sim r' s' ∧ (s'.bad = false → e0' = e0 → e' = e) := by
  cases hb : beginsP s with
  | false =>
    obtain ⟨rfl, rfl⟩ := appP_no hb h
    exact ⟨e0', r, 0, .stop (hS.atomic.trans hb), hS, fun _ e => e⟩
  | true =>
    unfold appP at h
    rw [hb] at h
    simp only at h
    split at h
    · cases h
    · rename_i a s1 h1
      obtain ⟨a', r1, c1, l1, S1, q1⟩ := ih.a h1 hS hB
      obtain ⟨e', r', n, c2, S2, q2⟩ := ih.p (e0' := .mk 5 e0'.at_ .empty 0 [e0', a'] []) h S1 (by rw [l1]; exact hB)
      refine ⟨e', r', n + 1, .step (hS.atomic.trans hb) c1 l1 c2, S2, fun hb2 he => q2 hb2 ?_⟩
      have b1 : s1.bad = false := not_bad (fun h9 => (badE k).p _ _ _ _ h h9) hb2
      rw [he, q1 b1]
theorem sim_alts {k : Nat} (ih : SimE k) {acc acc' : List Alt} {s : PS} {l : List Alt} {s' : PS} {r : RS} (h : altsP (k + 1) true acc s = some (l, s')) (hS : Sim r s) (hB : r.l.length ≤ 65536) :
    ∃ x r1 l' r2 n, Ct 65 [rstA r] [.val (.agg (altC x))] [rst r1] ∧ r1.l = r.l ∧ RAlt n r1 (acc' ++ [x]) l' r2 ∧ n ≤ k + 1 ∧ Sim r2 s' ∧ (s'.bad = false → acc' = acc → l' = l) := by
  unfold altsP at h
  split at h
  · cases h
  · rename_i nl s1 h1
    split at h
    · cases h
    · rename_i b s2 h2
      obtain ⟨S1, e1⟩ := hS.eat q_con
      obtain ⟨kn, r2, hkn, hn, S2, l2, hnl⟩ := S1.namesG (by rw [reat_l]; exact hB) h1
      rw [reat_l] at l2
      obtain ⟨S3, -⟩ := S2.eat q_arrow
      obtain ⟨b', r4, c4, l4, S4, q4⟩ := ih.e h2 S3 (by rw [reat_l, l2]; exact hB)
      have hw := ralt_ct (by omega) (by omega) hn l2 (by omega) c4
      have l5 : r4.l = r.l := by rw [l4, reat_l, l2]
      have hx : s2.bad = false → Alt.mk (reat r 2 .empty).1.at_ (reat r 2 .empty).1.s (nl.map (·.s)) b' = .mk (needP s conS).1.at_ (needP s conS).1.s (nl.map (·.s)) b := fun hb => by
        rw [q4 hb]
        have e1 : (reat r 2 .empty).1 = (needP s conS).1 := e1
        rw [e1]
      have hp := S4.peek q_semi
      cases hc : nextP s2 semi with
      | false =>
        rw [hc] at hp
        have hsk : skipP s2 semi = (false, s2) := by unfold skipP; rw [hc]
        rw [hsk] at h
        simp only at h
        cases k with
        | zero => simp [altsP] at h
        | succ k =>
          unfold altsP at h
          cases h
          exact ⟨_, r4, _, r4, 0, hw, l5, .stop hp, by omega, S4, fun hb ha => by rw [ha, hx hb]⟩
      | true =>
        rw [hc] at hp
        have hsk : skipP s2 semi = (true, takeP s2) := by unfold skipP; rw [hc]
        rw [hsk] at h
        simp only at h
        obtain ⟨t, ht⟩ := rpeek_some hp
        obtain ⟨x2, r6, l', r7, n, c6, l6, c7, hn7, S7, q7⟩ := ih.c (acc' := acc' ++ [Alt.mk (reat r 2 .empty).1.at_ (reat r 2 .empty).1.s (nl.map (·.s)) b']) h (S4.take ht) (by show r4.l.length ≤ 65536; rw [l5]; exact hB)
        refine ⟨_, r4, l', r7, n + 1, hw, l5, .step hp c6 l6 c7, by omega, S7, fun hb ha => q7 hb ?_⟩
        have b2 : s2.bad = false := by
          have : (takeP s2).bad = false := not_bad (fun h9 => (badE k).c _ _ _ _ _ h h9) hb
          rw [takeP_bad] at this
          exact this
        rw [ha, hx b2]
theorem alt_bad {r : RS} (hb : r.bad = true) (hB : r.l.length ≤ 65536) : ∃ x, Ct 65 [rstA r] [.val (.agg (altC x))] [rst r] := by
  have hpk : ∀ k x, rpeek r k x = false := fun k x => by unfold rpeek; rw [hb]
  have he : ∀ k x, reat r k x = (noTok, r) := fun k x => by unfold reat; rw [hpk, rfail_id hb]
  have hn : rnamesA 1 [] (reat r 2 .empty).2 = some ([], r) := by rw [he]; simp [rnamesA, hpk]
  have hx : Ct 34 [rstA (reat r 5 arrow.s).2] [.val (.agg (exC noExp))] [rst r] := by
    rw [he]
    have := rexpr_bad r hb
    rwa [rfail_id hb] at this
  exact ⟨_, ralt_ct (by omega) (by omega) hn rfl (by simp) hx⟩
end Go.Proofs.YtoapgongbackaaaDoor.V

/-! Q5: the reference's expr beside the program's: the induction. -/
namespace Go.Proofs.YtoapgongbackaaaDoor.V
open Go Go.Proofs
set_option maxRecDepth 100000

theorem sim_expr {k : Nat} (ih : SimE k) (ihb : ∀ j, k = j + 1 → SimE j) (hk : k ≤ 4294967296) {s : PS} {e : Exp} {s' : PS} {r : RS} (h : exprP (k + 1) s = some (e, s')) (hS : Sim r s) (hB : r.l.length ≤ 65536) : ∃ e' r', Ct 34 [rstA r] [.val (.agg (exC e'))] [rst r'] ∧ r'.l = r.l ∧ Sim r' s' ∧ (s'.bad = false → e' = e) := by
  have hB' : r.l.length ≤ 4294967296 := by omega
  unfold exprP at h
  cases hb : s.bad with
  | true =>
    rw [hb] at h
    cases h
    have hr : r.bad = true := by rw [← hS.bad]; exact hb
    refine ⟨noExp, rfail r, rexpr_bad r hr, rfail_l r, ?_, fun _ => rfl⟩
    rw [rfail_id hr]; exact hS
  | false =>
    rw [hb] at h
    simp only at h
    have hr : r.bad = false := by rw [← hS.bad]; exact hb
    have p1 := hS.peek q_lam
    have p2 := hS.peek q_let
    have p3 := hS.peek q_if
    have p4 := hS.peek q_case
    cases hg : r.l[r.i]? with
    | none =>
      have hno : ∀ k x, rpeek r k x = false := fun k x => by unfold rpeek; rw [hr, hg]
      rw [hno] at p1 p2 p3 p4
      rw [← p1, ← p2, ← p3, ← p4] at h
      simp only at h
      have hbg : beginsP s = false := by rw [← hS.atomic]; simp [ratomic, hno]
      split at h
      · cases h
      · rename_i e1 s1 h1
        obtain ⟨rfl, rfl⟩ := atomP_no hbg h1
        obtain ⟨rfl, rfl⟩ := appP_no (begins_bad (failP_bad s)) h
        exact ⟨noExp, rfail r, rexpr_end r hr (List.getElem?_eq_none_iff.1 hg), rfail_l r, hS.fail, fun _ => rfl⟩
    | some t =>
      have hcur := (hS.cur hg).1
      have hT := hS.take hg
      have hBi : (rinc r).l.length ≤ 65536 := hB
      rw [hcur] at h
      cases h1 : nextP s lamS with
      | true =>
        rw [h1] at h p1
        simp only at h
        obtain ⟨S1, e1⟩ := hT.eat q_name
        split at h
        · cases h
        · rename_i nl s3 hn
          obtain ⟨kn, r3, hkn, hn2, S3, l3, hnl⟩ := S1.namesG (by rw [reat_l]; exact hB) hn
          rw [reat_l] at l3
          obtain ⟨S4, -⟩ := S3.eat q_arrow
          split at h
          · cases h
          · rename_i b s4 hx
            cases h
            obtain ⟨b', r5, c5, l5, S5, q5⟩ := ih.e hx S4 (by rw [reat_l, l3]; exact hB)
            refine ⟨_, r5, rexpr_lam hB' hr hg p1 (by omega) hn2 l3 (by omega) c5, by rw [l5, reat_l, l3]; rfl, S5, fun hn => ?_⟩
            have e1 : (reat (rinc r) 1 .empty).1 = (needP (takeP s) nameS).1 := e1
            rw [q5 hn, e1]
      | false =>
        rw [h1] at h p1
        simp only at h
        cases h2 : nextP s letS with
        | true =>
          rw [h2] at h p2
          simp only at h
          obtain ⟨S1, e1⟩ := hT.eat q_name
          split at h
          · cases h
          · rename_i a s2 ha
            cases k with
            | zero => simp [boundP] at ha
            | succ j =>
              unfold boundP at ha
              split at ha
              · cases ha
              · rename_i nl s3 hn
                obtain ⟨kn, r3, hkn, hn2, S3, l3, hnl⟩ := S1.namesG (by rw [reat_l]; exact hB) hn
                rw [reat_l] at l3
                obtain ⟨S4, -⟩ := S3.eat q_eq
                split at ha
                · cases ha
                · rename_i d s4 hd
                  cases ha
                  obtain ⟨d', r5, c5, l5, S5, q5⟩ := (ihb j rfl).e hd S4 (by rw [reat_l, l3]; exact hB)
                  rw [reat_l, l3] at l5
                  obtain ⟨S6, -⟩ := S5.eat q_in
                  split at h
                  · cases h
                  · rename_i b s6 hbx
                    cases h
                    obtain ⟨b', r7, c7, l7, S7, q7⟩ := ih.e hbx S6 (by rw [reat_l, l5]; exact hB)
                    refine ⟨_, r7, rexpr_let hB' hr hg p1 p2 (by omega) hn2 l3 (by omega) c5 l5 c7, by rw [l7, reat_l, l5]; rfl, S7, fun hn => ?_⟩
                    have e1 : (reat (rinc r) 1 .empty).1 = (needP (takeP s) nameS).1 := e1
                    have b2 : s2.bad = false := by
                      have := not_bad (fun h9 => (badE (j + 1)).e _ _ _ hbx h9) hn
                      exact not_bad (fun h9 => needP_bad h9 inS) this
                    rw [q7 hn, q5 b2, e1]
        | false =>
          rw [h2] at h p2
          simp only at h
          cases h3 : nextP s ifS with
          | true =>
            rw [h3] at h p3
            simp only at h
            split at h
            · cases h
            · rename_i x s1 hx
              obtain ⟨x', r1, c1, l1, S1, q1⟩ := ih.e hx hT hBi
              obtain ⟨S2, -⟩ := S1.eat q_then
              split at h
              · cases h
              · rename_i y s2 hy
                obtain ⟨y', r3, c3, l3, S3, q3⟩ := ih.e hy S2 (by rw [reat_l, l1]; exact hB)
                rw [reat_l, l1] at l3
                obtain ⟨S4, -⟩ := S3.eat q_else
                split at h
                · cases h
                · rename_i z s3 hz
                  cases h
                  obtain ⟨z', r5, c5, l5, S5, q5⟩ := ih.e hz S4 (by rw [reat_l, l3]; exact hB)
                  refine ⟨_, r5, rexpr_if hB' hr hg p1 p2 p3 c1 l1 c3 l3 c5, by rw [l5, reat_l, l3]; rfl, S5, fun hn => ?_⟩
                  have b2 : s2.bad = false := not_bad (fun h9 => needP_bad h9 elseS) (not_bad (fun h9 => (badE k).e _ _ _ hz h9) hn)
                  have b1 : s1.bad = false := not_bad (fun h9 => needP_bad h9 thenS) (not_bad (fun h9 => (badE k).e _ _ _ hy h9) b2)
                  rw [q5 hn, q3 b2, q1 b1]
          | false =>
            rw [h3] at h p3
            simp only at h
            cases h4 : nextP s caseS with
            | true =>
              rw [h4] at h p4
              simp only at h
              split at h
              · cases h
              · rename_i x s1 hx
                obtain ⟨x', r1, c1, l1, S1, q1⟩ := ih.e hx hT hBi
                obtain ⟨S2, -⟩ := S1.eat q_of
                obtain ⟨S3, -⟩ := S2.eat q_lbrace
                have l1' : r1.l = r.l := l1
                have hB3 : (reat (reat r1 4 ofS.s).2 5 lbrace.s).2.l.length ≤ 65536 := by rw [reat_l, reat_l, l1']; exact hB
                split at h
                · cases h
                · rename_i ls s2 hl
                  cases h
                  cases hb3 : (needP (needP s1 ofS).2 lbrace).2.bad with
                  | true =>
                    rw [hb3] at hl
                    cases k with
                    | zero => simp [altsP] at hl
                    | succ j =>
                      unfold altsP at hl
                      cases hl
                      have hrb : (reat (reat r1 4 ofS.s).2 5 lbrace.s).2.bad = true := S3.bad.symm.trans hb3
                      obtain ⟨x0, c0⟩ := alt_bad hrb hB3
                      have hst : rpeek (reat (reat r1 4 ofS.s).2 5 lbrace.s).2 5 semi.s = false := by unfold rpeek; rw [hrb]
                      refine ⟨_, _, rexpr_case (n := 0) hB' hr hg p1 p2 p3 p4 c1 l1 c0 (by rw [reat_l, reat_l, l1']) (.stop hst) (by omega), by rw [reat_l, reat_l, reat_l, l1'], (S3.eat q_rbrace).1, fun hn => ?_⟩
                      rw [needP_bad hb3] at hn
                      cases hn
                  | false =>
                    rw [hb3] at hl
                    obtain ⟨x1, r4, l', r5, n, c4, l4, c5, hn5, S5, q5⟩ := ih.c (acc' := []) hl S3 hB3
                    have l4' : r4.l = r.l := by rw [l4, reat_l, reat_l, l1']
                    · refine ⟨_, _, rexpr_case hB' hr hg p1 p2 p3 p4 c1 l1 c4 l4' c5 (by omega), by rw [reat_l, c5.len, l4'], (S5.eat q_rbrace).1, fun hn => ?_⟩
                      have b2 : s2.bad = false := not_bad (fun h9 => needP_bad h9 rbrace) hn
                      have b3 : s1.bad = false := by
                        have := not_bad (fun h9 => (badE k).c _ _ _ _ _ hl h9) b2
                        exact not_bad (fun h9 => needP_bad h9 ofS) (not_bad (fun h9 => needP_bad h9 lbrace) this)
                      rw [q5 b2 rfl, q1 b3]
            | false =>
              rw [h4] at h p4
              simp only at h
              split at h
              · cases h
              · rename_i e1 s1 h1
                obtain ⟨e1', r1, c1, l1, S1, q1⟩ := ih.a h1 hS hB
                obtain ⟨e2', r2, n, c2, S2, q2⟩ := ih.p (e0' := e1') h S1 (by rw [l1]; exact hB)
                refine ⟨e2', r2, rexpr_app hB' hr hg p1 p2 p3 p4 c1 l1 c2, c2.len.trans l1, S2, fun hn => q2 hn (q1 ?_)⟩
                exact not_bad (fun h9 => (badE k).p _ _ _ _ h h9) hn
theorem simE : ∀ k, k ≤ 4294967296 → SimE k
  | 0, _ => ⟨fun h => by simp [exprP] at h, fun h => by simp [atomP] at h, fun h => by simp [altsP] at h, fun h => by simp [appP] at h, fun h => by simp [kidsE] at h⟩
  | k + 1, hk => by
    have ih := simE k (by omega)
    refine ⟨fun h hS hB => sim_expr ih (fun j hj => simE j (by omega)) (by omega) h hS hB, fun h hS hB => sim_atom ih h hS hB, fun h hS hB => sim_alts ih h hS hB, fun h hS hB => sim_app ih h hS hB, fun h hS hB hl h8 => sim_kids ih h hS hB hl h8⟩
end Go.Proofs.YtoapgongbackaaaDoor.V

/-! Q6: the reference's types beside the program's. -/
namespace Go.Proofs.YtoapgongbackaaaDoor.V
open Go Go.Proofs
set_option maxRecDepth 100000

structure BadT (k : Nat) : Prop where
  a : ∀ vars s t s', atypeP k vars s = some (t, s') → s.bad = true → s'.bad = true
  l : ∀ vars acc s l s', atypesP k vars acc s = some (l, s') → s.bad = true → s'.bad = true
  t : ∀ vars s t s', typP k vars s = some (t, s') → s.bad = true → s'.bad = true
  u : ∀ vars t0 s t s', tailP k vars t0 s = some (t, s') → s.bad = true → s'.bad = true
  q : ∀ vars acc s l s', kidsP k vars acc s = some (l, s') → s.bad = true → s'.bad = true
theorem badT : ∀ k, BadT k
  | 0 => ⟨fun _ _ _ _ h => by simp [atypeP] at h, fun _ _ _ _ _ h => by simp [atypesP] at h, fun _ _ _ _ h => by simp [typP] at h, fun _ _ _ _ _ h => by simp [tailP] at h, fun _ _ _ _ _ h => by simp [kidsP] at h⟩
  | k + 1 => by
    have ih := badT k
    refine ⟨fun vars s t s' h hb => ?_, fun vars acc s l s' h hb => ?_, fun vars s t s' h hb => ?_, fun vars t0 s t s' h hb => ?_, fun vars acc s l s' h hb => ?_⟩
    · unfold atypeP at h
      rw [nextP_bad hb, nextP_bad hb] at h
      simp only [needP_bad hb] at h
      cases h; exact needP_bad hb _
    · unfold atypesP at h
      split at h
      · cases h; exact moreP_bad hb _
      · split at h
        · cases h
        · rename_i t1 s2 h1
          exact ih.l _ _ _ _ _ h (ih.t _ _ _ _ h1 (moreP_bad hb _))
    · unfold typP at h
      rw [nextP_bad hb] at h
      simp only at h
      split at h
      · cases h
      · rename_i t1 s1 h1
        exact ih.u _ _ _ _ _ h (ih.a _ _ _ _ h1 hb)
    · unfold tailP at h
      split at h
      · cases h; exact skipP_bad hb _
      · split at h
        · cases h
        · rename_i u s3 h1
          cases h
          exact ih.t _ _ _ _ h1 (skipP_bad hb _)
    · unfold kidsP at h
      split at h
      · cases h; exact hb
      · split at h
        · cases h
        · rename_i t1 s2 h1
          exact ih.q _ _ _ _ _ h (ih.a _ _ _ _ h1 hb)
theorem Sim.atypic {r : RS} {s : PS} (h : Sim r s) : ratypic r = atomicP s := by
  unfold ratypic atomicP
  rw [← h.peek q_name, ← h.peek q_con, ← h.peek q_lpar, Bool.or_assoc]
  rfl
structure SimT (k : Nat) : Prop where
  a : ∀ {vars : List ByteArray} {s : PS} {t : Ty} {s' : PS} {r : RS}, atypeP k vars s = some (t, s') → Sim r s → r.l.length ≤ 65536 → vars.length ≤ 4294967296 → ∃ t' r', Ct 64 [rstA r, varsA vars] [.val (.agg (tyC t'))] [rst r'] ∧ r'.l = r.l ∧ Sim r' s' ∧ (s'.bad = false → t' = t)
  l : ∀ {vars : List ByteArray} {acc acc' : List Ty} {s : PS} {l : List Ty} {s' : PS} {r : RS}, atypesP k vars acc s = some (l, s') → Sim r s → r.l.length ≤ 65536 → vars.length ≤ 4294967296 → acc'.length = acc.length → acc.length ≤ 8 →
    ∃ o r' n, RTid vars n r acc' o r' ∧ Sim r' s' ∧ ((o = none ∧ s'.bad = true) ∨ ∃ l', o = some l' ∧ (s'.bad = false → acc' = acc → l' = l))
  t : ∀ {vars : List ByteArray} {s : PS} {t : Ty} {s' : PS} {r : RS}, typP k vars s = some (t, s') → Sim r s → r.l.length ≤ 65536 → vars.length ≤ 4294967296 → ∃ t' r', Ct 91 [rstA r, varsA vars] [.val (.agg (tyC t'))] [rst r'] ∧ r'.l = r.l ∧ Sim r' s' ∧ (s'.bad = false → t' = t)
  u : ∀ {vars : List ByteArray} {t0 t0' : Ty} {s : PS} {t : Ty} {s' : PS} {r : RS}, tailP k vars t0 s = some (t, s') → Sim r s → r.l.length ≤ 65536 → vars.length ≤ 4294967296 → ∃ t' r', RTail vars r t0' t' r' ∧ Sim r' s' ∧ (s'.bad = false → t0' = t0 → t' = t)
  q : ∀ {vars : List ByteArray} {acc acc' : List Ty} {s : PS} {l : List Ty} {s' : PS} {r : RS}, kidsP k vars acc s = some (l, s') → Sim r s → r.l.length ≤ 65536 → vars.length ≤ 4294967296 → ∃ l' r' n, RTq vars n r acc' l' r' ∧ n ≤ k ∧ Sim r' s' ∧ (s'.bad = false → acc' = acc → l' = l)
theorem nextP_k {s : PS} {x : Sg} (h : nextP s x = true) : s.t.k = x.k := by
  unfold nextP at h
  split at h
  · cases h
  · simp only [Bool.and_eq_true, decide_eq_true_eq] at h
    rw [← ofP_k]; exact h.1
theorem tupT_eq {l : List Ty} {s2 : PS} {e' : Ty} {s' : PS} (h : (match l with
    | [e] => some (e, (needP s2 rpar).2)
    | l => some (Ty.mk 2 0 commaT l, (needP s2 rpar).2)) = some (e', s')) : s' = (needP s2 rpar).2 ∧ e' = rtupT l := by
  split at h
  · simp only [Option.some.injEq, Prod.mk.injEq] at h
    exact ⟨h.2.symm, h.1.symm⟩
  · rename_i l hne
    simp only [Option.some.injEq, Prod.mk.injEq] at h
    refine ⟨h.2.symm, ?_⟩
    rw [← h.1]
    unfold rtupT
    split
    · rename_i e; exact absurd rfl (hne e)
    · rfl
theorem peek_tok {r : RS} {s : PS} (hS : Sim r s) {k : Int} {x : ByteArray} (h : rpeek r k x = true) : ∃ t, r.l[r.i]? = some t ∧ s.t = t := by
  obtain ⟨t, ht⟩ := rpeek_some h
  exact ⟨t, ht, (hS.cur ht).1⟩
theorem simT : ∀ k, k ≤ 4294967296 → SimT k
  | 0, _ => ⟨fun h => by simp [atypeP] at h, fun h => by simp [atypesP] at h, fun h => by simp [typP] at h, fun h => by simp [tailP] at h, fun h => by simp [kidsP] at h⟩
  | k + 1, hk => by
    have ih := simT k (by omega)
    refine ⟨?_, ?_, ?_, ?_, ?_⟩
    · intro vars s t s' r h hS hB hv
      have hB' : r.l.length ≤ 4294967296 := by omega
      have hat := hS.atypic
      have p1 := hS.peek q_name
      have p2 := hS.peek q_con
      have p3 := hS.peek q_lpar
      unfold atypeP at h
      cases h1 : nextP s nameS with
      | true =>
        rw [h1] at h p1
        simp only at h
        obtain ⟨t0, ht, hcur⟩ := peek_tok hS p1
        have hk1 : t0.k = 1 := by rw [← hcur]; exact nextP_k h1
        rw [hcur] at h
        have hw := ratype_name (vars := vars) hB' ht (hat.trans (by simp [atomicP, h1])) hv hk1
        refine ⟨_, rinc r, hw, rfl, ?_, fun _ => ?_⟩
        · have : s' = takeP s := by split at h <;> (cases h; rfl)
          rw [this]; exact hS.take ht
        · unfold rvar
          split at h
          · rename_i hd; cases h; rw [hd]
          · rename_i hd; cases h; rw [hd]
      | false =>
        rw [h1] at h p1
        simp only at h
        cases h2 : nextP s conS with
        | true =>
          rw [h2] at h p2
          simp only at h
          cases h
          obtain ⟨t0, ht, hcur⟩ := peek_tok hS p2
          have hk2 : t0.k = 2 := by rw [← hcur]; exact nextP_k h2
          have hw := ratype_con (vars := vars) hB' ht (hat.trans (by simp [atomicP, h1, h2])) hk2
          exact ⟨_, rinc r, hw, rfl, hS.take ht, fun _ => by rw [hcur]⟩
        | false =>
          rw [h2] at h p2
          simp only at h
          cases h3 : nextP s lpar with
          | false =>
            have hn : needP s lpar = (noTok, failP s) := by unfold needP; rw [h3]
            rw [hn] at h
            simp only [failP_bad] at h
            cases h
            exact ⟨noTy, rfail r, ratype_no r vars (hat.trans (by simp [atomicP, h1, h2, h3])), rfail_l r, hS.fail, fun _ => rfl⟩
          | true =>
            have hn : needP s lpar = (s.t, takeP s) := by unfold needP; rw [h3]
            rw [hn] at h
            rw [h3] at p3
            have hsb : s.bad = false := by
              have := rpeek_bad p3
              rw [hS.bad]; exact this
            simp only [takeP_bad, hsb] at h
            obtain ⟨t0, ht, hcur⟩ := peek_tok hS p3
            have hk5 : t0.k = 5 := by rw [← hcur]; exact nextP_k h3
            split at h
            · cases h
            · rename_i e1 s1 hx
              obtain ⟨e1', r1, c1, l1, S1, q1⟩ := ih.t hx (hS.take ht) hB hv
              split at h
              · cases h
              · rename_i l s2 hl
                obtain ⟨rfl, rfl⟩ := tupT_eq h
                obtain ⟨o, r2, n, c2, S2, q2⟩ := ih.l (acc' := [e1']) hl S1 (by rw [l1]; exact hB) hv rfl (by simp)
                have hw := ratype_tup hB' ht (hat.trans (by simp [atomicP, h1, h2, h3])) (decide_eq_false (by omega)) (decide_eq_false (by omega)) c1 l1 c2
                have hl2 : r2.l = r.l := c2.len.trans l1
                rcases q2 with ⟨rfl, hbad⟩ | ⟨l', rfl, q2⟩
                · refine ⟨noTy, r2, hw, hl2, ?_, fun hn => ?_⟩
                  · have e1 : (needP s2 rpar).2 = s2 := by
                      unfold needP
                      rw [nextP_bad hbad]
                      simp [failP, hbad]
                    rw [e1]; exact S2
                  · rw [needP_bad hbad] at hn; cases hn
                · refine ⟨rtupT l', (reat r2 5 rpar.s).2, hw, (reat_l _ _ _).trans hl2, (S2.eat q_rpar).1, fun hn => ?_⟩
                  have b2 : s2.bad = false := not_bad (fun h => needP_bad h rpar) hn
                  have b1 : s1.bad = false := not_bad (fun h => (badT k).l _ _ _ _ _ hl h) b2
                  rw [q2 b2 (by rw [q1 b1])]
    · intro vars acc acc' s l s' r h hS hB hv hl h8
      unfold atypesP at h
      have hp := hS.peek q_comma
      cases hc : nextP s comma with
      | false =>
        rw [more_no hc] at h
        cases h
        rw [hc] at hp
        exact ⟨some acc', r, 0, .stop hp, hS, .inr ⟨acc', rfl, fun _ e => e⟩⟩
      | true =>
        rw [hc] at hp
        by_cases h9 : acc.length = 8
        · rw [more_full hc (by omega)] at h
          cases h
          exact ⟨none, rfail r, 0, .full hp (by omega), hS.fail, .inl ⟨rfl, failP_bad s⟩⟩
        · rw [more_yes hc (by omega)] at h
          simp only at h
          obtain ⟨t, ht⟩ := rpeek_some hp
          split at h
          · cases h
          · rename_i e1 s1 h1
            obtain ⟨e1', r1, c1, l1, S1, q1⟩ := ih.t h1 (hS.take ht) hB hv
            obtain ⟨o, r', n, c2, S2, q2⟩ := ih.l (acc' := acc' ++ [e1']) h S1 (by rw [l1]; exact hB) hv (by simp [hl]) (by simp; omega)
            refine ⟨o, r', n + 1, .step hp (by omega) c1 l1 c2, S2, ?_⟩
            rcases q2 with q2 | ⟨l', e, q2⟩
            · exact .inl q2
            · refine .inr ⟨l', e, fun hb ha => q2 hb ?_⟩
              have b1 : s1.bad = false := not_bad (fun h9 => (badT k).l _ _ _ _ _ h h9) hb
              rw [ha, q1 b1]
    · intro vars s t s' r h hS hB hv
      have hB' : r.l.length ≤ 4294967296 := by omega
      have p2 := hS.peek q_con
      unfold typP at h
      cases h2 : nextP s conS with
      | true =>
        rw [h2] at h p2
        simp only at h
        obtain ⟨t0, ht, hcur⟩ := peek_tok hS p2
        have hk2 : t0.k = 2 := by rw [← hcur]; exact nextP_k h2
        have hat : ratypic r = true := hS.atypic.trans (by simp [atomicP, h2])
        have hw := ratype_conN (vars := vars) hB' ht hat hk2
        split at h
        · cases h
        · rename_i ks s1 h1
          obtain ⟨l', r1, n, c1, hn, S1, q1⟩ := ih.q (acc' := []) h1 (hS.take ht) hB hv
          obtain ⟨t', r2, c2, S2, q2⟩ := ih.u (t0' := .mk 2 0 t0.s l') h S1 (by rw [c1.len]; exact hB) hv
          refine ⟨t', r2, rtyp_con hB' p2 hw c1 (by omega) c2, by rw [c2.len, c1.len]; rfl, S2, fun hb => q2 hb ?_⟩
          have b1 : s1.bad = false := not_bad (fun h9 => (badT k).u _ _ _ _ _ h h9) hb
          rw [q1 b1 rfl, hcur]
      | false =>
        rw [h2] at h p2
        simp only at h
        split at h
        · cases h
        · rename_i t1 s1 h1
          obtain ⟨t1', r1, c1, l1, S1, q1⟩ := ih.a h1 hS hB hv
          obtain ⟨t', r2, c2, S2, q2⟩ := ih.u (t0' := t1') h S1 (by rw [l1]; exact hB) hv
          refine ⟨t', r2, rtyp_plain hB' p2 c1 l1 c2, by rw [c2.len, l1], S2, fun hb => q2 hb (q1 ?_)⟩
          exact not_bad (fun h9 => (badT k).u _ _ _ _ _ h h9) hb
    · intro vars t0 t0' s t s' r h hS hB hv
      have hp := hS.peek q_arrow
      unfold tailP at h
      cases hc : nextP s arrow with
      | false =>
        have hsk : skipP s arrow = (false, s) := by unfold skipP; rw [hc]
        rw [hsk] at h
        cases h
        rw [hc] at hp
        exact ⟨t0', r, .no hp, hS, fun _ e => e⟩
      | true =>
        have hsk : skipP s arrow = (true, takeP s) := by unfold skipP; rw [hc]
        rw [hsk] at h
        rw [hc] at hp
        simp only at h
        obtain ⟨t1, ht⟩ := rpeek_some hp
        split at h
        · cases h
        · rename_i u s3 hu
          cases h
          obtain ⟨u', r2, c2, l2, S2, q2⟩ := ih.t hu (hS.take ht) hB hv
          exact ⟨_, r2, .yes hp c2 l2, S2, fun hb he => by rw [he, q2 hb]⟩
    · intro vars acc acc' s l s' r h hS hB hv
      unfold kidsP at h
      cases hc : atomicP s with
      | false =>
        rw [hc] at h
        cases h
        exact ⟨acc', r, 0, .stop (hS.atypic.trans hc), by omega, hS, fun _ e => e⟩
      | true =>
        rw [hc] at h
        simp only at h
        split at h
        · cases h
        · rename_i t1 s1 h1
          obtain ⟨t1', r1, c1, l1, S1, q1⟩ := ih.a h1 hS hB hv
          obtain ⟨l', r', n, c2, hn, S2, q2⟩ := ih.q (acc' := acc' ++ [t1']) h S1 (by rw [l1]; exact hB) hv
          refine ⟨l', r', n + 1, .step (hS.atypic.trans hc) c1 l1 c2, by omega, S2, fun hb ha => q2 hb ?_⟩
          have b1 : s1.bad = false := not_bad (fun h9 => (badT k).q _ _ _ _ _ h h9) hb
          rw [ha, q1 b1]
end Go.Proofs.YtoapgongbackaaaDoor.V

/-! Q7: the reference's program beside the program's. -/
namespace Go.Proofs.YtoapgongbackaaaDoor.V
open Go Go.Proofs
set_option maxRecDepth 100000

theorem consP_bad : ∀ (k : Nat) (vars : List ByteArray) (b : Bool) (acc : List ConD) (s : PS) (l : List ConD) (s' : PS), consP k vars b acc s = some (l, s') → s.bad = true → s'.bad = true
  | 0, _, _, _, _, _, _, h, _ => by simp [consP] at h
  | k + 1, vars, b, acc, s, l, s', h, hb => by
    unfold consP at h
    cases b with
    | false => cases h; exact hb
    | true =>
      simp only at h
      split at h
      · cases h
      · rename_i args s1 h1
        exact consP_bad k _ _ _ _ _ _ h (skipP_bad ((badT k).q _ _ _ _ _ h1 (needP_bad hb _)) _)
theorem progP_bad {k : Nat} {p p1 : ProgD} {s s' : PS} (h : progP k p s = some (p1, s')) (hb : s.bad = true) : s'.bad = true := by
  cases k with
  | zero => simp [progP] at h
  | succ k =>
    unfold progP at h
    rw [hb] at h
    cases h
    exact hb
theorem sim_cons : ∀ (k : Nat), k ≤ 4294967296 → ∀ {vars : List ByteArray} {acc acc' : List ConD} {s : PS} {l : List ConD} {s' : PS} {r : RS}, consP k vars true acc s = some (l, s') → Sim r s → r.l.length ≤ 65536 → vars.length ≤ 4294967296 →
    ∃ c1 r1 l' r2 n, Ct 31 [rstA r, varsA vars] [.val (.agg (conC c1))] [rst r1] ∧ r1.l = r.l ∧ RCons vars n r1 (acc' ++ [c1]) l' r2 ∧ n ≤ k ∧ Sim r2 s' ∧ (s'.bad = false → acc' = acc → l' = l)
  | 0, _, _, _, _, _, _, _, _, h, _, _, _ => by simp [consP] at h
  | k + 1, hk, vars, acc, acc', s, l, s', r, h, hS, hB, hv => by
    unfold consP at h
    split at h
    · cases h
    · rename_i args s1 h1
      obtain ⟨S1, e1⟩ := hS.eat q_con
      obtain ⟨args', r1, n, c1, hn, S2, q1⟩ := (simT k (by omega)).q (acc' := []) h1 S1 (by rw [reat_l]; exact hB) hv
      have hw := rcon_ct (r := r) (by omega) c1 (by omega)
      have l1 : r1.l = r.l := by rw [c1.len, reat_l]
      have hx : s1.bad = false → (⟨(reat r 2 .empty).1.s, (reat r 2 .empty).1.at_, args'⟩ : ConD) = ⟨(needP s conS).1.s, (needP s conS).1.at_, args⟩ := fun hb => by
        have e1 : (reat r 2 .empty).1 = (needP s conS).1 := e1
        rw [q1 hb rfl, e1]
      have hp := S2.peek q_bar
      cases hc : nextP s1 barS with
      | false =>
        rw [hc] at hp
        have hsk : skipP s1 barS = (false, s1) := by unfold skipP; rw [hc]
        rw [hsk] at h
        simp only at h
        cases k with
        | zero => simp [consP] at h
        | succ k =>
          unfold consP at h
          cases h
          exact ⟨_, r1, _, r1, 0, hw, l1, .stop hp, by omega, S2, fun hb ha => by rw [ha, hx hb]⟩
      | true =>
        rw [hc] at hp
        have hsk : skipP s1 barS = (true, takeP s1) := by unfold skipP; rw [hc]
        rw [hsk] at h
        simp only at h
        obtain ⟨t, ht⟩ := rpeek_some hp
        obtain ⟨c2, r3, l', r4, n2, c3, l3, c4, hn2, S4, q4⟩ := sim_cons k (by omega) (acc' := acc' ++ [⟨(reat r 2 .empty).1.s, (reat r 2 .empty).1.at_, args'⟩]) h (S2.take ht) (by show r1.l.length ≤ 65536; rw [l1]; exact hB) hv
        refine ⟨_, r1, l', r4, n2 + 1, hw, l1, .step hp c3 l3 c4, by omega, S4, fun hb ha => q4 hb ?_⟩
        have b1 : s1.bad = false := by
          have : (takeP s1).bad = false := not_bad (fun h9 => consP_bad _ _ _ _ _ _ _ h h9) hb
          rw [takeP_bad] at this
          exact this
        rw [ha, hx b1]
theorem peek_bad {r : RS} (hb : r.bad = true) (k : Int) (x : ByteArray) : rpeek r k x = false := by unfold rpeek; rw [hb]
theorem eat_bad {r : RS} (hb : r.bad = true) (k : Int) (x : ByteArray) : reat r k x = (noTok, r) := by unfold reat; rw [peek_bad hb, rfail_id hb]
theorem sim_data {k : Nat} (hk : k ≤ 4294967296) {s : PS} {d : DataD} {s' : PS} {r : RS} (hp : rpeek r 4 dataS.s = true) (h : dataP k (takeP s) = some (d, s')) (hS : Sim r s) (hB : r.l.length ≤ 65536) :
    ∃ d' r2, RData r d' r2 ∧ Sim r2 s' ∧ (s'.bad = false → d' = d) := by
  obtain ⟨t, ht⟩ := rpeek_some hp
  have hT := hS.take ht
  obtain ⟨S1, e1⟩ := hT.eat q_con
  unfold dataP at h
  split at h
  · cases h
  · rename_i nl s1 hn
    obtain ⟨kn, r3, hkn, hn2, S3, l3, hnl⟩ := S1.namesG (by rw [reat_l]; exact hB) hn
    rw [reat_l] at l3
    obtain ⟨S4, -⟩ := S3.eat q_eq
    split at h
    · cases h
    · rename_i cs s3 hc
      cases h
      have e1 : (reat (rinc r) 2 .empty).1 = (needP (takeP s) conS).1 := e1
      have hv : (nl.map (·.s)).length ≤ 4294967296 := by simp; omega
      cases hb : (needP s1 eqS).2.bad with
      | true =>
        rw [hb] at hc
        cases k with
        | zero => simp [consP] at hc
        | succ j =>
          unfold consP at hc
          cases hc
          have hrb : (reat r3 5 eqS.s).2.bad = true := S4.bad.symm.trans hb
          have hq : RTq (nl.map (·.s)) 0 (reat (reat r3 5 eqS.s).2 2 .empty).2 [] [] (reat r3 5 eqS.s).2 := by
            rw [eat_bad hrb]
            exact .stop (by simp [ratypic, peek_bad hrb])
          have hw := rcon_ct (vars := nl.map (·.s)) (r := (reat r3 5 eqS.s).2) (by rw [reat_l, l3]; show r.l.length ≤ 4294967296; omega) hq (by omega)
          refine ⟨_, _, ⟨kn, 0, nl, r3, _, _, _, _, by omega, by omega, by omega, hn2, l3, hw, by rw [reat_l, l3]; rfl, .stop (peek_bad hrb _ _), rfl, rfl⟩, (S4.eat q_semi).1, fun hn => ?_⟩
          rw [needP_bad hb] at hn
          cases hn
      | false =>
        rw [hb] at hc
        obtain ⟨c1, r4, l', r5, n, c4, l4, c5, hn5, S5, q5⟩ := sim_cons k hk (acc' := []) hc S4 (by rw [reat_l, l3]; exact hB) hv
        rw [reat_l, l3] at l4
        refine ⟨_, _, ⟨kn, n, nl, r3, r4, r5, c1, l', by omega, by omega, by omega, hn2, l3, c4, l4, c5, rfl, rfl⟩, (S5.eat q_semi).1, fun hn => ?_⟩
        have b3 : s3.bad = false := not_bad (fun h9 => needP_bad h9 semi) hn
        rw [q5 b3 rfl, e1]
theorem sim_bind {k : Nat} (hk : k ≤ 4294967296) {s : PS} {e : Exp} {s1 : PS} {r : RS} (hl : nextP s letS = true) (h : boundP k (needP (takeP s) nameS).1 (needP (takeP s) nameS).2 = some (e, s1)) (hS : Sim r s) (hB : r.l.length ≤ 65536) :
    ∃ b' r2, RBind r b' r2 ∧ Sim r2 (needP s1 semi).2 ∧ ((needP s1 semi).2.bad = false → b' = ⟨(needP (takeP s) nameS).1.s, (needP (takeP s) nameS).1.at_, e⟩) := by
  have hp := hS.peek q_let
  rw [hl] at hp
  obtain ⟨t, ht⟩ := rpeek_some hp
  have hT := hS.take ht
  have el : (reat r 4 letS.s).2 = rinc r := by
    unfold reat
    have hp : rpeek r 4 letS.s = true := hp
    rw [hp]
    rfl
  obtain ⟨S1, e1⟩ := hT.eat q_name
  have e1 : (reat (rinc r) 1 .empty).1 = (needP (takeP s) nameS).1 := e1
  cases k with
  | zero => simp [boundP] at h
  | succ j =>
    unfold boundP at h
    split at h
    · cases h
    · rename_i nl s3 hn
      obtain ⟨kn, r3, hkn, hn2, S3, l3, hnl⟩ := S1.namesG (by rw [reat_l]; exact hB) hn
      rw [reat_l] at l3
      obtain ⟨S4, -⟩ := S3.eat q_eq
      split at h
      · cases h
      · rename_i d s4 hd
        cases h
        obtain ⟨d', r5, c5, l5, S5, q5⟩ := (simE j (by omega)).e hd S4 (by rw [reat_l, l3]; exact hB)
        rw [reat_l, l3] at l5
        refine ⟨_, _, ⟨kn, nl, r3, r5, d', by omega, by omega, by rw [el]; exact hn2, l3, c5, l5, rfl, rfl⟩, (S5.eat q_semi).1, fun hn => ?_⟩
        have b2 : s1.bad = false := not_bad (fun h9 => needP_bad h9 semi) hn
        rw [el, e1, q5 b2]
theorem bind_no {s : PS} {r : RS} (hl : nextP s letS = false) (hS : Sim r s) (hB : r.l.length ≤ 65536) : ∃ b', RBind r b' (rfail r) := by
  have hp := hS.peek q_let
  rw [hl] at hp
  have el : reat r 4 letS.s = (noTok, rfail r) := by
    unfold reat
    have hp : rpeek r 4 letS.s = false := hp
    rw [hp]
  have hb : (rfail r).bad = true := by rw [← hS.fail.bad]; exact failP_bad s
  have hx := rexpr_bad (rfail r) hb
  rw [rfail_id hb] at hx
  refine ⟨_, ⟨1, [], rfail r, rfail r, noExp, by omega, by simp, ?_, rfail_l r, ?_, rfail_l r, ?_, rfl⟩⟩
  · rw [el]
    simp only
    rw [eat_bad hb]
    simp [rnamesA, peek_bad hb]
  · rw [eat_bad hb]; exact hx
  · rw [eat_bad hb]
theorem sim_prog : ∀ (k : Nat), k ≤ 4294967296 → ∀ {p p1 p' : ProgD} {s s' : PS} {r : RS}, progP k p s = some (p1, s') → Sim r s → r.l.length ≤ 65536 → (∀ t ∈ r.l, t.k ≠ 0) →
    ∃ n rE p2, RProg n r p' p2 rE ∧ n ≤ k ∧ Sim rE s' ∧ (s'.bad = false → p' = p → p2 = p1)
  | 0, _, _, _, _, _, _, _, h, _, _, _ => by simp [progP] at h
  | k + 1, hk, p, p1, p', s, s', r, h, hS, hB, hK => by
    unfold progP at h
    cases hb : s.bad with
    | true =>
      rw [hb] at h
      cases h
      exact ⟨0, r, p', .stop (.inr (hS.bad.symm.trans hb)), by omega, hS, fun _ e => e⟩
    | false =>
      rw [hb] at h
      simp only at h
      have hrb : r.bad = false := hS.bad.symm.trans hb
      cases hg : r.l[r.i]? with
      | none =>
        have := (hS.fin hg).1
        rw [this] at h
        simp only [decide_true] at h
        cases h
        exact ⟨0, r, p', .stop (.inl (List.getElem?_eq_none_iff.1 hg)), by omega, hS, fun _ e => e⟩
      | some t =>
        have hcur := (hS.cur hg).1
        have hi : r.i < r.l.length := (List.getElem?_eq_some_iff.1 hg).1
        have hk0 : t.k ≠ 0 := hK t (List.mem_of_getElem? hg)
        rw [hcur] at h
        rw [decide_eq_false hk0] at h
        simp only at h
        have hp := hS.peek q_data
        cases hd : nextP s dataS with
        | true =>
          rw [hd] at h hp
          simp only at h
          split at h
          · cases h
          · rename_i d s1 h1
            obtain ⟨d', r2, c2, S2, q2⟩ := sim_data (by omega) hp h1 hS hB
            obtain ⟨n, rE, p2, c3, hn, S3, q3⟩ := sim_prog k (by omega) (p' := ⟨p'.datas ++ [d'], p'.binds⟩) h S2 (by rw [c2.len]; exact hB) (by rw [c2.len]; exact hK)
            refine ⟨n + 1, rE, p2, .data hrb hi hp c2 c3, by omega, S3, fun hn he => q3 hn ?_⟩
            rw [he, q2 (not_bad (fun h9 => progP_bad h h9) hn)]
        | false =>
          rw [hd] at h hp
          simp only at h
          cases hl : nextP s letS with
          | true =>
            rw [hl] at h
            simp only at h
            split at h
            · cases h
            · rename_i b s1 h1
              obtain ⟨b', r2, c2, S2, q2⟩ := sim_bind (by omega) hl h1 hS hB
              obtain ⟨n, rE, p2, c3, hn, S3, q3⟩ := sim_prog k (by omega) (p' := ⟨p'.datas, p'.binds ++ [b']⟩) h S2 (by rw [c2.len]; exact hB) (by rw [c2.len]; exact hK)
              refine ⟨n + 1, rE, p2, .bind hrb hi hp c2 c3, by omega, S3, fun hn he => q3 hn ?_⟩
              rw [he, q2 (not_bad (fun h9 => progP_bad h h9) hn)]
          | false =>
            rw [hl] at h
            simp only at h
            obtain ⟨b', c2⟩ := bind_no hl hS hB
            obtain ⟨n, rE, p2, c3, hn, S3, q3⟩ := sim_prog k (by omega) (p' := ⟨p'.datas, p'.binds ++ [b']⟩) h hS.fail (by rw [rfail_l]; exact hB) (by rw [rfail_l]; exact hK)
            refine ⟨n + 1, rE, p2, .bind hrb hi hp c2 c3, by omega, S3, fun hn he => ?_⟩
            have := progP_bad h (failP_bad s)
            rw [this] at hn
            cases hn
end Go.Proofs.YtoapgongbackaaaDoor.V

/-! Y1: with fuel enough, the parser comes to an end. -/
namespace Go.Proofs.YtoapgongbackaaaDoor.V
open Go Go.Proofs
set_option maxRecDepth 100000

def mS (s : PS) : Nat := match s.bad with
  | true => 0
  | false => s.r.length + 1
structure Good (s : PS) : Prop where
  fin : ∃ q e, s.t :: s.r = q ++ [e] ∧ e.k = 0
  len : s.r.length ≤ 65536
theorem mS_bad {s : PS} (h : s.bad = true) : mS s = 0 := by unfold mS; rw [h]
theorem mS_pos {s : PS} (h : s.bad = false) : mS s = s.r.length + 1 := by unfold mS; rw [h]
theorem good_take {s : PS} (h : Good s) (hk : s.t.k ≠ 0) : Good (takeP s) ∧ mS (takeP s) = mS s - 1 ∧ (s.bad = false → 0 < mS (takeP s)) := by
  obtain ⟨⟨q, e, h1, h2⟩, h3⟩ := h
  obtain ⟨t, r, bad, a⟩ := s
  simp only at h1 h3 hk
  cases r with
  | nil =>
    cases q with
    | nil => simp at h1; rw [h1] at hk; exact absurd h2 hk
    | cons x q => simp at h1
  | cons t' r =>
    cases q with
    | nil => simp at h1
    | cons x q =>
      simp only [List.cons_append, List.cons.injEq] at h1
      refine ⟨⟨⟨q, e, h1.2, h2⟩, ?_⟩, ?_, ?_⟩
      · simp at h3; simp [takeP]; omega
      · cases bad <;> simp [takeP, mS]
      · intro hb
        simp only at hb
        subst hb
        simp [takeP, mS]
theorem good_fail {s : PS} (h : Good s) : Good (failP s) ∧ mS (failP s) = 0 := by
  refine ⟨?_, mS_bad (failP_bad s)⟩
  unfold failP
  split
  · exact h
  · exact ⟨h.fin, h.len⟩
theorem next_not {s : PS} {x : Sg} (h : nextP s x = true) : s.bad = false := by
  cases hb : s.bad with
  | false => rfl
  | true => rw [nextP_bad hb] at h; cases h
theorem good_next {s : PS} (h : Good s) {x : Sg} (hx : x.k ≠ 0) (hn : nextP s x = true) : Good (takeP s) ∧ mS (takeP s) < mS s := by
  have h1 := good_take h (by rw [nextP_k hn]; exact hx)
  refine ⟨h1.1, ?_⟩
  have := mS_pos (next_not hn)
  omega
theorem good_need {s : PS} (h : Good s) {x : Sg} (hx : x.k ≠ 0) : Good (needP s x).2 ∧ mS (needP s x).2 ≤ mS s - 1 := by
  unfold needP
  cases hn : nextP s x with
  | true =>
    have := good_next h hx hn
    exact ⟨this.1, by simp only; omega⟩
  | false =>
    have := good_fail h
    exact ⟨this.1, by simp only; omega⟩
theorem good_skip {s : PS} (h : Good s) {x : Sg} (hx : x.k ≠ 0) : Good (skipP s x).2 ∧ mS (skipP s x).2 ≤ mS s ∧ ((skipP s x).1 = true → mS (skipP s x).2 < mS s) := by
  unfold skipP
  cases hn : nextP s x with
  | true =>
    have := good_next h hx hn
    exact ⟨this.1, by simp only; omega, fun _ => this.2⟩
  | false => exact ⟨h, Nat.le_refl _, fun h => by cases h⟩
theorem good_more {s : PS} (h : Good s) (n : Int) : Good (moreP s n).2 ∧ mS (moreP s n).2 ≤ mS s ∧ ((moreP s n).1 = true → mS (moreP s n).2 < mS s) := by
  have hc : comma.k ≠ 0 := by decide
  have h0 := good_skip h hc
  have hf := good_fail h
  have h1 := good_skip hf.1 hc
  unfold moreP
  split
  · split
    · exact ⟨h1.1, by omega, fun e => by have := h1.2.2 e; omega⟩
    · exact h0
  · exact h0
theorem good_namesL : ∀ (q : List Tok) (t : Tok) (bad : Bool) (a : Int), Good ⟨t, q, bad, a⟩ → ∃ l s', namesL (fun t r => ⟨t, r, bad, a⟩) t q = some (l, s') ∧ Good s' ∧ mS s' ≤ mS ⟨t, q, bad, a⟩ ∧ l.length ≤ q.length
  | [], t, bad, a, h => by
    unfold namesL
    cases hn : nextP ⟨t, [], bad, a⟩ ⟨1, .empty⟩ with
    | true =>
      have := good_next h (x := ⟨1, .empty⟩) (show (1 : Int) ≠ 0 by decide) hn
      have h2 := mS_pos (next_not hn)
      exfalso
      have h3 : takeP ⟨t, [], bad, a⟩ = ⟨t, [], bad, a⟩ := rfl
      rw [h3] at this
      omega
    | false => exact ⟨[], _, rfl, h, Nat.le_refl _, by simp⟩
  | t' :: q, t, bad, a, h => by
    unfold namesL
    cases hn : nextP ⟨t, t' :: q, bad, a⟩ ⟨1, .empty⟩ with
    | true =>
      have h1 := good_next h (x := ⟨1, .empty⟩) (show (1 : Int) ≠ 0 by decide) hn
      have h3 : takeP ⟨t, t' :: q, bad, a⟩ = ⟨t', q, bad, a⟩ := rfl
      rw [h3] at h1
      obtain ⟨l, s', e, g, m, n⟩ := good_namesL q t' bad a h1.1
      exact ⟨t :: l, s', by rw [e]; rfl, g, by omega, by simp; omega⟩
    | false => exact ⟨[], _, rfl, h, Nat.le_refl _, by simp⟩
theorem good_names {s : PS} (h : Good s) : ∃ l s', namesG s = some (l, s') ∧ Good s' ∧ mS s' ≤ mS s := by
  obtain ⟨t, r, bad, a⟩ := s
  obtain ⟨l, s', e, g, m, n⟩ := good_namesL r t bad a h
  have hl := h.len
  simp only at hl
  refine ⟨l, s', ?_, g, m⟩
  unfold namesG namesP
  simp only
  rw [e]
  simp only
  rw [decide_eq_true ⟨by omega, by omega⟩]
theorem begins_good {s : PS} (hb : beginsP s = true) : s.bad = false ∧ s.t.k ≠ 0 := by
  unfold beginsP at hb
  split at hb
  · cases hb
  · rename_i h
    refine ⟨h, fun hk => ?_⟩
    have : ∀ x : Sg, x.k ≠ 0 → isS s.t x = false := fun x hx => by
      unfold isS
      rw [decide_eq_false (by rw [ofP_k, hk]; exact fun e => hx e.symm)]
      rfl
    rw [this _ (by decide), this _ (by decide), this _ (by decide), this _ (by decide), this _ (by decide), this _ (by decide)] at hb
    cases hb
structure TotE (k : Nat) : Prop where
  e : ∀ s, Good s → 4 * mS s + 2 ≤ k → ∃ e s', exprP k s = some (e, s') ∧ Good s' ∧ mS s' ≤ mS s
  a : ∀ s, Good s → 4 * mS s + 1 ≤ k → ∃ e s', atomP k s = some (e, s') ∧ Good s' ∧ mS s' ≤ mS s - 1
  p : ∀ e0 s, Good s → 4 * mS s + 2 ≤ k → ∃ e s', appP k e0 s = some (e, s') ∧ Good s' ∧ mS s' ≤ mS s
  b : ∀ t s, Good s → 4 * mS s + 3 ≤ k → ∃ e s', boundP k t s = some (e, s') ∧ Good s' ∧ mS s' ≤ mS s
  c : ∀ m acc s, Good s → 1 ≤ k → (m = true → 4 * mS s + 3 ≤ k) → ∃ e s', altsP k m acc s = some (e, s') ∧ Good s' ∧ mS s' ≤ mS s
  l : ∀ acc s, Good s → 4 * mS s + 1 ≤ k → ∃ e s', kidsE k acc s = some (e, s') ∧ Good s' ∧ mS s' ≤ mS s
theorem totE : ∀ k, TotE k
  | 0 => ⟨fun s _ h => by omega, fun s _ h => by omega, fun _ s _ h => by omega, fun _ s _ h => by omega, fun _ _ s _ h _ => by omega, fun _ s _ h => by omega⟩
  | k + 1 => by
    have ih := totE k
    refine ⟨fun s hg hk => ?_, fun s hg hk => ?_, fun e0 s hg hk => ?_, fun t s hg hk => ?_, fun m acc s hg hk1 hkt => ?_, fun acc s hg hk => ?_⟩
    · unfold exprP
      cases hb : s.bad with
      | true => exact ⟨_, _, rfl, hg, Nat.le_refl _⟩
      | false =>
        have hm := mS_pos hb
        simp only
        cases h1 : nextP s lamS with
        | true =>
          simp only
          obtain ⟨g1, m1⟩ := good_next hg (x := lamS) (by decide) h1
          obtain ⟨g2, m2⟩ := good_need g1 (x := nameS) (by decide)
          obtain ⟨l, s3, e3, g3, m3⟩ := good_names g2
          obtain ⟨g4, m4⟩ := good_need g3 (x := arrow) (by decide)
          obtain ⟨b, s5, e5, g5, m5⟩ := ih.e _ g4 (by omega)
          rw [e3]; simp only; rw [e5]
          exact ⟨_, _, rfl, g5, by omega⟩
        | false =>
          simp only
          cases h2 : nextP s letS with
          | true =>
            simp only
            obtain ⟨g1, m1⟩ := good_next hg (x := letS) (by decide) h2
            obtain ⟨g2, m2⟩ := good_need g1 (x := nameS) (by decide)
            obtain ⟨b, s3, e3, g3, m3⟩ := ih.b (needP (takeP s) nameS).1 _ g2 (by omega)
            obtain ⟨g4, m4⟩ := good_need g3 (x := inS) (by decide)
            obtain ⟨b2, s5, e5, g5, m5⟩ := ih.e _ g4 (by omega)
            rw [e3]; simp only; rw [e5]
            exact ⟨_, _, rfl, g5, by omega⟩
          | false =>
            simp only
            cases h3 : nextP s ifS with
            | true =>
              simp only
              obtain ⟨g1, m1⟩ := good_next hg (x := ifS) (by decide) h3
              obtain ⟨x, s2, e2, g2, m2⟩ := ih.e _ g1 (by omega)
              obtain ⟨g3, m3⟩ := good_need g2 (x := thenS) (by decide)
              obtain ⟨y, s4, e4, g4, m4⟩ := ih.e _ g3 (by omega)
              obtain ⟨g5, m5⟩ := good_need g4 (x := elseS) (by decide)
              obtain ⟨z, s6, e6, g6, m6⟩ := ih.e _ g5 (by omega)
              rw [e2]; simp only; rw [e4]; simp only; rw [e6]
              exact ⟨_, _, rfl, g6, by omega⟩
            | false =>
              simp only
              cases h4 : nextP s caseS with
              | true =>
                simp only
                obtain ⟨g1, m1⟩ := good_next hg (x := caseS) (by decide) h4
                obtain ⟨x, s2, e2, g2, m2⟩ := ih.e _ g1 (by omega)
                obtain ⟨g3, m3⟩ := good_need g2 (x := ofS) (by decide)
                obtain ⟨g4, m4⟩ := good_need g3 (x := lbrace) (by decide)
                obtain ⟨y, s5, e5, g5, m5⟩ := ih.c (!(needP (needP s2 ofS).2 lbrace).2.bad) [] _ g4 (by omega) (by omega)
                obtain ⟨g6, m6⟩ := good_need g5 (x := rbrace) (by decide)
                rw [e2]; simp only; rw [e5]
                exact ⟨_, _, rfl, g6, by omega⟩
              | false =>
                simp only
                obtain ⟨x, s2, e2, g2, m2⟩ := ih.a _ hg (by omega)
                obtain ⟨y, s3, e3, g3, m3⟩ := ih.p x _ g2 (by omega)
                rw [e2]; simp only; rw [e3]
                exact ⟨_, _, rfl, g3, by omega⟩
    · unfold atomP
      cases hb : beginsP s with
      | false =>
        have := good_fail hg
        exact ⟨_, _, rfl, this.1, by omega⟩
      | true =>
        obtain ⟨h1, h2⟩ := begins_good hb
        have hm := mS_pos h1
        obtain ⟨g1, m1, -⟩ := good_take hg h2
        simp only
        split
        · exact ⟨_, _, rfl, g1, by omega⟩
        · split
          · exact ⟨_, _, rfl, g1, by omega⟩
          · split
            · exact ⟨_, _, rfl, g1, by omega⟩
            · split
              · exact ⟨_, _, rfl, g1, by omega⟩
              · split
                · exact ⟨_, _, rfl, g1, by omega⟩
                · obtain ⟨x, s2, e2, g2, m2⟩ := ih.e _ g1 (by omega)
                  obtain ⟨y, s3, e3, g3, m3⟩ := ih.l [x] _ g2 (by omega)
                  obtain ⟨g4, m4⟩ := good_need g3 (x := rpar) (by decide)
                  rw [e2]; simp only; rw [e3]; simp only
                  split
                  · exact ⟨_, _, rfl, g4, by omega⟩
                  · exact ⟨_, _, rfl, g4, by omega⟩
    · unfold appP
      cases hb : beginsP s with
      | false => exact ⟨_, _, rfl, hg, Nat.le_refl _⟩
      | true =>
        obtain ⟨h1, h2⟩ := begins_good hb
        have hm := mS_pos h1
        simp only
        obtain ⟨x, s2, e2, g2, m2⟩ := ih.a _ hg (by omega)
        obtain ⟨y, s3, e3, g3, m3⟩ := ih.p (.mk 5 e0.at_ .empty 0 [e0, x] []) _ g2 (by omega)
        rw [e2]; simp only; rw [e3]
        exact ⟨_, _, rfl, g3, by omega⟩
    · unfold boundP
      obtain ⟨l, s2, e2, g2, m2⟩ := good_names hg
      obtain ⟨g3, m3⟩ := good_need g2 (x := eqS) (by decide)
      obtain ⟨x, s4, e4, g4, m4⟩ := ih.e _ g3 (by omega)
      rw [e2]; simp only; rw [e4]
      exact ⟨_, _, rfl, g4, by omega⟩
    · unfold altsP
      cases m with
      | false => exact ⟨_, _, rfl, hg, Nat.le_refl _⟩
      | true =>
        have hk := hkt rfl
        simp only
        obtain ⟨g1, m1⟩ := good_need hg (x := conS) (by decide)
        obtain ⟨l, s2, e2, g2, m2⟩ := good_names g1
        obtain ⟨g3, m3⟩ := good_need g2 (x := arrow) (by decide)
        obtain ⟨x, s4, e4, g4, m4⟩ := ih.e (needP s2 arrow).2 g3 (by
          omega)
        obtain ⟨g5, m5, m6⟩ := good_skip g4 (x := semi) (by decide)
        rw [e2]; simp only; rw [e4]; simp only
        obtain ⟨y, s7, e7, g7, m7⟩ := ih.c (skipP s4 semi).1 (acc ++ [.mk (needP s conS).1.at_ (needP s conS).1.s (l.map (·.s)) x]) _ g5 (by omega) (fun h => by
          have := m6 h
          omega)
        rw [e7]
        exact ⟨_, _, rfl, g7, by omega⟩
    · unfold kidsE
      obtain ⟨g1, m1, m2⟩ := good_more hg (acc.length : Int)
      cases hm : (moreP s (acc.length : Int)).1 with
      | false => exact ⟨_, _, rfl, g1, m1⟩
      | true =>
        have m3 := m2 hm
        simp only
        obtain ⟨x, s2, e2, g2, m4⟩ := ih.e _ g1 (by omega)
        obtain ⟨y, s3, e3, g3, m5⟩ := ih.l (acc ++ [x]) _ g2 (by omega)
        rw [e2]; simp only; rw [e3]
        exact ⟨_, _, rfl, g3, by omega⟩
end Go.Proofs.YtoapgongbackaaaDoor.V

/-! Y2: with fuel enough, Parse comes to an end; what it is, for the program and the reference. -/
namespace Go.Proofs.YtoapgongbackaaaDoor.V
open Go Go.Proofs
open Go.Proofs.YtoapgongbackaaaDoor.Lx
set_option maxRecDepth 100000

theorem next_pos {s : PS} {x : Sg} (h : nextP s x = true) : 0 < mS s := by rw [mS_pos (next_not h)]; omega
theorem atomic_pos {s : PS} (h : atomicP s = true) : 0 < mS s := by
  unfold atomicP at h
  simp only [Bool.or_eq_true] at h
  rcases h with (h | h) | h
  · exact next_pos h
  · exact next_pos h
  · exact next_pos h
structure TotT (k : Nat) : Prop where
  a : ∀ vars s, Good s → 4 * mS s + 1 ≤ k → ∃ e s', atypeP k vars s = some (e, s') ∧ Good s' ∧ mS s' ≤ mS s - 1
  l : ∀ vars acc s, Good s → 4 * mS s + 1 ≤ k → ∃ e s', atypesP k vars acc s = some (e, s') ∧ Good s' ∧ mS s' ≤ mS s
  t : ∀ vars s, Good s → 4 * mS s + 3 ≤ k → ∃ e s', typP k vars s = some (e, s') ∧ Good s' ∧ mS s' ≤ mS s
  u : ∀ vars t0 s, Good s → 4 * mS s + 1 ≤ k → ∃ e s', tailP k vars t0 s = some (e, s') ∧ Good s' ∧ mS s' ≤ mS s
  q : ∀ vars acc s, Good s → 4 * mS s + 2 ≤ k → ∃ e s', kidsP k vars acc s = some (e, s') ∧ Good s' ∧ mS s' ≤ mS s
theorem totT : ∀ k, TotT k
  | 0 => ⟨fun _ s _ h => by omega, fun _ _ s _ h => by omega, fun _ s _ h => by omega, fun _ _ s _ h => by omega, fun _ _ s _ h => by omega⟩
  | k + 1 => by
    have ih := totT k
    refine ⟨fun vars s hg hk => ?_, fun vars acc s hg hk => ?_, fun vars s hg hk => ?_, fun vars t0 s hg hk => ?_, fun vars acc s hg hk => ?_⟩
    · unfold atypeP
      cases h1 : nextP s nameS with
      | true =>
        obtain ⟨g1, m1⟩ := good_next hg (x := nameS) (by decide) h1
        simp only
        split
        · exact ⟨_, _, rfl, g1, by omega⟩
        · exact ⟨_, _, rfl, g1, by omega⟩
      | false =>
        simp only
        cases h2 : nextP s conS with
        | true =>
          obtain ⟨g1, m1⟩ := good_next hg (x := conS) (by decide) h2
          exact ⟨_, _, rfl, g1, by omega⟩
        | false =>
          simp only
          obtain ⟨g1, m1⟩ := good_need hg (x := lpar) (by decide)
          cases hb : (needP s lpar).2.bad with
          | true => exact ⟨_, _, rfl, g1, m1⟩
          | false =>
            have hm := mS_pos hb
            simp only
            obtain ⟨x, s2, e2, g2, m2⟩ := ih.t vars _ g1 (by omega)
            obtain ⟨y, s3, e3, g3, m3⟩ := ih.l vars [x] _ g2 (by omega)
            obtain ⟨g4, m4⟩ := good_need g3 (x := rpar) (by decide)
            rw [e2]; simp only; rw [e3]; simp only
            split
            · exact ⟨_, _, rfl, g4, by omega⟩
            · exact ⟨_, _, rfl, g4, by omega⟩
    · unfold atypesP
      obtain ⟨g1, m1, m2⟩ := good_more hg (acc.length : Int)
      cases hm : (moreP s (acc.length : Int)).1 with
      | false => exact ⟨_, _, rfl, g1, m1⟩
      | true =>
        have m3 := m2 hm
        simp only
        obtain ⟨x, s2, e2, g2, m4⟩ := ih.t vars _ g1 (by omega)
        obtain ⟨y, s3, e3, g3, m5⟩ := ih.l vars (acc ++ [x]) _ g2 (by omega)
        rw [e2]; simp only; rw [e3]
        exact ⟨_, _, rfl, g3, by omega⟩
    · unfold typP
      cases h1 : nextP s conS with
      | true =>
        obtain ⟨g1, m1⟩ := good_next hg (x := conS) (by decide) h1
        simp only
        obtain ⟨x, s2, e2, g2, m2⟩ := ih.q vars [] _ g1 (by omega)
        obtain ⟨y, s3, e3, g3, m3⟩ := ih.u vars (.mk 2 0 s.t.s x) _ g2 (by omega)
        rw [e2]; simp only; rw [e3]
        exact ⟨_, _, rfl, g3, by omega⟩
      | false =>
        simp only
        obtain ⟨x, s2, e2, g2, m2⟩ := ih.a vars _ hg (by omega)
        obtain ⟨y, s3, e3, g3, m3⟩ := ih.u vars x _ g2 (by omega)
        rw [e2]; simp only; rw [e3]
        exact ⟨_, _, rfl, g3, by omega⟩
    · unfold tailP
      obtain ⟨g1, m1, m2⟩ := good_skip hg (x := arrow) (by decide)
      cases hm : (skipP s arrow).1 with
      | false => exact ⟨_, _, rfl, g1, m1⟩
      | true =>
        have m3 := m2 hm
        simp only
        obtain ⟨x, s2, e2, g2, m4⟩ := ih.t vars _ g1 (by omega)
        rw [e2]
        exact ⟨_, _, rfl, g2, by omega⟩
    · unfold kidsP
      cases hm : atomicP s with
      | false => exact ⟨_, _, rfl, hg, Nat.le_refl _⟩
      | true =>
        have hp := atomic_pos hm
        simp only
        obtain ⟨x, s2, e2, g2, m2⟩ := ih.a vars _ hg (by omega)
        obtain ⟨y, s3, e3, g3, m3⟩ := ih.q vars (acc ++ [x]) _ g2 (by omega)
        rw [e2]; simp only; rw [e3]
        exact ⟨_, _, rfl, g3, by omega⟩
theorem totC : ∀ (k : Nat) (vars : List ByteArray) (m : Bool) (acc : List ConD) (s : PS), Good s → 1 ≤ k → (m = true → 4 * mS s + 4 ≤ k) → ∃ e s', consP k vars m acc s = some (e, s') ∧ Good s' ∧ mS s' ≤ mS s
  | 0, _, _, _, _, _, h, _ => by omega
  | k + 1, vars, m, acc, s, hg, hk1, hkt => by
    unfold consP
    cases m with
    | false => exact ⟨_, _, rfl, hg, Nat.le_refl _⟩
    | true =>
      have hk := hkt rfl
      simp only
      obtain ⟨g1, m1⟩ := good_need hg (x := conS) (by decide)
      obtain ⟨x, s2, e2, g2, m2⟩ := (totT k).q vars [] _ g1 (by omega)
      obtain ⟨g3, m3, m4⟩ := good_skip g2 (x := barS) (by decide)
      rw [e2]; simp only
      obtain ⟨y, s5, e5, g5, m5⟩ := totC k vars (skipP s2 barS).1 (acc ++ [⟨(needP s conS).1.s, (needP s conS).1.at_, x⟩]) _ g3 (by omega) (fun h => by
        have := m4 h
        omega)
      rw [e5]
      exact ⟨_, _, rfl, g5, by omega⟩
theorem totD {k : Nat} {s : PS} (hg : Good s) (hk : 4 * mS s + 4 ≤ k) : ∃ d s', dataP k s = some (d, s') ∧ Good s' ∧ mS s' ≤ mS s := by
  unfold dataP
  obtain ⟨g1, m1⟩ := good_need hg (x := conS) (by decide)
  obtain ⟨l, s2, e2, g2, m2⟩ := good_names g1
  obtain ⟨g3, m3⟩ := good_need g2 (x := eqS) (by decide)
  rw [e2]; simp only
  obtain ⟨y, s5, e5, g5, m5⟩ := totC k (l.map (·.s)) (!(needP s2 eqS).2.bad) [] _ g3 (by omega) (fun _ => by omega)
  obtain ⟨g6, m6⟩ := good_need g5 (x := semi) (by decide)
  rw [e5]
  exact ⟨_, _, rfl, g6, by omega⟩
theorem totP : ∀ (k : Nat) (p : ProgD) (s : PS), Good s → 4 * mS s + 5 ≤ k → ∃ p' s', progP k p s = some (p', s')
  | 0, _, _, _, h => by omega
  | k + 1, p, s, hg, hk => by
    unfold progP
    cases hb : s.bad with
    | true => exact ⟨_, _, rfl⟩
    | false =>
      have hm := mS_pos hb
      simp only
      split
      · exact ⟨_, _, rfl⟩
      · split
        · rename_i h1
          obtain ⟨g1, m1⟩ := good_next hg (x := dataS) (by decide) h1
          obtain ⟨d, s2, e2, g2, m2⟩ := totD (k := k) g1 (by omega)
          rw [e2]; simp only
          exact totP k _ _ g2 (by omega)
        · split
          · rename_i h1
            obtain ⟨g1, m1⟩ := good_next hg (x := letS) (by decide) h1
            obtain ⟨g2, m2⟩ := good_need g1 (x := nameS) (by decide)
            obtain ⟨d, s2, e2, g3, m3⟩ := (totE k).b (needP (takeP s) nameS).1 _ g2 (by omega)
            obtain ⟨g4, m4⟩ := good_need g3 (x := semi) (by decide)
            rw [e2]; simp only
            exact totP k _ _ g4 (by omega)
          · have hf := good_fail hg
            exact totP k _ _ hf.1 (by omega)
theorem tok_kind {l : List UInt8} (h : (tokL l).2 ≠ 0) : (tokL l).1.kind ≠ 0 := by
  cases l with
  | nil => simp [tokL] at h
  | cons c r =>
    unfold tokL at h ⊢
    simp only at h ⊢
    split at h
    · rename_i h1
      rw [if_pos h1]
      split at h
      · rename_i h2; rw [if_pos h2]; exact (by decide : (4 : Int) ≠ 0)
      · rename_i h2
        rw [if_neg h2]
        split at h
        · rename_i h3; rw [if_pos h3]; exact (by decide : (1 : Int) ≠ 0)
        · rename_i h3
          rw [if_neg h3]
          split at h
          · rename_i h4; rw [if_pos h4]; exact (by decide : (2 : Int) ≠ 0)
          · simp at h
    · rename_i h1
      rw [if_neg h1]
      split at h
      · rename_i h2
        rw [if_pos h2]
        split at h
        · rename_i n hn; exact (by decide : (3 : Int) ≠ 0)
        · simp at h
      · rename_i h2
        rw [if_neg h2]
        split at h
        · rename_i h3; rw [if_pos h3]; exact (by decide : (5 : Int) ≠ 0)
        · rename_i h3
          rw [if_neg h3]
          split at h
          · rename_i h4; rw [if_pos h4]; exact (by decide : (5 : Int) ≠ 0)
          · simp at h
theorem lexA_kinds : ∀ (n : Nat) (l : List UInt8) (pos : Nat) (ts : List Tk), l.length < n → lexA pos l = .ok ts → ∀ t ∈ ts, t.kind ≠ 0
  | 0, _, _, _, h, _, _, _ => by omega
  | n + 1, l, pos, ts, hn, h, t, ht => by
    by_cases hl : l = []
    · rw [hl, lexA_nil] at h
      cases h
      cases ht
    · by_cases h0 : (tokL l).2 = 0
      · rw [lexA_err hl h0] at h
        cases h
      · rw [lexA_cons h0] at h
        split at h
        · cases h
        · rename_i ts2 h2
          cases h
          rcases List.mem_cons.1 ht with rfl | ht
          · exact tok_kind h0
          · refine lexA_kinds n _ _ ts2 ?_ h2 t ht
            have : 0 < l.length := List.length_pos_iff.2 hl
            simp only [List.length_drop]
            omega
theorem start_good (l : List Tok) (n : Nat) (h : l.length ≤ 65536) : Good (startP l n) := by
  cases l with
  | nil => exact ⟨⟨[], _, rfl, rfl⟩, by simp [startP]⟩
  | cons t r => exact ⟨⟨t :: r, endT n, rfl, rfl⟩, by simp [startP] at h ⊢; omega⟩
theorem start_m (l : List Tok) (n : Nat) : mS (startP l n) ≤ l.length + 1 := by
  cases l with
  | nil => simp [startP, mS]
  | cons t r => simp [startP, mS]
theorem parse_total (l : List UInt8) (hB : l.length ≤ 65536) : ∃ p e a, parseK 300000 l = some (p, e, a) := by
  unfold parseK
  have hll := lexL_len l
  cases hl : lexL l with
  | error x => exact ⟨_, _, _, rfl⟩
  | ok ts =>
    have hll := hll ts hl
    simp only
    have hg := start_good (ts.map toT) l.length (by simp; omega)
    have hm := start_m (ts.map toT) l.length
    simp only [List.length_map] at hm
    obtain ⟨p, s, hp⟩ := totP 300000 ⟨[], []⟩ _ hg (by omega)
    rw [hp]
    simp only
    split
    · exact ⟨_, _, _, rfl⟩
    · split
      · exact ⟨_, _, _, rfl⟩
      · exact ⟨_, _, _, rfl⟩
theorem rparse_ct {k : Nat} (hk : k ≤ 4294967290) {l : List UInt8} (hB : l.length ≤ 65536) {p : ProgD} {e a : Int} (h : parseK k l = some (p, e, a)) :
    Ct 13 [.val (.one (.v (.string (ofL l))))] [.val (.agg [.sl 62 4 (p.datas.map dataC) none, .sl 55 8 (p.binds.map bindC) none, .v (.int .i64 e), .v (.int .i64 a)])] [] := by
  unfold parseK at h
  have hll := lexL_len l
  cases hl : lexL l with
  | error x =>
    rw [hl] at h
    simp only [Option.some.injEq, Prod.mk.injEq] at h
    obtain ⟨rfl, rfl, rfl⟩ := h
    exact rparse_err hB hl
  | ok ts =>
    have hll := hll ts hl
    rw [hl] at h
    simp only at h
    split at h
    · cases h
    · rename_i p1 s1 h1
      have hS : Sim ⟨ts.map toT, 0, (l.length : Int), false, 0⟩ (startP (ts.map toT) l.length) := by
        refine ⟨?_, ?_, ?_⟩
        · cases ts with
          | nil => rfl
          | cons t r => simp [startP, endT]
        · cases ts <;> rfl
        · cases ts <;> rfl
      have hK : ∀ t ∈ ts.map toT, t.k ≠ 0 := fun t ht => by
        obtain ⟨t0, h0, rfl⟩ := List.mem_map.1 ht
        exact lexA_kinds _ _ _ _ (Nat.lt_succ_self _) hl t0 h0
      obtain ⟨n, rE, p2, c2, hn, S2, q2⟩ := sim_prog k (by omega) (p' := ⟨[], []⟩) h1 hS (by show (ts.map toT).length ≤ 65536; simp; omega) hK
      have hw := rparse_ok hB hl (by omega) (by omega) c2 (fun hb => by
        have hb2 : s1.bad = false := S2.bad.trans hb
        rw [q2 hb2 rfl]
        exact fineP_of hk h1)
      have hr : rres p2 rE = [.sl 62 4 (p.datas.map dataC) none, .sl 55 8 (p.binds.map bindC) none, .v (.int .i64 e), .v (.int .i64 a)] := by
        unfold rres
        rw [← S2.bad]
        cases hb : s1.bad with
        | true =>
          rw [hb] at h
          simp only [Option.some.injEq, Prod.mk.injEq] at h
          obtain ⟨rfl, rfl, rfl⟩ := h
          simp only
          rw [← S2.at_]
          rfl
        | false =>
          rw [hb] at h
          simp only at h ⊢
          rw [q2 hb rfl]
          split at h
          · rename_i hd
            cases h
            rw [hd]
            rfl
          · rename_i hd
            cases h
            rw [hd]
      rw [hr] at hw
      exact hw
end Go.Proofs.YtoapgongbackaaaDoor.V
