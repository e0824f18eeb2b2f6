/-
  ParseAll: for every input the law returns true, and each argument reads as it did. No condition.
-/
import Derived.Test.YtoapgongbackaaaDoorEI
import Derived.Test.YtoapgongbackaaaDoorEF
import Derived.Test.YtoapgongbackaaaDoorEX
set_option linter.unusedVariables false
set_option linter.unusedSimpArgs false
/-! Z1: ParseAll. -/
namespace Go.Proofs.YtoapgongbackaaaDoor.V
open Go Go.Proofs
open Go.Proofs.YtoapgongbackaaaDoor.Lx
set_option maxRecDepth 100000

/-- What both parsers make of a text. -/
theorem both_ct (l : List UInt8) (hB : l.length ≤ 65536) : ∃ p e a, FineP p ∧ Ct 12 [.val (.one (.v (.string (ofL l))))] [.val (.agg (progC p)), .val (.one (.v (.int .i64 e))), .val (.one (.v (.int .i64 a)))] [] ∧
    Ct 13 [.val (.one (.v (.string (ofL l))))] [.val (.agg [.sl 62 4 (p.datas.map dataC) none, .sl 55 8 (p.binds.map bindC) none, .v (.int .i64 e), .v (.int .i64 a)])] [] := by
  obtain ⟨p, e, a, h⟩ := parse_total l hB
  exact ⟨p, e, a, parse_fine (by decide) h, parse_ct2 (by decide) hB h, rparse_ct (by decide) hB h⟩
set_option maxHeartbeats 4000000 in
theorem parseAll_ct (l : List UInt8) : Ct 3 [.val (.one (.v (.string (ofL l))))] [.val (.one (.v (.bool true)))] [] := by
  have hsz := ofL_size l
  refine ct Tryd.func3 (by kernel_rfl) ?_
  cases hlt : decide ((3000 : Int) < ((ofL l).size : Int))
  rotate_left
  · generalize ofL l = s at hlt
    apply evF_of rfl
    apply seqC
    apply regL
    repeat ((with_reducible apply stepS); (· conv => whnf))
    apply endS; apply seqC; apply seqC; apply regL
    repeat ((with_reducible apply stepS); (· conv => whnf))
    rw [hlt]
    apply endS
    apply condT; (· (conv => whnf); try rfl)
    apply seqC
    apply regL
    apply stepS; (· (conv => whnf); refine ⟨_, _, awake_ct, ?_⟩; (conv => whnf))
    repeat ((with_reducible apply stepS); (· conv => whnf))
    apply endS
    apply retC
    conv => whnf
    exact ⟨rfl, rfl⟩
  · have hl3 : l.length ≤ 3000 := by have := of_decide_eq_false hlt; omega
    obtain ⟨p, e, a, hf, h1, h2⟩ := both_ct l (by omega)
    have h3 := sameP_self hf
    obtain ⟨ds, bs⟩ := p
    generalize ofL l = s at hlt h1 h2
    apply evF_of rfl
    apply seqC
    apply regL
    repeat ((with_reducible apply stepS); (· conv => whnf))
    apply endS; apply seqC; apply seqC; apply regL
    repeat ((with_reducible apply stepS); (· conv => whnf))
    rw [hlt]
    apply endS
    apply condF; (· (conv => whnf); try rfl)
    apply skipC
    apply seqC
    apply regL
    repeat ((with_reducible apply stepS); (· conv => whnf))
    apply stepS; (· (conv => whnf); refine ⟨_, _, h1, ?_⟩; (conv => whnf))
    repeat ((with_reducible apply stepS); (· conv => whnf))
    apply endS; apply seqC; apply regL
    repeat ((with_reducible apply stepS); (· conv => whnf))
    apply stepS; (· (conv => whnf); refine ⟨_, _, h2, ?_⟩; (conv => whnf))
    repeat ((with_reducible apply stepS); (· conv => whnf))
    apply endS
    apply seqC
    apply regDL
    repeat ((with_reducible apply stepD); (· (conv => whnf); refine ⟨⟨rfl, rfl⟩, ?_⟩; (conv => whnf)))
    apply stepD; (· (conv => whnf); refine ⟨_, _, h3, ?_⟩; (conv => whnf); refine ⟨⟨rfl, rfl⟩, ?_⟩; (conv => whnf))
    repeat ((with_reducible apply stepD); (· (conv => whnf); refine ⟨⟨rfl, rfl⟩, ?_⟩; (conv => whnf)))
    apply stepD; (· (conv => whnf); refine ⟨_, _, num_ct e, ?_⟩; (conv => whnf); refine ⟨⟨rfl, rfl⟩, ?_⟩; (conv => whnf))
    repeat ((with_reducible apply stepD); (· (conv => whnf); refine ⟨⟨rfl, rfl⟩, ?_⟩; (conv => whnf)))
    rw [dI]
    repeat ((with_reducible apply stepD); (· (conv => whnf); refine ⟨⟨rfl, rfl⟩, ?_⟩; (conv => whnf)))
    rw [dI]
    repeat ((with_reducible apply stepD); (· (conv => whnf); refine ⟨⟨rfl, rfl⟩, ?_⟩; (conv => whnf)))
    apply stepD; (· (conv => whnf); refine ⟨_, _, awake_ct, ?_⟩; (conv => whnf); refine ⟨⟨rfl, rfl⟩, ?_⟩; (conv => whnf))
    repeat ((with_reducible apply stepD); (· (conv => whnf); refine ⟨⟨rfl, rfl⟩, ?_⟩; (conv => whnf)))
    apply endD; (· exact apart_of (by kernel_rfl))
    apply retC
    conv => whnf
    exact ⟨rfl, rfl⟩
end Go.Proofs.YtoapgongbackaaaDoor.V

/-! XA: ParseAll: for every input the law returns true; each argument reads behind the call as it read before. -/
namespace Go.Proofs.YtoapgongbackaaaDoor.V
open Go Go.Proofs
open Go.ChangeShapes Go.WideShapes Go.ChangeAt Go.RowKit
set_option maxRecDepth 100000

theorem par3 : Tryd.f3.params = #[9] := by rfl
theorem contractA (H : Type) (enc : TypeId × Value → H) (W : World) (base : Nat) (args : Array Value) (ds gs : List (DataW H)) (before : List MemPlace)
    (hval : ∀ (j : Nat) t v, Tryd.f3.params[j]? = some t → args[j]? = some v → Value.okWide Tryd.prog W .any base t v)
    (hW : DataW.Whole enc Tryd.prog Tryd.f3.params.toList Rows.parseAllSpec.vars false W args.toList ds gs before) (hL : laidMetH Tryd.prog Rows.parseAllRow.laid W) :
    Calls Tryd.prog 3 args W fun e W' => ∃ v, e = .returned v ∧ Rows.parseAllSpec.post enc Tryd.prog Tryd.f3 false true false false W args v W' := by
  have hW' := hW
  obtain ⟨p, q, hA0, hV, rfl, hfz, hnd⟩ := hW
  have hA : DataW.TrodAll enc Tryd.prog W 0 (fun _ => true) true Tryd.f3.params.toList args.toList ds p := hA0
  rw [par3] at hA hval
  obtain ⟨v0, vs0, d0, ds0, p0, q0, hargs, rfl, rfl, h0, r0⟩ := trodAll_cons hA
  obtain ⟨rfl, rfl, rfl⟩ := trodAll_nil r0
  obtain rfl : args = #[v0] := by cases args; simp_all
  obtain ⟨rfl, rfl⟩ := trodVars_none hV
  obtain ⟨str, rfl, rfl, rfl, hwf⟩ := Go.ChangeMaps.open_string und9 (hval 0 9 v0 rfl rfl) h0
  clear hA0
  simp only [List.append_nil] at hW'
  have hct := parseAll_ct str.data.toList
  rw [Lx.of_data] at hct
  have hct := hct (HG W) W [.string str] (hg_ok W) (glob_ok hL) ⟨.one _ _ (.v _ rfl), trivial⟩ List.nodup_nil
  refine hct.mono fun e W' ⟨v, H', he, hp⟩ => ?_
  subst he
  obtain rfl := bool_of hp
  have hk := kept_of hp rfl
  exact ⟨_, rfl, _, _, _, [], [], [], hW', trodAll_cons_mk (shut_bool und4 _) trodAll_mk0, trodAll_cons_mk (Go.ChangeMaps.shut_string und9 hwf) trodAll_mk0, rfl, World.keptBut_mono (fun _ h => h.elim) hk, fun h => nomatch h⟩
theorem laidA (os : Os) : laidMet Tryd.prog Rows.parseAllRow.laid ((laidWorld os).forCall (fun _ _ => 0) ⟨#[], #[.string ⟨#[]⟩], []⟩).memory :=
  laidMet_of_run' 8 (by kernel_rfl) (by kernel_rfl)
theorem readsA (os : Os) {H : Type} (enc : TypeId × Value → H) : ∃ places, DataW.whole enc Tryd.prog ((laidWorld os).forCall (fun _ _ => 0) ⟨#[], #[.string ⟨#[]⟩], []⟩).memory Tryd.f3.params.toList Rows.parseAllSpec.vars false #[Value.string ⟨#[]⟩].toList 8 = some ([.lit (.string [])], [], places) :=
  ⟨[], by kernel_rfl⟩
theorem liftedA (os : Os) (started : os.Started) (H : Type) (enc : TypeId × Value → H) (F : Stop.Interp) :
    ReturnsInHanded {} Tryd.checked os 3 .any ((OpenSpec.ofChange Rows.parseAllSpec).preRow enc Tryd.prog Tryd.f3 Rows.parseAllRow.domain false Rows.parseAllRow.laid) (((OpenSpec.ofChange Rows.parseAllSpec).at F).post enc Tryd.prog Tryd.f3 false true false false) := by
  obtain ⟨places, hx⟩ := readsA os enc
  refine returnsInHanded_of_row (C := Tryd.checked) (s := OpenSpec.ofChange Rows.parseAllSpec) own started (by kernel_rfl) Tryd.func3
    (witness_row_at (enc := enc) (C := Tryd.checked) false (laidWorld os) #[.string ⟨#[]⟩] rfl (by kernel_rfl) (by kernel_rfl) (by kernel_rfl)
      (OpenSpec.preRow_of_cond 8 hx (by kernel_rfl) (fun k hk => by cases hk) (by kernel_rfl) (laidA os))) ?_
  intro W base args ds gs before hval hW _ _ _ hL _ _
  exact contractA H enc W base args ds gs before hval hW hL
theorem saidA : Rows.ParseAllSaid :=
  OpenClaim.holds_of_cond 3 Tryd.f3 rfl rfl rfl rfl rfl rfl rfl ⟨rfl, rfl, rfl, rfl, rfl⟩ rfl rfl rfl rfl rfl (by kernel_rfl) Tryd.func3 (by kernel_rfl)
    (of_decide_eq_true (by kernel_rfl)) (by unfold Func.isWrapper; first | (rw [if_pos (by decide +kernel)]; kernel_rfl) | (rw [if_neg (by decide +kernel)]; exact ⟨rfl, rfl⟩))
    (fun os started H enc _ F => by rw [OpenClaim.pre_eq_preRow]; exact liftedA os started H enc F)
theorem plainA (f : FuncId) (fn : Func) (hf : Tryd.pinned.checked.prog.funcNamed "warp/warplaw10.ParseAll" = some f) (hfn : Tryd.pinned.checked.prog.funcs[f]? = some fn) :
    false = Tryd.pinned.checked.prog.looks [] ∧ ∀ (j : Nat) t, fn.params[j]? = some t → Tryd.pinned.checked.prog.wantsStandIn t = false := by
  obtain rfl : f = 3 := Option.some.inj ((show Tryd.prog.funcNamed "warp/warplaw10.ParseAll" = some 3 by kernel_rfl).symm.trans hf) |>.symm
  obtain rfl : fn = Tryd.f3 := (Option.some.inj (Tryd.func3.symm.trans hfn)).symm
  refine ⟨by kernel_rfl, fun j t ht => ?_⟩
  rw [par3] at ht
  obtain rfl : t = 9 := by simpa using Array.mem_of_getElem? ht
  exact (show Tryd.prog.wantsStandIn 9 = false by kernel_rfl)
end Go.Proofs.YtoapgongbackaaaDoor.V
namespace Go.Proofs.YtoapgongbackaaaDoor
open Go Go.Proofs Go.Proofs.YtoapgongbackaaaDoor.V
theorem parseAll_holds : Rows.ParseAllCardSaid :=
  Claim7.holds_tied_plain_at .later [] _ _ _ _ saidA (fun _ h => by cases h) (by kernel_rfl) (fun _ h => by cases h) parseAll_row_tie rfl ⟨rfl, rfl⟩ (by kernel_rfl) rfl plainA (by kernel_rfl)
#print axioms parseAll_holds
end Go.Proofs.YtoapgongbackaaaDoor
