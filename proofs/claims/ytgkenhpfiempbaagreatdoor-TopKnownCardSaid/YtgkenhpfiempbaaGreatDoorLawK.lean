/-
  TopKnown: for every input the law returns true, and each argument reads as it did. No condition.
-/
import Derived.Test.YtgkenhpfiempbaaGreatDoorM09
import Derived.Test.YtgkenhpfiempbaaGreatDoorM16
set_option linter.all false
set_option maxRecDepth 1000000
set_option maxHeartbeats 8000000
namespace Go.Proofs.YtgkenhpfiempbaaGreatDoor.V
open Go Go.Proofs
open Go.ChangeShapes Go.WideShapes Go.ChangeAt Go.RowKit
set_option maxRecDepth 100000
theorem agu:Tryz.f4.params= #[5,5,24]:=by rfl
theorem abB(H:Type)(enc:TypeId×Value→H)(W:World)(base:Nat)(args:Array Value)(ds gs:List (DataW H))(before:List MemPlace)
 (hval:∀(j:Nat) t v,Tryz.f4.params[j]?=some t→args[j]?=some v→Value.okWide Tryz.prog W .any base t v)
 (hW:DataW.Whole enc Tryz.prog Tryz.f4.params.toList Rows.topKnownSpec.vars false W args.toList ds gs before) (hL:laidMetH Tryz.prog Rows.topKnownRow.laid W):
 Calls Tryz.prog 4 args W fun e W'=>∃v,e= .returned v∧Rows.topKnownSpec.post enc Tryz.prog Tryz.f4 false true false false W args v W':=by
 have hW':=hW;obtain⟨p,q,hA0,hV,rfl,hfz,hnd⟩:=hW;have hA:DataW.TrodAll enc Tryz.prog W 0 (fun _=>true) true Tryz.f4.params.toList args.toList ds p:=hA0;rw[agu]at hA hval;obtain⟨v0,vs0,d0,ds0,p0,q0,hargs,rfl,rfl,h0,r0⟩:=trodAll_cons hA;obtain⟨v1,vs1,d1,ds1,p1,q1,hargs1,rfl,rfl,h1,r1⟩:=trodAll_cons r0
 obtain⟨v2,vs2,d2,ds2,p2,q2,hargs2,rfl,rfl,h2,r2⟩:=trodAll_cons r1;obtain⟨rfl,rfl,rfl⟩:=trodAll_nil r2;subst hargs2;subst hargs1;obtain rfl:args= #[v0,v1,v2]:=by cases args;simp_all
 obtain⟨rfl,rfl⟩:=trodVars_none hV;obtain⟨n,rfl,rfl,rfl,hwf⟩:=open_int und5 (hval 0 5 v0 rfl rfl) h0;obtain⟨m,rfl,rfl,rfl,hwm⟩:=open_int und5 (hval 1 5 v1 rfl rfl) h1;obtain⟨ns,hns⟩:=adv (hval 2 24 v2 rfl rfl) h2;clear hA0;obtain⟨hn0,hn1⟩:=agk hwf;obtain⟨hm0,hm1⟩:=agk hwm
 obtain⟨a,rfl⟩:∃c:Nat,n=(c:Int):=⟨n.toNat,by omega⟩;obtain⟨b,rfl⟩:∃c:Nat,m=(c:Int):=⟨m.toNat,by omega⟩;have hct:=adm (a:=a) (b:=b) (by omega) (by omega) ns (HA W) W [.int .u8 (a:Int),.int .u8 (b:Int),v2] [[],[],[]] (ajh W) (afF hL)
  ⟨.pers _ _ (.v _ rfl),.pers _ _ (.v _ rfl),.pers _ _ hns,trivial⟩ kf
 refine hct.mono fun e W' ⟨v,H',he,hp⟩=>?_;subst he;obtain rfl:=afZ hp;have hk:=aez hp;exact⟨_,rfl,_,_,_,[],_,[],hW',trodAll_cons_mk (shut_bool und4 _) trodAll_mk0,
  trodAll_cons_mk (shut_int und5 hwf) (trodAll_cons_mk (shut_int und5 hwm) (trodAll_cons_mk (Below.trod afA (by kernel_rfl) (aJ (by kernel_rfl)) h2 hk (aja h2)) trodAll_mk0)),rfl,hk.frame _,fun h=>nomatch h⟩
theorem aje(os:Os):laidMet Tryz.prog Rows.topKnownRow.laid ((laidWorld os).forCall (fun _ _=>0) ⟨#[],#[.int .u8 0,.int .u8 0,.slice none 0 0],[]⟩).memory:=
 laidMet_of_run' 8 (by kernel_rfl) (by kernel_rfl)
theorem ahn(os:Os){H:Type}(enc:TypeId×Value→H):∃rS,DataW.whole enc Tryz.prog ((laidWorld os).forCall (fun _ _=>0) ⟨#[],#[.int .u8 0,.int .u8 0,.slice none 0 0],[]⟩).memory Tryz.f4.params.toList Rows.topKnownSpec.vars false #[Value.int .u8 0,Value.int .u8 0,Value.slice none 0 0].toList 8=some ([.lit (.int .u8 0),.lit (.int .u8 0),.nil],[],rS):=
 ⟨[],by kernel_rfl⟩
theorem afy(os:Os)(started:os.Started)(H:Type)(enc:TypeId×Value→H)(F:Stop.Interp):
 ReturnsInHanded {} Tryz.checked os 4 .any ((OpenSpec.ofChange Rows.topKnownSpec).preRow enc Tryz.prog Tryz.f4 Rows.topKnownRow.domain false Rows.topKnownRow.laid) (((OpenSpec.ofChange Rows.topKnownSpec).at F).post enc Tryz.prog Tryz.f4 false true false false):=by
 obtain⟨rS,hx⟩:=ahn os enc;refine returnsInHanded_of_row (C:=Tryz.checked) (s:=OpenSpec.ofChange Rows.topKnownSpec) own started (by kernel_rfl) Tryz.func4
  (witness_row_at (enc:=enc) (C:=Tryz.checked) false (laidWorld os) #[.int .u8 0,.int .u8 0,.slice none 0 0] rfl (by kernel_rfl) (by kernel_rfl) (by kernel_rfl)
   (OpenSpec.preRow_of_cond 8 hx (by kernel_rfl) (fun k hk=>by cases hk) (by kernel_rfl) (aje os))) ?_
 intro W base args ds gs before hval hW _ _ _ hL _ _;exact abB H enc W base args ds gs before hval hW hL
theorem saidK:Rows.TopKnownSaid:=
 OpenClaim.holds_of_cond 4 Tryz.f4 rfl rfl rfl rfl rfl rfl rfl ⟨rfl,rfl,rfl,rfl,rfl⟩ rfl rfl rfl rfl rfl (by kernel_rfl) Tryz.func4 (by kernel_rfl)
  (aJ (by kernel_rfl)) (by unfold Func.isWrapper;first|(rw[if_pos (by decide+kernel)];kernel_rfl)|(rw[if_neg (by decide+kernel)];exact⟨rfl,rfl⟩))
  (fun os started H enc _ F=>by rw[OpenClaim.pre_eq_preRow];exact afy os started H enc F)
theorem plainK(f:FuncId)(fn:Func)(hf:Tryz.pinned.checked.prog.funcNamed "warp/warptop.TopKnown" =some f) (hfn:Tryz.pinned.checked.prog.funcs[f]?=some fn):
 false=Tryz.pinned.checked.prog.looks []∧∀(j:Nat) t,fn.params[j]?=some t→Tryz.pinned.checked.prog.wantsStandIn t=false:=by
 obtain rfl:f=4:=cg ((show Tryz.prog.funcNamed "warp/warptop.TopKnown" =some 4 by kernel_rfl).symm.trans hf) |>.symm;obtain rfl:fn=Tryz.f4:=(cg (Tryz.func4.symm.trans hfn)).symm;refine⟨by kernel_rfl,fun j t ht=>?_⟩;rw[agu]at ht;have hm:t∈ #[5,5,24]:=Array.mem_of_getElem? ht
 have:(#[5,5,24]:Array Nat).all (fun t=>Tryz.prog.wantsStandIn t==false)=true:=by kernel_rfl
 rw[Array.all_eq_true_iff_forall_mem]at this;exact fw.1 (this t hm)
end Go.Proofs.YtgkenhpfiempbaaGreatDoor.V
namespace Go.Proofs.YtgkenhpfiempbaaGreatDoor
open Go Go.Proofs Go.Proofs.YtgkenhpfiempbaaGreatDoor.V
theorem topKnown_holds:Rows.TopKnownCardSaid:=
 Claim7.holds_tied_plain_at .later [] _ _ _ _ saidK (fun _ h=>by cases h) (by kernel_rfl) (fun _ h=>by cases h) topKnown_row_tie rfl ⟨rfl,rfl⟩ (by kernel_rfl) rfl plainK (by kernel_rfl)
#print axioms topKnown_holds
end Go.Proofs.YtgkenhpfiempbaaGreatDoor
