/-
  Part M14: F42, F42b, F26, F45, F27, P12, F28, F30, F29, F19. Conditions stand in the theorems.
-/
import Derived.Test.YtgkenhpfiempbaaGreatDoorM09
import Derived.Test.YtgkenhpfiempbaaGreatDoorM12
import Derived.Test.YtgkenhpfiempbaaGreatDoorM13
import Derived.Test.YtgkenhpfiempbaaGreatDoorM10
import Derived.Test.YtgkenhpfiempbaaGreatDoorM08
import Derived.Test.YtgkenhpfiempbaaGreatDoorM11
import Derived.Shelf.Strings.Builder1
set_option linter.all false
set_option maxRecDepth 1000000
set_option maxHeartbeats 8000000
namespace Go.Proofs.YtgkenhpfiempbaaGreatDoor.V
open Go Go.Proofs
noncomputable section
noncomputable def c42z:Code:=match fu Tryz.f42 with
 | .seq a _=>a
 |_=>.skip
noncomputable def c42y:Code:=match fu Tryz.f42 with
 | .seq _ (.seq b _)=>b
 |_=>.skip
noncomputable def c42c:Code:=match fu Tryz.f42 with
 | .seq _ (.seq _ (.seq (.seq c _) _))=>c
 |_=>.skip
noncomputable def c42l:Code:=match fu Tryz.f42 with
 | .seq _ (.seq _ (.seq (.seq _ (.block _ l)) _))=>l
 |_=>.skip
noncomputable def c42r:Code:=match fu Tryz.f42 with
 | .seq _ (.seq _ (.seq _ r))=>r
 |_=>.skip
noncomputable def ops42a:Array Oper:=match c42l with
 | .rangeFunc _ _ (.seq (.region _ ops _) _) _=>ops
 |_=> #[]
noncomputable def ops42b:Array Oper:=match c42l with
 | .rangeFunc _ _ (.seq _ (.region _ ops _)) _=>ops
 |_=> #[]
noncomputable def ops42c:Array Oper:=match c42l with
 | .rangeFunc _ _ _ (.block _ (.region _ ops _))=>ops
 |_=> #[]
theorem aic:Tryz.f42.body=some (.seq c42z (.seq c42y (.seq (.seq c42c (.block 0 c42l)) c42r))):=rfl
theorem afW:c42l= .rangeFunc (.tmp 15) #[16,17] (.seq (.region 3 ops42a false) (.region 4 ops42b false)) (.block 1 (.region 5 ops42c false)):=rfl
def M42:Md:={ A:=4,mt:=[55],tk:=[52,61],nest:=[24],bk:=[(63,61,24)]}
def iZ:List BindD→Nat→List (ByteArray×Int)
 | [],_=>[]
 |b::l,i=>putA b.s (i:Int) (iZ l (i+1))
theorem xB{α β:Type}[DecidableEq α]{x y:α}{v:β}:∀{l:List (α×β)},getA x (putA y v l)=if x=y then some v else getA x l
 | []=>by unfold putA getA getA;rfl
 |(k,u)::l=>by
  unfold putA;split
  ·rename_i h;subst h;unfold getA;split<;>rfl
  ·rename_i h;unfold getA;rw[xB];by_cases hx:x=k
   ·subst hx;rw[if_pos rfl,if_pos rfl,if_neg (fun e=>h e.symm)]
   ·rw[if_neg hx,if_neg hx]
theorem uH{x:ByteArray}:∀(l:List BindD) (i:Nat),getA x (iZ l i)=(nq x l i).map fun n=>(n:Int)
 | [],_=>rfl
 |b::l,i=>by
  unfold iZ nq;rw[xB,uH l (i+1)];by_cases h:x=b.s
  ·rw[if_pos h,if_pos h.symm];rfl
  ·rw[if_neg h,if_neg (fun e=>h e.symm)]
def kN(m:List (ByteArray×Int)):List Value:=m.map fun p=>.string p.1
def vN(m:List (ByteArray×Int)):List MV:=m.map fun p=>(false,[iv p.2])
def gOb(m:List (ByteArray×Int)):AV:=.ob 13 0 (.map (.string .empty) (kN m) (vN m))
def st42(bs:List BindD)(m:List (ByteArray×Int)):St:=⟨[(15,.one (.clo 120 [.ref [.sl 80 8 (bs.map bz) none] 0])),(3,.one (.ptr 3 0 0)),(0,.one (.sl 80 8 (bs.map bz) none)),(OB+13,gOb m)],[(3,⟨0,176,[.mref 13 0]⟩)],[aS 13]⟩
theorem ahr(bs:List BindD):evCW Tryz.prog T J M42 G c42z ⟨[(0,.one (.sl 80 8 (bs.map bz) none))],[],[]⟩ fun ex s=>ex= .normal∧evCW Tryz.prog T J M42 G c42y s fun ex s=>ex= .normal∧evCW Tryz.prog T J M42 G c42c s fun ex s=>ex= .normal∧WkW s (st42 bs []):=by
 conv=>whnf
 refine⟨rfl,?_⟩;conv=>whnf
 refine⟨rfl,?_⟩;conv=>whnf
 refine⟨_,_,CTW.of (aeB _) rfl,?_⟩;conv=>whnf
 exact⟨rfl,ww [15,3,0] [3] [13] [] rfl⟩
theorem ajp(bs:List BindD)(m:List (ByteArray×Int))(b:BindD)(i:Int):evWS Tryz.prog T J M42 G ops42a ops42a.toList ⟨(17,.agg (bz b))::(16,.one (iv i))::(st42 bs m).tmps,(st42 bs m).boxes,(st42 bs m).perms⟩
 fun s=>WkW s ⟨(17,.agg (bz b))::(4,.one (iv i))::(st42 bs m).tmps,(st42 bs m).boxes,(st42 bs m).perms⟩:=by
 obtain⟨bn,ba,bk,be,bm,bnn,bl,bq⟩:=b;conv=>whnf
 exact ww [17,4,15,3,0] [3] [13] [] rfl
def bx42(b:BindD):Nat×Box:=(5,⟨0,80,bz b⟩)
theorem aii(bs:List BindD)(m:List (ByteArray×Int))(b:BindD)(i:Int):evWS Tryz.prog T J M42 G ops42b ops42b.toList ⟨(17,.agg (bz b))::(4,.one (iv i))::(st42 bs m).tmps,(st42 bs m).boxes,(st42 bs m).perms⟩
 fun s=>WkW s ⟨(5,.one (.ptr 5 0 0))::(4,.one (iv i))::(st42 bs m).tmps,(st42 bs m).boxes++[bx42 b],(st42 bs m).perms⟩:=by
 obtain⟨bn,ba,bk,be,bm,bnn,bl,bq⟩:=b;conv=>whnf
 exact ww [5,4,15,3,0] [3,5] [13] [] rfl
theorem xG(x:ByteArray):∀l:List ByteArray,bL (.string x) (l.map Value.string)=fidx x l
 | []=>rfl
 |y::l=>by
  have ih:=xG x l;simp only[bE,bL,fidx]at ih ⊢;rw[ih];by_cases h:x=y
  ·simp[h,kEq,k1]
  ·simp[h,kEq,k1]
theorem rc{x:ByteArray}{m:List (ByteArray×Int)}:bL (.string x) (kN m)=fidx x (m.map Prod.fst):=by
 have:=xG x (m.map Prod.fst);rw[iu]at this;exact this
theorem abd{x:ByteArray}{i:Int}{m:List (ByteArray×Int)}(h:bL (.string x) (kN m)=none):kN (putA x i m)=kN m++[.string x]∧vN (putA x i m)=vN m++[(false,[iv i])]:=by
 rw[rc]at h;rw[iE h];simp[kN,vN]
theorem abc{x:ByteArray}{i:Int}{m:List (ByteArray×Int)}{j:Nat}(h:bL (.string x) (kN m)=some j):kN (putA x i m)=kN m∧vN (putA x i m)=(vN m).set j (false,[iv i]):=by
 rw[rc]at h;rw[iD h];have hf:=jY h;constructor
 ·unfold kN;rw[bX];refine ce fun n=>?_;rw[bf];split
  ·rename_i hn;subst hn;rw[aG]at hf ⊢;cases hq:m[j]? with
   |none=>rw[hq]at hf;cases hf
   |some p=>rw[hq]at hf;cases hf;simp[(aq.1 hq).1]
  ·rfl
 ·unfold vN;rw[bX]
theorem aie(bs:List BindD)(m:List (ByteArray×Int))(b:BindD)(i:Int):evWS Tryz.prog T J M42 G ops42c ops42c.toList ⟨(5,.one (.ptr 5 0 0))::(4,.one (iv i))::(st42 bs m).tmps,(st42 bs m).boxes++[bx42 b],(st42 bs m).perms⟩
 fun s=>WkW s (st42 bs (putA b.s i m)):=by
 obtain⟨bn,ba,bk,be,bm,bnn,bl,bq⟩:=b;conv=>whnf
 cases hf:bL (.string bn) (kN m) with
 |none=>
  obtain⟨p1,p2⟩:=abd (i:=i) hf;refine⟨none,rfl,?_⟩;conv=>whnf
  unfold st42 gOb;rw[p1,p2];exact ww [15,3,0] [3] [13] [] rfl
 |some j=>
  obtain⟨p1,p2⟩:=abc (i:=i) hf;refine⟨some j,rfl,?_⟩;conv=>whnf
  unfold st42 gOb;rw[p1,p2];exact ww [15,3,0] [3] [13] [] rfl
theorem aiJ:ops42a.toList.all (ib 65 4 [])=true:=by kernel_rfl
theorem aiI:ops42b.toList.all (ib 65 4 [])=true:=by kernel_rfl
theorem aiH:ops42c.toList.all (ib 65 4 [])=true:=by kernel_rfl
theorem aiX:im ops42a=true:=by kernel_rfl
theorem aiW:im ops42b=true:=by kernel_rfl
theorem aiV:im ops42c=true:=by kernel_rfl
structure Jv42(X:Ctx)(bs:List BindD)(a0:Act)(L D:Nat)(rec:Loop)(i:Nat)(H:Fz)(w:World):Prop where
 st:∃κ,WRel X κ H (st42 bs (iZ (bs.drop i) i)) a0 w
 lp:w.heap[L]?=some (.loop rec)
 df:w.heap[D]?=some (.deferred (some []))
theorem dY{t:Nat}{v:AV}{s:St}(h:kl s)(ht:t<OB):kl ⟨(t,v)::s.tmps,s.boxes,s.perms⟩:=by
 intro x g b c e;simp only at e;rw[bV (by omega)]at e;exact h x g b c e
theorem oN(bs:List BindD)(m:List (ByteArray×Int)):kl (st42 bs m):=by
 have h0:kl ⟨[(OB+13,gOb m)],[(3,⟨0,176,[.mref 13 0]⟩)],[aS 13]⟩:=by
  intro x g b c e;simp only[find]at e;split at e
  ·unfold gOb at e;simp at e
  ·cases e
 exact dY (dY (dY h0 (t:=0) (by decide)) (t:=3) (by decide)) (t:=15) (by decide)
theorem xk(bs:List BindD)(m:List (ByteArray×Int))(b:BindD)(i:Int):kl ⟨(5,.one (.ptr 5 0 0))::(4,.one (iv i))::(st42 bs m).tmps,(st42 bs m).boxes++[bx42 b],(st42 bs m).perms⟩:=by
 have h0:kl ⟨(st42 bs m).tmps,(st42 bs m).boxes++[bx42 b],(st42 bs m).perms⟩:=fun x g b c e=>oN bs m x g b c e;exact dY (dY h0 (t:=4) (by decide)) (t:=5) (by decide)
theorem aao{X:Ctx}{κ:Con}{H:Fz}{s:St}{w:World}{ft:Nat→List Nat}{t:Nat}{v:AV}(h:ObsOk X κ H s w ft)(ht:t<OB):ObsOk X κ H ⟨(t,v)::s.tmps,s.boxes,s.perms⟩ w ft:=
 {
  h with
  lt:=fun d g c e=>h.lt d g c (by simp only at e;rwa [bV (by omega)]at e)
  ok:=fun d g c e=>h.ok d g c (by simp only at e;rwa [bV (by omega)]at e)}
theorem ahA(bs:List BindD)(m:List (ByteArray×Int))(b:BindD):∀d,(d<0∨2048≤d)→find d ((st42 bs m).boxes++[bx42 b])=none:=by
 intro d hd;exact(bV (k:=3) (by omega) _ _).trans (bV (k:=5) (by omega) _ _)
theorem aft(bs:List BindD)(m:List (ByteArray×Int)):∀d,(d<0∨2048≤d)→find d (st42 bs m).boxes=none:=by
 intro d hd;exact bV (k:=3) (by omega) _ _
theorem aip(ts:Array Value)(x y:Value):Array.foldl (fun(tmps:Array Value) (p:Tmp×Value)=>match p with|(t,a)=>tmps.setIfInBounds t a) ts ((#[16,17]:Array Tmp).zip #[x,y])=(ts.setIfInBounds 16 x).setIfInBounds 17 y:=by
 simp[Array.zip]
theorem ahQ{bs:List BindD}{m:List (ByteArray×Int)}{t:Nat}{v:AV}(h:find t (st42 bs m).tmps=some v):(t=15∧v= .one (.clo 120 [.ref [.sl 80 8 (bs.map bz) none] 0]))∨(t=3∧v= .one (.ptr 3 0 0))∨(t=0∧v= .one (.sl 80 8 (bs.map bz) none))∨(t=OB+13∧v=gOb m):=by
 simp only[find,st42]at h;split at h
 ·rename_i h0;cases h;exact .inl ⟨(aP h0).symm,rfl⟩
 ·split at h
  ·rename_i h0;cases h;exact .inr (.inl ⟨(aP h0).symm,rfl⟩)
  ·split at h
   ·rename_i h0;cases h;exact .inr (.inr (.inl ⟨(aP h0).symm,rfl⟩))
   ·split at h
    ·rename_i h0;cases h;exact .inr (.inr (.inr ⟨(aP h0).symm,rfl⟩))
    ·cases h
theorem zq{κ κ':Con}{H H':Fz}{xs:List (List AC)}{u:Value}(h:AVr κ H (.one (.clo 120 [.ref [.sl 80 8 xs none] 0])) u)(hH:Fz.le H H'):AVr κ' H' (.one (.clo 120 [.ref [.sl 80 8 xs none] 0])) u:=by
 cases h with
 |one _ _ h=>
 cases h with
 |clo _ _ us hl hr=>
 match us,hl with
 | [p],_=>
 have h1:=hr 0 _ p rfl rfl;refine .one _ _ (.clo 120 _ [p] rfl fun j c u hj hu=>?_)
 match j,hj with
 |0,hj=>
  cases hj;cases hu;exact(fR rfl h1).mono (Con.no_le _) hH
theorem WRel.setDs{X:Ctx}{κ:Con}{H:Fz}{s:St}{ts:Array Value}{ds1 ds2:List Deferred}{w:World}(h:WRel X κ H s { tmps:=ts,defers:=ds1} w):WRel { X with ds:=ds2} κ H s { tmps:=ts,defers:=ds2} w:=by
 obtain⟨ft,ho⟩:=h.obs;have hr:=h.rel
 exact⟨{ size:=hr.size,tmps:=hr.tmps,defers:=rfl,fz:=hr.fz,hk:=hr.hk,h0:=hr.h0,box:=hr.box,nobox:=hr.nobox,args:=hr.args,perm:=hr.perm,noperm:=hr.noperm,bb:=hr.bb,rr:=hr.rr,br:=hr.br,pb:=hr.pb,pr:=hr.pr,keep:=hr.keep,grown:=hr.grown,os:=hr.os,tape:=hr.tape,output:=hr.output},
  ⟨ft,{ lt:=ho.lt,ok:=ho.ok,nodup:=ho.nodup,blk:=ho.blk,apart:=ho.apart}⟩,h.n⟩
theorem ahj{X:Ctx}{bs:List BindD}{g:Gr}{κ:Con}{H:Fz}{ts:Array Value}{d0:List Deferred}{D:Nat}{w:World}(hN:X.N=65)(hA:X.A=0)(hds:X.ds=[])(hnp:X.np=[])(hG:bK G X.H0)
 (h10:WRel X κ H (st42 bs (iZ bs 0)) { tmps:=ts,defers:=d0} w) (hD:X.W0.heap.size≤D) (df10:w.heap[D]?=some (.deferred (some []))) (hG9:bK G H)
 (hrest:evCW Tryz.prog T J M42 G c42r (st42 bs (iZ bs 0)) fun ex s=>(ex= .normal∨ex= .ret)∧kl s∧(∀d,2048≤d→find d s.boxes=none)∧resV Tryz.prog T M42 G Tryz.f42.results.toList s fun vs s=>runP Tryz.prog G s (finE M42 vs [.one (.sl 80 8 (bs.map bz) none)]) [] fun(rs',cs') _=>rs'=[.val (.one (.sl 24 1 (aW g) none))]∧cs'=[]):
 Code.wpIn Fence.wide 0 Tryz.prog c42r (fun e a' w'=>(e= .normal∨e= .ret)∧∃D s κ' H',a'.defers=[{ target:=.collected D,args:= #[]}]∧X.W0.heap.size≤D∧w'.heap[D]?=some (.deferred (some []))∧kl s∧
  WRel X κ' H' s { a' with defers:=[]} w'∧resV Tryz.prog T M42 G Tryz.f42.results.toList s fun vs s=>runP Tryz.prog G s (finE M42 vs [.one (.sl 80 8 (bs.map bz) none)]) [] fun(rs',cs') _=>rs'=[.val (.one (.sl 24 1 (aW g) none))]∧cs'=[])
  {tmps:=ts,defers:=[{ target:=.collected D,args:= #[]}]} w:=by
 have h11:=h10.setDs (ds2:=[{ target:=.collected D,args:= #[]}]);obtain⟨ft,hf,hft⟩:=h11.trim (oN bs _)
 refine wpIn_wide.2 (lf (T:=T) (J:=J) (G:=G) (M:=M42) (X:=Ctx.reW { X with ds:=[{ target:=.collected D,args:= #[]}]} κ H _ _ ft 0) E EK hG9 (aR _) c42r (by show gC X.N 0 X.np c42r=true;rw[hN,hnp];kernel_rfl) _ _ κ H _ w (hf.re 0).wrel hrest _ ?_)
 rintro ex s κ2 H2 a2 w2 h12 ⟨hex,hnb,hno,hres⟩;have h13:=hf.back h12 (fun d hd=>hno d (by have:X.A=0:=hA;simp only at hd;omega));have df12:=hf.other hft h12 df10 rfl;refine⟨?_,D,s,κ2,H2,h13.rel.defers,hD,df12,hnb,?_,hres⟩
 ·rcases hex with rfl|rfl
  ·exact .inl rfl
  ·exact .inr rfl
 ·have:=h13.setDs (ts:=a2.tmps) (ds1:=a2.defers) (ds2:=[]);rw[←hds]at this ⊢;exact this
theorem adF{k:Nat}{bs:List BindD}{g:Gr}(hl:bs.length≤4294967296)
 (hrest:evCW Tryz.prog T J M42 G c42r (st42 bs (iZ bs 0)) fun ex s=>(ex= .normal∨ex= .ret)∧kl s∧(∀d,2048≤d→find d s.boxes=none)∧resV Tryz.prog T M42 G Tryz.f42.results.toList s fun vs s=>runP Tryz.prog G s (finE M42 vs [.one (.sl 80 8 (bs.map bz) none)]) [] fun(rs',cs') _=>rs'=[.val (.one (.sl 24 1 (aW g) none))]∧cs'=[]):
 Cw 42 [.one (.sl 80 8 (bs.map bz) none)] [.val (.one (.sl 24 1 (aW g) none))] []:=by
 refine agh (T:=T) (J:=J) (M:=M42) (s0:=⟨[(0,.one (.sl 80 8 (bs.map bz) none))],[],[]⟩) E Tryz.func42 aic (by kernel_rfl) rfl (K:=fun rs' cs'=>rs'=[.val (.one (.sl 24 1 (aW g) none))]∧cs'=[]) (fun rs' cs' h=>by rw[h.1,h.2];exact⟨LeRs.refl _,trivial⟩) ?_;intro X κ H ac w hG hN hA hds hnp h
 have hnp:X.np=[]:=hnp;refine wpIn_seq (wpIn_wide.2 (lf (T:=T) (J:=J) (G:=G) (M:=M42) (X:=X) E EK hG (by rw[hA];exact aR _) c42z (by rw[hN,hA,hnp];kernel_rfl) _ _ κ H _ w h (ahr bs) _ ?_));rintro ex s κ H ac w h ⟨rfl,he⟩
 refine wpIn_seq (wpIn_wide.2 (lf (T:=T) (J:=J) (G:=G) (M:=M42) (X:=X) E EK hG (by rw[hA];exact aR _) c42y (by rw[hN,hA,hnp];kernel_rfl) _ _ κ H _ w h he _ ?_));clear h he;rintro ex s κ H ac w h ⟨rfl,he⟩
 refine wpIn_seq (wpIn_seq (wpIn_wide.2 (lf (T:=T) (J:=J) (G:=G) (M:=M42) (X:=X) E EK hG (by rw[hA];exact aR _) c42c (by rw[hN,hA,hnp];kernel_rfl) _ _ κ H _ w h he _ ?_)));clear h he;rintro ex s κ H ac w h0 ⟨rfl,hwk⟩;obtain⟨κ,H,h⟩:=hwk X κ H ac w h0;clear h0 hwk s
 have hG1:bK G H:=hG.mono h.rel.h0;show(Code.block 0 c42l).wpIn _ _ _ _ _ _;refine wpIn_block ?_;rw[afW];refine wpIn_rangeFunc fun fn _=>?_;have ht:=h.rel.tmps 15 _ rfl;cases ht with
 |one _ _ ht=>
 generalize hu:ac.tmps.getD 15 undef=uu at ht;cases ht with
 |clo _ _ us hl1 hr1=>
 match us,hl1 with
 | [ptr],_=>
 have hptr:=hr1 0 _ ptr rfl rfl;have hnp1:∀{k:Nat},¬X.Pr (w.heap.size+k):=fun{k} hp=>by
  have:=X.lt _ hp;have:=h.rel.grown;omega
 obtain⟨rec,hrec⟩:∃rec:LoopState→Option Code→Loop,rec=fun st pe=>{ state:=st,pending:=pe,fn,tmps:=ac.tmps,params:= #[16,17],assign:=.seq (.region 3 ops42a false) (.region 4 ops42b false),body:=.block 1 (.region 5 ops42c false),defers:=w.heap.size}:=⟨_,rfl⟩
 obtain⟨W1,hW1⟩:∃W1,(w.alloc (.deferred (some []))).alloc (.loop (rec .ready none))=W1:=⟨_,rfl⟩;have hL1:W1.heap[w.heap.size+1]?=some (.loop (rec .ready none)):=by
  rw[←hW1];have:=World.alloc_heap_new (w.alloc (.deferred (some []))) (.loop (rec .ready none));rwa [World.size_alloc]at this
 have hD1:W1.heap[w.heap.size]?=some (.deferred (some [])):=by
  rw[←hW1];show((w.heap.push _).push _)[w.heap.size]?=_;rw[dT,dT];simp
 have h1:WRel X κ H _ ac W1:=hW1▸(h.allocMark _).allocMark _
 refine⟨w.heap.size+1,[{ target:=.collected w.heap.size,args:= #[]}],W1,{ target:=.fn (.func 120) #[ptr],args:= #[.func (.yield (w.heap.size+1)) #[] #[]]},W1,120,#[.func (.yield (w.heap.size+1)) #[] #[],ptr],W1,?_,?_,fun _ _=>trivial,?_,fun hd=>by simp[Fence.wide]at hd,?_⟩
 ·rw[←hW1,hrec];exact run_enterLoop_outer _ _ _ _ _
 ·simp[resolve,rangeCall,Act.eval,hu,Deferred.ofValue,go_sem]
 ·simp[invoke,go_sem,adX Tryz.func120 (by kernel_rfl) rfl]
 ·have hxs:(bs.map bz).length=bs.length:=cG ..;refine(aeC (xs:=bs.map bz) (by rw[hxs];omega) (fun cs hc=>by obtain⟨t,-,rfl⟩:=bZ.1 hc;exact⟨t,rfl⟩)
   (fun i H' w'=>Fz.le H H'∧Jv42 X bs ac (w.heap.size+1) w.heap.size (rec .ready none) i H' w')
   (fun i H1 w1 H2 w2 hj hla=>⟨Fz.le_trans hj.1 hla.le,?st,?lp,?df⟩) (fun i H1 w1 hj=>?fz) (fun i H1 w1 hj=>hG1.mono hj.1) (fun i H1 w1 hj=>?pt) (fun i H2 w2 cs us hj hcs hus=>?round) ⟨Fz.le_refl H,?first⟩).mono ?last
  case st=>
   obtain⟨κ',hr⟩:=hj.2.st;exact⟨κ',hr.later hla⟩
  case lp=>rw[hla.blk _ (ay.1 hj.2.lp).1];exact hj.2.lp
  case df=>rw[hla.blk _ (ay.1 hj.2.df).1];exact hj.2.df
  case fz=>
   obtain⟨κ',hr⟩:=hj.2.st;exact hr.rel.fz
  case pt=>
   obtain⟨κ',hr⟩:=hj.2.st;have ht:=hr.rel.tmps 15 _ rfl;rw[hu]at ht;cases ht with
   |one _ _ ht=>
   cases ht with
   |clo _ _ us hl1 hr1=>exact fR rfl (hr1 0 _ ptr rfl rfl)
  case first=>
   refine⟨⟨κ,?_⟩,hL1,hD1⟩;rw[hxs,cF];exact h1
  case round=>
   obtain⟨hle2,⟨κ2,h2⟩,lp2,df2⟩:=hj;obtain⟨b,hb,rfl⟩:∃b,bs[i]?=some b∧bz b=cs:=by
    rw[aG,ar]at hcs;exact hcs
   have hil:i<bs.length:=(aq.1 hb).1;have hst:iZ (bs.drop i) i=putA b.s (i:Int) (iZ (bs.drop (i+1)) (i+1)):=by
    rw[aj hil,(aq.1 hb).2];rfl
   have hy:=run_yield (P:=Tryz.prog) (args:= #[.int .i64 i,.agg us.toArray]) lp2 (by rw[hrec];rfl);rw[hrec]at hy;dsimp only at hy;rw[aip]at hy;refine⟨fn,_,_,_,hy,roundIn_of_wpIn trivial ?_⟩;generalize iZ (bs.drop (i+1)) (i+1)=m at h2 hst
   have hput:WRel X κ2 H2 ⟨(17,.agg (bz b))::(16,.one (iv i))::(st42 bs m).tmps,(st42 bs m).boxes,(st42 bs m).perms⟩ { tmps:=(ac.tmps.setIfInBounds 16 (.int .i64 i)).setIfInBounds 17 (.agg us.toArray),defers:=[]} w2:=by
    have h3:=(h2.rel.put (t:=16) (by rw[hN];decide) (v:=.one (.v (.int .i64 i))) (u:=.int .i64 i) (.one _ _ (.v _ rfl))).put (t:=17) (by rw[hN];decide) (v:=.agg (bz b)) (u:=.agg us.toArray) (.agg _ _ (hus.mono (Con.no_le _) (Fz.le_refl _)));obtain⟨ft,hft⟩:=h2.obs
    exact⟨{ h3 with defers:=hds.symm,size:=h3.size,tmps:=h3.tmps},⟨ft,aao (aao hft (by decide)) (by decide)⟩,h2.n.1,by rw[hnp];simp⟩
   obtain⟨ft2,hf2,hft2⟩:=hput.trim (dY (dY (oN bs m) (by decide)) (by decide))
   refine wpIn_seq (nU (X:=X.reW κ2 H2 _ w2 ft2 4) (M:=M42) (T:=T) (J:=J) (G:=G) E EK (hG1.mono hle2) (au 4) (r:=some (w.heap.size+1)) (by show List.all _ (ib X.N 4 X.np)=true;rw[hN,hnp];exact aiJ) aiX (hf2.re 4).wrel (ajp bs m b i) ?_);rintro s3 κ3' H3' a3 w3 h3' hwk3
   obtain⟨κ3,H3,h3⟩:=hwk3 _ _ _ _ _ h3';clear h3' hwk3;refine nU (X:=X.reW κ2 H2 _ w2 ft2 4) (M:=M42) (T:=T) (J:=J) (G:=G) E EK (hG1.mono hle2) (au 4) (r:=some (w.heap.size+1)) (by show List.all _ (ib X.N 4 X.np)=true;rw[hN,hnp];exact aiI) aiW h3 (aii bs m b i) ?_
   rintro s4 κ4' H4' a4 w4 h4' hwk4;obtain⟨κ4,H4,h4⟩:=hwk4 _ _ _ _ _ h4';clear h4' hwk4 h3;have h4b:=hf2.back h4 (by rw[hA];exact ahA bs m b);have lp4:=hf2.other hft2 h4 lp2 rfl;have df4:=hf2.other hft2 h4 df2 rfl;rw[hrec]at lp4;refine⟨_,run_beginRound lp4 rfl,?_⟩
   have h5:=h4b.putMark (xk bs m b i) (.loop { rec .ready none with state:=.busy}) lp4 rfl rfl hnp1;rw[hrec]at h5;have lp5:=World.putObj_heap_same (w:=w4) (o:=.loop { rec .ready none with state:=.busy}) (ay.1 lp4).1;rw[hrec]at lp5
   have df5:=(World.putObj_heap_other (w:=w4) (r:=w.heap.size+1) (k:=w.heap.size) (o:=.loop { rec .ready none with state:=.busy}) (by omega)).trans df4;rw[hrec]at df5;obtain⟨ft5,hf5,hft5⟩:=h5.trim (xk bs m b i)
   refine wpIn_block (nU (X:=X.reW κ4 H4 _ _ ft5 4) (M:=M42) (T:=T) (J:=J) (G:=G) E EK (hG1.mono (Fz.le_trans hle2 h4.rel.h0)) (au 4) (r:=some (w.heap.size+1)) (by show List.all _ (ib X.N 4 X.np)=true;rw[hN,hnp];exact aiH) aiV (hf5.re 4).wrel (aie bs m b i) ?_)
   rintro s6 κ6' H6' a6 w6 h6' hwk6;obtain⟨κ6,H6,h6⟩:=hwk6 _ _ _ _ _ h6';clear h6' hwk6;have h6b:=hf5.back h6 (by rw[hA];exact aft bs _);have lp6:=hf5.other hft5 h6 lp5 rfl;have df6:=hf5.other hft5 h6 df5 rfl
   refine⟨_,_,run_endRound none lp6,rfl,H6,Fz.le_trans h4.rel.h0 h6.rel.h0,Fz.le_trans hle2 (Fz.le_trans h4.rel.h0 h6.rel.h0),⟨κ6,?_⟩,?_,?_⟩
   ·rw[hst];refine WRel.putMark ?_ (oN bs _) _ lp6 rfl rfl hnp1;refine⟨{ h6b.rel with size:=h2.rel.size,defers:=h2.rel.defers,tmps:=fun t' v ht'=>?_},h6b.obs,h2.n⟩;have hle6:=Fz.le_trans h4.rel.h0 h6.rel.h0;rcases ahQ ht' with⟨rfl,rfl⟩|⟨rfl,rfl⟩|⟨rfl,rfl⟩|⟨rfl,rfl⟩
    ·exact zq (h2.rel.tmps 15 _ rfl) hle6
    ·have k4:κ4.blk 3 0=κ2.blk 3 0:=h4.rel.args 3 ⟨0,176,[.mref 13 0]⟩ (.inl (show 3<4 by decide)) rfl;have k6:κ6.blk 3 0=κ4.blk 3 0:=h6.rel.args 3 ⟨0,176,[.mref 13 0]⟩ (.inl (show 3<4 by decide)) rfl;have hnb:=(h6.rel.box 3 ⟨0,176,[.mref 13 0]⟩ rfl).1;rw[(gD (h2.rel.tmps 3 _ rfl)).1,←k4,←k6]
     exact .one _ _ (.ptr 3 0 0 (by simp only at hnb;omega))
    ·exact(dO rfl (h2.rel.tmps 0 _ rfl)).mono (Con.no_le _) hle6
    ·exact .ob _ _ _ _
   ·rw[hrec];exact World.putObj_heap_same (ay.1 lp6).1
   ·exact(World.putObj_heap_other (by omega)).trans df6
  case last=>
   rintro e w9 ⟨⟨v,rfl⟩,H9,hle9,⟨κ9,h9⟩,lp9,df9⟩;rw[hrec]at lp9;refine⟨none,_,run_endLoop lp9 (by simp),?_⟩;have h10:=h9.putMark (oN bs _) (.loop { rec .ready none with state:=.exhausted}) lp9 rfl rfl hnp1
   have df10:=(World.putObj_heap_other (w:=w9) (r:=w.heap.size+1) (k:=w.heap.size) (o:=.loop { rec .ready none with state:=.exhausted}) (by omega)).trans df9;rw[hrec]at h10 df10;show Code.wpIn Fence.wide 0 Tryz.prog c42r _ { tmps:=ac.tmps,defers:=[_]++ac.defers} _;rw[h9.rel.defers,hds]
   rw[iw]at h10;refine ahj hN hA hds hnp hG h10 (by have:=h.rel.grown;exact this) df10 (hG1.mono hle9) hrest
theorem sw{k:Nat}{all:List BindD}:∀{l:List BindD} {g:Gr},oa k all l=some g→g.length=l.length
 | [],g,h=>by cases h;rfl
 |b::l,g,h=>by
  unfold oa at h;split at h
  ·split at h
   ·split at h
    ·rename_i g1 h1;cases h;simp[sw h1]
    ·cases h
   ·cases h
  ·cases h
def gSt(bs:List BindD)(i:Nat)(ou:Gr):St:=⟨[(27,.one (iv i)),(26,.one (iv (bs.map bz).length)),(25,.one (.sl 80 8 (bs.map bz) none)),(6,.one (.rref 24 0 (bs.map bz).length)),(3,.one (.ptr 3 0 0)),(OB+24,.ob 24 0 (.rows 3 1 24 (cY ou))),(OB+13,gOb (iZ bs 0))],[(3,⟨0,176,[.mref 13 0]⟩)],[aS 24,aS 13]⟩
def gIn(bs:List BindD)(ns:List ByteArray)(i i2:Nat)(ou:Gr):St:=⟨(36,.one (iv i2))::(35,.one (iv (ns.map str).length))::(34,.one (.sl 9 1 (ns.map str) none))::(7,.one (iv i))::(gSt bs i ou).tmps,(gSt bs i ou).boxes,[aS 24,aS 13]⟩
theorem adH(bs:List BindD)(i:Nat)(ou:Gr){r:List (List (List AC))}(h:cY ou=r):gSt bs i ou=⟨[(27,.one (iv i)),(26,.one (iv (bs.map bz).length)),(25,.one (.sl 80 8 (bs.map bz) none)),(6,.one (.rref 24 0 (bs.map bz).length)),(3,.one (.ptr 3 0 0)),(OB+24,.ob 24 0 (.rows 3 1 24 r)),(OB+13,gOb (iZ bs 0))],[(3,⟨0,176,[.mref 13 0]⟩)],[aS 24,aS 13]⟩:=by
 subst h;rfl
theorem adI(bs:List BindD)(ns:List ByteArray)(i i2:Nat)(ou:Gr){r:List (List (List AC))}(h:cY ou=r):gIn bs ns i i2 ou=⟨[(36,.one (iv i2)),(35,.one (iv (ns.map str).length)),(34,.one (.sl 9 1 (ns.map str) none)),(7,.one (iv i)),(27,.one (iv i)),(26,.one (iv (bs.map bz).length)),(25,.one (.sl 80 8 (bs.map bz) none)),(6,.one (.rref 24 0 (bs.map bz).length)),(3,.one (.ptr 3 0 0)),(OB+24,.ob 24 0 (.rows 3 1 24 r)),(OB+13,gOb (iZ bs 0))],[(3,⟨0,176,[.mref 13 0]⟩)],[aS 24,aS 13]⟩:=by
 subst h;rfl
theorem aaX{k:Nat}{bs:List BindD}{g:Gr}(hl:bs.length≤4294967296)(hfb:∀b∈bs,dJ b.body)(h:oa k bs bs=some g):
 evCW Tryz.prog T J M42 G c42r (st42 bs (iZ bs 0)) fun ex s=>(ex= .normal∨ex= .ret)∧kl s∧(∀d,2048≤d→find d s.boxes=none)∧resV Tryz.prog T M42 G Tryz.f42.results.toList s fun vs s=>runP Tryz.prog G s (finE M42 vs [.one (.sl 80 8 (bs.map bz) none)]) [] fun(rs',cs') _=>rs'=[.val (.one (.sl 24 1 (aW g) none))]∧cs'=[]:=by
 have hbl:(bs.map bz).length=bs.length:=by simp
 have hgl:=sw h;conv=>whnf
 refine⟨⟨rfl,by omega,by show((bs.map bz).length:Int)≤(lim 24:Nat);simp[lim];omega⟩,?_⟩;conv=>whnf
 refine⟨fun j st=>∃i ou g2,i+j=bs.length∧ou.length=bs.length∧oa k bs (bs.drop i)=some g2∧(∀n,n<i→ou[n]?=g[n]?)∧(∀n,i≤n→n<bs.length→ou[n]?=some [])∧g.drop i=g2∧st=gSt bs i ou,
  ⟨bs.length,_,ww [27,26,25,6,3] [3] [24,13] [] rfl,0,List.replicate bs.length [],g,by omega,by simp,h,fun n hn=>by omega,fun n h1 h2=>by simp[h2],rfl,?_⟩,?_⟩
 ·have:cY (List.replicate bs.length [])=List.replicate (bs.map bz).length []:=by simp[cY,ints]
  unfold gSt;rw[this];rfl
 rintro j st ⟨i,ou,g2,hij,hol,hq,ho1,ho2,hgd,rfl⟩;unfold gSt gOb;conv=>whnf
 cases j with
 |zero=>
  rw[af (p:=(i:Int)<((bs.map bz).length:Int)) (by omega)];have hou:ou=g:=by
   refine ce fun n=>?_;by_cases hn:n<i
   ·exact ho1 n hn
   ·rw[bI (by omega),bI (by omega)]
  subst hou;conv=>whnf
  refine⟨.inr rfl,?_,fun d hd=>bV (k:=3) (by omega) _ _,?_⟩
  ·have h0:kl ⟨[(OB+24,.ob 24 0 (.rows 3 1 24 (cY ou))),(OB+13,gOb (iZ bs 0))],[(3,⟨0,176,[.mref 13 0]⟩)],[aS 24,aS 13]⟩:=by
    intro x g b c e;simp only[find]at e;split at e
    ·simp at e
    ·split at e
     ·unfold gOb at e;simp at e
     ·cases e
   exact dY (dY (dY (dY (dY (dY (dY (dY h0 (t:=3) (by decide)) (t:=6) (by decide)) (t:=25) (by decide)) (t:=26) (by decide)) (t:=27) (by decide)) (t:=28) (by decide)) (t:=64) (by decide)) (t:=2) (by decide)
  ·conv=>whnf
   exact⟨by rw[←mW],rfl⟩
 |succ j=>
  rw[ag (p:=(i:Int)<((bs.map bz).length:Int)) (by omega)];have him:i<bs.length:=by omega
  rw[aj him]at hq;have gb:(bs.map bz)[i]?=some (bz bs[i]):=by simp[him]
  have hfi:=hfb _ (bp him);generalize bs[i]=b at hq gb hfi;unfold oa at hq;split at hq
  case h_2=>cases hq
  rename_i f hfr;have hfree:=afJ hfi hfr;obtain⟨bn,ba,bk,be,bm,bnn,bl,bq⟩:=b;split at hq
  case isFalse=>cases hq
  rename_i hlims;split at hq
  case h_2=>cases hq
  rename_i g3 hg3;cases hq;conv=>whnf
  refine⟨_,⟨ae _,gb⟩,?_⟩;conv=>whnf
  refine⟨_,_,hfree,?_⟩;conv=>whnf
  refine(pI (fun j2 st=>∃i2 row,i2+j2=f.ns.length∧row.length≤i2∧row++il bs (f.ns.drop i2)=il bs f.ns∧st=gIn bs f.ns i i2 (ou.set i row))
   (fun e st=>e= .exit 4∧st=⟨(37,.one (bv false))::(gIn bs f.ns i f.ns.length (ou.set i (il bs f.ns))).tmps,(gIn bs f.ns i f.ns.length (ou.set i (il bs f.ns))).boxes,[aS 24,aS 13]⟩) ?_ ?_ ?_:evCW Tryz.prog T J M42 G (.loop _) _ _)
  ·refine⟨f.ns.length,_,ww [36,35,34,7,27,26,25,6,3] [3] [24,13] [] rfl,0,[],by omega,by simp,rfl,?_⟩;have:ou.set i []=ou:=by
    refine ce fun n=>?_;by_cases hn:i=n
    ·subst hn;rw[cV (by omega),ho2 i (au _) him]
    ·rw[eG hn]
   rw[this];rfl
  ·rintro j2 st ⟨i2,row,hij2,hrl,hrow,rfl⟩;have hnl:(f.ns.map str).length=f.ns.length:=by simp
   unfold gIn gSt gOb;simp only;conv=>whnf
   cases j2 with
   |zero=>
    rw[af (p:=(i2:Int)<((f.ns.map str).length:Int)) (by omega)];rw[ap (by omega)]at hrow;have hrow:row=il bs f.ns:=by rw[←hrow];simp[il]
    subst hrow;conv=>whnf
    obtain rfl:i2=f.ns.length:=by omega
    exact⟨rfl,rfl⟩
   |succ j2=>
    rw[ag (p:=(i2:Int)<((f.ns.map str).length:Int)) (by omega)];have him2:i2<f.ns.length:=by omega
    rw[aj him2]at hrow;have gn:(f.ns.map str)[i2]?=some (str f.ns[i2]):=by simp[him2]
    generalize f.ns[i2]=x at hrow gn;generalize hR:il bs f.ns=R at hrow;unfold il at hrow;have hbm:=uH (x:=x) bs 0;conv=>whnf
    have hw2:IntKind.i64.wrap ((i2:Int)+1)=((i2+1:Nat):Int):=by unfold LIM at hlims;rw[i64w (by omega) (by omega)];omega
    have hor:(ou.set i row)[i]?=some row:=cV (by omega);have hirl:=bh row;refine⟨_,⟨ae _,gn⟩,?_⟩;conv=>whnf
    rcases iG (x:=x) (l:=iZ bs 0) with⟨ix,v,q1,q2,q3⟩|⟨q1,q3⟩
    ·rw[q3]at hbm;cases hfx:nq x bs 0 with
     |none=>rw[hfx]at hbm;cases hbm
     |some n=>
     rw[hfx]at hbm hrow;obtain rfl:v=(n:Int):=cg hbm;have gv:(vN (iZ bs 0))[ix]?=some (false,[iv n]):=by
      rw[aG,ar]at q2;obtain⟨p,z1,z2⟩:=q2;unfold vN;rw[aG,z1,bW,z2]
     refine⟨some ix,by rw[rc];exact q1,?_⟩;conv=>whnf
     refine⟨_,gv,?_⟩;conv=>whnf
     refine⟨⟨ae _,by omega⟩,?_⟩;conv=>whnf
     refine⟨_,kT hor,?_⟩;conv=>whnf
     refine⟨by show(ints row).length+1≤lim 8;unfold LIM at hlims;simp[lim];omega,?_⟩;conv=>whnf
     refine⟨⟨ae _,by omega⟩,?_⟩;conv=>whnf
     refine⟨rfl,?_⟩;conv=>whnf
     rw[hw2];refine⟨j2,_,ah j2,ww [36,35,34,7,27,26,25,6,3] [3] [24,13] [] rfl,i2+1,row++[(n:Int)],by omega,by simp;omega,by rw[←hrow];simp,?_⟩;have e1:cY (ou.set i (row++[(n:Int)]))=(cY (ou.set i row)).set i (ints row++[[iv n]]):=by
      rw[show ints row++[[iv n]]=ints (row++[(n:Int)]) by simp[ints],kS,List.set_set]
     exact(adI bs f.ns i (i2+1) _ e1).symm
    ·rw[q3]at hbm;cases hfx:nq x bs 0 with
     |some n=>rw[hfx]at hbm;cases hbm
     |none=>
     rw[hfx]at hrow;refine⟨none,by rw[rc];exact q1,?_⟩;conv=>whnf
     rw[hw2];exact⟨j2,_,ah j2,ww [36,35,34,7,27,26,25,6,3] [3] [24,13] [] rfl,i2+1,row,by omega,by omega,hrow,rfl⟩
  ·rintro e st ⟨rfl,rfl⟩;unfold gIn gSt gOb;simp only;have hor:(ou.set i (il bs f.ns))[i]?=some (il bs f.ns):=cV (by omega);conv=>whnf
   refine⟨⟨ae _,by omega⟩,?_⟩;conv=>whnf
   refine⟨_,kT hor,?_⟩;conv=>whnf
   refine⟨_,_,zT hlims.1,?_⟩;conv=>whnf
   have hrb:(cY (ou.set i (il bs f.ns))).length=bs.length:=by simp[cY,hol]
   refine⟨by rw[hrb];exact him,?_⟩;conv=>whnf
   rw[i64s i (by omega)];refine⟨j,_,ah j,ww [27,26,25,6,3] [3] [24,13] [] rfl,i+1,ou.set i (lW (il bs f.ns)),g3,by omega,by simp[hol],hg3,fun n hn=>?_,fun n h1 h2=>?_,?_,?_⟩
   ·by_cases hni:n=i
    ·subst hni;rw[cV (by omega)];have:=congrArg (fun l=>l[0]?) hgd;simpa using this.symm
    ·rw[eG (by omega)];exact ho1 n (by omega)
   ·rw[eG (by omega)];exact ho2 n (by omega) h2
   ·have:=congrArg List.tail hgd;simpa using this
   ·have e1:cY (ou.set i (lW (il bs f.ns)))=(cY (ou.set i (il bs f.ns))).set i (ints (lW (il bs f.ns))):=by rw[kS,List.set_set]
    exact(adH bs (i+1) _ e1).symm
theorem abx{k:Nat}{bs:List BindD}{g:Gr}(hfb:∀b∈bs,dJ b.body)(h:vL k bs=some g):Cw 42 [.one (.sl 80 8 (bs.map bz) none)] [.val (.one (.sl 24 1 (aW g) none))] []:=by
 unfold vL at h;split at h
 ·rename_i hl;exact adF (k:=k) hl (aaX hl hfb h)
 ·cases h
theorem ahZ{K k:Nat}{p:ProgD}{c:Ck}{w:Gr}(hg:Cw 42 [.one (.sl 80 8 (p.binds.map bz) none)] [.val (.one (.sl 24 1 (aW c.graph) none))] [])(h:chkR K k p=some (c,w)):
 Cw 26 [.agg (oF p)] [.box 71 (ckC c),.val (.one (.sl 24 1 (aW w) none))] []:=by
 obtain⟨ds,bs⟩:=p;unfold chkR at h;simp only at h hg;split at h
 case h_2=>cases h
 rename_i g hgr;split at h
 case h_2=>cases h
 rename_i gr hsc;split at h
 case h_2=>cases h
 rename_i of9 hof;split at h
 case h_2=>cases h
 rename_i w9 hw;split at h
 case isFalse=>cases h
 rename_i hlim;unfold LIM at hlim;cases h;simp only at hg;have hsc:=acj hsc;have hwc:=abL hw;have hbl:(bs.map bz).length=bs.length:=by simp
 have hrl:=dS gr;refine cw {} Tryz.func26 (by kernel_rfl) ?_;conv=>whnf
 refine⟨_,_,hg,?_⟩;conv=>whnf
 refine⟨⟨rfl,by omega,by show((bs.map bz).length:Int)≤(lim 8:Nat);simp[lim];omega⟩,?_⟩;conv=>whnf
 refine⟨aN (by kernel_rfl),?_⟩;conv=>whnf
 refine⟨_,_,hsc,?_⟩;conv=>whnf
 refine⟨fun j st=>∃i of,i+j=gr.length∧of.length=bs.length∧ofG (gr.drop i) i of=some of9∧st=⟨[(33,.one (iv i)),(32,.one (iv (aW gr).length)),(31,.one (.sl 24 1 (aW gr) none)),(4,.one (.ptr 19 0 0)),(OB+16,.ob 16 0 (.row 3 1 (ints of))),(OB+17,.ob 17 0 (.map kz [] []))],[(19,⟨0,71,[.sl 158 4 (ds.map bS) none,.sl 80 8 (bs.map bz) none,.sl 24 1 (aW g) none,.sl 24 1 (aW gr) none,.rref 16 0 bs.length,.mref 17 0,iv (-1)]⟩)],[aS 16,aS 17]⟩,
  ⟨gr.length,_,ww [33,32,31,4] [19] [16,17] [] rfl,0,_,by omega,by simp,hof,?_⟩,?_⟩
 ·have q1:ints (List.replicate bs.length 0)=List.replicate (bs.map bz).length [iv 0]:=by simp[ints]
  rw[q1,←hbl];rfl
 rintro j st ⟨i,of,hij,hol,hq,rfl⟩;conv=>whnf
 cases j with
 |zero=>
  rw[af (p:=(i:Int)<((aW gr).length:Int)) (by omega)];rw[ap (by omega)]at hq;cases hq;conv=>whnf
  refine⟨_,_,hwc,?_⟩;conv=>whnf
  exact⟨rfl,rfl⟩
 |succ j=>
  rw[ag (p:=(i:Int)<((aW gr).length:Int)) (by omega)];have him:i<gr.length:=by omega
  rw[aj him]at hq;have eg:=dz (ad him);generalize gr[i]=l at hq eg;have hil:=bh l;unfold ofG at hq;split at hq
  case isFalse=>cases hq
  rename_i hll;unfold LIM at hll;split at hq
  case h_2=>cases hq
  rename_i of1 hp;conv=>whnf
  refine⟨_,⟨ae _,eg⟩,?_⟩;conv=>whnf
  refine(pI (fun j2 st=>∃i2 of2,i2+j2=l.length∧of2.length=bs.length∧ml (i:Int) (l.drop i2) of2=some of1∧st=⟨[(40,.one (iv i2)),(39,.one (iv (ints l).length)),(38,.one (.sl 3 1 (ints l) none)),(5,.one (iv i)),(33,.one (iv i)),(32,.one (iv (aW gr).length)),(31,.one (.sl 24 1 (aW gr) none)),(4,.one (.ptr 19 0 0)),(OB+16,.ob 16 0 (.row 3 1 (ints of2))),(OB+17,.ob 17 0 (.map kz [] []))],[(19,⟨0,71,[.sl 158 4 (ds.map bS) none,.sl 80 8 (bs.map bz) none,.sl 24 1 (aW g) none,.sl 24 1 (aW gr) none,.rref 16 0 bs.length,.mref 17 0,iv (-1)]⟩)],[aS 16,aS 17]⟩)
   (fun e st=>e= .exit 2∧of1.length=bs.length∧st=⟨[(41,.one (bv false)),(40,.one (iv l.length)),(39,.one (iv (ints l).length)),(38,.one (.sl 3 1 (ints l) none)),(5,.one (iv i)),(33,.one (iv i)),(32,.one (iv (aW gr).length)),(31,.one (.sl 24 1 (aW gr) none)),(4,.one (.ptr 19 0 0)),(OB+16,.ob 16 0 (.row 3 1 (ints of1))),(OB+17,.ob 17 0 (.map kz [] []))],[(19,⟨0,71,[.sl 158 4 (ds.map bS) none,.sl 80 8 (bs.map bz) none,.sl 24 1 (aW g) none,.sl 24 1 (aW gr) none,.rref 16 0 bs.length,.mref 17 0,iv (-1)]⟩)],[aS 16,aS 17]⟩)
   ?_ ?_ ?_:evCW Tryz.prog T J {} G (.loop _) _ _)
  ·exact⟨l.length,_,ww [40,39,38,5,33,32,31,4] [19] [16,17] [] rfl,0,of,by omega,hol,hp,rfl⟩
  ·rintro j2 st ⟨i2,of2,hij2,hol2,hq2,rfl⟩;conv=>whnf
   cases j2 with
   |zero=>
    rw[af (p:=(i2:Int)<((ints l).length:Int)) (by omega)];rw[ap (by omega)]at hq2;cases hq2;conv=>whnf
    have:i2=l.length:=by omega
    subst this;exact⟨rfl,hol2,rfl⟩
   |succ j2=>
    rw[ag (p:=(i2:Int)<((ints l).length:Int)) (by omega)];have him2:i2<l.length:=by omega
    rw[aj him2]at hq2;have eg2:=bD (ad him2);generalize l[i2]=x at hq2 eg2;unfold ml at hq2;split at hq2
    case isFalse=>cases hq2
    rename_i hx;conv=>whnf
    refine⟨_,⟨ae _,eg2⟩,?_⟩;conv=>whnf
    refine⟨⟨hx.1,by omega⟩,?_⟩;conv=>whnf
    refine⟨_,⟨ae _,bD (ad hx.2)⟩,?_⟩;conv=>whnf
    rw[i64s i2 (by omega)];refine⟨j2,_,ah j2,ww [40,39,38,5,33,32,31,4] [19] [16,17] [] rfl,i2+1,of2.set x.toNat i,by omega,by simp[hol2],hq2,?_⟩;rw[←jW];rfl
  ·rintro e st ⟨rfl,hol1,rfl⟩;conv=>whnf
   rw[i64s i (by omega)];exact⟨j,_,ah j,ww [33,32,31,4] [19] [16,17] [] rfl,i+1,of1,by omega,hol1,hq,rfl⟩
def ckO(c:Ck):List (Nat×AV):=[(OB+100100,.ob 100100 0 (.row 3 1 (ints c.of))),(OB+100101,.ob 100101 0 (.map kz (envK c.told) (envV c.told)))]
def ckB(c:Ck):Nat×Box:=(1500,⟨0,71,[.sl 158 4 (c.ds.map bS) none,.sl 80 8 (c.bs.map bz) none,.sl 24 1 (aW c.graph) none,.sl 24 1 (aW c.grps) none,.rref 100100 0 (ints c.of).length,.mref 100101 0,iv c.at_]⟩)
def ckP:List (Nat×Perm):=[aS 100100,aS 100101]
def nmdC(l:Envl):List (List AC):=l.map jS
theorem acZ(l:Envl):(nmdC l).length=l.length:=by simp[nmdC]
def ahW:Option Envl→List WRes
 |some out=>[.val (.one (.sl 190 6 (nmdC out) none)),.val (.one (bv true))]
 |none=>[.val (.one (.v (.slice none 0 0))),.val (.one (bv false))]
def M45:Md:={ mt:=[73]}
theorem adS{c:Ck}{i:Int}{r:Option Envl}(h:envR c i=some r):Cw 45 [.one (ckA c),.one (iv i)] (ahW r) [ckA c]:=by
 obtain⟨ds,bs,graph,grps,of,told,at_⟩:=c;unfold envR at h;simp only at h;split at h
 case h_2=>cases h
 rename_i l hl;obtain⟨hi0,hil,hl⟩:=bY hl;split at h
 case isFalse=>cases h
 rename_i hll;unfold LIM at hll;have hln:=bh l;have hbl:(bs.map bz).length=bs.length:=by simp
 have hofl:=bh of;refine cw M45 Tryz.func45 (by kernel_rfl) ?_;conv=>whnf
 refine⟨_,⟨hi0,dz hl⟩,?_⟩;conv=>whnf
 refine⟨fun j st=>∃k out,k+j=l.length∧vS ⟨ds,bs,graph,grps,of,told,at_⟩ i (l.drop k) out=some r∧st=⟨(22,.one (iv k))::(21,.one (iv (ints l).length))::(20,.one (.sl 3 1 (ints l) none))::(6,.one (.rref 73 0 (nmdC out).length))::(1,.one (iv i))::(0,.one (.ptr 1500 0 0))::(OB+73,.ob 73 0 (.row 190 6 (nmdC out)))::ckO ⟨ds,bs,graph,grps,of,told,at_⟩,[ckB ⟨ds,bs,graph,grps,of,told,at_⟩],aS 73::ckP⟩,
  ⟨l.length,_,ww [22,21,20,6,1,0] [1500] [73,100100,100101] [.nilT 6 73 190 6] rfl,0,[],by omega,h,rfl⟩,?_⟩
 rintro j st ⟨k,out,hkj,hq,rfl⟩;unfold ckO ckB;simp only;conv=>whnf
 cases j with
 |zero=>
  rw[af (p:=(k:Int)<((ints l).length:Int)) (by omega)];rw[ap (by omega)]at hq;cases hq;conv=>whnf
  exact⟨rfl,rfl⟩
 |succ j=>
 rw[ag (p:=(k:Int)<((ints l).length:Int)) (by omega)];have hkm:k<l.length:=by omega
 rw[aj hkm]at hq;have eg:=bD (ad hkm);generalize l[k]=x at hq eg;unfold vS at hq;simp only at hq;split at hq
 case h_2=>cases hq
 rename_i row hrow;obtain⟨hx0,hxl,hrow⟩:=bY hrow;split at hq
 case isFalse=>cases hq
 rename_i hrl;unfold LIM at hrl;have hrn:=bh row;generalize hin:uw ⟨ds,bs,graph,grps,of,told,at_⟩ i row out=rin at hq;conv=>whnf
 refine⟨_,⟨ae _,eg⟩,?_⟩;conv=>whnf
 refine⟨_,⟨hx0,dz hrow⟩,?_⟩;conv=>whnf
 refine⟨fun j2 st=>∃k2 out2,k2+j2=row.length∧rin=uw ⟨ds,bs,graph,grps,of,told,at_⟩ i (row.drop k2) out2∧st=⟨(34,.one (iv k2))::(33,.one (iv (ints row).length))::(32,.one (.sl 3 1 (ints row) none))::(22,.one (iv k))::(21,.one (iv (ints l).length))::(20,.one (.sl 3 1 (ints l) none))::(6,.one (.rref 73 0 (nmdC out2).length))::(1,.one (iv i))::(0,.one (.ptr 1500 0 0))::(OB+73,.ob 73 0 (.row 190 6 (nmdC out2)))::[(OB+100100,.ob 100100 0 (.row 3 1 (ints of))),(OB+100101,.ob 100101 0 (.map kz (envK told) (envV told)))],[(1500,⟨0,71,[.sl 158 4 (ds.map bS) none,.sl 80 8 (bs.map bz) none,.sl 24 1 (aW graph) none,.sl 24 1 (aW grps) none,.rref 100100 0 (ints of).length,.mref 100101 0,iv at_]⟩)],aS 73::ckP⟩,
  ⟨row.length,_,ww [34,33,32,22,21,20,6,1,0] [1500] [73,100100,100101] [] rfl,0,out,by omega,hin.symm,rfl⟩,?_⟩
 rintro j2 st ⟨k2,out2,hkj2,hq2,rfl⟩;have hnl:=acZ out2;conv=>whnf
 cases j2 with
 |zero=>
  rw[af (p:=(k2:Int)<((ints row).length:Int)) (by omega)];rw[ap (by omega)]at hq2;have hq2:rin=some (some out2):=hq2;rw[hq2]at hq;simp only at hq;conv=>whnf
  rw[i64s k (by omega)];exact⟨j,_,ah j,ww [22,21,20,6,1,0] [1500] [73,100100,100101] [] rfl,k+1,out2,by omega,hq,rfl⟩
 |succ j2=>
 rw[ag (p:=(k2:Int)<((ints row).length:Int)) (by omega)];have hkm2:k2<row.length:=by omega
 rw[aj hkm2]at hq2;have eg2:=bD (ad hkm2);generalize row[k2]=y at hq2 eg2;unfold uw at hq2;simp only at hq2;split at hq2
 case h_2=>rw[hq2]at hq;cases hq
 rename_i o b ho hb;obtain⟨hy0,hyo,ho⟩:=bY ho;obtain⟨-,hyb,hb⟩:=bY hb;have gb:(bs.map bz)[y.toNat]?=some (bz b):=by simp[hb]
 have hw2:IntKind.i64.wrap ((k2:Int)+1)=((k2+1:Nat):Int):=by rw[i64w (by omega) (by omega)];omega
 conv=>whnf
 refine⟨_,⟨ae _,eg2⟩,?_⟩;conv=>whnf
 refine⟨⟨hy0,by omega⟩,?_⟩;conv=>whnf
 refine⟨_,⟨ae _,bD ho⟩,?_⟩;conv=>whnf
 by_cases hoi:o=i
 ·rw[if_pos hoi]at hq2;rw[ag hoi];conv=>whnf
  rw[hw2];exact⟨j2,_,ah j2,ww [34,33,32,22,21,20,6,1,0] [1500] [73,100100,100101] [] rfl,k2+1,out2,by omega,hq2,rfl⟩
 rw[if_neg hoi]at hq2;rw[af hoi];obtain⟨bn,ba,bk,be,bm,bnn,bl,bq⟩:=b;simp only at hq2;conv=>whnf
 refine⟨_,⟨hy0,gb⟩,?_⟩;conv=>whnf
 rcases qg (x:=bn) (l:=told) with⟨ix,v,q1,q2,q3⟩|⟨q1,q3⟩
 ·rw[q3]at hq2;simp only at hq2;split at hq2
  case isFalse=>rw[hq2]at hq;cases hq
  rename_i hol;obtain⟨vn,vk,vm,vs,vkids⟩:=v;refine⟨some ix,q1,?_⟩;conv=>whnf
  refine⟨_,q2,?_⟩;conv=>whnf
  refine⟨by show(nmdC out2).length+1≤lim 80;simp[lim];omega,?_⟩;conv=>whnf
  rw[hw2];refine⟨j2,_,ah j2,ww [34,33,32,22,21,20,6,1,0] [1500] [73,100100,100101] [] rfl,k2+1,out2++[(bn,⟨vn,vk,vm,vs,vkids⟩)],by omega,hq2,?_⟩;have e1:nmdC (out2++[(bn,⟨vn,vk,vm,vs,vkids⟩)])=nmdC out2++[jS (bn,⟨vn,vk,vm,vs,vkids⟩)]:=by simp[nmdC]
  rw[e1,aH];rfl
 ·rw[q3]at hq2;simp only at hq2;rw[hq2]at hq;cases hq;refine⟨none,q1,?_⟩;conv=>whnf
  exact⟨rfl,rfl⟩
theorem adV{x:ByteArray}{l:List (ByteArray×Sch)}:bL (keyS x) (envK l)=fidx x (l.map Prod.fst):=by
 have:=iI x (l.map Prod.fst);rw[iu]at this;exact this
theorem aaZ{x:ByteArray}{s:Sch}{l:List (ByteArray×Sch)}(h:bL (keyS x) (envK l)=none):envK (putA x s l)=envK l++[keyS x]∧envV (putA x s l)=envV l++[(true,schC s)]:=by
 rw[adV]at h;rw[iE h];simp[envK,envV]
theorem aaY{x:ByteArray}{s:Sch}{l:List (ByteArray×Sch)}{i:Nat}(h:bL (keyS x) (envK l)=some i):envK (putA x s l)=envK l∧envV (putA x s l)=(envV l).set i (true,schC s):=by
 have h0:=h;rw[adV]at h;rw[iD h];have hf:=jY h;constructor
 ·unfold envK;rw[bX];refine ce fun n=>?_;rw[bf];split
  ·rename_i hn;subst hn;rw[aG]at hf ⊢;cases hq:l[i]? with
   |none=>rw[hq]at hf;cases hf
   |some p=>rw[hq]at hf;cases hf;simp[(aq.1 hq).1]
  ·rfl
 ·unfold envV;rw[bX]
theorem qQ{c:Ck}:∀{l:List Int} {bs:List BindD},kq c l=some bs→bs.length=l.length
 | [],bs,h=>by cases h;rfl
 |x::l,bs,h=>by
  unfold kq at h;split at h
  ·rename_i b bs1 h1 h2;cases h;have:=qQ h2;simp[this]
  ·cases h
theorem qP{c:Ck}:∀{l:List Int} {bs:List BindD},kq c l=some bs→∀b∈bs,b∈c.bs
 | [],bs,h=>by cases h;intro b hb;simp at hb
 |x::l,bs,h=>by
  unfold kq at h;split at h
  ·rename_i b bs1 h1 h2;cases h;intro b1 hb1;rcases aV.1 hb1 with rfl|hb1
   ·obtain⟨-,-,hm⟩:=bY h1;exact bi hm
   ·exact qP h2 _ hb1
  ·cases h
def M27:Md:={ mt:=[43],fz:=[52],fs:=[52]}
theorem ahN{K:Nat}{ds0:List DataD}{c c':Ck}{fd:FineDs ds0}{i:Int}(hds:c.ds=ds0)(hfb:∀b∈c.bs,dJ b.body)(h:su K ds0 fd c i=some c'):Cw 27 [.one (ckA c),.one (iv i)] [] [ckA c']:=by
 subst hds;unfold su at h;split at h
 case h_1=>cases h
 case h_2=>
  rename_i henv;cases h;have he:=adS henv;obtain⟨ds,bs,graph,grps,of,told,at_⟩:=c;refine cw M27 Tryz.func27 (by kernel_rfl) ?_;conv=>whnf
  refine⟨_,_,he,?_⟩;conv=>whnf
  exact⟨rfl,rfl⟩
 rename_i env henv;have he:=adS henv;split at h
 case h_1=>cases h
 rename_i l hl;split at h
 case h_1=>cases h
 rename_i mb hmb;split at h
 case isFalse=>cases h
 rename_i hlim;split at h
 case h_1=>cases h
 rename_i ss e hg;have hgc:=adD hlim.2 (by unfold LIM;omega) (fun b hb=>hfb b (qP hmb b hb)) hg;have hml:=qQ hmb;obtain⟨ds,bs,graph,grps,of,told,at_⟩:=c;simp only at hl hgc;obtain⟨hi0,hil,hl⟩:=bY hl;unfold LIM at hlim;have hln:=bh l
 have hmc:(mb.map bz).length=mb.length:=by simp
 refine cw M27 Tryz.func27 (by kernel_rfl) ?_;conv=>whnf
 refine⟨_,_,he,?_⟩;conv=>whnf
 refine⟨_,⟨hi0,dz hl⟩,?_⟩;conv=>whnf
 refine⟨fun j st=>∃k out,k+j=l.length∧out.length=k∧(∃r,kq ⟨ds,bs,graph,grps,of,told,at_⟩ (l.drop k)=some r∧out++r=mb)∧st=⟨(29,.one (iv k))::(28,.one (iv (ints l).length))::(27,.one (.sl 3 1 (ints l) none))::(6,.one (.rref 43 0 (out.map bz).length))::(4,.one (.sl 190 6 (nmdC env) none))::(0,.one (.ptr 1500 0 0))::(OB+43,.ob 43 0 (.row 80 8 (out.map bz)))::ckO ⟨ds,bs,graph,grps,of,told,at_⟩,[ckB ⟨ds,bs,graph,grps,of,told,at_⟩],aS 43::ckP⟩,
  ⟨l.length,_,ww [29,28,27,6,4,0] [1500] [43,100100,100101] [.nilT 6 43 80 8] rfl,0,[],by omega,rfl,⟨mb,hmb,rfl⟩,rfl⟩,?_⟩
 rintro j st ⟨k,out,hkj,hok,⟨r,hr,hor⟩,rfl⟩;have hol:(out.map bz).length=out.length:=by simp
 unfold ckO ckB;simp only;conv=>whnf
 cases j with
 |succ j=>
  rw[ag (p:=(k:Int)<((ints l).length:Int)) (by omega)];have hkm:k<l.length:=by omega
  rw[aj hkm]at hr;have eg:=bD (ad hkm);generalize l[k]=x at hr eg;unfold kq at hr;split at hr
  case h_2=>cases hr
  rename_i b r1 hb hr1;cases hr;obtain⟨hx0,hxl,hb⟩:=bY hb;simp only at hb;have gb:(bs.map bz)[x.toNat]?=some (bz b):=by simp[hb]
  conv=>whnf
  refine⟨_,⟨ae _,eg⟩,?_⟩;conv=>whnf
  refine⟨_,⟨hx0,gb⟩,?_⟩;obtain⟨bn,ba,bk,be,bm,bnn,bl,bq⟩:=b;conv=>whnf
  refine⟨by show(out.map bz).length+1≤lim 112;simp[lim];omega,?_⟩;conv=>whnf
  rw[i64s k (by omega)];refine⟨j,_,ah j,ww [29,28,27,6,4,0] [1500] [43,100100,100101] [] rfl,k+1,out++[⟨bn,ba,.mk bk be bm bnn bl bq⟩],by omega,by simp[hok],⟨r1,hr1,by rw[←hor];simp⟩,?_⟩
  have e1:(out++[(⟨bn,ba,.mk bk be bm bnn bl bq⟩:BindD)]).map bz=out.map bz++[bz ⟨bn,ba,.mk bk be bm bnn bl bq⟩]:=by simp
  rw[e1,aH];rfl
 |zero=>
 rw[af (p:=(k:Int)<((ints l).length:Int)) (by omega)];rw[ap (by omega)]at hr;cases hr;rw[aX]at hor;subst hor;conv=>whnf
 refine⟨_,_,hgc,?_⟩;conv=>whnf
 have hob:∀i,i<out.length→∃b,out[i]?=some b∧out.drop i=b::out.drop (i+1):=fun i hi=>⟨out[i],ad hi,aj hi⟩;have hhl:(k:Int)=k:=rfl;clear hhl;by_cases he0:e=0
 ·rw[if_pos he0]at h;split at h
  case h_2=>cases h
  rename_i t hpt;cases h
  refine⟨fun j st=>∃i told2,i+j=out.length∧qX (out.drop i) (ss.drop i) told2=some t∧st=⟨[(58,.one (iv i)),(57,.one (iv (out.map bz).length)),(56,.one (.sl 80 8 (out.map bz) none)),(10,.one (iv e)),(9,.one (.sl 90 5 (jq ss) none)),(0,.one (.ptr 1500 0 0)),(OB+100100,.ob 100100 0 (.row 3 1 (ints of))),(OB+100101,.ob 100101 0 (.map kz (envK told2) (envV told2)))],
   [(1500,⟨0,71,[.sl 158 4 (ds.map bS) none,.sl 80 8 (bs.map bz) none,.sl 24 1 (aW graph) none,.sl 24 1 (aW grps) none,.rref 100100 0 (ints of).length,.mref 100101 0,iv at_]⟩)],[aS 100100,aS 100101]⟩,
   ⟨out.length,_,ww [58,57,56,10,9,0] [1500] [100100,100101] [] rfl,0,told,by omega,hpt,rfl⟩,?_⟩
  rintro j st ⟨i,told2,hij,hq,rfl⟩;conv=>whnf
  cases j with
  |zero=>
   rw[af (p:=(i:Int)<((out.map bz).length:Int)) (by omega)];rw[ap (by omega)]at hq;have hq:told2=t:=by cases hq;rfl
   subst hq;conv=>whnf
   exact⟨rfl,rfl⟩
  |succ j=>
   rw[ag (p:=(i:Int)<((out.map bz).length:Int)) (by omega)];obtain⟨b,hb,hd⟩:=hob i (by omega);rw[hd]at hq;have gb:(out.map bz)[i]?=some (bz b):=by simp[hb]
   cases hsd:ss.drop i with
   |nil=>rw[hsd]at hq;cases hq
   |cons s rest=>
   rw[hsd]at hq;unfold qX at hq;have hs:ss[i]?=some s:=by
    have:=congrArg (fun l=>l[0]?) hsd;simpa using this
   have hd2:ss.drop (i+1)=rest:=by
    have:=congrArg List.tail hsd;simpa using this
   rw[←hd2]at hq;have gs:(jq ss)[i]?=some (schC s):=by unfold jq;simp[hs]
   obtain⟨bn,ba,bk,be,bm,bnn,bl,bq⟩:=b;obtain⟨vn,vk,vm,vs,vkids⟩:=s;simp only at hq;have hw1:IntKind.i64.wrap ((i:Int)+1)=((i+1:Nat):Int):=by rw[i64w (by omega) (by omega)];omega
   conv=>whnf
   refine⟨_,⟨ae _,gb⟩,?_⟩;conv=>whnf
   rw[ag he0];conv=>whnf
   refine⟨_,⟨ae _,gs⟩,?_⟩;conv=>whnf
   rcases qg (x:=bn) (l:=told2) with⟨ie,ve,e1,e2,e3⟩|⟨e1,e3⟩
   ·refine⟨some ie,e1,?_⟩;conv=>whnf
    refine⟨aN (by kernel_rfl),?_⟩;conv=>whnf
    rw[hw1];obtain⟨p1,p2⟩:=aaY (s:=⟨vn,.mk vk vm vs vkids⟩) e1;refine⟨j,_,ah j,ww [58,57,56,10,9,0] [1500] [100100,100101] [] rfl,i+1,putA bn ⟨vn,.mk vk vm vs vkids⟩ told2,by omega,hq,?_⟩;rw[p1,p2];rfl
   ·refine⟨none,e1,?_⟩;conv=>whnf
    refine⟨aN (by kernel_rfl),?_⟩;conv=>whnf
    rw[hw1];obtain⟨p1,p2⟩:=aaZ (s:=⟨vn,.mk vk vm vs vkids⟩) e1;refine⟨j,_,ah j,ww [58,57,56,10,9,0] [1500] [100100,100101] [] rfl,i+1,putA bn ⟨vn,.mk vk vm vs vkids⟩ told2,by omega,hq,?_⟩;rw[p1,p2];rfl
 ·rw[if_neg he0]at h;cases h
  refine⟨fun j st=>∃i at2,i+j=out.length∧tP (out.drop i) at2=tP out at_∧st=⟨[(58,.one (iv i)),(57,.one (iv (out.map bz).length)),(56,.one (.sl 80 8 (out.map bz) none)),(10,.one (iv e)),(9,.one (.sl 90 5 (jq ss) none)),(0,.one (.ptr 1500 0 0)),(OB+100100,.ob 100100 0 (.row 3 1 (ints of))),(OB+100101,.ob 100101 0 (.map kz (envK told) (envV told)))],
   [(1500,⟨0,71,[.sl 158 4 (ds.map bS) none,.sl 80 8 (bs.map bz) none,.sl 24 1 (aW graph) none,.sl 24 1 (aW grps) none,.rref 100100 0 (ints of).length,.mref 100101 0,iv at2]⟩)],[aS 100100,aS 100101]⟩,
   ⟨out.length,_,ww [58,57,56,10,9,0] [1500] [100100,100101] [] rfl,0,at_,by omega,rfl,rfl⟩,?_⟩
  generalize hfin:tP out at_=fin;rintro j st ⟨i,at2,hij,hq,rfl⟩;conv=>whnf
  cases j with
  |zero=>
   rw[af (p:=(i:Int)<((out.map bz).length:Int)) (by omega)];rw[ap (by omega)]at hq;have hq:at2=fin:=hq;subst hq;conv=>whnf
   exact⟨rfl,rfl⟩
  |succ j=>
   rw[ag (p:=(i:Int)<((out.map bz).length:Int)) (by omega)];obtain⟨b,hb,hd⟩:=hob i (by omega);rw[hd]at hq;have gb:(out.map bz)[i]?=some (bz b):=by simp[hb]
   unfold tP at hq;obtain⟨bn,ba,bk,be,bm,bnn,bl,bq⟩:=b;simp only at hq;have hw1:IntKind.i64.wrap ((i:Int)+1)=((i+1:Nat):Int):=by rw[i64w (by omega) (by omega)];omega
   conv=>whnf
   refine⟨_,⟨ae _,gb⟩,?_⟩;conv=>whnf
   rw[af he0];conv=>whnf
   by_cases h1:at2<0
   ·rw[if_pos (.inl h1)]at hq;rw[ag h1];conv=>whnf
    refine⟨aN (by kernel_rfl),?_⟩;conv=>whnf
    rw[hw1];exact⟨j,_,ah j,ww [58,57,56,10,9,0] [1500] [100100,100101] [] rfl,i+1,ba,by omega,hq,rfl⟩
   ·rw[af h1];conv=>whnf
    refine⟨aN (by kernel_rfl),?_⟩;by_cases h2:ba<at2
    ·rw[if_pos (.inr h2)]at hq;conv=>whnf
     rw[ag h2];conv=>whnf
     rw[hw1];exact⟨j,_,ah j,ww [58,57,56,10,9,0] [1500] [100100,100101] [] rfl,i+1,ba,by omega,hq,rfl⟩
    ·rw[if_neg (by omega)]at hq;conv=>whnf
     rw[af h2];conv=>whnf
     rw[hw1];exact⟨j,_,ah j,ww [58,57,56,10,9,0] [1500] [100100,100101] [] rfl,i+1,at2,by omega,hq,rfl⟩
mutual
def uT:Ty→Bool
 | .mk _ _ _ kids=>decide (kids.length≤LIM)&&qW kids
def qW:List Ty→Bool
 | []=>true
 |t::l=>uT t&&qW l
end
mutual
theorem tE:∀(t:Ty),uT t=true→ik t
 | .mk _ _ _ kids,h=>by
  unfold uT at h;rw[aw]at h;exact⟨aJ h.1,rI kids h.2⟩
theorem rI:∀(l:List Ty),qW l=true→lA l
 | [],_=>trivial
 |t::l,h=>by
  unfold qW at h;rw[aw]at h;exact⟨tE t h.1,rI l h.2⟩
end
def agC(s x:ByteArray):Option ByteArray:=match cat s ⟨#[32,58,32]⟩ with
 |some y=>match cat y x with
  |some y=>cat y ⟨#[10]⟩
  |none=>none
 |none=>none
def uQ(told:Envl):List BindD→ByteArray→Option ByteArray
 | [],acc=>some acc
 |b::l,acc=>match getA b.s told with
  |none=>none
  |some s=>if uT s.t=true then match qz s.t with
   |none=>none
   |some x=>match agC b.s x with
    |none=>none
    |some y=>if acc.size+y.size≤140737488355328 then uQ told l (acc++y) else none else none
def ir(K k:Nat)(p:ProgD)(fd:FineDs p.datas):Option (Int×Int×ByteArray×Option Gr):=match yD k p with
 |none=>none
 |some (e,q)=>if e≠0 then some (e,q,.empty,none) else match chkR K k p with
  |none=>none
  |some (c,w)=>if w.length≤LIM then match zZ K p.datas fd w c with
   |none=>none
   |some c1=>if 0≤c1.at_ then some (8,c1.at_,.empty,some w) else match uQ c1.told p.binds .empty with
    |none=>none
    |some t=>some (0,0,t,some w) else none
end
end Go.Proofs.YtgkenhpfiempbaaGreatDoor.V
namespace Go.Proofs
open Go.Shelf Go.RowKit
def Tryz.bld_ren:Go.Shelf.Ren:=⟨fun|166=>28|240=>47|276=>91|169=>30|n=>n,fun|37=>23|70=>72|72=>74|75=>82|80=>41|127=>143|164=>210|n=>n,fun|n=>n⟩
theorem Tryz.lays166:Go.Proofs.Lays.n166 Tryz.prog Tryz.bld_ren:={
 mixed:=by kernel_rfl
 f166:=Tryz.func28.trans (congrArg some (by kernel_rfl))
 f240:=Tryz.func47.trans (congrArg some (by kernel_rfl))
 f276:=Tryz.func91.trans (congrArg some (by kernel_rfl))
 t0:=Tryz.underlying0
 a0:=Tryz.isAgg0
 z0:=Tryz.sizeOf0
 v0:=Tryz.zeroValue0
 t3:=Tryz.underlying3
 a3:=Tryz.isAgg3
 z3:=Tryz.sizeOf3
 v3:=Tryz.zeroValue3
 t4:=Tryz.underlying4
 a4:=Tryz.isAgg4
 z4:=Tryz.sizeOf4
 v4:=Tryz.zeroValue4
 t9:=Tryz.underlying9
 a9:=Tryz.isAgg9
 z9:=Tryz.sizeOf9
 v9:=Tryz.zeroValue9
 t20:=Tryz.underlying20
 a20:=Tryz.isAgg20
 z20:=Tryz.sizeOf20
 v20:=Tryz.zeroValue20
 t37:=Tryz.underlying23
 a37:=Tryz.isAgg23
 z37:=Tryz.sizeOf23
 v37:=Tryz.zeroValue23
 t70:=Tryz.underlying72
 a70:=Tryz.isAgg72
 z70:=Tryz.sizeOf72
 v70:=Tryz.zeroValue72
 t72:=Tryz.underlying74
 a72:=Tryz.isAgg74
 z72:=Tryz.sizeOf74
 v72:=Tryz.zeroValue74
 t75:=Tryz.underlying82
 a75:=Tryz.isAgg82
 z75:=Tryz.sizeOf82
 v75:=Tryz.zeroValue82
 t164:=Tryz.underlying210
 a164:=Tryz.isAgg210
 z164:=Tryz.sizeOf210
 v164:=Tryz.zeroValue210}
theorem Tryz.lays169:Go.Proofs.Lays.n169 Tryz.prog Tryz.bld_ren:={
 mixed:=by kernel_rfl
 f169:=Tryz.func30.trans (congrArg some (by kernel_rfl))
 t0:=Tryz.underlying0
 a0:=Tryz.isAgg0
 z0:=Tryz.sizeOf0
 v0:=Tryz.zeroValue0
 t3:=Tryz.underlying3
 a3:=Tryz.isAgg3
 z3:=Tryz.sizeOf3
 v3:=Tryz.zeroValue3
 t9:=Tryz.underlying9
 a9:=Tryz.isAgg9
 z9:=Tryz.sizeOf9
 v9:=Tryz.zeroValue9
 t37:=Tryz.underlying23
 a37:=Tryz.isAgg23
 z37:=Tryz.sizeOf23
 v37:=Tryz.zeroValue23
 t70:=Tryz.underlying72
 a70:=Tryz.isAgg72
 z70:=Tryz.sizeOf72
 v70:=Tryz.zeroValue72
 t72:=Tryz.underlying74
 a72:=Tryz.isAgg74
 z72:=Tryz.sizeOf74
 v72:=Tryz.zeroValue74
 t127:=Tryz.underlying143
 a127:=Tryz.isAgg143
 z127:=Tryz.sizeOf143
 v127:=Tryz.zeroValue143}
theorem Tryz.bldX:Builder.Extra Tryz.prog Tryz.bld_ren:={
 sizeBuilder:=by kernel_rfl
 liesBuilder:=by kernel_rfl
 t5:=Tryz.underlying5
 a5:=Tryz.isAgg5
 z5:=Tryz.sizeOf5
 v5:=Tryz.zeroValue5
 infoByte:=by kernel_rfl
 cellsByte:=by kernel_rfl
 sizeByte:=by kernel_rfl
 neB5:=by decide}
end Go.Proofs
namespace Go.Proofs
open Go.Shelf Go.RowKit
theorem append_text{P:Program}(w:World)(t u ty e:TypeId)(i:TypeInfo)(ht:P.underlying t=some (.slice e))(hu:P.underlying u=some .string)(hi:P.info? e=some i)(hz:i.zero=some (.int .u8 0))(hsize:i.size=1)(hby:i.bytes=1)
 (v:Value) (n:Nat) (xs:List Value) (hown:w.ownsRow 0 e 1 v n xs) (s:ByteArray) (hbytes:n+s.size≤140737488355328):
 ∃v' w',(Builtin.append_ #[t,u] ty #[v,.string s]).run P w= .ok v' w'∧w'.ownsRow 0 e 1 v' (n+s.size) (xs++Lib.strCells s)∧w.grownBy w' v.ownBlock∧(v'.ownBlock=v.ownBlock∨v'.ownBlock=some w.heap.size):=by
 obtain⟨v',w',hr,h2,h3,h4⟩:=Lib.run_append_own_string (P:=P) w 0 t u ty e i ht hu hi hz hsize hby v n xs hown s (by unfold maxLen;omega) hbytes (Nat.zero_le _);refine⟨v',w',hr,h2,h3,?_⟩;have hxl:xs.length=n:=by simpa using hown.1
 rcases hown.2 with⟨rfl,rfl⟩|⟨g,cap,cur,rfl,hbg,hg,hnc,hcm,hcs,htake⟩
 ·by_cases hm:s.size=0
  ·exact .inl (by rw[h4.2 ⟨rfl,hm⟩])
  ·have hq:=run_append_nil_string (P:=P) w t u ty e i (.int .u8 0) ht hu hi hz s (by omega) (by omega) (by rw[hby];omega);rw[hr]at hq;injection hq with q1 q2
   exact .inr (by rw[q1];rfl)
 ·by_cases hroom:n+s.size≤cap
  ·have hcs':cur.size=cap:=by simpa using hcs
   have hq:=Lib.run_append_room_string (P:=P) w t u ty e i ht hu hi hsize g n cap cur hg s hroom (by omega);rw[hr]at hq;injection hq with q1 q2
   exact .inl (by rw[q1];rfl)
  ·have holds:∀j u,xs[j]?=some u→w.cell? ((⟨g,0,none⟩:Addr).add j)=some u:=hown.cells (g:=g) rfl
   have hq:=Lib.run_append_grow_string (P:=P) w t u ty e i (.int .u8 0) ht hu hi hz ⟨g,0,none⟩ n cap xs (by rw[hsize];simpa using hxl) holds s (by omega) (by omega) (by rw[hby];exact growslice_fits (by omega) (by omega));rw[hr]at hq;injection hq with q1 q2
   exact .inr (by rw[q1];rfl)
theorem wpList_append_text{P:Program}{w:World}{ops:Array Oper}{rest:List Oper}{o:Oper}{a:Act}{Q:Exit→Act→World→Prop}(hgd:o.guard=none)(sl x:Operand)(t u:TypeId)
 (ho:o.op= .call { callee:=.builtin .append,args:= #[sl,x],argTypes:= #[t,u]})
 (e:TypeId) (i:TypeInfo) (ht:P.underlying t=some (.slice e)) (hu:P.underlying u=some .string) (hi:P.info? e=some i) (hz:i.zero=some (.int .u8 0))
 (hsize:i.size=1) (hby:i.bytes=1)
 (v:Value) (n:Nat) (xs:List Value) (hs:a.eval sl=v) (hown:w.ownsRow 0 e 1 v n xs) (s:ByteArray) (hx:a.eval x= .string s) (hbytes:n+s.size≤140737488355328)
 (h:∀v' w',w'.ownsRow 0 e 1 v' (n+s.size) (xs++Lib.strCells s)→w.grownBy w' v.ownBlock→(v'.ownBlock=v.ownBlock∨v'.ownBlock=some w.heap.size)→wpList P ops Q rest (a.put o.dst v') w'):wpList P ops Q (o::rest) a w:=by
 refine wpList_plain hgd fun K hK=>?_;obtain⟨v',w',hr,h2,h3,h4⟩:=append_text (P:=P) w t u o.type e i ht hu hi hz hsize hby v n xs hown s hbytes;unfold Oper.wp execOp;simp only[ho,resolve,invoke,builtin,Sem.run_bind,Sem.run_pure,Result.andThen_ok,List.map_toArray,List.map_cons,List.map_nil,hs,hx,hr]
 exact hK _ _ (h v' w' h2 h3 h4)
theorem bldCheck{P:Program}{ρ:Ren}(L:Lays.n240 P ρ)(X:Builder.Extra P ρ)(k:Nat)(p v:Value)(w:World)(hbk:w.heap[k]?=some (.cells #[p,v] (ρ.t 72) (0,0)))(hp:p= .pointer none∨p= .pointer (some ⟨k,0,none⟩)):
 Calls P (ρ.f 240) #[.pointer (some ⟨k,0,none⟩)] w fun e w'=>e= .returned (.tuple #[])∧w'.heap[k]?=some (.cells #[.pointer (some ⟨k,0,none⟩),v] (ρ.t 72) (0,0))∧(∀j,j≠k→w'.heap[j]?=w.heap[j]?)∧w'.heap.size=w.heap.size∧w'.os=w.os∧w'.tape=w.tape∧w'.output=w.output:=by
 rcases hp with rfl|rfl
 ·refine(Any.Builder_copyCheck_fresh L X.toX72 k w (by rw[Lib.cell_of_heap hbk];rfl) (by simp[World.shape?,hbk]) (Lib.frozen_of_heap hbk 0)).mono ?_;rintro e w' ⟨rfl,rfl⟩;refine⟨rfl,by simp[World.setCell,Array.getElem?_modify,hbk],fun j hj=>?_,by simp[World.setCell],rfl,rfl,rfl⟩
  simp[World.setCell,Array.getElem?_modify,Ne.symm hj]
 ·refine(Any.Builder_copyCheck_used L X.toX72 k w (by rw[Lib.cell_of_heap hbk];rfl)).mono ?_;rintro e w' ⟨rfl,rfl⟩;exact⟨rfl,hbk,fun _ _=>rfl,rfl,rfl,rfl,rfl⟩
set_option maxHeartbeats 2000000 in
set_option maxRecDepth 100000 in
theorem bldWrite{P:Program}{ρ:Ren}(L:Lays.n166 P ρ)(X:Builder.Extra P ρ)(k:Nat)(p v:Value)(bs:List Value)(x:ByteArray)(w:World)(hbk:w.heap[k]?=some (.cells #[p,v] (ρ.t 72) (0,0)))(hp:p= .pointer none∨p= .pointer (some ⟨k,0,none⟩))(hown:w.ownsRow 0 (ρ.t 5) 1 v bs.length bs)(hlen:bs.length+x.size≤140737488355328):
 Calls P (ρ.f 166) #[.pointer (some ⟨k,0,none⟩),.string x] w fun e w'=>e= .returned (.tuple #[.int .i64 x.size,.nilIface])∧∃v',w'.heap[k]?=some (.cells #[.pointer (some ⟨k,0,none⟩),v'] (ρ.t 72) (0,0))∧w'.ownsRow 0 (ρ.t 5) 1 v' (bs++Lib.strCells x).length (bs++Lib.strCells x)∧
  (∀j,j<w.heap.size→j≠k→v.ownBlock≠some j→w'.heap[j]?=w.heap[j]?)∧w.heap.size≤w'.heap.size∧w'.os=w.os∧w'.tape=w.tape∧w'.output=w.output∧(v'.ownBlock=v.ownBlock∨v'.ownBlock=some w.heap.size):=by
 obtain⟨i0,hi,hz0,hz1,hz2⟩:=info_parts X.infoByte;have mixed:=L.mixed;have t72:=L.t72;have a72:=L.a72;have z72:=L.z72;have v72:=L.v72;have u72:=run_underlying L.t72;have t70:=L.t70;have a70:=L.a70;have z70:=L.z70;have v70:=L.v70;have u70:=run_underlying L.t70
 have t37:=L.t37;have a37:=L.a37;have z37:=L.z37;have v37:=L.v37;have u37:=run_underlying L.t37;have t3:=L.t3;have a3:=L.a3;have z3:=L.z3;have v3:=L.v3;have u3:=run_underlying L.t3;have t9:=L.t9;have a9:=L.a9;have z9:=L.z9;have v9:=L.v9;have u9:=run_underlying L.t9
 have t4:=L.t4;have a4:=L.a4;have z4:=L.z4;have v4:=L.v4;have u4:=run_underlying L.t4;have t164:=L.t164;have a164:=L.a164;have z164:=L.z164;have v164:=L.v164;have u164:=run_underlying L.t164;have t5:=X.t5;have a5:=X.a5;have z5:=X.z5;have v5:=X.v5;have u5:=run_underlying X.t5
 have e240:∀args w,(callFunc (ρ.f 240) args).run P w= .ok (.enter (ρ.f 240) args) w:=enters_of L.f240 (by kernel_rfl) rfl;have hlt:k<w.heap.size:=by
  rcases Nat.lt_or_ge k w.heap.size with h'|h'
  ·exact h'
  ·simp[Array.getElem?_eq_none h']at hbk
 have hne:=Lib.ownBlock_ne hown hbk X.neB5
 go_enter L.f166,Body.n166_ntmps ρ
 go_wp2_with (go_at_fn (ρ.f 240);refine(bldCheck { L with} X k p v _ hbk hp).mono ?_)
 rintro e w1 ⟨rfl,hbk1,hfr1,hsz1,ho1,ht1,hu1⟩;have hown1:w1.ownsRow 0 (ρ.t 5) 1 v bs.length bs:=by
  refine⟨hown.1,?_⟩;rcases hown.2 with h|⟨g,cap,cur,rfl,h1,h2,h3⟩
  ·exact .inl h
  ·exact .inr ⟨g,cap,cur,rfl,h1,by rw[hfr1 g (fun e=>hne (by rw[e];rfl))];exact h2,h3⟩
 have c0:w1.cell? ⟨k,0,none⟩=some (.pointer (some ⟨k,0,none⟩)):=by rw[Lib.cell_of_heap hbk1];rfl
 have c1:w1.cell? ⟨k,1,none⟩=some v:=by rw[Lib.cell_of_heap hbk1];rfl
 go_wp2_with (at_builtin;refine wpList_append_text rfl _ _ (ρ.t 37) (ρ.t 9) rfl (ρ.t 5) i0 L.t37 L.t9 hi hz0 hz1 hz2 _ _ _ rfl hown1 x rfl hlen ?_)
 intro v' w2 hown' hgrow hblk;have hb2:w2.heap[k]?=some (.cells #[.pointer (some ⟨k,0,none⟩),v] (ρ.t 72) (0,0)):=by
  rw[hgrow.block k (by omega) (fun e=>hne e.symm)];exact hbk1
 have d0:w2.cell? ⟨k,0,none⟩=some (.pointer (some ⟨k,0,none⟩)):=by rw[Lib.cell_of_heap hb2];rfl
 have d1:w2.cell? ⟨k,1,none⟩=some v:=by rw[Lib.cell_of_heap hb2];rfl
 have f1:w2.frozen? ⟨k,1,none⟩=false:=Lib.frozen_of_heap hb2 1;obtain⟨ao,n',cap,rfl⟩:∃ao n' cap,v'= .slice ao n' cap:=by
  rcases hown'.2 with⟨hv,_⟩|⟨g,cap,cur,hv,_⟩
  ·exact⟨_,_,_,hv⟩
  ·exact⟨_,_,_,hv⟩
 go_wp2
 go_ret2
 have hput:=Lib.BuilderAt.put (T:=ρ.t 72) (e:=ρ.t 5) (B:=0) (Nat.zero_le k) hb2 (bs':=bs++Lib.strCells x) (by simpa [Lib.strCells_length]using hown') X.neB5;obtain⟨-,v3,hb3,hown3,-⟩:=hput
 have hfin:(w2.setCell ⟨k,1,none⟩ (.slice ao n' cap)).heap[k]?=some (.cells #[.pointer (some ⟨k,0,none⟩),.slice ao n' cap] (ρ.t 72) (0,0)):=by
  simp[World.setCell,Array.getElem?_modify,hb2]
 rw[hfin]at hb3;have hv3:v3= .slice ao n' cap:=by
  simp only[Option.some.injEq,Obj.cells.injEq]at hb3;have:=congrArg (fun l=>l[1]?) hb3.1;simpa using this.symm
 subst hv3;refine⟨rfl,_,hfin,hown3,fun j h1 h2 h3=>?_,?_,?_,?_,?_,?_⟩
 ·rw[←hfr1 j h2,←hgrow.block j (by omega) (fun e=>h3 e.symm)];simp[World.setCell,Array.getElem?_modify,Ne.symm h2]
 ·have:=hgrow.size;simp[World.setCell];omega
 ·exact hgrow.os.trans ho1
 ·exact hgrow.tape.trans ht1
 ·exact hgrow.output.trans hu1
 ·exact hblk
theorem Tryz.bld_write(k:Nat)(p v:Value)(bs:List Value)(x:ByteArray)(w:World)(hbk:w.heap[k]?=some (.cells #[p,v] 74 (0,0)))(hp:p= .pointer none∨p= .pointer (some ⟨k,0,none⟩))(hown:w.ownsRow 0 5 1 v bs.length bs)(hlen:bs.length+x.size≤140737488355328):
 Calls Tryz.prog 28 #[.pointer (some ⟨k,0,none⟩),.string x] w fun e w'=>e= .returned (.tuple #[.int .i64 x.size,.nilIface])∧∃v',w'.heap[k]?=some (.cells #[.pointer (some ⟨k,0,none⟩),v'] 74 (0,0))∧w'.ownsRow 0 5 1 v' (bs++Lib.strCells x).length (bs++Lib.strCells x)∧
  (∀j,j<w.heap.size→j≠k→v.ownBlock≠some j→w'.heap[j]?=w.heap[j]?)∧w.heap.size≤w'.heap.size∧w'.os=w.os∧w'.tape=w.tape∧w'.output=w.output∧(v'.ownBlock=v.ownBlock∨v'.ownBlock=some w.heap.size):=
 bldWrite Tryz.lays166 Tryz.bldX k p v bs x w hbk hp hown hlen
end Go.Proofs
namespace Go.Proofs.YtgkenhpfiempbaaGreatDoor.V
open Go Go.Proofs
set_option maxRecDepth 100000
theorem agO{H:Fz}{w:World}{a:AV}{us:List Value}{bss:List (List Nat)}(h:ky H w [a] us bss):∃u b,us=[u]∧bss=[b]∧ArgW H w a u b:=by
 match us,bss with
 | [],_=>exact h.elim
 |_::_,[]=>exact h.elim
 |u::us,b::bss=>
  obtain⟨h1,h2⟩:=h
  match us,bss with
  | [],[]=>exact⟨u,b,rfl,rfl,h1⟩
  |_::_,_=>exact h2.elim
  | [],_::_=>exact h2.elim
theorem agN{H:Fz}{w:World}{a b:AV}{us:List Value}{bss:List (List Nat)}(h:ky H w [a,b] us bss):∃u v c d,us=[u,v]∧bss=[c,d]∧ArgW H w a u c∧ArgW H w b v d:=by
 match us,bss with
 | [],_=>exact h.elim
 |_::_,[]=>exact h.elim
 |u::us,b::bss=>
  obtain⟨h1,h2⟩:=h
  match us,bss with
  | [],[]=>exact h2.elim
  | [],_::_=>exact h2.elim
  |_::_,[]=>exact h2.elim
  |v::us,d::bss=>
   obtain⟨h2,h3⟩:=h2
   match us,bss with
   | [],[]=>exact⟨u,v,b,d,rfl,rfl,h1,h2⟩
   |_::_,_=>exact h3.elim
   | [],_::_=>exact h3.elim
theorem yb(s:ByteArray):(jg s).flatten=s.data.toList.map fun b=>AC.v (.int .u8 b.toNat):=by
 unfold jg;generalize s.data.toList=l
 induction l with
 |nil=>rfl
 |cons b l ih=>simp[ih]
theorem xQ{H:Fz}{s:ByteArray}{us:List Value}:Cs Con.no H (jg s).flatten us↔us=Lib.strCells s:=by
 rw[yb];unfold Lib.strCells;generalize s.data.toList=l;constructor
 ·rintro⟨h1,h2⟩;refine ce fun i=>?_;rw[cG]at h1;cases hq:us[i]? with
  |none=>
   rw[gH]at hq;rw[bI (by simp;omega)]
  |some u=>
   have hi:=(aq.1 hq).1;have e:(l.map fun b=>AC.v (.int .u8 (b.toNat:Int)))[i]?=some (AC.v (.int .u8 (l[i]'(by omega)).toNat)):=by rw[aG,ad (by omega)];rfl
   have h3:=h2 i _ u e hq;have:u= .int .u8 (l[i]'(by omega)).toNat:=by cases h3;rfl
   rw[aG,ad (by omega),this];rfl
 ·rintro rfl;refine⟨by simp,fun i c u a1 a2=>?_⟩;rw[aG,ar]at a1 a2;obtain⟨x,q1,rfl⟩:=a1;obtain⟨y,q2,rfl⟩:=a2;rw[q1]at q2;cases q2;exact .v _ rfl
theorem aeY(s x:ByteArray):Lib.strCells (s++x)=Lib.strCells s++Lib.strCells x:=by
 unfold Lib.strCells;rw[ByteArray.data_append,Array.toList_append,bw]
theorem wV{H:Fz}{w:World}{v:Value}{s:ByteArray}{bs:List Nat}(h:RowO H w v 5 1 (jg s) bs):w.ownsRow 0 5 1 v s.size (Lib.strCells s):=by
 have hsl:(jg s).length=s.size:=by unfold jg;rw[cG,bO];rfl
 refine⟨by rw[Lib.strCells_length,eF],?_⟩;rcases h.2 with⟨rfl,h1,-⟩|⟨b,cap,cur,rfl,h2,h3,h4,h5,-,h7,-⟩
 ·exact .inl ⟨rfl,by rw[h1]at hsl;exact hsl.symm⟩
 ·rw[hsl]at h3 h7 ⊢;exact .inr ⟨b,cap,cur,rfl,aR _,h2,h3,h4,h5,xQ.1 h7⟩
theorem acC{H:Fz}{w:World}{v:Value}{s:ByteArray}{xs:List Value}(h:w.ownsRow 0 5 1 v xs.length xs)(hx:xs=Lib.strCells s)(hH:∀j,v.ownBlock=some j→∀i,H j i=none):RowO H w v 5 1 (jg s) v.ownBlock.toList:=by
 have hsl:(jg s).length=s.size:=by unfold jg;rw[cG,bO];rfl
 have hxl:xs.length=s.size:=by rw[hx,Lib.strCells_length]
 refine⟨fun x hx=>?_,?_⟩
 ·unfold jg at hx;rw[bZ]at hx;obtain⟨b,-,rfl⟩:=hx;rfl
 rcases h.2 with⟨rfl,h1⟩|⟨b,cap,cur,rfl,-,h2,h3,h4,h5,h6⟩
 ·refine .inl ⟨rfl,?_,rfl⟩;exact aK (by omega)
 ·refine .inr ⟨b,cap,cur,by rw[hsl,←hxl],h2,by omega,h4,h5,hH b rfl,?_,rfl⟩;rw[hsl,←hxl,h6];exact xQ.2 hx
theorem abK{s x:ByteArray}(hl:s.size+x.size≤140737488355328):Cw 28 [.one (.bld true s),.one (sv x)] [.val (.one (iv x.size)),.val .undef] [.bld true (s++x)]:=by
 intro H w us bss hfz hG hargs hnd;obtain⟨u1,u2,b1,b2,rfl,rfl,h1,h2⟩:=agN hargs;have h1:TrR H w (.bld true s) u1 b1:=h1;have h2:TrR H w (.v (.string x)) u2 b2:=h2;cases h2 with|pers _ _ h3=>
 obtain rfl:u2= .string x:=by cases h3;rfl
 cases h1 with
 |pers _ _ h=>cases h
 |bld _ _ _ _ h=>
 obtain⟨k,rfl,hk,hHk,⟨h,-⟩|⟨-,p,v,bs',hbk,hp,hrow,rfl⟩⟩:=h
 ·cases h
 have hbn:∀j,v.ownBlock=some j→bs'=[j]:=fun j hj=>by
  rcases hrow.2 with⟨rfl,-,-⟩|⟨b,cap,cur,rfl,-,-,-,-,-,-,rfl⟩
  ·cases hj
  ·cases hj;rfl
 have hown:=wV hrow;have hHb:∀j,v.ownBlock=some j→∀i,H j i=none:=fun j hj=>by
  rcases hrow.2 with⟨rfl,-,-⟩|⟨b,cap,cur,rfl,-,-,-,-,h6,-,rfl⟩
  ·cases hj
  ·cases hj;exact h6
 refine(Tryz.bld_write k p v (Lib.strCells s) x w hbk hp (by rw[Lib.strCells_length];exact hown) (by rw[Lib.strCells_length];exact hl)).mono fun e w' ⟨he,v',hb2,hown2,hfr,hsz,ho,ht,hu,hblk⟩=>⟨_,H,he,?_⟩;have hkb:∀j,v.ownBlock=some j→j≠k:=fun j hj e=>by
  have:=hbn j hj;subst e;subst this;simp at hnd
 have hlt2:∀j,v.ownBlock=some j→j<w.heap.size:=fun j hj=>(hown.lt j hj).2;have hold:∀j i,H j i≠none→w'.heap[j]?=w.heap[j]? :=fun j i hj=>by
  cases hq:H j i with
  |none=>exact absurd hq hj
  |some u=>exact hfr j (dK w ⟨j,i,none⟩ (hfz j i u hq)) (fun e=>by subst e;rw[hHk]at hq;cases hq) (fun e=>by rw[hHb j e]at hq;cases hq)
 have hv'b:∀j,v'.ownBlock=some j→(v.ownBlock=some j∨j=w.heap.size):=fun j hj=>by
  rcases hblk with h|h<;>rw[h]at hj
  ·exact .inl hj
  ·cases hj;exact .inr rfl
 have hHv:∀j,v'.ownBlock=some j→∀i,H j i=none:=fun j hj i=>by
  rcases hv'b j hj with h|rfl
  ·exact hHb j h i
  ·cases hq:H w.heap.size i with
   |none=>rfl
   |some u=>exact absurd (dK w ⟨_,i,none⟩ (hfz _ i u hq)) (eB _)
 have hrow2:RowO H w' v' 5 1 (jg (s++x)) v'.ownBlock.toList:=acC hown2 (by rw[←aeY]) hHv;refine{ le:=Fz.le_refl H,fz:=fun b i u hq=>?_,keep:=fun b hb hnb=>⟨?_,rfl⟩,grown:=hsz,os:=ho,tape:=ht,output:=hu,res:=⟨[_,_],[k::v'.ownBlock.toList],[[],[]],?_,?_,rfl,?_,?_⟩}
 ·have:=hfz b i u hq;rw[World.cell?_of_block (hold b i (by rw[hq];simp))];exact this
 ·refine hfr b hb (fun e=>hnb (by subst e;simp)) (fun e=>hnb ?_);rw[hbn b e];simp
 ·refine .inr ⟨rfl,_,[],_,[],rfl,rfl,.bld true _ _ _ ⟨k,rfl,by omega,hHk,.inr ⟨rfl,_,v',_,hb2,.inr rfl,hrow2,rfl⟩⟩,?_⟩;exact .inl ⟨rfl,trivial⟩
 ·exact⟨⟨.one _ _ (.v _ rfl),rfl⟩,⟨.undef _,rfl⟩,trivial⟩
 ·cases hq:v'.ownBlock with
  |none=>simp
  |some j=>
   have:k≠j:=by
    rcases hv'b j hq with h|rfl
    ·exact(hkb j h).symm
    ·omega
   simp[this]
 ·intro j hj;simp only[aO,fJ,aX,fL,dG,aV,aM]at hj;rcases hj with rfl|hj
  ·exact .inl (by simp)
  ·cases hq:v'.ownBlock with
   |none=>rw[hq]at hj;simp at hj
   |some b=>
    rw[hq]at hj;simp at hj;subst hj;rcases hv'b j hq with h|rfl
    ·exact .inl (by rw[hbn j h];simp)
    ·exact .inr (au _)
end Go.Proofs.YtgkenhpfiempbaaGreatDoor.V
namespace Go.Proofs
open Go.Shelf Go.RowKit
def bldFr(w w':World)(v:Value):Prop:=(∀j,j<w.heap.size→v.ownBlock≠some j→w'.heap[j]?=w.heap[j]?)∧w.heap.size≤w'.heap.size∧w'.os=w.os∧w'.tape=w.tape∧w'.output=w.output
section
variable{P:Program}{ρ:Ren}
theorem bldFr_refl(w:World)(v:Value):bldFr w w.drew v:=⟨fun _ _ _=>rfl,Nat.le_refl _,rfl,rfl,rfl⟩
theorem bldFr_freeze(w:World)(g n cap m:Nat):bldFr w (w.drew.freeze ⟨g,0,none⟩ m) (.slice (some ⟨g,0,none⟩) n cap):=by
 unfold World.freeze;by_cases hm:m=0
 ·rw[if_pos hm];exact⟨fun _ _ _=>rfl,Nat.le_refl _,rfl,rfl,rfl⟩
 ·rw[if_neg hm];refine⟨fun j hj hne=>?_,?_,rfl,rfl,rfl⟩
  ·have:g≠j:=fun e=>hne (by rw[e];rfl);simp[Array.getElem?_modify,this];rfl
  ·simp
theorem bldFr_alloc(w:World)(v:Value)(o:Obj):bldFr w (w.drew.alloc o) v:=by
 refine⟨fun j hj hne=>Lib.alloc_old w _ j hj,by simp,rfl,rfl,rfl⟩
set_option maxHeartbeats 2000000 in
set_option maxRecDepth 100000 in
theorem bldStr_some(L:Lays.n169 P ρ)(X:Builder.Extra P ρ)(b g cap:Nat)(p:Value)(l:List UInt8)(w:World)(hbk:w.heap[b]?=some (.cells #[p,.slice (some ⟨g,0,none⟩) l.length cap] (ρ.t 72) (0,0)))(h0:l≠[])(hown:w.ownsRow 0 (ρ.t 5) 1 (.slice (some ⟨g,0,none⟩) l.length cap) l.length (Lib.byteCells l)):
 Calls P (ρ.f 169) #[.pointer (some ⟨b,0,none⟩)] w fun e w'=>e= .returned (.string ⟨l.toArray⟩)∧bldFr w w' (.slice (some ⟨g,0,none⟩) l.length cap):=by
 have hl0:l.length≠0:=by simpa using h0
 obtain⟨cur,hg,hnc,hcm,hcs,htake⟩:∃cur,w.heap[g]?=some (.cells cur (ρ.t 5) (0,0))∧l.length≤cap∧cap≤maxLen∧cur.size=cap*1∧cur.toList.take (l.length*1)=Lib.byteCells l:=by
  rcases hown.2 with⟨_,hz⟩|⟨g',cap',cur,hv,h1,h2,h3,h4,h5,h6⟩
  ·exact absurd hz hl0
  ·injection hv with q1 q2 q3
   injection q1 with q1
   injection q1 with q1
   subst q1;subst q3;exact⟨cur,h2,h3,h4,h5,h6⟩
 have c1:w.drew.cell? ⟨b,1,none⟩=some (.slice (some ⟨g,0,none⟩) l.length cap):=by
  have:w.drew.heap[b]?=some (.cells #[p,.slice (some ⟨g,0,none⟩) l.length cap] (ρ.t 72) (0,0)):=hbk;rw[Lib.cell_of_heap this];rfl
 have hSD:(Builtin.unsafeSliceData_ #[(ρ.t 37)] (ρ.t 127) #[.slice (some ⟨g,0,none⟩) l.length cap]).run P w.drew= .ok (.pointer (some ⟨g,0,none⟩)) w.drew:=
  Lib.run_unsafeSliceData_row _ _ _ _ _ _ (by omega)
 have hUS:(Builtin.unsafeString_ #[(ρ.t 127),(ρ.t 3)] (ρ.t 9) #[.pointer (some ⟨g,0,none⟩),.int .i64 l.length]).run P w.drew= .ok (.string ⟨l.toArray⟩) (w.drew.freeze ⟨g,0,none⟩ l.length):=by
  refine Lib.run_unsafeString_row w.drew (ρ.t 127) (ρ.t 3) (ρ.t 9) (ρ.t 5) L.t127 X.cellsByte g cur.size (by have hg':w.drew.heap[g]?=some (.cells cur (ρ.t 5) (0,0)):=hg;simp[World.shape?,hg']) l h0 (by omega) (by unfold maxLen at hcm;omega) ?_;intro j x hx
  have:=hown.cells (g:=g) rfl j (.int .u8 x.toNat) (by simp[Lib.byteCells,hx]);exact this
 have mixed:=L.mixed;have t72:=L.t72;have a72:=L.a72;have z72:=L.z72;have v72:=L.v72;have u72:=run_underlying L.t72;have t70:=L.t70;have a70:=L.a70;have z70:=L.z70;have v70:=L.v70;have u70:=run_underlying L.t70
 have t37:=L.t37;have a37:=L.a37;have z37:=L.z37;have v37:=L.v37;have u37:=run_underlying L.t37;have t127:=L.t127;have a127:=L.a127;have z127:=L.z127;have v127:=L.v127;have u127:=run_underlying L.t127;have t3:=L.t3;have a3:=L.a3;have z3:=L.z3;have v3:=L.v3;have u3:=run_underlying L.t3
 have t9:=L.t9;have a9:=L.a9;have z9:=L.z9;have v9:=L.v9;have u9:=run_underlying L.t9;have t5:=X.t5;have a5:=X.a5;have z5:=X.z5;have v5:=X.v5;have u5:=run_underlying X.t5
 go_enter L.f169,Body.n169_ntmps ρ
 go_wp2
 go_region_o
 all_goals(go_wp2;go_ret;exact⟨rfl,bldFr_freeze w g l.length cap l.length⟩)
set_option maxHeartbeats 2000000 in
set_option maxRecDepth 100000 in
theorem bldStr_nil(L:Lays.n169 P ρ)(X:Builder.Extra P ρ)(b:Nat)(p:Value)(w:World)(hbk:w.heap[b]?=some (.cells #[p,.slice none 0 0] (ρ.t 72) (0,0))):
 Calls P (ρ.f 169) #[.pointer (some ⟨b,0,none⟩)] w fun e w'=>e= .returned (.string ⟨#[]⟩)∧bldFr w w' (.slice none 0 0):=by
 have hUS:=Any.unsafeString_none L X;have c1:w.drew.cell? ⟨b,1,none⟩=some (.slice none 0 0):=by
  have:w.drew.heap[b]?=some (.cells #[p,.slice none 0 0] (ρ.t 72) (0,0)):=hbk;rw[Lib.cell_of_heap this];rfl
 have hSD:(Builtin.unsafeSliceData_ #[(ρ.t 37)] (ρ.t 127) #[.slice none 0 0]).run P w.drew= .ok (.pointer none) w.drew:=rfl;have mixed:=L.mixed;have t72:=L.t72;have a72:=L.a72;have z72:=L.z72;have v72:=L.v72;have u72:=run_underlying L.t72
 have t70:=L.t70;have a70:=L.a70;have z70:=L.z70;have v70:=L.v70;have u70:=run_underlying L.t70;have t37:=L.t37;have a37:=L.a37;have z37:=L.z37;have v37:=L.v37;have u37:=run_underlying L.t37;have t127:=L.t127;have a127:=L.a127;have z127:=L.z127;have v127:=L.v127;have u127:=run_underlying L.t127
 have t3:=L.t3;have a3:=L.a3;have z3:=L.z3;have v3:=L.v3;have u3:=run_underlying L.t3;have t9:=L.t9;have a9:=L.a9;have z9:=L.z9;have v9:=L.v9;have u9:=run_underlying L.t9;have t5:=X.t5;have a5:=X.a5;have z5:=X.z5;have v5:=X.v5;have u5:=run_underlying X.t5
 go_enter L.f169,Body.n169_ntmps ρ
 go_wp2
 go_region_o
 all_goals(go_wp2;go_ret;exact⟨rfl,bldFr_refl w _⟩)
set_option maxHeartbeats 2000000 in
set_option maxRecDepth 100000 in
theorem bldStr_noroom(L:Lays.n169 P ρ)(X:Builder.Extra P ρ)(b g:Nat)(p:Value)(cur:Array Value)(w:World)(hbk:w.heap[b]?=some (.cells #[p,.slice (some ⟨g,0,none⟩) 0 0] (ρ.t 72) (0,0)))(hg:w.heap[g]?=some (.cells cur (ρ.t 5) (0,0))):
 Calls P (ρ.f 169) #[.pointer (some ⟨b,0,none⟩)] w fun e w'=>e= .returned (.string ⟨#[]⟩)∧bldFr w w' (.slice (some ⟨g,0,none⟩) 0 0):=by
 have hUS:=Any.unsafeString_none L X;have hlt:b<w.heap.size:=by
  rcases Nat.lt_or_ge b w.heap.size with h'|h'
  ·exact h'
  ·simp[Array.getElem?_eq_none h']at hbk
 have c1:w.drew.cell? ⟨b,1,none⟩=some (.slice (some ⟨g,0,none⟩) 0 0):=by
  have:w.drew.heap[b]?=some (.cells #[p,.slice (some ⟨g,0,none⟩) 0 0] (ρ.t 72) (0,0)):=hbk;rw[Lib.cell_of_heap this];rfl
 have hSD:(Builtin.unsafeSliceData_ #[(ρ.t 37)] (ρ.t 127) #[.slice (some ⟨g,0,none⟩) 0 0]).run P w.drew= .ok (.pointer (some ⟨w.drew.heap.size,0,none⟩)) (w.drew.alloc (.view ⟨g,0,none⟩ (ρ.t 5))):=
  Lib.run_unsafeSliceData_zero w.drew _ _ (ρ.t 5) L.t127 ⟨g,0,none⟩ 0 ((ρ.t 5),cur.size) (by have hg':w.drew.heap[g]?=some (.cells cur (ρ.t 5) (0,0)):=hg;simp[World.shape?,hg'])
 have c2:(w.drew.alloc (.view ⟨g,0,none⟩ (ρ.t 5))).cell? ⟨b,1,none⟩=some (.slice (some ⟨g,0,none⟩) 0 0):=by
  have:(w.drew.alloc (.view ⟨g,0,none⟩ (ρ.t 5))).heap[b]?=_:=(Lib.alloc_old w.drew _ b hlt).trans hbk;rw[Lib.cell_of_heap this];rfl
 have c3:(w.alloc (.view ⟨g,0,none⟩ (ρ.t 5))).drew.cell? ⟨b,1,none⟩=some (.slice (some ⟨g,0,none⟩) 0 0):=c2;have c0:w.cell? ⟨b,1,none⟩=some (.slice (some ⟨g,0,none⟩) 0 0):=c1;have mixed:=L.mixed;have t72:=L.t72;have a72:=L.a72;have z72:=L.z72;have v72:=L.v72;have u72:=run_underlying L.t72
 have t70:=L.t70;have a70:=L.a70;have z70:=L.z70;have v70:=L.v70;have u70:=run_underlying L.t70;have t37:=L.t37;have a37:=L.a37;have z37:=L.z37;have v37:=L.v37;have u37:=run_underlying L.t37;have t127:=L.t127;have a127:=L.a127;have z127:=L.z127;have v127:=L.v127;have u127:=run_underlying L.t127
 have t3:=L.t3;have a3:=L.a3;have z3:=L.z3;have v3:=L.v3;have u3:=run_underlying L.t3;have t9:=L.t9;have a9:=L.a9;have z9:=L.z9;have v9:=L.v9;have u9:=run_underlying L.t9;have t5:=X.t5;have a5:=X.a5;have z5:=X.z5;have v5:=X.v5;have u5:=run_underlying X.t5
 go_enter L.f169,Body.n169_ntmps ρ
 go_wp2
 go_region_o
 all_goals(go_wp2;go_ret;exact⟨rfl,bldFr_alloc w _ _⟩)
set_option maxHeartbeats 2000000 in
set_option maxRecDepth 100000 in
theorem bldStr_room(L:Lays.n169 P ρ)(X:Builder.Extra P ρ)(b g cap:Nat)(p:Value)(w:World)(hc0:cap≠0)(hbk:w.heap[b]?=some (.cells #[p,.slice (some ⟨g,0,none⟩) 0 cap] (ρ.t 72) (0,0))):
 Calls P (ρ.f 169) #[.pointer (some ⟨b,0,none⟩)] w fun e w'=>e= .returned (.string ⟨#[]⟩)∧bldFr w w' (.slice (some ⟨g,0,none⟩) 0 cap):=by
 have hUS:=Any.unsafeString_none L X;have c1:w.drew.cell? ⟨b,1,none⟩=some (.slice (some ⟨g,0,none⟩) 0 cap):=by
  have:w.drew.heap[b]?=some (.cells #[p,.slice (some ⟨g,0,none⟩) 0 cap] (ρ.t 72) (0,0)):=hbk;rw[Lib.cell_of_heap this];rfl
 have hSD:(Builtin.unsafeSliceData_ #[(ρ.t 37)] (ρ.t 127) #[.slice (some ⟨g,0,none⟩) 0 cap]).run P w.drew= .ok (.pointer (some ⟨g,0,none⟩)) w.drew:=
  Lib.run_unsafeSliceData_row _ _ _ _ _ _ hc0
 clear hc0;have mixed:=L.mixed;have t72:=L.t72;have a72:=L.a72;have z72:=L.z72;have v72:=L.v72;have u72:=run_underlying L.t72;have t70:=L.t70;have a70:=L.a70;have z70:=L.z70;have v70:=L.v70;have u70:=run_underlying L.t70
 have t37:=L.t37;have a37:=L.a37;have z37:=L.z37;have v37:=L.v37;have u37:=run_underlying L.t37;have t127:=L.t127;have a127:=L.a127;have z127:=L.z127;have v127:=L.v127;have u127:=run_underlying L.t127;have t3:=L.t3;have a3:=L.a3;have z3:=L.z3;have v3:=L.v3;have u3:=run_underlying L.t3
 have t9:=L.t9;have a9:=L.a9;have z9:=L.z9;have v9:=L.v9;have u9:=run_underlying L.t9;have t5:=X.t5;have a5:=X.a5;have z5:=X.z5;have v5:=X.v5;have u5:=run_underlying X.t5
 go_enter L.f169,Body.n169_ntmps ρ
 go_wp2
 go_region_o
 all_goals(go_wp2;go_ret;exact⟨rfl,bldFr_refl w _⟩)
theorem bldString(L:Lays.n169 P ρ)(X:Builder.Extra P ρ)(b:Nat)(p v:Value)(l:List UInt8)(w:World)(hbk:w.heap[b]?=some (.cells #[p,v] (ρ.t 72) (0,0)))(hown:w.ownsRow 0 (ρ.t 5) 1 v l.length (Lib.byteCells l)):
 Calls P (ρ.f 169) #[.pointer (some ⟨b,0,none⟩)] w fun e w'=>e= .returned (.string ⟨l.toArray⟩)∧bldFr w w' v:=by
 have h2:=hown.2;cases l with
 |nil=>
  rcases h2 with⟨rfl,_⟩|⟨g,cap,cur,rfl,hbg,hg,_,_,_,_⟩
  ·exact bldStr_nil L X b p w hbk
  ·by_cases hc0:cap=0
   ·subst hc0;exact bldStr_noroom L X b g p cur w hbk hg
   ·exact bldStr_room L X b g cap p w hc0 hbk
 |cons x r=>
  rcases h2 with⟨_,h⟩|⟨g,cap,cur,rfl,hbg,hg,_,_,_,_⟩
  ·simp at h
  ·exact bldStr_some L X b g cap p (x::r) w hbk (by simp) hown
end
end Go.Proofs
namespace Go.Proofs.YtgkenhpfiempbaaGreatDoor.V
open Go Go.Proofs
set_option maxRecDepth 100000
theorem aaV{s:ByteArray}:Cw 30 [.one (.bld true s)] [.val (.one (sv s))] [.bld false s]:=by
 intro H w us bss hfz hG hargs hnd;obtain⟨u1,b1,rfl,rfl,h1⟩:=agO hargs;have h1:TrR H w (.bld true s) u1 b1:=h1;cases h1 with
 |pers _ _ h=>cases h
 |bld _ _ _ _ h=>
 obtain⟨k,rfl,hk,hHk,⟨h,-⟩|⟨-,p,v,bs',hbk,hp,hrow,rfl⟩⟩:=h
 ·cases h
 have hbn:∀j,v.ownBlock=some j→bs'=[j]:=fun j hj=>by
  rcases hrow.2 with⟨rfl,-,-⟩|⟨b,cap,cur,rfl,-,-,-,-,-,-,rfl⟩
  ·cases hj
  ·cases hj;rfl
 have hHb:∀j,v.ownBlock=some j→∀i,H j i=none:=fun j hj=>by
  rcases hrow.2 with⟨rfl,-,-⟩|⟨b,cap,cur,rfl,-,-,-,-,h6,-,rfl⟩
  ·cases hj
  ·cases hj;exact h6
 have hown:=wV hrow;have hsz:s.size=s.data.toList.length:=by rw[bO];rfl
 rw[hsz]at hown;refine(bldString Tryz.lays169 Tryz.bldX k p v s.data.toList w hbk hown).mono fun e w' ⟨he,hfr,hgr,ho,ht,hu⟩=>⟨_,H,he,?_⟩;have hold:∀j i,H j i≠none→w'.heap[j]?=w.heap[j]? :=fun j i hj=>by
  cases hq:H j i with
  |none=>exact absurd hq hj
  |some u=>exact hfr j (dK w ⟨j,i,none⟩ (hfz j i u hq)) (fun e=>by rw[hHb j e]at hq;cases hq)
 refine{ le:=Fz.le_refl H,fz:=fun b i u hq=>?_,keep:=fun b hb hnb=>⟨?_,rfl⟩,grown:=hgr,os:=ho,tape:=ht,output:=hu,res:=⟨[_],[[k]],[[]],?_,?_,rfl,?_,?_⟩}
 ·have:=hfz b i u hq;rw[World.cell?_of_block (hold b i (by rw[hq];simp))];exact this
 ·refine hfr b hb (fun e=>hnb ?_);rw[hbn b e];simp
 ·exact .inr ⟨rfl,_,[],_,[],rfl,rfl,.bld false _ _ _ ⟨k,rfl,by omega,hHk,.inl ⟨rfl,rfl⟩⟩,trivial⟩
 ·refine⟨⟨?_,rfl⟩,trivial⟩;have:(⟨s.data.toList.toArray⟩:ByteArray)=s:=by cases s;simp
  rw[this];exact .one _ _ (.v _ rfl)
 ·simp
 ·intro j hj;simp at hj;subst hj;exact .inl (by simp)
end Go.Proofs.YtgkenhpfiempbaaGreatDoor.V
namespace Go.Proofs.YtgkenhpfiempbaaGreatDoor.V
open Go Go.Proofs
noncomputable section
theorem yE{s:Sch}{x:ByteArray}(hs:ik s.t)(h:qz s.t=some x):Cw 29 [.agg (schC s)] [.val (.one (sv x))] []:=by
 have ht:=aeW s.t hs h;obtain⟨n,⟨k,m,nm,kids⟩⟩:=s;unfold schC;unfold tyC at ht ⊢;refine cw {} Tryz.func29 (by kernel_rfl) ?_;conv=>whnf
 refine⟨_,_,ht,?_⟩;conv=>whnf
 refine⟨aN (by kernel_rfl),?_⟩;conv=>whnf
 exact⟨rfl,rfl⟩
def grO:Option Gr→WRes
 |some w=>.val (.one (.sl 24 1 (aW w) none))
 |none=>.val (.one (.v (.slice none 0 0)))
def resA(e q:Int)(t:ByteArray):AV:=.agg [iv e,iv q,sv t,iv 0,iv 0,iv 0]
def M19:Md:={ bl:=[13]}
def ck19(c:Ck):Nat×Box:=(36,⟨0,71,[.sl 158 4 (c.ds.map bS) none,.sl 80 8 (c.bs.map bz) none,.sl 24 1 (aW c.graph) none,.sl 24 1 (aW c.grps) none,.rref 6404 0 (ints c.of).length,.mref 6405 0,iv c.at_]⟩)
def bx19(p:ProgD)(c:Ck):List (Nat×Box):=[(2,⟨0,32,[iv 0,iv 0,sv .empty,iv 0,iv 0,iv 0]⟩),(4,⟨0,60,[.sl 158 4 (p.datas.map bS) none,.sl 80 8 (p.binds.map bz) none]⟩),ck19 c]
def ob19(c:Ck):List (Nat×AV):=[(OB+6404,.ob 6404 0 (.row 3 1 (ints c.of))),(OB+6405,.ob 6405 0 (.map kz (envK c.told) (envV c.told)))]
def agv(p:ProgD)(w:Gr)(i:Nat)(c:Ck):St:=⟨(41,.one (iv i))::(40,.one (iv (aW w).length))::(39,.one (.sl 24 1 (aW w) none))::(8,.one (.sl 24 1 (aW w) none))::(7,.one (.ptr 36 0 0))::(2,.one (.ptr 2 0 0))::(4,.one (.ptr 4 0 0))::ob19 c,bx19 p c,[aS 6404,aS 6405]⟩
def in19(p:ProgD)(w:Gr)(i:Nat)(l:List Int)(m:Nat)(c:Ck):St:=⟨(47,.one (iv m))::(46,.one (iv (ints l).length))::(45,.one (.sl 3 1 (ints l) none))::(41,.one (iv i))::(40,.one (iv (aW w).length))::(39,.one (.sl 24 1 (aW w) none))::(8,.one (.sl 24 1 (aW w) none))::(7,.one (.ptr 36 0 0))::(2,.one (.ptr 2 0 0))::(4,.one (.ptr 4 0 0))::ob19 c,bx19 p c,[aS 6404,aS 6405]⟩
def bl19(p:ProgD)(w:Gr)(n:Nat)(acc:ByteArray)(c:Ck):St:=⟨(70,.one (iv n))::(69,.one (iv (p.binds.map bz).length))::(68,.one (.sl 80 8 (p.binds.map bz) none))::(13,.one (.iref 13 0))::(8,.one (.sl 24 1 (aW w) none))::(7,.one (.ptr 36 0 0))::(2,.one (.ptr 2 0 0))::(OB+13,.ob 13 0 (.bld true acc))::ob19 c,[(2,⟨0,32,[iv 0,iv 0,sv .empty,iv 0,iv 0,iv 0]⟩),ck19 c],[aS 13,aS 6404,aS 6405]⟩
theorem zr{K k:Nat}{src:ByteArray}{p:ProgD}{e a e2 q2:Int}{t:ByteArray}{w:Option Gr}(fd:FineDs p.datas)(hbl:p.binds.length≤4294967296)(hfb:∀b∈p.binds,dJ b.body)
 (hp:Cw 24 [.one (sv src)] [.val (.agg (oF p)),.val (.one (iv 0)),.val (.one (iv a))] [])
 (hg:∀g,vL k p.binds=some g→Cw 42 [.one (.sl 80 8 (p.binds.map bz) none)] [.val (.one (.sl 24 1 (aW g) none))] [])
 (h:ir K k p fd=some (e2,q2,t,w)):Cw 19 [.one (sv src)] [.val (resA e2 q2 t),grO w] []:=by
 have hbm:(p.binds.map bz).length=p.binds.length:=by simp
 unfold ir at h;split at h
 case h_1=>cases h
 rename_i e q hsc;have hs:=acg fd hbl hfb hsc;split at h
 ·rename_i hne;cases h;refine cw M19 Tryz.func19 (by kernel_rfl) ?_;conv=>whnf
  refine⟨_,_,hp,?_⟩;conv=>whnf
  refine⟨_,_,hs,?_⟩;conv=>whnf
  rw[af hne];conv=>whnf
  exact⟨rfl,rfl⟩
 rename_i he;obtain rfl:e=0:=by omega
 split at h
 case h_1=>cases h
 rename_i c w1 hck;split at h
 case isFalse=>cases h
 rename_i hwl;split at h
 case h_1=>cases h
 rename_i c1 hrows;have hcg:Cw 42 [.one (.sl 80 8 (p.binds.map bz) none)] [.val (.one (.sl 24 1 (aW c.graph) none))] []:=by
  refine hg _ ?_;unfold chkR at hck;split at hck
  ·rename_i g h0;split at hck
   ·split at hck
    ·split at hck
     ·split at hck
      ·cases hck;exact h0
      ·cases hck
     ·cases hck
    ·cases hck
   ·cases hck
  ·cases hck
 have hchk:=ahZ hcg hck;have hcd:c.ds=p.datas∧c.bs=p.binds:=by
  unfold chkR at hck;split at hck
  ·split at hck
   ·split at hck
    ·split at hck
     ·split at hck
      ·cases hck;exact⟨rfl,rfl⟩
      ·cases hck
     ·cases hck
    ·cases hck
   ·cases hck
  ·cases hck
 refine cw M19 Tryz.func19 (by kernel_rfl) ?_;conv=>whnf
 refine⟨_,_,hp,?_⟩;conv=>whnf
 refine⟨_,_,hs,?_⟩;conv=>whnf
 refine⟨_,_,hchk,?_⟩;conv=>whnf
 have hrl:=dS w1;unfold LIM at hwl;refine⟨fun j st=>∃i c2,i+j=w1.length∧zZ K p.datas fd (w1.drop i) c2=some c1∧c2.ds=p.datas∧c2.bs=p.binds∧st=agv p w1 i c2,
  ⟨w1.length,_,ww [41,40,39,8,7,2,4] [2,4,36] [6404,6405] [] rfl,0,c,by omega,hrows,hcd.1,hcd.2,rfl⟩,?_⟩
 rintro j st ⟨i,c2,hij,hq,hcd2,hcb2,rfl⟩;unfold agv ob19 bx19 ck19;simp only;conv=>whnf
 cases j with
 |succ j=>
  rw[ag (p:=(i:Int)<((aW w1).length:Int)) (by omega)];have him:i<w1.length:=by omega
  rw[aj him]at hq;have eg:=dz (ad him);generalize w1[i]=l at hq eg;have hln:=bh l;unfold zZ at hq;split at hq
  case isFalse=>cases hq
  rename_i hll;unfold LIM at hll;split at hq
  case h_2=>cases hq
  rename_i c3 hrow;conv=>whnf
  refine⟨_,⟨ae _,eg⟩,?_⟩;conv=>whnf
  refine(pI (fun j2 st=>∃i2 c4,i2+j2=l.length∧rowK K p.datas fd (l.drop i2) c4=some c3∧c4.ds=p.datas∧c4.bs=p.binds∧st=in19 p w1 i l i2 c4)
   (fun e st=>e= .exit 2∧st=⟨(48,.one (bv false))::(in19 p w1 i l l.length c3).tmps,(in19 p w1 i l l.length c3).boxes,[aS 6404,aS 6405]⟩) ?_ ?_ ?_:evCW Tryz.prog T J M19 G (.loop _) _ _)
  ·exact⟨l.length,_,ww [47,46,45,41,40,39,8,7,2,4] [2,4,36] [6404,6405] [] rfl,0,c2,by omega,hrow,hcd2,hcb2,rfl⟩
  ·rintro j2 st ⟨i2,c4,hij2,hq2,hcd4,hcb4,rfl⟩;unfold in19 ob19 bx19 ck19;simp only;conv=>whnf
   cases j2 with
   |zero=>
    rw[af (p:=(i2:Int)<((ints l).length:Int)) (by omega)];rw[ap (by omega)]at hq2;cases hq2;conv=>whnf
    have:i2=l.length:=by omega
    subst this;exact⟨rfl,rfl⟩
   |succ j2=>
    rw[ag (p:=(i2:Int)<((ints l).length:Int)) (by omega)];have him2:i2<l.length:=by omega
    rw[aj him2]at hq2;have eg2:=bD (ad him2);generalize l[i2]=x at hq2 eg2;unfold rowK at hq2;split at hq2
    case h_2=>cases hq2
    rename_i c5 hgk;have hcall:=ahN hcd4 (by rw[hcb4];exact hfb) hgk;have h5:=uh hgk;conv=>whnf
    refine⟨_,⟨ae _,eg2⟩,?_⟩;conv=>whnf
    refine⟨_,_,hcall,?_⟩;conv=>whnf
    rw[i64s i2 (by omega)];exact⟨j2,_,ah j2,ww [47,46,45,41,40,39,8,7,2,4] [2,4,36] [6404,6405] [] rfl,i2+1,c5,by omega,hq2,h5.1.trans hcd4,h5.2.trans hcb4,rfl⟩
  ·rintro e st ⟨rfl,rfl⟩;have h3:=aaa hrow;unfold in19 ob19 bx19 ck19;simp only;conv=>whnf
   rw[i64s i (by omega)];exact⟨j,_,ah j,ww [41,40,39,8,7,2,4] [2,4,36] [6404,6405] [] rfl,i+1,c3,by omega,hq,h3.1.trans hcd2,h3.2.trans hcb2,rfl⟩
 |zero=>
 rw[af (p:=(i:Int)<((aW w1).length:Int)) (by omega)];rw[ap (by omega)]at hq;cases hq;conv=>whnf
 by_cases hat:0≤c1.at_
 ·rw[if_pos hat]at h;cases h;rw[ag hat];conv=>whnf
  exact⟨rfl,rfl⟩
 rw[if_neg hat]at h;rw[af hat];split at h
 case h_1=>cases h
 rename_i tx htx;cases h;conv=>whnf
 refine⟨fun j st=>∃n acc,n+j=p.binds.length∧uQ c1.told (p.binds.drop n) acc=some t∧st=bl19 p w1 n acc c1,
  ⟨p.binds.length,_,ww [70,69,68,13,8,7,2] [2,36] [13,6404,6405] [] rfl,0,.empty,by omega,htx,rfl⟩,?_⟩
 rintro j st ⟨n,acc,hnj,hq,rfl⟩;unfold bl19;simp only;conv=>whnf
 cases j with
 |zero=>
  rw[af (p:=(n:Int)<((p.binds.map bz).length:Int)) (by omega)];rw[ap (by omega)]at hq;cases hq;conv=>whnf
  refine⟨_,_,aaV,?_⟩;conv=>whnf
  exact⟨rfl,rfl⟩
 |succ j=>
  rw[ag (p:=(n:Int)<((p.binds.map bz).length:Int)) (by omega)];have hnm:n<p.binds.length:=by omega
  rw[aj hnm]at hq;have gb:(p.binds.map bz)[n]?=some (bz p.binds[n]):=by simp[hnm]
  generalize p.binds[n]=b at hq gb;obtain⟨bn,ba,bk,be,bm,bnn,bl,bq⟩:=b;unfold uQ at hq;simp only at hq;split at hq
  case h_1=>cases hq
  rename_i s hgs;split at hq
  case isFalse=>cases hq
  rename_i hsm;split at hq
  case h_1=>cases hq
  rename_i x hx;split at hq
  case h_1=>cases hq
  rename_i y hy;split at hq
  case isFalse=>cases hq
  rename_i hsz;have hst:=yE (tE _ hsm) hx;unfold agC at hy;split at hy
  case h_2=>cases hy
  rename_i y1 hy1;split at hy
  case h_2=>cases hy
  rename_i y2 hy2;obtain⟨z1,rfl⟩:=fG hy1;obtain⟨z2,rfl⟩:=fG hy2;obtain⟨z3,rfl⟩:=fG hy;rcases qg (x:=bn) (l:=c1.told) with⟨ix,v,q1,q2,q3⟩|⟨q1,q3⟩
  case inr=>rw[q3]at hgs;cases hgs
  rw[q3]at hgs;cases hgs;obtain⟨vn,vk,vm,vs,vkids⟩:=s;conv=>whnf
  refine⟨_,⟨ae _,gb⟩,?_⟩;conv=>whnf
  refine⟨z1,?_⟩;conv=>whnf
  refine⟨some ix,q1,?_⟩;conv=>whnf
  refine⟨_,q2,?_⟩;conv=>whnf
  refine⟨_,_,hst,?_⟩;conv=>whnf
  refine⟨z2,?_⟩;conv=>whnf
  refine⟨z3,?_⟩;conv=>whnf
  refine⟨_,_,abK hsz,?_⟩;conv=>whnf
  refine⟨aN (by kernel_rfl),?_⟩;conv=>whnf
  rw[i64s n (by omega)];exact⟨j,_,ah j,ww [70,69,68,13,8,7,2] [2,36] [13,6404,6405] [] rfl,n+1,_,by omega,hq,rfl⟩
end
end Go.Proofs.YtgkenhpfiempbaaGreatDoor.V
