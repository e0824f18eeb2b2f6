/-
  Part M03: A18, B1, B2, B3, B4, B5, B6, B7. Conditions stand in the theorems.
-/
import Derived.Test.YtgkenhpfiempbaaGreatDoorM02
import Derived.Laws.MakeOwn
set_option linter.all false
set_option maxRecDepth 1000000
set_option maxHeartbeats 8000000
namespace Go.Proofs.YtgkenhpfiempbaaGreatDoor.V
open Go Go.Proofs
noncomputable section
section
variable{P:Program}{T:Tab}{J:Kn}{G:Nat→Option (List AC)}{X:Ctx}{κ:Con}{H:Fz}{s:St}{a:Act}{w:World}
theorem zf:∀{bs:List (Nat×Box)} {K:List (List AC)→Prop},Rel X κ H s a w→finP bs s K→∃css:List (List AC),K css∧css.length=bs.length∧
 ∀(i d:Nat) (b0:Box) (cs:List AC),bs[i]?=some (d,b0)→css[i]?=some cs→∃b,find d s.boxes=some b∧gO Con.no H w (κ.blk d b.gen) b0.ty cs
 | [],K,h,he=>⟨[],he,rfl,by simp⟩
 |(d,⟨g0,ty0,c0⟩)::bs,K,h,he=>by
  unfold finP at he;split at he
  ·rename_i g ty cells hf;split at he
   ·rename_i cs hb hk;rw[forceL_eq]at he;have hb:=aP hb;subst hb;obtain⟨css,k1,k2,k3⟩:=zf h he;refine⟨cs::css,k1,by simp[k2],fun i d' b0 cs' hi hc=>?_⟩;cases i with
    |zero=>
     simp only[aZ,am,ai]at hi hc;obtain⟨rfl,rfl⟩:=hi;subst hc;obtain⟨-,m1,us,m2,m3⟩:=h.box d _ hf;exact⟨_,hf,m1,us,m2,iO hk m3⟩
    |succ i=>exact k3 i d' b0 cs' (by simpa using hi) (by simpa using hc)
   ·exact he.elim
  ·exact he.elim
theorem nE{H:Fz}{w:World}:∀{Qa:List Arg} {us:List Value},mR H w Qa us→us.length=Qa.length
 | [],[],_=>rfl
 | [],_::_,h=>h.elim
 | .val _::_,[],h=>h.elim
 | .box _ _::_,[],h=>h.elim
 | .val _::Qa,_::us,h=>by simp[nE h.2]
 | .box _ _::Qa,_::us,h=>by simp[nE h.2]
def abOf(us:List Value)(d:Nat):Nat:=match us[d]? with
 |some (.pointer (some a))=>a.block
 |_=>0
theorem iP{H:Fz}{w:World}:∀{Qa:List Arg} {us:List Value} (i:Nat),mR H w Qa us→
 (∀t v,find t (cZ i Qa).1=some v→∃j u,t=i+j∧us[j]?=some u∧((v= .one (.ptr t 0 0)∧(find t (cZ i Qa).2).isSome=true∧u= .pointer (some ⟨abOf us j,0,none⟩))∨AVr Con.no H v u))∧
 ∀d b,find d (cZ i Qa).2=some b→∃j,d=i+j∧j<us.length∧b.gen=0∧gO Con.no H w (abOf us j) b.ty b.cells∧abOf us j∈cC Qa us
 | [],[],i,_=>by simp[cZ,find]
 | [],_::_,_,h=>h.elim
 | .val _::_,[],_,h=>h.elim
 | .box _ _::_,[],_,h=>h.elim
 | .val a::Qa,u::us,i,h=>by
  obtain⟨k1,k2⟩:=iP (i+1) h.2;constructor
  ·intro t v hf;simp only[cZ,cW]at hf ⊢;split at hf
   ·rename_i hit;cases hf;exact⟨0,u,by omega,rfl,.inr h.1⟩
   ·obtain⟨j,u',e1,e2,e3⟩:=k1 t v hf;exact⟨j+1,u',by omega,by simpa using e2,e3⟩
  ·intro d b hf;obtain⟨j,e1,e2,e3,e4,e5⟩:=k2 d b hf;exact⟨j+1,by omega,by simp;omega,e3,e4,by
    have:cC (.val a::Qa) (u::us)=cC Qa us:=rfl;rw[this];exact e5⟩
 | .box ty cs::Qa,u::us,i,h=>by
  obtain⟨k1,k2⟩:=iP (i+1) h.2;obtain⟨b0,rfl,hin⟩:=h.1;constructor
  ·intro t v hf;simp only[cZ,cW]at hf ⊢;split at hf
   ·rename_i hit;cases hf;exact⟨0,_,by omega,rfl,.inl ⟨by rw[hit],by simp[hit],rfl⟩⟩
   ·rename_i hne;obtain⟨j,u',e1,e2,e3⟩:=k1 t v hf;exact⟨j+1,u',by omega,by simpa using e2,by rw[if_neg hne];exact e3⟩
  ·intro d b hf;simp only[cZ,cW]at hf;split at hf
   ·cases hf;exact⟨0,by omega,by simp,rfl,hin,by simp[cC,abOf]⟩
   ·obtain⟨j,e1,e2,e3,e4,e5⟩:=k2 d b hf;exact⟨j+1,by omega,by simp;omega,e3,e4,by simp only[cC];exact aD _ e5⟩
theorem lU{H:Fz}{w:World}:∀{Qa:List Arg} {us:List Value} (i:Nat),mR H w Qa us→(cC Qa us).Nodup→∀d d' b b',find d (cZ i Qa).2=some b→find d' (cZ i Qa).2=some b'→abOf us (d-i)=abOf us (d'-i)→d=d'
 | [],[],i,_,_,_,_,_,_,h,_,_=>by simp[cZ,find]at h
 | [],_::_,_,h,_,_,_,_,_,_,_,_=>h.elim
 | .val _::_,[],_,h,_,_,_,_,_,_,_,_=>h.elim
 | .box _ _::_,[],_,h,_,_,_,_,_,_,_,_=>h.elim
 | .val a::Qa,u::us,i,h,hn,d,d',b,b',hf,hf',he=>by
  have hn':(cC Qa us).Nodup:=by
   have:cC (.val a::Qa) (u::us)=cC Qa us:=rfl
   rwa [this]at hn
  obtain⟨j,e1,-⟩:=(iP (i+1) h.2).2 d b hf;obtain⟨j',e1',-⟩:=(iP (i+1) h.2).2 d' b' hf';refine lU (i+1) h.2 hn' d d' b b' hf hf' ?_;rw[show d-i=(d-(i+1))+1 by omega,show d'-i=(d'-(i+1))+1 by omega]at he;exact he
 | .box ty cs::Qa,u::us,i,h,hn,d,d',b,b',hf,hf',he=>by
  obtain⟨b0,rfl,hin⟩:=h.1;simp only[cC,bF]at hn;simp only[cZ,cW]at hf hf';split at hf<;>split at hf'
  ·omega
  ·rename_i h1 h2;obtain⟨j,e1,-,-,-,e5⟩:=(iP (i+1) h.2).2 d' b' hf';rw[show d-i=0 by omega,show d'-i=j+1 by omega]at he;exact absurd (show b0∈cC Qa us by have:b0=abOf us j:=he;rw[this];exact e5) hn.1
  ·rename_i h1 h2;obtain⟨j,e1,-,-,-,e5⟩:=(iP (i+1) h.2).2 d b hf;rw[show d'-i=0 by omega,show d-i=j+1 by omega]at he;exact absurd (show b0∈cC Qa us by have:b0=abOf us j:=he.symm;rw[this];exact e5) hn.1
  ·rename_i h1 h2;obtain⟨j,e1,-⟩:=(iP (i+1) h.2).2 d b hf;obtain⟨j',e1',-⟩:=(iP (i+1) h.2).2 d' b' hf';refine lU (i+1) h.2 hn.2 d d' b b' hf hf' ?_;rw[show d-i=(d-(i+1))+1 by omega,show d'-i=(d'-(i+1))+1 by omega]at he;exact he
theorem lm:∀(Qa:List Arg) (i k d:Nat) (b:Box),(cZ i Qa).2[k]?=some (d,b)→i≤d
 | [],i,k,d,b,h=>by simp[cZ]at h
 | .val _::Qa,i,k,d,b,h=>by have:=lm Qa (i+1) k d b h;omega
 | .box _ _::Qa,i,0,d,b,h=>by simp[cZ]at h;omega
 | .box _ _::Qa,i,k+1,d,b,h=>by have:=lm Qa (i+1) k d b (by simpa [cZ]using h);omega
theorem qY{H H':Fz}{w w':World}:∀{Qa:List Arg} {us:List Value} {css:List (List AC)} (i:Nat),mR H w Qa us→css.length=(cZ i Qa).2.length→
 (∀(k d:Nat) (b0:Box) (cs:List AC),(cZ i Qa).2[k]?=some (d,b0)→css[k]?=some cs→gO Con.no H' w' (abOf us (d-i)) b0.ty cs)→tp H' w' Qa us css
 | [],[],css,i,_,hl,_=>by
  have:css=[]:=aK hl;subst this;trivial
 | [],_::_,_,_,h,_,_=>h.elim
 | .val _::_,[],_,_,h,_,_=>h.elim
 | .box _ _::_,[],_,_,h,_,_=>h.elim
 | .val a::Qa,u::us,css,i,h,hl,hb=>by
  show tp H' w' Qa us css;refine qY (Qa:=Qa) (i+1) h.2 hl fun k d b0 cs hk hc=>?_;have:=hb k d b0 cs hk hc;have hge:=lm Qa (i+1) k d b0 hk;rw[show d-i=(d-(i+1))+1 by omega]at this;exact this
 | .box ty cs::Qa,u::us,[],i,h,hl,_=>by simp[cZ]at hl
 | .box ty cs::Qa,u::us,c::css,i,h,hl,hb=>by
  obtain⟨b0,rfl,hin⟩:=h.1;refine⟨⟨b0,rfl,?_⟩,qY (i+1) h.2 (by simpa [cZ]using hl) fun k d b1 cs hk hc=>?_⟩
  ·have:=hb 0 i _ c rfl rfl;rw[ch]at this;exact this
  ·have:=hb (k+1) d b1 cs (by simpa [cZ]using hk) (by simpa using hc);have hge:=lm Qa (i+1) k d b1 hk;rw[show d-i=(d-(i+1))+1 by omega]at this;exact this
theorem pB:∀(Qa:List Arg) (i k d:Nat) (b:Box),(cZ i Qa).2[k]?=some (d,b)→d<i+Qa.length
 | [],i,k,d,b,h=>by simp[cZ]at h
 | .val _::Qa,i,k,d,b,h=>by have:=pB Qa (i+1) k d b h;simp;omega
 | .box _ _::Qa,i,0,d,b,h=>by simp[cZ]at h;simp;omega
 | .box _ _::Qa,i,k+1,d,b,h=>by have:=pB Qa (i+1) k d b (by simpa [cZ]using h);simp;omega
theorem lT{H:Fz}{w:World}:∀{Qa:List Arg} {us:List Value} (i:Nat),mR H w Qa us→∀k∈cC Qa us,∃(n d:Nat) (b0:Box),(cZ i Qa).2[n]?=some (d,b0)∧abOf us (d-i)=k
 | [],[],_,_,k,hk=>by simp[cC]at hk
 | [],_::_,_,h,_,_=>h.elim
 | .val _::_,[],_,h,_,_=>h.elim
 | .box _ _::_,[],_,h,_,_=>h.elim
 | .val a::Qa,u::us,i,h,k,hk=>by
  have hk':k∈cC Qa us:=hk;obtain⟨n,d,b0,h1,h2⟩:=lT (i+1) h.2 k hk';have hge:=lm Qa (i+1) n d b0 h1;refine⟨n,d,b0,h1,?_⟩;rw[show d-i=(d-(i+1))+1 by omega];exact h2
 | .box ty cs::Qa,u::us,i,h,k,hk=>by
  obtain⟨b0,rfl,hin⟩:=h.1;simp only[cC,aV]at hk;rcases hk with rfl|hk
  ·exact⟨0,i,_,rfl,by rw[ch];rfl⟩
  ·obtain⟨n,d,b1,h1,h2⟩:=lT (i+1) h.2 k hk;have hge:=lm Qa (i+1) n d b1 h1;refine⟨n+1,d,b1,by simpa [cZ]using h1,?_⟩;rw[show d-i=(d-(i+1))+1 by omega];exact h2
theorem vg{H:Fz}{w:World}{n:Nat}:∀{rs:List Res} {us:List Value},us.length=rs.length→(∀(j:Nat) (r:Res) (u:Value),rs[j]?=some r→us[j]?=some u→ResR H w n r u)→ResL H w n rs us
 | [],[],_,_=>trivial
 | [],_::_,h,_=>by simp at h
 |_::_,[],h,_=>by simp at h
 |r::rs,u::us,hl,h=>⟨h 0 r u rfl rfl,vg (by simpa using hl) fun j r u hr hu=>h (j+1) r u (by simpa using hr) (by simpa using hu)⟩
theorem wU{α:Type}{f:α→Sem Value}(w:World):∀{l:List α} {us:List Value},us.length=l.length→(∀(j:Nat) (x:α) (u:Value),l[j]?=some x→us[j]?=some u→(f x).run P w= .ok u w)→(l.mapM f).run P w= .ok us w
 | [],[],_,_=>rfl
 | [],_::_,h,_=>by simp at h
 |_::_,[],h,_=>by simp at h
 |x::l,u::us,hl,h=>by
  have h0:=h 0 x u rfl rfl;have ih:=wU w (f:=f) (l:=l) (us:=us) (by simpa using hl) fun j x u hx hu=>h (j+1) x u (by simpa using hx) (by simpa using hu);rw[List.mapM_cons];simp only[aY,h0,aF,ih,bu]
theorem fO{fn:Func}{tmps:Array Value}{us:List Value}(hl:us.length=fn.results.toList.length)
 (h:∀(j:Nat) (v:ResultVar) (u:Value),fn.results.toList[j]?=some v→us[j]?=some u→(match v with| .tmp t=>pure (tmps.getD t undef)| .cell x t=>do loadVar t (←asAddr (tmps.getD x undef)):Sem Value).run P w= .ok u w):
 (results fn tmps).run P w= .ok (ff us) w:=by
 unfold results;rw[Array.mapM_eq_mapM_toList];have:=wU (P:=P) w hl h;simp only[aY,Sem.run_map];erw [this];simp only[aF,bu]
 match us with
 | []=>rfl
 | [u]=>rfl
 |u::v::us=>simp[ff]
theorem ajs(E:Env P T J){f:Nat}{fn:Func}{c:Code}{Qa:List Arg}{rs:List Res}{css:List (List AC)}(hf:P.funcs[f]?=some fn)(hb:fn.body=some c)(hok:jR fn.ntmps Qa.length c=true)(hn:Nat.ble Qa.length fn.ntmps=true)
 (he:evF P T J G fn.results.toList c Qa fun rs' css'=>rs'=rs∧css'=css):CT P G f Qa rs css:=by
 intro H w us hfz hG hargs hnd;have hn:=bB hn;have hul:=nE hargs;refine calls_of_wp hf hb ?_;obtain⟨a1,a2⟩:=iP 0 hargs
 let X:Ctx:={ W0:=w,H0:=H,Pr:=fun b=>b<w.heap.size∧b∉cC Qa us,N:=fn.ntmps,A:=Qa.length,ab:=abOf us,lt:=fun _ h=>h.1}
 let κ0:Con:={ blk:=fun d _=>abOf us d,row:=fun _ _=>undef,nb:=fun d=>if(find d (cZ 0 Qa).2).isSome then 1 else 0,nr:=fun _=>0}
 have hrel:Rel X κ0 H ⟨(cZ 0 Qa).1,(cZ 0 Qa).2,[]⟩ { tmps:=us.toArray++Array.replicate (fn.ntmps-us.toArray.size) undef,defers:=[]} w:=by
  refine{ size:=by simp[X];omega,tmps:=?_,defers:=rfl,fz:=hfz,hk:=fun _ _=>rfl,h0:=Fz.le_refl H,box:=?_,nobox:=?_,args:=?_,perm:=by simp[find],noperm:=fun _ _=>rfl,bb:=?_,rr:=by simp[find],br:=by simp[find],pb:=?_,pr:=by simp[find],keep:=fun _ _=>rfl,grown:=au _,os:=rfl,tape:=rfl,output:=rfl}
  ·intro t v hft;obtain⟨j,u,e1,e2,e3⟩:=a1 t v hft;have e1':t=j:=by omega
   subst e1';have hget:(us.toArray++Array.replicate (fn.ntmps-us.toArray.size) undef).getD t undef=u:=by
    have hlt:=(aq.1 e2).1;rw[aB,dr (by simpa using hlt)];simp[e2]
   rw[hget];rcases e3 with⟨rfl,h1,rfl⟩|h1
   ·refine .one _ _ (ACr.ptr (κ:=κ0) t 0 0 ?_);simp[κ0,h1]
   ·exact h1.mono (Con.no_le κ0) (Fz.le_refl H)
  ·intro d b hfd;obtain⟨j,e1,e2,e3,e4,-⟩:=a2 d b hfd;have e1':d=j:=by omega
   subst e1';obtain⟨m1,us',m2,m3⟩:=e4;refine⟨by simp[κ0,hfd,e3],m1,us',m2,m3.mono (Con.no_le κ0) (Fz.le_refl H)⟩
  ·intro d hfd;simp only at hfd;simp[κ0,hfd]
  ·intro d b _ _;rfl
  ·intro d d' b b' h1 h2 hq;exact lU 0 hargs hnd d d' b b' h1 h2 hq
  ·intro d b hfd hp;obtain⟨j,e1,-,-,-,e5⟩:=a2 d b hfd;have e1':d=j:=by omega
   subst e1';exact hp.2 e5
 rw[evF,pA]at he;refine gx (X:=X) E hG c hok _ _ κ0 H _ w hrel he _ fun ex s κ' H' a' w' h hk=>?_;have fin:(∃ex',ex=ex'∧∀i,ex≠ .exit i)→resP T fn.results.toList s (fun rs'=>finP (cZ 0 Qa).2 s fun css'=>rs'=rs∧css'=css)→
  a'.defers=[]∧∃v,(results fn a'.tmps).run P w'= .ok v w'∧∃v' H',Ending.returned v= .returned v'∧CPost H w Qa us rs css v' H' w':=by
  intro _ hk;obtain⟨rs',vs,k1,k2,k3,k4,k5⟩:=rN E h hk;obtain⟨css',⟨rfl,rfl⟩,m2,m3⟩:=zf h k1;refine⟨h.defers,ff vs,fO k3 k5,ff vs,H',rfl,?_⟩
  have hab:∀(i d:Nat) (b0:Box) (cs:List AC),(cZ 0 Qa).2[i]?=some (d,b0)→css'[i]?=some cs→(∃b,find d s.boxes=some b∧κ'.blk d b.gen=abOf us d)∧gO Con.no H' w' (abOf us d) b0.ty cs:=by
   intro i d b0 cs hi hc;obtain⟨b,h1,h2⟩:=m3 i d b0 cs hi hc;have hd:d<Qa.length:=by
    have:=pB Qa 0 i d b0 hi;omega
   have:=h.args d b (.inl hd) h1;exact⟨⟨b,h1,this⟩,by rw[this]at h2;exact h2⟩
  refine{ le:=h.h0,fz:=h.fz,keep:=fun b hb1 hb2=>⟨h.keep b ⟨hb1,hb2⟩,h.hk b ⟨hb1,hb2⟩⟩,outs:=?_,grown:=h.grown,os:=h.os,tape:=h.tape,output:=h.output,res:=⟨vs,?_,rfl⟩}
  ·exact qY 0 hargs m2 fun k d b0 cs hk hc=>(hab k d b0 cs hk hc).2
  ·refine vg k2 fun j r u hr hu=>?_;have:=k4 j r u hr hu;cases r with
   |val=>exact this
   |row e sz xs=>
    obtain⟨q1,q2,q3⟩:=this;refine⟨q1,q2,fun k hk=>?_⟩;obtain⟨d,p,f1,f2,f3⟩:=q3 k hk;rcases eA k w.heap.size with hlt|hge
    ·exfalso;have hnp:=h.pr d p k f1 f2 f3;have hmem:k∈cC Qa us:=by
      by_cases hm:k∈cC Qa us
      ·exact hm
      ·exact absurd ⟨hlt,hm⟩ hnp
     obtain⟨i,d',b0,hi,hd'⟩:=lT 0 hargs k hmem;have hil:i<css'.length:=by rw[m2];exact(aq.1 hi).1
     obtain⟨⟨b,hb1,hb2⟩,-⟩:=hab i d' b0 _ hi (ad hil);rw[fj]at hd';exact h.br d' d b p hb1 f1 f2 (by rw[f3,hb2,hd'])
    ·exact hge
 cases ex with
 |normal=>exact fin ⟨_,rfl,fun i=>by simp⟩ hk
 |ret=>exact fin ⟨_,rfl,fun i=>by simp⟩ hk
 |exit i=>exact hk.elim
end
def OB:Nat:=100000
structure Md where
 mt:List Nat:=[]
 tk:List Nat:=[]
 fb:List Nat:=[]
 fz:List Nat:=[]
 fs:List Nat:=[]
 nest:List Nat:=[]
 bk:List (Nat×Nat×Nat):=[]
 own:List (Nat×Nat):=[]
 hand:List Nat:=[]
 bl:List Nat:=[]
 any:List Nat:=[]
 ro:Bool:=false
 A:Nat:=0
def memN(d:Nat):List Nat→Bool
 | []=>false
 |k::l=>match Nat.beq k d with
  |true=>true
  |false=>memN d l
def memP(a b:Nat):List (Nat×Nat)→Bool
 | []=>false
 |(x,y)::l=>match Nat.beq x a&&Nat.beq y b with
  |true=>true
  |false=>memP a b l
def xN(o:Oper)(l:List Nat):Bool:=match o.dst with
 |some d=>memN d l
 |none=>false
def obR(d g:Nat):Rd Ob:=.perm d fun
 |some ⟨pg,_,_,_⟩=>match Nat.beq pg g with
  |true=>.tmp (OB+d) fun
   | .ob d' g' c=>match Nat.beq d' d&&Nat.beq g' g with
    |true=>.ret c
    |false=>.none
   |_=>.none
  |false=>.none
 |none=>.none
def obW(d g:Nat)(c:Ob):Wr:=.tmp (OB+d) (.ob d g c)
def obN(d:Nat)(c:Ob)(k:Nat→List Wr→Rd (AV×List Wr)):RE:=.perm d fun
 |some ⟨g,_,_,_⟩=>k (g+1) [.perm d ⟨g+1,0,0,false⟩,obW d (g+1) c]
 |none=>k 0 [.perm d ⟨0,0,0,false⟩,obW d 0 c]
def keyV:AV→Option Value
 | .one (.v (.int k n))=>some (.int k n)
 | .one (.v (.string s))=>some (.string s)
 | .agg cs=>match cs.mapM (fun c=>match c with
  | .v (.int k n)=>some (.int k n)
  | .v (.string s)=>some (.string s)
  | .v (.bool b)=>some (.bool b)
  |_=>none) with
  |some vs=>some (.agg vs.toArray)
  |none=>none
 |_=>none
def mvOf:AV→Option MV
 | .one c=>(jt c).map fun c=>(false,[c])
 | .agg cs=>(oQ cs).map fun cs=>(true,cs)
 |_=>none
def avOf:MV→Option AV
 |(false,[c])=>some (.one c)
 |(true,cs)=>some (.agg cs)
 |_=>none
def avK:Value→Option AV
 | .agg cs=>match cs.toList.mapM (fun c=>match c with
  | .int k n=>some (AC.v (.int k n))
  | .string s=>some (AC.v (.string s))
  | .bool b=>some (AC.v (.bool b))
  |_=>none) with
  |some cs=>some (.agg cs)
  |none=>none
 | .int k n=>some (.one (.v (.int k n)))
 | .string s=>some (.one (.v (.string s)))
 |_=>none
def yS:Wr→Bool
 | .tmp _ _=>false
 |_=>true
def allB{α:Type}(p:α→Bool):List α→Bool
 | []=>true
 |x::l=>p x&&allB p l
section
variable(T:Tab)(J:Kn)(M:Md)(G:Nat→Option (List AC))
def it(o:Oper):RE:=(evOp T J G o).bind fun(v,ws)=>match allB yS ws with
 |true=>.ret (v,ws)
 |false=>.none
def nQ(t:Nat):Option AV:=match T t with
 |some i=>match i.agg,i.zero with
  |true,cs=>some (.agg cs)
  |false,[c]=>some (.one c)
  |_,_=>none
 |none=>none
def adn:List Nat:=[3,9,92,130,168,200,244,281,300,303]
def keyZ(t:Nat):Option Value:=match memN t adn with
 |true=>(nQ T t).bind keyV
 |false=>none
def frzE(v:AV):RE:=match v with
 | .one (.rref d g _)=>(obR d g).bind fun
  | .row e sz xs=>.ret (.one (.sl e sz xs none),[obW d g .gone])
  | .rows e2 sz2 e yss=>.ret (.one (.sl e 1 (yss.map fun ys=>[.sl e2 sz2 ys none]) none),[obW d g .gone])
  |_=>.none
 | .agg [x,y,z,.rref d g _]=>(obR d g).bind fun
  | .row e sz xs=>.ret (.agg [x,y,z,.sl e sz xs none],[obW d g .gone])
  |_=>.none
 | .agg [.rref d g _,x,y]=>(obR d g).bind fun
  | .row e sz xs=>.ret (.agg [.sl e sz xs none,x,y],[obW d g .gone])
  |_=>.none
 |v=>.ret (v,[])
def mvE(o:Oper)(x:Operand):RE:=(opd G x).bind fun v=>match xN o M.fz with
 |true=>match x,xN o M.fs with
  | .tmp k,true=>match Nat.blt k 2048 with
   |true=>(frzE v).bind fun(v',ws)=>.ret (v',ws++[.tmp k v'])
   |false=>.none
  |_,_=>frzE v
 |false=>match v,o.dst with
  | .one (.rref d g n),some t=>match memN t M.mt,Nat.beq d t with
   |true,false=>(obR d g).bind fun c=>match c with
    | .row e sz xs=>obN t (.row e sz xs) fun g' ws=>.ret (.one (.rref t g' n),obW d g .gone::ws)
    | .rows e2 sz2 e yss=>obN t (.rows e2 sz2 e yss) fun g' ws=>.ret (.one (.rref t g' n),obW d g .gone::ws)
    |_=>.none
   |_,_=>.ret (v,[])
  |_,_=>.ret (v,[])
def nX(o:Oper)(t:Nat)(a b:AV):RE:=
 match a,b,T t,o.dst with
 | .one (.v (.int _ n)),.one (.v (.int _ m)),some i,some d=>match i.kind with
  | .slice e sz bytes=>match T e with
   |some ie=>.need (n=m∧0≤n∧n≤(lim bytes:Int)) (match memN d M.nest with
    |true=>match ie.zero with
     | [.nil e2 sz2]=>obN d (.rows e2 sz2 e (List.replicate n.toNat [])) fun g ws=>.ret (.one (.rref d g n.toNat),ws)
     |_=>.none
    |false=>obN d (.row e sz (List.replicate n.toNat ie.zero)) fun g ws=>.ret (.one (.rref d g n.toNat),ws))
   |none=>.none
  |_=>.none
 |_,_,_,_=>.none
def aax(o:Oper)(t:Nat)(m k:AV)(ok:Bool):RE:=
 match m,keyV k,T t with
 | .one (.mref d g),some kv,some i=>match i.kind with
  | .map kt el=>(obR d g).bind fun
   | .map z ks vs=>match keyZ T kt with
    |some z'=>match shp z' z&&shp z' kv with
     |true=>.key ks kv fun
      |none=>match nQ T el with
       |some z=>.ret (match ok with|true=>.tup [z,.one (.v (.bool false))]|false=>z,[])
       |none=>.none
      |some j=>.mval vs j fun mv=>match avOf mv with
       |some v=>.ret (match ok with|true=>.tup [v,.one (.v (.bool true))]|false=>v,[])
       |none=>.none
     |false=>.none
    |none=>.none
   | .mrow z e sz ks yss=>match ok,(keyZ T kt).map (fun z'=>shp z' z&&shp z' kv),(T el).map TI.kind with
    |false,some true,some (.slice e' sz' _)=>match Nat.beq e e'&&Nat.beq sz sz' with
     |true=>.key ks kv fun
      |none=>match nQ T el with
       |some zz=>.ret (zz,[])
       |none=>.none
      |some j=>.elemR yss j fun ys=>match o.dst with
       |some t=>match memN t M.tk&& !Nat.beq t d with
        |true=>obN t (.row e sz ys) fun g' ws=>.ret (.one (.rref t g' ys.length),ws++[obW d g (.mrowL z e sz ks yss j t g')])
        |false=>.none
       |none=>.none
     |false=>.none
    |_,_,_=>.none
   |_=>.none
  |_=>.none
 |_,_,_=>.none
def updE(z':Value)(m k x:AV):RE:=
 match m,keyV k with
 | .one (.mref d g),some kv=>(obR d g).bind fun
  | .map z ks vs=>match mvOf x,shp z' z&&shp z' kv with
   |some mv,true=>.key ks kv fun
    |none=>.ret (.undef,[obW d g (.map z (ks++[kv]) (vs++[mv]))])
    |some j=>.ret (.undef,[obW d g (.map z ks (vs.set j mv))])
   |_,_=>.none
  | .mrow z e sz ks yss=>match x with
   | .one (.rref d' g' _)=>(obR d' g').bind fun
    | .row e' sz' ys=>match Nat.beq e e'&&Nat.beq sz sz'&&shp z' z&&shp z' kv with
     |true=>.key ks kv fun
      |none=>.ret (.undef,[obW d' g' .gone,obW d g (.mrow z e sz (ks++[kv]) (yss++[ys]))])
      |some j=>.ret (.undef,[obW d' g' .gone,obW d g (.mrow z e sz ks (yss.set j ys))])
     |false=>.none
    |_=>.none
   |_=>.none
  | .mrowL z e sz ks yss i _ _=>match x with
   | .one (.rref d' g' _)=>(obR d' g').bind fun
    | .row e' sz' ys=>match Nat.beq e e'&&Nat.beq sz sz'&&shp z' z&&shp z' kv with
     |true=>.key ks kv fun
      |none=>.none
      |some j=>.need (j=i) (.ret (.undef,[obW d' g' .gone,obW d g (.mrow z e sz ks (yss.set j ys))]))
     |false=>.none
    |_=>.none
   |_=>.none
  |_=>.none
 |_,_=>.none
def adW(t:Nat)(m k:AV):RE:=
 match m,keyV k,T t with
 | .one (.mref d g),some kv,some i=>match i.kind with
  | .map kt el=>(obR d g).bind fun
   | .map z ks vs=>match(keyZ T kt).map (fun z'=>shp z' z&&shp z' kv) with
    |some true=>.key ks kv fun
     |none=>match(nQ T el).bind mvOf,nQ T el with
      |some mv,some zv=>.ret (.tup [zv,.one (.v (.int .i64 (ks.length:Int)))],[obW d g (.map z (ks++[kv]) (vs++[mv]))])
      |_,_=>.none
     |some j=>.mval vs j fun mv=>match avOf mv with
      |some v=>.ret (.tup [v,.one (.v (.int .i64 (j:Int)))],[])
      |none=>.none
    |_=>.none
   |_=>.none
  |_=>.none
 |_,_,_=>.none
def qK(m n x:AV):RE:=
 match m,n,mvOf x with
 | .one (.mref d g),.one (.v (.int .i64 n)),some mv=>(obR d g).bind fun
  | .map z ks vs=>.need (0≤n∧n.toNat<vs.length) (.ret (.undef,[obW d g (.map z ks (vs.set n.toNat mv))]))
  |_=>.none
 |_,_,_=>.none
def agB(o:Oper)(t:Nat)(v:AV):RE:=match v with
 | .one (.eref d g sz i off)=>(obR d g).bind fun
  | .row _ sz' xs=>match Nat.beq sz sz' with
   |true=>.elem xs (Int.ofNat i) fun cs=>(Rd.of ((nV T t cs off).bind iy)).bind fun v=>.ret (v,[])
   |false=>.none
  | .rows e2 sz2 e yss=>match off,sz,o.dst,T t with
   |0,1,some t,some ti=>match memN t M.tk&& !Nat.beq t d,ti.agg with
    |true,false=>.elemR yss i fun ys=>obN t (.row e2 sz2 ys) fun g' ws=>.ret (.one (.rref t g' ys.length),ws++[obW d g (.rowsL e2 sz2 e yss i t g')])
    |_,_=>.none
   |_,_,_,_=>.none
  |_=>.none
 |_=>it T J G o
def abS(o:Oper)(t:Nat)(a x:AV):RE:=match a with
 | .one (.eref d g sz' i off)=>(obR d g).bind fun
  | .row e sz xs=>match(iy x).bind AV.cells?,T t with
   |some cs,some ti=>.elem xs (Int.ofNat i) fun old=>match Nat.beq sz sz'&&Nat.beq ti.size cs.length&&Nat.ble (off+cs.length) old.length with
    |true=>.ret (.undef,[obW d g (.row e sz (xs.set i (over old off cs)))])
    |false=>.none
   |_,_=>.none
  | .uf n p=>match x,T t,Nat.beq sz' 1&&Nat.beq off 0 with
   | .one (.v (.int .i64 v)),some ti,true=>match Nat.beq ti.size 1 with
    |true=>.ret (.undef,[obW d g (.uf n fun l=>∃l0,p l0∧l=l0.set i v)])
    |false=>.none
   |_,_,_=>.none
  | .rows e2 sz2 e yss=>match off,sz',x,T t with
   |0,1,.one (.rref d' g' _),some ti=>(obR d' g').bind fun
    | .row e' sz' ys=>match Nat.beq e2 e'&&Nat.beq sz2 sz'&&Nat.beq ti.size 1 with
     |true=>.ret (.undef,[obW d' g' .gone,obW d g (.rows e2 sz2 e (yss.set i ys))])
     |false=>.none
    |_=>.none
   |_,_,_,_=>.none
  | .rowsL e2 sz2 e yss i0 _ _=>match off,sz',x,T t with
   |0,1,.one (.rref d' g' _),some ti=>(obR d' g').bind fun
    | .row e' sz' ys=>match Nat.beq e2 e'&&Nat.beq sz2 sz'&&Nat.beq ti.size 1 with
     |true=>.need (i=i0) (.ret (.undef,[obW d' g' .gone,obW d g (.rows e2 sz2 e (yss.set i ys))]))
     |false=>.none
    |_=>.none
   |_,_,_,_=>.none
  |_=>.none
 |_=>it T J G o
def wo(o:Oper)(t:Nat)(s x:AV):RE:=
 match T t,o.dst with
 |some i,some d=>match i.kind with
  | .slice e sz bytes=>match lg sz x with
   |some ys=>match s with
    | .one (.rref d0 g0 _)=>(obR d0 g0).bind fun
     | .row e' sz' xs=>match Nat.beq e e'&&Nat.beq sz sz' with
      |true=>.need (xs.length+ys.length≤lim bytes) (obN d (.row e sz (xs++ys)) fun g ws=>.ret (.one (.rref d g (xs.length+ys.length)),match Nat.beq d d0 with|true=>ws|false=>obW d0 g0 .gone::ws))
      |false=>.none
     | .rows e2 sz2 e' yss=>match ys,Nat.beq e e'&&Nat.beq sz 1 with
      | [[.v (.slice none 0 0)]],true=>.need (yss.length+1≤lim bytes) (obN d (.rows e2 sz2 e (yss++[[]])) fun g ws=>.ret (.one (.rref d g (yss.length+1)),match Nat.beq d d0 with|true=>ws|false=>obW d0 g0 .gone::ws))
      |_,_=>.none
     |_=>.none
    | .one (.nil _ _)=>match memN d M.mt with
     |true=>.need (ys.length≤lim bytes) (obN d (.row e sz ys) fun g ws=>.ret (.one (.rref d g ys.length),ws))
     |false=>it T J G o
    | .one (.v (.slice none 0 0))=>match memN d M.mt with
     |true=>.need (ys.length≤lim bytes) (obN d (.row e sz ys) fun g ws=>.ret (.one (.rref d g ys.length),ws))
     |false=>it T J G o
    |_=>it T J G o
   |none=>.none
  |_=>.none
 |_,_=>.none
end
inductive Hm where
 |ob (d g:Nat)
 |box (d:Nat) (b:Box)
 |clo (f:Nat) (l:List (Option (Nat×Box)))
def oM:List Nat→Bool
 | []=>true
 |d::l=> !memN d l&&oM l
def hmB:Hm→List (Nat×Box)
 | .ob _ _=>[]
 | .box d b=>[(d,b)]
 | .clo _ l=>l.filterMap id
def fstL{α:Type}:List (Nat×α)→List Nat
 | []=>[]
 |(d,_)::l=>d::fstL l
def goneL:List (Nat×Nat)→List Wr
 | []=>[]
 |(d,g)::l=>obW d g .gone::goneL l
section
variable(T:Tab)(J:Kn)(M:Md)(G:Nat→Option (List AC))
def oY(own:Bool):AC→Rd (AC×List (Nat×Nat))
 | .rref d g _=>(obR d g).bind fun
  | .row e sz xs=>.ret (.own e sz xs,[(d,g)])
  | .uf n p=>.ret (.uf n p,[(d,g)])
  |_=>.none
 | .mref d g=>(obR d g).bind fun
  | .map z ks vs=>.ret (.omap z ks vs,[(d,g)])
  | .mrow z e sz ks yss=>.ret (.omrow z e sz ks yss,[(d,g)])
  |_=>.none
 | .iref d g=>(obR d g).bind fun
  | .bld l s=>.ret (.bld l s,[(d,g)])
  |_=>.none
 | .nil e sz=>match own with
  |true=>.ret (.own e sz [],[])
  |false=>.ret (.sl e sz [] none,[])
 |c=>match jt c with
  |some c=>.ret (c,[])
  |none=>.none
def xD(ty:Nat):Nat→List AC→Rd (List AC×List (Nat×Nat))
 |_,[]=>.ret ([],[])
 |k,c::cs=>(oY (memP ty k M.own) c).bind fun(c,h)=>(xD ty (k+1) cs).bind fun(cs,hs)=>.ret (c::cs,h++hs)
def xE(d g:Nat):Rd (AC×Box×List (Nat×Nat)):=(boxR d g).bind fun⟨bg,bt,bc⟩=>(xD M bt 0 bc).bind fun(cs,hs)=>.ret (.obox bt cs,⟨bg,bt,bc⟩,hs)
def sE:List AC→Rd (List AC×List (Option (Nat×Box))×List (Nat×Nat))
 | []=>.ret ([],[],[])
 | .ptr d g 0::cs=>(xE M d g).bind fun(c,b,os)=>(sE cs).bind fun(cs,hs,os')=>.ret (c::cs,some (d,b)::hs,os++os')
 |c::cs=>match jt c with
  |some c=>(sE cs).bind fun(cs,hs,os)=>.ret (c::cs,none::hs,os)
  |none=>.none
def kI:List (Option (Nat×Box))→Bool
 | []=>false
 |some _::_=>true
 |none::l=>kI l
def aeG:AV→Rd (AV×List Hm×List (Nat×Nat))
 | .one (.ptr d g 0)=>(xE M d g).bind fun(c,b,os)=>.ret (.one c,[.box d b],os)
 | .one (.rref d g n)=>(oY false (.rref d g n)).bind fun(c,os)=>.ret (.one c,[.ob d g],os)
 | .one (.mref d g)=>(oY false (.mref d g)).bind fun(c,os)=>.ret (.one c,[.ob d g],os)
 | .one (.iref d g)=>(oY false (.iref d g)).bind fun(c,os)=>.ret (.one c,[.ob d g],os)
 | .one (.clo f cs)=>(sE M cs).bind fun(cs,hs,os)=>match kI hs with
  |true=>.ret (.one (.clo f cs),[.clo f hs],os)
  |false=>.ret (.one (.clo f cs),[],os)
 |v=>match iy v with
  |some v=>.ret (v,[],[])
  |none=>.none
def qv:List AV→Rd (List AV×List Hm×List (Nat×Nat))
 | []=>.ret ([],[],[])
 |v::vs=>(aeG M v).bind fun(a,h,os)=>(qv vs).bind fun(Qa,hs,os')=>.ret (a::Qa,h++hs,os++os')
def unfC(nm:Nat)(c:AC):Rd (AC×List Wr):=match c with
 | .own e sz xs=>(obN nm (.row e sz xs) fun g ws=>.ret (.one (.rref nm g xs.length),ws)).bind fun(v,ws)=>match v with| .one c=>.ret (c,ws)|_=>.none
 | .omap z ks vs=>(obN nm (.map z ks vs) fun g ws=>.ret (.one (.mref nm g),ws)).bind fun(v,ws)=>match v with| .one c=>.ret (c,ws)|_=>.none
 | .omrow z e sz ks yss=>(obN nm (.mrow z e sz ks yss) fun g ws=>.ret (.one (.mref nm g),ws)).bind fun(v,ws)=>match v with| .one c=>.ret (c,ws)|_=>.none
 | .uf n p=>(obN nm (.uf n p) fun g ws=>.ret (.one (.rref nm g n),ws)).bind fun(v,ws)=>match v with| .one c=>.ret (c,ws)|_=>.none
 | .obox _ _=>.none
 | .bld _ _=>.none
 |c=>match jt c with
  |some c=>.ret (c,[])
  |none=>.none
def eV(d k:Nat):Nat:=4096+64*d+k
def unfL(d:Nat):Nat→List AC→Rd (List AC×List Wr)
 |_,[]=>.ret ([],[])
 |k,c::cs=>(unfC (eV d k) c).bind fun(c,ws)=>(unfL d (k+1) cs).bind fun(cs,ws')=>.ret (c::cs,ws++ws')
def zM(d:Nat)(b:Box)(c:AC):Rd (List Wr):=match c with
 | .obox ty cs=>match Nat.beq ty b.ty&&Nat.blt cs.length 64 with
  |true=>(unfL d 0 cs).bind fun(cs,ws)=>.ret (ws++[.box d ⟨b.gen,b.ty,cs⟩])
  |false=>.none
 |_=>.none
def unfB(d:Nat)(b:Box)(c:AC):Rd (List Wr):=match b with
 |⟨g,bt,_⟩=>match c with
  | .obox ty cs=>match Nat.beq ty bt&&Nat.blt cs.length 64 with
   |true=>(unfL d 0 cs).bind fun(cs,ws)=>.ret (ws++[.box d ⟨g,bt,cs⟩])
   |false=>.none
  |_=>.none
theorem uO(d:Nat)(b:Box)(c:AC):unfB d b c=zM d b c:=by
 obtain⟨g,bt,bc⟩:=b;rfl
def unfK:List (Option (Nat×Box))→List AC→Rd (List Wr)
 | [],[]=>.ret []
 |some (d,b)::hs,c::cs=>(unfB d b c).bind fun ws=>(unfK hs cs).bind fun ws'=>.ret (ws++ws')
 |none::hs,_::cs=>unfK hs cs
 |_,_=>.none
def unfH(h:Hm)(c:AC):Rd (List Wr):=match h,c with
 | .ob d g,.own e sz xs=>.ret [obW d g (.row e sz xs)]
 | .ob d g,.omap z ks vs=>.ret [obW d g (.map z ks vs)]
 | .ob d g,.omrow z e sz ks yss=>.ret [obW d g (.mrow z e sz ks yss)]
 | .ob d g,.uf n p=>.ret [obW d g (.uf n p)]
 | .ob d g,.bld l s=>.ret [obW d g (.bld l s)]
 | .box d b,c=>unfB d b c
 | .clo f hs,.clo f' cs=>match Nat.beq f f' with
  |true=>unfK hs cs
  |false=>.none
 |_,_=>.none
def iF:List Hm→List AC→Rd (List Wr)
 | [],[]=>.ret []
 |h::hs,c::cs=>(unfH h c).bind fun ws=>(iF hs cs).bind fun ws'=>.ret (ws++ws')
 |_,_=>.none
def qy:List WRes→Option (List AV)
 | []=>some []
 | .val a::rs=>match qy rs with
  |some vs=>some (a::vs)
  |none=>none
 |_::_=>none
def aco(ok:Bool)(d:Nat):List WRes→Rd (List AV×List Wr)
 | .row e sz xs::rs=>match qy rs with
  |some vs=>(eO d e sz xs).bind fun(v,ws)=>.ret (v::vs,ws)
  |none=>.none
 | .own e sz xs::rs=>match qy rs with
  |some vs=>(obN d (.row e sz xs) fun g ws=>.ret (.one (.rref d g xs.length),ws)).bind fun(v,ws)=>.ret (v::vs,ws)
  |none=>.none
 | .box ty cs::rs=>match qy rs,ok&&Nat.blt cs.length 64 with
  |some vs,true=>(unfL d 0 cs).bind fun(cs,ws)=>(lb d ty cs).bind fun(v,ws')=>.ret (v::vs,ws++ws')
  |_,_=>.none
 |rs=>match qy rs with
  |some vs=>.ret (vs,[])
  |none=>.none
def zB(d f:Nat)(vs:List AV):RE:=
 match J.fb f with
 |true=>(qv M vs).bind fun(Qa,hs,os)=>match oM (fstL (hs.flatMap hmB))&&oM (fstL os)&&Nat.blt d 2048 with
  |true=>.callW f Qa fun rs cs=>(iF hs cs).bind fun ws=>(aco (Nat.ble M.A d&& !memN d (fstL (hs.flatMap hmB))) d rs).bind fun(vs,ws2)=>.ret (acq vs,goneL os++ws++ws2)
  |false=>.none
 |false=>.none
def zC(d f dv gv lo:Nat):RE:=
 match J.fb f&&Nat.blt d 2048 with
 |true=>(obR dv gv).bind fun
  | .row e sz xs=>match Nat.beq sz 1 with
   |true=>.callW f [.one (.sl e 1 (xs.drop lo) none)] fun rs cs=>match rs,cs with
    | [.own e' sz' ys],[]=>.need (∀y∈ys,∀c∈y,∃x,c= .v x) (obN d (.row e' sz' ys) fun g ws=>.ret (.one (.rref d g ys.length),ws))
    |_,_=>.none
   |false=>.none
  |_=>.none
 |false=>.none
def wb(d f:Nat)(vs:List AV):RE:=match vs with
 | [.one (.vref dv gv lo _)]=>zC J d f dv gv lo
 |vs=>zB J M d f vs
def lenW(o:Oper)(t:Nat)(v:AV):RE:=match v with
 | .one (.rref _ _ n)=>match T t with
  |some i=>match i.kind with
   | .slice _ _ _=>.ret (.one (.v (.int .i64 (n:Int))),[])
   |_=>.none
  |none=>.none
 | .one (.mref d g)=>match T t with
  |some i=>match i.kind with
   | .map _ _=>(obR d g).bind fun
    | .map _ ks _=>.ret (.one (.v (.int .i64 (ks.length:Int))),[])
    |_=>.none
   |_=>.none
  |none=>.none
 |_=>it T J G o
def shE(op:BinOp)(x y:AV):Option RE:=match op,x,y with
 | .shl,.one (.v (.int k a)),.one (.v (.int _ b))=>some (.need (0≤b) (.ret (.one (.v (.int k (k.wrap (a*2 ^ min b.toNat k.bits)))),[])))
 | .shr,.one (.v (.int k a)),.one (.v (.int _ b))=>some (.need (0≤b) (.ret (.one (.v (.int k (a.fdiv (2 ^ min b.toNat k.bits)))),[])))
 | .or,.one (.v (.int k a)),.one (.v (.int k' b))=>match oA k k' with
  |true=>some (.ret (.one (.v (.int k (k.wrap (BitVec.ofInt k.bits a||| BitVec.ofInt k.bits b).toNat))),[]))
  |false=>none
 | .andNot,.one (.v (.int k a)),.one (.v (.int k' b))=>match oA k k' with
  |true=>some (.ret (.one (.v (.int k (k.wrap (BitVec.ofInt k.bits a&&& ~~~ BitVec.ofInt k.bits b).toNat))),[]))
  |false=>none
 |_,_,_=>none
def nlE(T:Tab)(op:BinOp)(t:Nat)(x y:AV):Option RE:=match op,y,(T t).map TI.kind with
 | .eql,.one (.v (.slice none 0 0)),some (.slice _ _ _)=>match x with
  | .one (.sl _ _ (_::_) _)=>some (.ret (.one (.v (.bool false)),[]))
  | .one (.sl _ _ [] _)=>some (.ret (.one .anyB,[]))
  | .one (.nil _ _)=>some (.ret (.one (.v (.bool true)),[]))
  | .one (.v (.slice none 0 0))=>some (.ret (.one (.v (.bool true)),[]))
  |_=>none
 |_,_,_=>none
def aaq(ls:List Loc):List Wr→Bool
 | []=>true
 |x::ws=>allB (fun l=> !l.eq x.loc) ls&&aaq ls ws
def agM(d0 d g:Nat)(ws:List Wr):Rd (List Wr):=(obR d g).bind fun
 | .mrowL z e sz ks yss i t tg=>match Nat.beq t d0 with
  |true=>(obR t tg).bind fun
   | .row e' sz' ys=>match Nat.beq e e'&&Nat.beq sz sz' with
    |true=>.need (yss[i]?=some ys) (.ret (ws++[obW t tg .gone,obW d g (.mrow z e sz ks yss)]))
    |false=>.none
   |_=>.none
  |false=>.none
 | .rowsL e2 sz2 e yss i t tg=>match Nat.beq t d0 with
  |true=>(obR t tg).bind fun
   | .row e' sz' ys=>match Nat.beq e2 e'&&Nat.beq sz2 sz' with
    |true=>.need (i<yss.length) (.ret (ws++[obW t tg .gone,obW d g (.rows e2 sz2 e (yss.set i ys))]))
    |false=>.none
   |_=>.none
  |false=>.none
 |_=>.none
def evW(o:Oper):RE:=
 match o.op with
 | .move x| .assign x=>mvE M G o x
 | .box _ x=>match xN o M.fb with
  |true=>(opd G x).bind fun v=>match v.cells?.bind oQ with
   |some cs=>.ret (.one (.ref cs 0),[])
   |none=>.none
  |false=>it T J G o
 | .alloc t=>match xN o M.bl with
  |true=>match o.dst,T t with
   |some d,some i=>match Nat.beq t 74,i.zero with
    |true,[.v (.pointer none),.nil 5 1]=>obN d (.bld true .empty) fun g ws=>.ret (.one (.iref d g),ws)
    |_,_=>.none
   |_,_=>.none
  |false=>it T J G o
 | .makeSlice t a b=>(opd G a).bind fun a=>(opd G b).bind fun b=>nX T M o t a b
 | .buildSlice t len parts=>match xN o M.mt with
  |true=>(opds G (parts.toList.map (·.2))).bind fun vs=>match T t,o.dst,Nat.beq len vs.length&&oT 0 (parts.toList.map (·.1)) with
   |some i,some d,true=>match i.kind with
    | .slice e n _=>match jC n vs,Nat.ble len 64&&Nat.ble n 64 with
     |some xs,true=>obN d (.row e n xs) fun g ws=>.ret (.one (.rref d g xs.length),ws)
     |_,_=>.none
    |_=>.none
   |_,_,_=>.none
  |false=>it T J G o
 | .makeMap t none=>match o.dst,T t with
  |some d,some i=>match i.kind with
   | .map kt el=>match keyZ T kt,memN d M.nest,(T el).map TI.kind with
    |some z,true,some (.slice e sz _)=>obN d (.mrow z e sz [] []) fun g ws=>.ret (.one (.mref d g),ws)
    |some z,false,_=>obN d (.map z [] []) fun g ws=>.ret (.one (.mref d g),ws)
    |_,_,_=>.none
   |_=>.none
  |_,_=>.none
 | .lookup t m k ok=>(opd G m).bind fun m=>(opd G k).bind fun k=>aax T M o t m k ok
 | .mapUpdate t m k x| .insert t m k x=>(opd G m).bind fun m=>(opd G k).bind fun k=>(opd G x).bind fun x=>match(T t).map TI.kind with
  |some (.map kt _)=>match keyZ T kt with
   |some z'=>updE z' m k x
   |none=>.none
  |_=>.none
 | .mapEntry t m k=>(opd G m).bind fun m=>(opd G k).bind fun k=>adW T t m k
 | .entryStore t m n x=>(opd G m).bind fun m=>(opd G n).bind fun n=>(opd G x).bind fun x=>match(T t).map TI.kind with
  |some (.map _ _)=>qK m n x
  |_=>.none
 | .range t x=>(opd G x).bind fun v=>match v,o.dst,(T t).map TI.kind with
  | .one (.mref d g),some t,some (.map _ _)=>(obR d g).bind fun
   | .map _ ks _=>match Nat.beq t d with
    |false=>obN t (.iter d g ks.length []) fun g' ws=>.ret (.one (.iref t g'),ws)
    |true=>.none
   |_=>.none
  |_,_,_=>.none
 | .entry x=>(opd G x).bind fun
  | .one (.iref d g)=>(obR d g).bind fun
   | .iter md mg n (i::_)=>(obR md mg).bind fun
    | .map z ks vs=>.need (ks.length=n) (.elemK ks i fun k=>.mval vs i fun mv=>match avK k,avOf mv with
     |some k,some v=>.ret (.tup [k,v],[])
     |_,_=>.none)
    |_=>.none
   |_=>.none
  |_=>.none
 | .load t a=>(opd G a).bind fun v=>agB T J M G o t v
 | .store t a x=>(opd G a).bind fun av=>(opd G x).bind fun xv=>abS T J G o t av xv
 | .nilCheck x=>(opd G x).bind fun v=>match v with
  | .one (.eref ..)=>.ret (v,[])
  |_=>it T J G o
 | .fieldAddr s x f=>(opd G x).bind fun v=>match v with
  | .one (.eref d g sz i off)=>match T s with
   |some ti=>match ti.kind with
    | .struct fs=>match fs[f]? with
     |some (o',_+1,_)=>.ret (.one (.eref d g sz i (off+o')),[])
     |_=>.none
    |_=>.none
   |none=>.none
  |_=>it T J G o
 | .indexAddr t x ix=>(opd G x).bind fun v=>(opd G ix).bind fun iv=>match v,iv with
  | .one (.rref d g n),.one (.v (.int _ i))=>match T t with
   |some ti=>match ti.kind with
    | .slice _ (sz+1) _=>.need (0≤i∧i<n) (.ret (.one (.eref d g (sz+1) i.toNat 0),[]))
    |_=>.none
   |none=>.none
  |_,_=>it T J G o
 | .slice t x lo hi mx=>(opd G x).bind fun v=>match v with
  | .one (.rref d g n)=>match lo,mx,T t with
   |none,none,some ti=>(optR G hi).bind fun h=>match ko (n:Int) h,ti.kind with
    |some h,.slice e sz _=>.need (0≤h∧h≤n) ((obR d g).bind fun
     | .row e' sz' xs=>match Nat.beq e e'&&Nat.beq sz sz' with
      |true=>obN d (.row e sz (xs.take h.toNat)) fun g' ws=>.ret (.one (.rref d g' h.toNat),ws)
      |false=>.none
     |_=>.none)
    |_,_=>.none
   |some l,none,some ti=>match hi with
    |none=>(opd G l).bind fun l=>match l,ti.kind with
     | .one (.v (.int .i64 l)),.slice _ 1 _=>(obR d g).bind fun
      | .row _ _ _=>.need (0≤l∧l<n) (.ret (.one (.vref d g l.toNat (n-l.toNat)),[]))
      |_=>.none
     |_,_=>.none
    |some _=>.none
   |_,_,_=>.none
  |_=>it T J G o
 | .binOp op t x y _=>(opd G x).bind fun a=>(opd G y).bind fun b=>match nlE T op t a b with
  |some r=>r
  |none=>match shE op a b with
   |some r=>r
   |none=>it T J G o
 | .unOp .neg _ x=>(opd G x).bind fun
  | .one (.v (.int k n))=>.ret (.one (.v (.int k (k.wrap (0-n)))),[])
  |_=>.none
 | .call c=>match c.callee with
  | .builtin .len=>match c.args.toList,c.argTypes.toList with
   | [x],[t]=>(opd G x).bind fun v=>lenW T J G o t v
   |_,_=>.none
  | .builtin .append=>match c.args.toList,c.argTypes.toList with
   | [x,y],[t,t']=>match Nat.beq t t' with
    |true=>(opd G x).bind fun s=>(opd G y).bind fun y=>wo T J M G o t s y
    |false=>.none
   |_,_=>.none
  | .value f=>(opds G c.args.toList).bind fun vs=>(opd G f).bind fun
   | .one (.clo g caps)=>wb J M (o.dst.getD 1023) g (vs++caps.map .one)
   |_=>.none
  |_=>it T J G o
 |_=>it T J G o
def sM(o:Oper):Rd (List Wr):=(evW T J M G o).bind fun(v,ws)=>match o.dst with
 |some d=>match M.bk.find? (fun x=>Nat.beq x.1 d) with
  |some (_,d0,dm)=>match aaq [.tmp (OB+d0),.perm d0,.tmp (OB+dm),.perm dm] ws with
   |true=>.perm dm fun
    |some ⟨g,_,_,_⟩=>(agM d0 dm g ws).bind fun ws'=>.ret (ws'++[.tmp d v])
    |none=>.none
   |false=>.none
  |none=>.ret (ws++[.tmp d v])
 |none=>.ret ws
def evWO(ops:Array Oper)(o:Oper):Rd (List Wr):=
 match o.guard with
 |none=>sM T J M G o
 |some (g,want)=>match(ops[g]?).bind (·.dst) with
  |some t=>.tmp t fun
   | .one (.v (.bool b))=>match want with
    |true=>.ite b (sM T J M G o) (.ret (dstW o (.tup [])))
    |false=>.ite b (.ret (dstW o (.tup []))) (sM T J M G o)
   | .tup _=>.ret (dstW o (.tup []))
   |_=>.none
  |none=>.none
end
def ObOk(κ:Con)(H:Fz)(w:World)(u:Value):Ob→List Nat→Prop
 | .row e sz xs,bs=>RowO H w u e sz xs bs
 | .rows e2 sz2 e yss,bs=>nO H w u e2 sz2 e yss none bs
 | .rowsL e2 sz2 e yss i d g,bs=>nO H w u e2 sz2 e yss (some (i,κ.row d g)) bs∧g<κ.nr d
 | .map z ks vs,bs=>MapO H w u z ks vs bs
 | .mrow z e sz ks yss,bs=>nP H w u z e sz ks yss none bs
 | .mrowL z e sz ks yss i d g,bs=>nP H w u z e sz ks yss (some (i,κ.row d g)) bs∧g<κ.nr d
 | .iter md mg n seen,bs=>mg<κ.nr md∧∃r m,u= .pointer (some ⟨r,0,none⟩)∧bs=[r]∧w.heap[r]?=some (.mapIter (some m) n seen.reverse.toArray n)∧κ.row md mg= .map (some m)
 | .gone,bs=>bs=[]
 | .uf n p,bs=>UfO H w u n p bs
 | .bld l s,bs=>BldO H w u l s bs
section
variable{κ κ':Con}{H H':Fz}{w w':World}
abbrev qS(H:Fz)(w:World)(H':Fz)(w':World)(bs:List Nat):Prop:=∀k∈bs,w'.heap[k]?=w.heap[k]? ∧H' k=H k
theorem RowO.kept{u:Value}{e sz:Nat}{xs:List (List AC)}{bs:List Nat}(h:RowO H w u e sz xs bs)(hk:qS H w H' w' bs)(hH:Fz.le H H'):RowO H' w' u e sz xs bs:=by
 obtain⟨h0,h⟩:=h;refine⟨h0,h.imp id ?_⟩;rintro⟨b,cap,cur,h1,h2,h3,h4,h5,h6,h7,rfl⟩;obtain⟨k1,k2⟩:=hk b (ax.2 rfl);exact⟨b,cap,cur,h1,by rw[k1];exact h2,h3,h4,h5,fun i=>by rw[k2];exact h6 i,h7.mono (Con.le_refl _) hH,rfl⟩
theorem ej.imp{L:Option (Nat×Value)}{j:Nat}{u:Value}{b:List Nat}{R R':Prop}(hR:R→R')(h:ej L j u b R):ej L j u b R':=by
 unfold ej at h ⊢;split at h
 ·split at h
  ·rename_i hi;rw[if_pos hi];exact h
  ·rename_i hi;rw[if_neg hi];exact hR h
 ·exact hR h
theorem gc{bss:List (List Nat)}{j k:Nat}{b:List Nat}(hj:bss[j]?=some b)(hk:k∈b):k∈bss.flatten:=dM.2 ⟨b,bi hj,hk⟩
theorem nO.kept{u:Value}{e2 sz2 e:Nat}{yss:List (List (List AC))}{L:Option (Nat×Value)}{bs:List Nat}(h:nO H w u e2 sz2 e yss L bs)(hk:qS H w H' w' bs)(hH:Fz.le H H'):nO H' w' u e2 sz2 e yss L bs:=by
 refine h.imp id ?_;rintro⟨b,cap,cur,bss,h1,h2,h3,h4,h5,h6,h7,h8,rfl⟩;obtain⟨k1,k2⟩:=hk b (aI ..)
 exact⟨b,cap,cur,bss,h1,by rw[k1];exact h2,h3,h4,h5,fun i=>by rw[k2];exact h6 i,h7,fun j v ys bj a1 a2 a3=>(h8 j v ys bj a1 a2 a3).imp fun q=>q.kept (fun k hkk=>hk k (aD _ (gc a3 hkk))) hH,rfl⟩
theorem MVr.mono{v:MV}{u:Value}(h:MVr H v u)(hH:Fz.le H H'):MVr H' v u:=by
 obtain⟨g,cs⟩:=v;cases g with
 |false=>obtain⟨c,rfl,h⟩:=h;exact⟨c,rfl,h.mono (Con.le_refl _) hH⟩
 |true=>obtain⟨us,rfl,h⟩:=h;exact⟨us,rfl,h.mono (Con.le_refl _) hH⟩
theorem MapO.kept{u z:Value}{ks:List Value}{vs:List MV}{bs:List Nat}(h:MapO H w u z ks vs bs)(hk:qS H w H' w' bs)(hH:Fz.le H H'):MapO H' w' u z ks vs bs:=by
 obtain⟨r,es,h1,rfl,hz,h2,h3,h4,h5⟩:=h;obtain⟨k1,-⟩:=hk r (ax.2 rfl);exact⟨r,es,h1,rfl,hz,by rw[k1];exact h2,h3,h4,fun i en k v a1 a2 a3=>let⟨q1,q2,q3⟩:=h5 i en k v a1 a2 a3;⟨q1,q2,q3.mono hH⟩⟩
theorem nP.kept{u z:Value}{e sz:Nat}{ks:List Value}{yss:List (List (List AC))}{L:Option (Nat×Value)}{bs:List Nat}(h:nP H w u z e sz ks yss L bs)(hk:qS H w H' w' bs)(hH:Fz.le H H'):nP H' w' u z e sz ks yss L bs:=by
 obtain⟨r,es,bss,h1,hz,h2,h3,h4,h5,h6,rfl⟩:=h;obtain⟨k1,-⟩:=hk r (aI ..)
 exact⟨r,es,bss,h1,hz,by rw[k1];exact h2,h3,h4,h5,fun i en k ys bj a1 a2 a3 a4=>let⟨q1,q2,q3⟩:=h6 i en k ys bj a1 a2 a3 a4;⟨q1,q2,q3.imp fun q=>q.kept (fun k hkk=>hk k (aD _ (gc a4 hkk))) hH⟩,rfl⟩
theorem BldO.kept{u:Value}{l:Bool}{s:ByteArray}{bs:List Nat}(h:BldO H w u l s bs)(hk:qS H w H' w' bs)(hH:Fz.le H H'):BldO H' w' u l s bs:=by
 obtain⟨k,h1,h2,h3,h⟩:=h;have hkb:k∈bs:=by
  rcases h with⟨-,rfl⟩|⟨-,p,v,bs',-,-,-,rfl⟩
  ·exact ax.2 rfl
  ·exact aI ..
 obtain⟨k1,k2⟩:=hk k hkb;refine⟨k,h1,?_,fun i=>by rw[k2];exact h3 i,?_⟩
 ·have:w'.heap[k]?=some (w.heap[k]'h2):=by rw[k1];exact aE h2
  exact(ay.1 this).1
 ·rcases h with h|⟨hl,p,v,bs',a1,a2,a3,rfl⟩
  ·exact .inl h
  ·exact .inr ⟨hl,p,v,bs',by rw[k1];exact a1,a2,a3.kept (fun x hx=>hk x (aD _ hx)) hH,rfl⟩
theorem ObOk.kept{u:Value}{c:Ob}{bs:List Nat}(h:ObOk κ H w u c bs)(hκ:Con.le κ κ')(hk:qS H w H' w' bs)(hH:Fz.le H H'):ObOk κ' H' w' u c bs:=by
 cases c with
 |row=>exact RowO.kept h hk hH
 |rows=>exact nO.kept h hk hH
 |rowsL e2 sz2 e yss i d g=>
  obtain⟨h1,h2⟩:=h;refine⟨?_,bd h2 (hκ.nr d)⟩;rw[hκ.row d g h2];exact h1.kept hk hH
 |map=>exact MapO.kept h hk hH
 |mrow=>exact nP.kept h hk hH
 |mrowL z e sz ks yss i d g=>
  obtain⟨h1,h2⟩:=h;refine⟨?_,bd h2 (hκ.nr d)⟩;rw[hκ.row d g h2];exact h1.kept hk hH
 |iter md mg n seen=>
  obtain⟨h0,r,m,h1,rfl,h3,h4⟩:=h;obtain⟨k1,-⟩:=hk r (ax.2 rfl);exact⟨bd h0 (hκ.nr md),r,m,h1,rfl,by rw[k1];exact h3,by rw[hκ.row md mg h0];exact h4⟩
 |gone=>exact h
 |uf n p=>obtain⟨l,h1,h2,h3⟩:=h;exact⟨l,h1,h2,h3.kept hk hH⟩
 |bld l s=>exact BldO.kept h hk hH
end
structure ObsOk(X:Ctx)(κ:Con)(H:Fz)(s:St)(w:World)(ft:Nat→List Nat):Prop where
 lt:∀d g c,find (OB+d) s.tmps=some (.ob d g c)→g<κ.nr d
 ok:∀d g c,find (OB+d) s.tmps=some (.ob d g c)→κ.nr d=g+1→ObOk κ H w (κ.row d g) c (ft d)
 nodup:∀d,(ft d).Nodup
 blk:∀d,∀k∈ft d,k<w.heap.size∧(∀i,H k i=none)∧¬X.Pr k∧(∀d' b,find d' s.boxes=some b→κ.blk d' b.gen≠k)∧∀d' p,find d' s.perms=some p→p.live=true→(κ.row d' p.gen).ownBlock≠some k
 apart:∀d d',d≠d'→∀k∈ft d,k∉ft d'
structure WRel(X:Ctx)(κ:Con)(H:Fz)(s:St)(a:Act)(w:World):Prop where
 rel:Rel X κ H s a w
 obs:∃ft,ObsOk X κ H s w ft
 n:X.N≤2048∧∀i,i∈X.np→a.tmps.getD i undef=X.pv i
section
variable{P:Program}{T:Tab}{J:Kn}{M:Md}{G:Nat→Option (List AC)}{X:Ctx}{κ:Con}{H:Fz}{s:St}{a:Act}{w:World}
theorem ObsOk.upd{ft:Nat→List Nat}(hr:Rel X κ H s a w)(h:ObsOk X κ H s w ft)(D:List Nat){κ':Con}{H':Fz}{s':St}{w':World}{ft':Nat→List Nat}
 (hle:Con.le κ κ') (hH:Fz.le H H') (hkeep:∀x,x∉D→qS H w H' w' (ft x)) (hgrow:w.heap.size≤w'.heap.size)
 (htm:∀x,x∉D→find (OB+x) s'.tmps=find (OB+x) s.tmps)
 (hbx:∀d b,find d s'.boxes=some b→(∃b0,find d s.boxes=some b0∧κ'.blk d b.gen=κ.blk d b0.gen)∨∀x,κ'.blk d b.gen∉ft' x)
 (hpm:∀d p,find d s'.perms=some p→p.live=true→(∃p0,find d s.perms=some p0∧p0.live=true∧κ'.row d p.gen=κ.row d p0.gen)∨∀x,∀k∈ft' x,(κ'.row d p.gen).ownBlock≠some k)
 (hft:∀x,x∉D→ft' x=ft x)
 (hD:∀x∈D,(ft' x).Nodup∧∀k∈ft' x,k<w'.heap.size∧(∀i,H' k i=none)∧((∃y∈D,k∈ft y)∨w.heap.size≤k))
 (hDD:∀x∈D,∀y∈D,x≠y→∀k∈ft' x,k∉ft' y)
 (hlt:∀x∈D,∀g c,find (OB+x) s'.tmps=some (.ob x g c)→g<κ'.nr x)
 (hok:∀x∈D,∀g c,find (OB+x) s'.tmps=some (.ob x g c)→κ'.nr x=g+1→ObOk κ' H' w' (κ'.row x g) c (ft' x)):ObsOk X κ' H' s' w' ft' where
 lt:=fun d g c e=>by
  by_cases hd:d∈D
  ·exact hlt d hd g c e
  ·exact bd (h.lt d g c (htm d hd▸e)) (hle.nr d)
 ok:=fun d g c e hn=>by
  by_cases hd:d∈D
  ·exact hok d hd g c e hn
  ·have e':=htm d hd▸e;have h1:=h.lt d g c e';have h2:=hle.nr d;rw[hft d hd,hle.row d g h1];exact(h.ok d g c e' (by omega)).kept hle (hkeep d hd) hH
 nodup:=fun d=>by
  by_cases hd:d∈D
  ·exact(hD d hd).1
  ·rw[hft d hd];exact h.nodup d
 blk:=fun d k hk=>by
  have old:∀y,k∈ft y→¬X.Pr k∧(∀d' b,find d' s'.boxes=some b→κ'.blk d' b.gen≠k)∧∀d' p,find d' s'.perms=some p→p.live=true→(κ'.row d' p.gen).ownBlock≠some k:=by
   intro y hy;obtain⟨b1,b2,b3,b4,b5⟩:=h.blk y k hy;refine⟨b3,fun d' b e hq=>?_,fun d' p e hl hq=>?_⟩
   ·rcases hbx d' b e with⟨b0,e0,hb⟩|hn
    ·exact b4 d' b0 e0 (hb▸hq)
    ·exact hn d (hq▸hk)
   ·rcases hpm d' p e hl with⟨p0,e0,hl0,hb⟩|hn
    ·exact b5 d' p0 e0 hl0 (hb▸hq)
    ·exact hn d k hk hq
  by_cases hd:d∈D
  ·obtain⟨k1,k2,k3⟩:=(hD d hd).2 k hk;refine⟨k1,k2,?_⟩;rcases k3 with⟨y,-,hy⟩|hge
   ·exact old y hy
   ·refine⟨fun hp=>?_,fun d' b e hq=>?_,fun d' p e hl hq=>?_⟩
    ·have:=X.lt k hp;have:=hr.grown;omega
    ·rcases hbx d' b e with⟨b0,e0,hb⟩|hn
     ·have:=hr.box_lt e0;rw[←hb,hq]at this;omega
     ·exact hn d (hq▸hk)
    ·rcases hpm d' p e hl with⟨p0,e0,hl0,hb⟩|hn
     ·have:=((hr.perm d' p0 e0).2 hl0).lt (hb▸hq);omega
     ·exact hn d k hk hq
  ·rw[hft d hd]at hk;obtain⟨b1,b2,b3,b4,b5⟩:=h.blk d k hk;refine⟨bd b1 hgrow,fun i=>by rw[(hkeep d hd k hk).2];exact b2 i,?_⟩;have:=old d hk;exact this
 apart:=fun d d' hne k hk hk'=>by
  by_cases hd:d∈D<;>by_cases hd':d'∈D
  ·exact hDD d hd d' hd' hne k hk hk'
  ·rw[hft d' hd']at hk';rcases((hD d hd).2 k hk).2.2 with⟨y,hy,hky⟩|hge
   ·exact h.apart y d' (fun e=>hd' (e▸hy)) k hky hk'
   ·have:=(h.blk d' k hk').1;omega
  ·rw[hft d hd]at hk;rcases((hD d' hd').2 k hk').2.2 with⟨y,hy,hky⟩|hge
   ·exact h.apart y d (fun e=>hd (e▸hy)) k hky hk
   ·have:=(h.blk d k hk).1;omega
  ·rw[hft d hd]at hk;rw[hft d' hd']at hk';exact h.apart d d' hne k hk hk'
def cm(P:Program)(X:Ctx)(κ:Con)(H:Fz)(s:St)(a:Act)(o:Oper)(v:AV)(ws:List Wr)(w:World):Prop:=
 ∀(K:Act→World→Prop) (Q:Exit→Act→World→Prop),
  (∀κ' H' w' u,WRel X κ' H' (s.writes ws) a w'→AVr κ' H' v u→K (a.put o.dst u) w')→o.wp P a w K Q
theorem mc:∀{ws:List Wr} {s:St},allB yS ws=true→(s.writes ws).tmps=s.tmps
 | [],s,_=>rfl
 |x::ws,s,h=>by
  simp only[allB,aw]at h;show((s.write x).writes ws).tmps=s.tmps;rw[mc h.2];cases x<;>first|rfl|cases h.1
theorem lift(h:WRel X κ H s a w){o:Oper}{v:AV}{ws:List Wr}(hb:∀X':Ctx,X'.N=X.N→X'.A=X.A→Rel X' κ H s a w→eM P X' κ H s a o v ws w)(hws:allB yS ws=true):cm P X κ H s a o v ws w:=by
 obtain⟨hrel,⟨ft,hft⟩,hN⟩:=h
 let X':Ctx:={ W0:=w,H0:=H,Pr:=fun b=>X.Pr b∨∃d,b∈ft d,N:=X.N,A:=X.A,ab:=X.ab,ds:=X.ds,lt:=fun b hb=>hb.elim (fun hp=>bd (X.lt b hp) hrel.grown) fun⟨d,hd⟩=>(hft.blk d b hd).1}
 have hr':Rel X' κ H s a w:={ hrel with
  hk:=fun _ _=>rfl
  h0:=Fz.le_refl H
  pb:=fun d b e hp=>hp.elim (hrel.pb d b e) fun⟨d',hd'⟩=>(hft.blk d' _ hd').2.2.2.1 d b e rfl
  pr:=fun d p k e hl hk hp=>hp.elim (hrel.pr d p k e hl hk) fun⟨d',hd'⟩=>(hft.blk d' _ hd').2.2.2.2 d p e hl hk
  keep:=fun _ _=>rfl
  grown:=au _
  os:=rfl
  tape:=rfl
  output:=rfl}
 intro K Q hn;refine hb X' rfl rfl hr' K Q fun κ' H' w' u hle hr hv=>hn κ' H' w' u ⟨?_,⟨ft,?_⟩,hN⟩ hv
 ·exact{ hr with
   hk:=fun b hp=>(hr.hk b (.inl hp)).trans (hrel.hk b hp)
   h0:=Fz.le_trans hrel.h0 hr.h0
   pb:=fun d b e hp=>hr.pb d b e (.inl hp)
   pr:=fun d p k e hl hk hp=>hr.pr d p k e hl hk (.inl hp)
   keep:=fun b hp=>(hr.keep b (.inl hp)).trans (hrel.keep b hp)
   grown:=dR hrel.grown hr.grown
   os:=hr.os.trans hrel.os
   tape:=hr.tape.trans hrel.tape
   output:=hr.output.trans hrel.output}
 ·have hkb:∀d,qS H w H' w' (ft d):=fun d k hk=>⟨hr.keep k (.inr ⟨d,hk⟩),hr.hk k (.inr ⟨d,hk⟩)⟩;exact{
   lt:=fun d g c e=>bd (hft.lt d g c (by rwa [mc hws]at e)) (hle.nr d)
   ok:=fun d g c e hg=>by
    rw[mc hws]at e;have h1:=hft.lt d g c e;have h2:=hle.nr d;rw[hle.row d g h1];exact(hft.ok d g c e (by omega)).kept hle (hkb d) hr.h0
   nodup:=hft.nodup
   blk:=fun d k hk=>by
    obtain⟨b1,b2,b3,b4,b5⟩:=hft.blk d k hk;exact⟨bd b1 hr.grown,fun i=>by rw[(hkb d k hk).2];exact b2 i,b3,fun d' b e hq=>hr.pb d' b e (.inr ⟨d,hq▸hk⟩),fun d' p e hl hq=>hr.pr d' p k e hl hq (.inr ⟨d,hk⟩)⟩
   apart:=hft.apart}
theorem cm.value{o:Oper}{v:AV}{u:Value}(h:WRel X κ H s a w)(hr:(execOp a.eval o).run P w= .ok (.value u) w)(hv:AVr κ H v u):cm P X κ H s a o v [] w:=by
 intro K Q hn;unfold Oper.wp;rw[hr,bN];exact hn κ H w u h hv
theorem dZ(E:Env P T J)(hG:bK G H)(h:WRel X κ H s a w){o:Oper}(hok:okOp X.N X.A o=true){v:AV}{ws:List Wr}(hr:Runs P G s (it T J G o) (v,ws)):cm P X κ H s a o v ws w:=by
 obtain⟨⟨v',ws'⟩,h1,h2⟩:=az hr;simp only at h2;split at h2
 ·rename_i hws;simp only[Runs,ai]at h2;obtain⟨rfl,rfl⟩:=h2;exact lift h (fun X' hN hA hr'=>aak E hG hr' (by rw[hN,hA];exact hok) h1) hws
 ·exact h2.elim
theorem aiO(h:Rel X κ H s a w){d g:Nat}{c:Ob}(hr:Runs P G s (obR d g) c):find (OB+d) s.tmps=some (.ob d g c)∧κ.nr d=g+1:=by
 unfold obR at hr;simp only[Runs]at hr;split at hr
 ·rename_i pg e sz l hp;split at hr
  ·rename_i hg;have hg:=aP hg;obtain⟨v,hv,hr⟩:=hr;simp only at hr;split at hr
   ·rename_i d' g' c';split at hr
    ·rename_i hb;simp only[aw]at hb;have h1:=aP hb.1;have h2:=aP hb.2;simp only[Runs]at hr;subst h1;subst h2;subst hr;exact⟨hv,by rw[(h.perm _ _ hp).1];exact congrArg (· +1) hg⟩
    ·exact hr.elim
   ·exact hr.elim
  ·exact hr.elim
 ·exact hr.elim
theorem aiN{ft:Nat→List Nat}(h:Rel X κ H s a w)(hft:ObsOk X κ H s w ft){d g:Nat}{c:Ob}(hr:Runs P G s (obR d g) c):ObOk κ H w (κ.row d g) c (ft d)∧κ.nr d=g+1∧find (OB+d) s.tmps=some (.ob d g c):=by
 obtain⟨h1,h2⟩:=aiO h hr;exact⟨hft.ok d g c h1 h2,h2,h1⟩
theorem Rel.putOb(h:Rel X κ H s a w)(d g:Nat)(c:Ob)(x:Nat):Rel X κ H (s.write (.tmp (OB+x) (.ob d g c))) a w:=
 {
  h with
  size:=h.size
  defers:=h.defers
  tmps:=fun t v e=>by
   simp only[St.write,cW]at e;split at e
   ·cases e;exact .ob _ _ _ _
   ·exact h.tmps t v e}
theorem Rel.addDead(h:Rel X κ H s a w)(d:Nat)(u:Value)(e sz:Nat):Rel X (κ.addRow d u) H (s.write (.perm d ⟨κ.nr d,e,sz,false⟩)) a w:=by
 have hle:=κ.le_addRow d u;have hnew:(κ.addRow d u).row d (κ.nr d)=u:=by simp[Con.addRow]
 have hnr:(κ.addRow d u).nr d=κ.nr d+1:=by simp[Con.addRow]
 have hnr':∀d',d'≠d→(κ.addRow d u).nr d'=κ.nr d':=fun d' hd=>by simp[Con.addRow,hd]
 have old:∀d' p,find d' s.perms=some p→(κ.addRow d u).row d' p.gen=κ.row d' p.gen:=fun d' p e=>hle.row d' p.gen (by have:=(h.perm d' p e).1;omega);have cases':∀{d' p},find d' (putB d ⟨κ.nr d,e,sz,false⟩ s.perms)=some p→(d'=d∧p=⟨κ.nr d,e,sz,false⟩)∨(d'≠d∧find d' s.perms=some p):=by
  intro d' p e;rw[cD]at e;split at e
  ·rename_i hd;exact .inl ⟨hd.symm,(cg e).symm⟩
  ·rename_i hd;exact .inr ⟨fun e'=>hd e'.symm,e⟩
 refine⟨h.size,fun t v e=>(h.tmps t v e).mono hle (Fz.le_refl H),h.defers,h.fz,h.hk,h.h0,?_,h.nobox,h.args,?_,?_,h.bb,?_,?_,h.pb,?_,h.keep,h.grown,h.os,h.tape,h.output⟩
 ·intro d' b e;obtain⟨k1,k2⟩:=h.box d' b e;exact⟨k1,k2.kept rfl rfl hle (Fz.le_refl H)⟩
 ·intro d' p e;rcases cases' e with⟨rfl,rfl⟩|⟨hd,e⟩
  ·exact⟨hnr,fun hl=>by cases hl⟩
  ·obtain⟨k1,k2⟩:=h.perm d' p e;refine⟨by rw[hnr' d' hd];exact k1,?_⟩;rw[old d' p e];exact k2
 ·intro d' e;simp only[St.write]at e;rw[cD]at e;split at e
  ·cases e
  ·rename_i hd;rw[hnr' d' (fun e'=>hd e'.symm)];exact h.noperm d' e
 ·intro d1 d2 p1 p2 k e1 e2 l1 l2 hq1 hq2;rcases cases' e1 with⟨rfl,rfl⟩|⟨hd1,f1⟩
  ·cases l1
  ·rcases cases' e2 with⟨rfl,rfl⟩|⟨hd2,f2⟩
   ·cases l2
   ·rw[old d1 p1 f1]at hq1;rw[old d2 p2 f2]at hq2;exact h.rr d1 d2 p1 p2 k f1 f2 l1 l2 hq1 hq2
 ·intro d1 d2 b p e1 e2 l;rcases cases' e2 with⟨rfl,rfl⟩|⟨hd2,e2⟩
  ·cases l
  ·rw[old d2 p e2];exact h.br d1 d2 b p e1 e2 l
 ·intro d' p k e l hq;rcases cases' e with⟨rfl,rfl⟩|⟨hd,e⟩
  ·cases l
  ·rw[old d' p e]at hq;exact h.pr d' p k e l hq
end
structure WRf(X:Ctx)(κ:Con)(H:Fz)(s:St)(a:Act)(w:World)(ft:Nat→List Nat):Prop where
 rel:Rel X κ H s a w
 obs:ObsOk X κ H s w ft
 n:X.N≤2048∧∀i,i∈X.np→a.tmps.getD i undef=X.pv i
theorem WRf.wrel{X:Ctx}{κ:Con}{H:Fz}{s:St}{a:Act}{w:World}{ft:Nat→List Nat}(h:WRf X κ H s a w ft):WRel X κ H s a w:=⟨h.rel,⟨ft,h.obs⟩,h.n⟩
theorem WRel.f{X:Ctx}{κ:Con}{H:Fz}{s:St}{a:Act}{w:World}(h:WRel X κ H s a w):∃ft,WRf X κ H s a w ft:=let⟨ft,hft⟩:=h.obs;⟨ft,h.rel,hft,h.n⟩
def setF(ft:Nat→List Nat)(d:Nat)(bs:List Nat):Nat→List Nat:=fun x=>if x=d then bs else ft x
theorem cQ(ft:Nat→List Nat)(d:Nat)(bs:List Nat):setF ft d bs d=bs:=by simp[setF]
theorem dy(ft:Nat→List Nat){d x:Nat}(bs:List Nat)(h:x≠d):setF ft d bs x=ft x:=by simp[setF,h]
structure Free(X:Ctx)(κ:Con)(H:Fz)(s:St)(w:World)(ft:Nat→List Nat)(k:Nat):Prop where
 lt:k<w.heap.size
 fz:∀i,H k i=none
 pr:¬X.Pr k
 box:∀d b,find d s.boxes=some b→κ.blk d b.gen≠k
 tail:∀d p,find d s.perms=some p→p.live=true→(κ.row d p.gen).ownBlock≠some k
 ob:∀x,k∉ft x
section
variable{P:Program}{T:Tab}{J:Kn}{M:Md}{G:Nat→Option (List AC)}{X:Ctx}{κ:Con}{H:Fz}{s:St}{a:Act}{w:World}{ft:Nat→List Nat}
theorem WRf.congr{s':St}(h:WRf X κ H s a w ft)(ht:∀t,find t s'.tmps=find t s.tmps)(hb:∀d,find d s'.boxes=find d s.boxes)(hp:∀d,find d s'.perms=find d s.perms):WRf X κ H s' a w ft where
 rel:=h.rel.congr ht hb hp
 obs:={
  lt:=fun d g c e=>h.obs.lt d g c (ht _▸e),ok:=fun d g c e=>h.obs.ok d g c (ht _▸e),nodup:=h.obs.nodup,apart:=h.obs.apart
  blk:=fun d k hk=>let⟨b1,b2,b3,b4,b5⟩:=h.obs.blk d k hk;⟨b1,b2,b3,fun d' b e=>b4 d' b (hb d'▸e),fun d' p e=>b5 d' p (hp d'▸e)⟩}
 n:=h.n
theorem WRf.at_{d g:Nat}{c:Ob}(h:WRf X κ H s a w ft)(hr:Runs P G s (obR d g) c):ObOk κ H w (κ.row d g) c (ft d)∧κ.nr d=g+1∧find (OB+d) s.tmps=some (.ob d g c):=aiN h.rel h.obs hr
theorem gE(d g:Nat)(c:Ob)(s:St):find (OB+d) (s.write (obW d g c)).tmps=some (.ob d g c):=mD _ _ _
theorem lN{d x g:Nat}(c:Ob)(s:St)(h:x≠d):find (OB+x) (s.write (obW d g c)).tmps=find (OB+x) s.tmps:=bV (by omega) _ _
theorem WRf.gone(h:WRf X κ H s a w ft){d g:Nat}(hg:g<κ.nr d):WRf X κ H (s.write (obW d g .gone)) a w (setF ft d [])∧∀k∈ft d,Free X κ H (s.write (obW d g .gone)) w (setF ft d []) k:=by
 refine⟨⟨h.rel.putOb d g .gone d,?_,h.n⟩,fun k hk=>?_⟩
 ·refine h.obs.upd h.rel [d] (Con.le_refl κ) (Fz.le_refl H) (fun _ _ _ _=>⟨rfl,rfl⟩) (au _) (fun x hx=>lN _ _ (by simpa using hx)) (fun d b e=>.inl ⟨b,e,rfl⟩) (fun d p e hl=>.inl ⟨p,e,hl,rfl⟩) (fun x hx=>dy _ _ (by simpa using hx)) ?_ ?_ ?_ ?_
  ·intro x hx;obtain rfl:=ax.1 hx;rw[cQ];simp
  ·intro x hx y hy hne;obtain rfl:=ax.1 hx;obtain rfl:=ax.1 hy;exact absurd rfl hne
  ·intro x hx g' c e;obtain rfl:=ax.1 hx;rw[gE]at e;cases e;exact hg
  ·intro x hx g' c e _;obtain rfl:=ax.1 hx;rw[gE]at e;cases e;rw[cQ];rfl
 ·obtain⟨b1,b2,b3,b4,b5⟩:=h.obs.blk d k hk;exact⟨b1,b2,b3,b4,b5,fun x hx=>by
   by_cases hxd:x=d
   ·subst hxd;rw[cQ]at hx;cases hx
   ·rw[dy _ _ hxd]at hx;exact h.obs.apart d x (fun e=>hxd e.symm) k hk hx⟩
theorem WRf.step{g:Nat}{H':Fz}{w':World}(h:WRf X κ H s a w ft)(hs:Step H w g H' w')(hg:Free X κ H s w ft g∨w.heap.size≤g):WRf X κ H' s a w' ft:=by
 have hb:∀d b,find d s.boxes=some b→κ.blk d b.gen≠g:=fun d b e=>hg.elim (fun f=>f.box d b e) fun hge hq=>by have:=h.rel.box_lt e;omega
 have ht:∀d p,find d s.perms=some p→p.live=true→(κ.row d p.gen).ownBlock≠some g:=fun d p e hl=>hg.elim (fun f=>f.tail d p e hl) fun hge hq=>by have:=((h.rel.perm d p e).2 hl).lt hq;omega
 have hp:¬X.Pr g:=hg.elim (·.pr) fun hge hp=>by have:=X.lt g hp;have:=h.rel.grown;omega
 have ho:∀x,g∉ft x:=fun x hx=>hg.elim (fun f=>f.ob x hx) fun hge=>by have:=(h.obs.blk x g hx).1;omega
 refine⟨h.rel.step hs (Con.le_refl κ) (fun _=>rfl) (fun _=>rfl) hb ht hp,?_,h.n⟩
 exact h.obs.upd h.rel [] (Con.le_refl κ) hs.le (fun x _ k hk=>⟨hs.heap k (h.obs.blk x k hk).1 fun e=>ho x (e▸hk),hs.kept k fun e=>ho x (e▸hk)⟩) hs.grown (fun _ _=>rfl) (fun d b e=>.inl ⟨b,e,rfl⟩) (fun d p e hl=>.inl ⟨p,e,hl,rfl⟩) (fun _ _=>rfl) (fun x hx=>by cases hx) (fun x hx=>by cases hx) (fun x hx=>by cases hx) (fun x hx=>by cases hx)
theorem Free.step{g k:Nat}{H':Fz}{w':World}(h:Free X κ H s w ft k)(hs:Step H w g H' w')(hk:k≠g∨∀i,H' k i=none):Free X κ H' s w' ft k:=
 {h with
   lt:=bd h.lt hs.grown
   fz:=fun i=>by
    by_cases e:k=g
    ·rcases hk with hk|hk
     ·exact absurd e hk
     ·exact hk i
    ·rw[hs.kept k e];exact h.fz i}
theorem WRf.fresh{g:Nat}{H':Fz}{w':World}(h:WRf X κ H s a w ft)(hge:w.heap.size≤g)(hlt:g<w'.heap.size)(hn:∀i,H' g i=none):Free X κ H' s w' ft g where
 lt:=hlt
 fz:=hn
 pr:=fun hp=>by have:=X.lt g hp;have:=h.rel.grown;omega
 box:=fun d b e hq=>by have:=h.rel.box_lt e;omega
 tail:=fun d p e hl hq=>by have:=((h.rel.perm d p e).2 hl).lt hq;omega
 ob:=fun x hx=>by have:=(h.obs.blk x g hx).1;omega
theorem WRf.set0(h:WRf X κ H s a w ft){d g:Nat}{c:Ob}{bs:List Nat}(hn:κ.nr d=g+1)(hnd:bs.Nodup)(hf:∀k∈bs,Free X κ H s w ft k)(hc:ObOk κ H w (κ.row d g) c bs):WRf X κ H (s.write (obW d g c)) a w (setF ft d bs) where
 rel:=h.rel.putOb d g c d
 n:=h.n
 obs:={
  lt:=fun x g' c' e=>by
   by_cases hx:x=d
   ·subst hx;rw[gE]at e;cases e;omega
   ·rw[lN _ _ hx]at e;exact h.obs.lt x g' c' e
  ok:=fun x g' c' e hn'=>by
   by_cases hx:x=d
   ·subst hx;rw[gE]at e;cases e;rw[cQ];exact hc
   ·rw[lN _ _ hx]at e;rw[dy _ _ hx];exact h.obs.ok x g' c' e hn'
  nodup:=fun x=>by
   by_cases hx:x=d
   ·subst hx;rw[cQ];exact hnd
   ·rw[dy _ _ hx];exact h.obs.nodup x
  blk:=fun x k hk=>by
   by_cases hx:x=d
   ·subst hx;rw[cQ]at hk;have:=hf k hk;exact⟨this.lt,this.fz,this.pr,this.box,this.tail⟩
   ·rw[dy _ _ hx]at hk;exact h.obs.blk x k hk
  apart:=fun x y hne k hx hy=>by
   by_cases h1:x=d<;>by_cases h2:y=d
   ·exact hne (h1.trans h2.symm)
   ·subst h1;rw[cQ]at hx;rw[dy _ _ h2]at hy;exact(hf k hx).ob y hy
   ·subst h2;rw[cQ]at hy;rw[dy _ _ h1]at hx;exact(hf k hy).ob x hx
   ·rw[dy _ _ h1]at hx;rw[dy _ _ h2]at hy;exact h.obs.apart x y hne k hx hy}
theorem WRf.set(h:WRf X κ H s a w ft){d g:Nat}{c:Ob}{bs:List Nat}(hn:κ.nr d=g+1)(_:ft d=[])(hnd:bs.Nodup)(hf:∀k∈bs,Free X κ H s w ft k)(hc:ObOk κ H w (κ.row d g) c bs):WRf X κ H (s.write (obW d g c)) a w (setF ft d bs):=h.set0 hn hnd hf hc
theorem Free.setF{d g:Nat}{c:Ob}{bs:List Nat}{k:Nat}(h:Free X κ H s w ft k)(hk:k∉bs):Free X κ H (s.write (obW d g c)) w (V.setF ft d bs) k:=
 ⟨h.lt,h.fz,h.pr,h.box,h.tail,fun x hx=>by
  by_cases hxd:x=d
  ·subst hxd;rw[cQ]at hx;exact hk hx
  ·rw[dy _ _ hxd]at hx;exact h.ob x hx⟩
theorem WRf.new(h:WRf X κ H s a w ft)(d:Nat)(u:Value):WRf X (κ.addRow d u) H (s.write (.perm d ⟨κ.nr d,0,0,false⟩)) a w (setF ft d [])∧(κ.addRow d u).nr d=κ.nr d+1∧(κ.addRow d u).row d (κ.nr d)=u∧
 ∀k,Free X κ H s w ft k→Free X (κ.addRow d u) H (s.write (.perm d ⟨κ.nr d,0,0,false⟩)) w (setF ft d []) k:=by
 have hle:=κ.le_addRow d u;have hnew:(κ.addRow d u).row d (κ.nr d)=u:=by simp[Con.addRow]
 have hnr:(κ.addRow d u).nr d=κ.nr d+1:=by simp[Con.addRow]
 have hbx:∀d' b,find d' s.boxes=some b→(κ.addRow d u).blk d' b.gen=κ.blk d' b.gen:=fun _ _ _=>rfl;have hpm:∀d' p,find d' (s.write (.perm d ⟨κ.nr d,0,0,false⟩)).perms=some p→p.live=true→find d' s.perms=some p∧(κ.addRow d u).row d' p.gen=κ.row d' p.gen:=by
  intro d' p e hl;simp only[St.write,cD]at e;split at e
  ·cases e;cases hl
  ·exact⟨e,hle.row d' p.gen (by have:=(h.rel.perm d' p e).1;omega)⟩
 refine⟨⟨h.rel.addDead d u 0 0,?_,h.n⟩,hnr,hnew,fun k hk=>?_⟩
 ·refine h.obs.upd h.rel [d] hle (Fz.le_refl H) (fun _ _ _ _=>⟨rfl,rfl⟩) (au _) (fun x _=>rfl) (fun d' b e=>.inl ⟨b,e,rfl⟩) (fun d' p e hl=>.inl ⟨p,(hpm d' p e hl).1,hl,(hpm d' p e hl).2⟩) (fun x hx=>dy _ _ (by simpa using hx)) ?_ ?_ ?_ ?_
  ·intro x hx;obtain rfl:=ax.1 hx;rw[cQ];simp
  ·intro x hx y hy hne;obtain rfl:=ax.1 hx;obtain rfl:=ax.1 hy;exact absurd rfl hne
  ·intro x hx g' c e;obtain rfl:=ax.1 hx;have:=h.obs.lt x g' c e;omega
  ·intro x hx g' c e hn;obtain rfl:=ax.1 hx;have:=h.obs.lt x g' c e;omega
 ·exact⟨hk.lt,hk.fz,hk.pr,fun d' b e=>hk.box d' b e,fun d' p e hl=>by
   obtain⟨e1,e2⟩:=hpm d' p e hl;rw[e2];exact hk.tail d' p e1 hl,fun x hx=>by
   by_cases hxd:x=d
   ·subst hxd;rw[cQ]at hx;cases hx
   ·rw[dy _ _ hxd]at hx;exact hk.ob x hx⟩
theorem WRf.add(h:WRf X κ H s a w ft)(d:Nat)(u:Value){c:Ob}{bs:List Nat}(hnd:bs.Nodup)(hf:∀k∈bs,Free X κ H s w ft k)(hc:ObOk (κ.addRow d u) H w u c bs):
 WRf X (κ.addRow d u) H (s.writes [.perm d ⟨κ.nr d,0,0,false⟩,obW d (κ.nr d) c]) a w (setF (setF ft d []) d bs):=by
 obtain⟨h1,h2,h3,h4⟩:=h.new d u;exact h1.set h2 (cQ _ _ _) hnd (fun k hk=>h4 k (hf k hk)) (by rw[h3];exact hc)
theorem gK(h:Rel X κ H s a w){d:Nat}{c:Ob}{k:Nat→List Wr→RE}{x:AV×List Wr}(hr:Runs P G s (obN d c k) x):Runs P G s (k (κ.nr d) [.perm d ⟨κ.nr d,0,0,false⟩,obW d (κ.nr d) c]) x:=by
 unfold obN at hr;simp only[Runs]at hr;split at hr
 ·rename_i g e sz l hp;rw[(h.perm d _ hp).1];exact hr
 ·rename_i hp;rw[h.noperm d hp];exact hr
theorem ACr.newRref(κ:Con)(H:Fz)(d n:Nat){A:Option Addr}{cap:Nat}(hA:n=0∨∃b,A=some ⟨b,0,none⟩):ACr (κ.addRow d (.slice A n cap)) H (.rref d (κ.nr d) n) (.slice A n cap):=
 .rref d _ n A cap (by simp[Con.addRow]) (by simp[Con.addRow]) hA
end
section
variable{P:Program}{T:Tab}{J:Kn}{M:Md}{G:Nat→Option (List AC)}{X:Ctx}{κ:Con}{H:Fz}{s:St}{a:Act}{w:World}{ft:Nat→List Nat}
theorem oX(h:WRf X κ H s a w ft){u:Value}{e sz:Nat}{xs:List (List AC)}{bs:List Nat}(hrow:RowO H w u e sz xs bs)(hf:∀k∈bs,Free X κ H s w ft k):
 ∃H',WRf X κ H' s a w ft∧Fz.le H H'∧(∀k,k∉bs→H' k=H k)∧ACr Con.no H' (.sl e sz xs none) u:=by
 obtain⟨hsz,⟨rfl,rfl,rfl⟩|⟨b,cap,cur,rfl,h2,h3,h4,h5,h6,h7,rfl⟩⟩:=hrow
 ·exact⟨H,h,Fz.le_refl H,fun _ _=>rfl,.nil e sz none none 0 (ka.none _ _)⟩
 ·have hb:=hf b (ax.2 rfl);generalize hus:cur.toList.take (xs.length*sz)=us at h7;have hle:Fz.le H (H.more b 0 us):=Fz.le_more fun i _ _=>h6 i;have hs:Step H w b (H.more b 0 us) w:={
   le:=hle
   fz:=fun k i v hv=>by
    by_cases hk:k=b
    ·subst hk;simp only[Fz.more]at hv;split at hv
     ·rename_i hc;rw[fj,←hus,bM]at hv;split at hv
      ·rw[ii w _ i cur e (0,0) h2];simpa using hv
      ·cases hv
     ·rw[h6]at hv;cases hv
    ·rw[Fz.more_other H 0 us hk]at hv;exact h.rel.fz k i v hv
   heap:=fun _ _ _=>rfl
   kept:=fun k hk=>Fz.more_other H 0 us hk
   grown:=au _
   os:=rfl
   tape:=rfl
   output:=rfl}
  refine⟨_,h.step hs (.inl hb),hle,fun k hk=>Fz.more_other H 0 us (by simpa using hk),?_⟩;exact .sl e sz xs none b 0 cap us h3 hsz h7.1 (fun k u hk=>Fz.more_at H b 0 us k u hk) (fun k c u hc hu=>(h7.2 k c u hc hu).mono (Con.le_refl _) hle) (ka.none _ _)
theorem Free.frz{H':Fz}{bs:List Nat}{k:Nat}(h:Free X κ H s w ft k)(hH:∀k,k∉bs→H' k=H k)(hk:k∉bs):Free X κ H' s w ft k:={ h with fz:=fun i=>by rw[hH k hk];exact h.fz i}
theorem RowO.frz{H':Fz}{u:Value}{e sz:Nat}{xs:List (List AC)}{bs cs:List Nat}(h:RowO H w u e sz xs bs)(hle:Fz.le H H')(hH:∀k,k∉cs→H' k=H k)(hd:∀k∈bs,k∉cs):RowO H' w u e sz xs bs:=
 h.kept (fun k hk=>⟨rfl,hH k (hd k hk)⟩) hle
theorem xC{e sz:Nat}:∀(vs:List Value) (yss:List (List (List AC))) (bss:List (List Nat)) {H:Fz},WRf X κ H s a w ft→vs.length=yss.length→bss.length=yss.length→
 (∀(j:Nat) (v:Value) (ys:List (List AC)) (bj:List Nat),vs[j]?=some v→yss[j]?=some ys→bss[j]?=some bj→RowO H w v e sz ys bj)→bss.flatten.Nodup→(∀k∈bss.flatten,Free X κ H s w ft k)→
 ∃H',WRf X κ H' s a w ft∧Fz.le H H'∧(∀k,k∉bss.flatten→H' k=H k)∧Cs Con.no H' (yss.map fun ys=>.sl e sz ys none) vs
 |vs,[],bss,H,h,hl,hb,_,_,_=>by
  rw[aK hl];exact⟨H,h,Fz.le_refl H,fun _ _=>rfl,.nil⟩
 | [],_::_,_,_,_,hl,_,_,_,_=>by simp at hl
 |_::_,_::_,[],_,_,_,hb,_,_,_=>by simp at hb
 |v::vs,ys::yss,b::bss,H,h,hl,hb,hr,hn,hf=>by
  simp only[aO]at hn hf;obtain⟨n1,n2,n3⟩:=aU.1 hn;have hd:∀k∈bss.flatten,k∉b:=fun k hk hkb=>n3 k hkb k hk rfl;obtain⟨H1,g1,g2,g3,g4⟩:=oX h (hr 0 v ys b rfl rfl rfl) fun k hk=>hf k (aL _ hk)
  obtain⟨H2,k1,k2,k3,k4⟩:=xC vs yss bss g1 (by simpa using hl) (by simpa using hb) (fun j v ys bj a1 a2 a3=>(hr (j+1) v ys bj (by simpa using a1) (by simpa using a2) (by simpa using a3)).frz g2 g3 fun k hk=>hd k (gc a3 hk)) n2
   fun k hk=>(hf k (aQ _ hk)).frz g3 (hd k hk)
  exact⟨H2,k1,Fz.le_trans g2 k2,fun k hk=>by
   simp only[aO,aM,not_or]at hk;rw[k3 k hk.2,g3 k hk.1],.cons (g4.mono (Con.le_refl _) k2) k4⟩
theorem eU{d g n:Nat}{u:Value}(h:AVr κ H (.one (.rref d g n)) u):g<κ.nr d∧κ.row d g=u∧∃A cap,u= .slice A n cap∧(n=0∨∃b,A=some ⟨b,0,none⟩):=by
 cases h with|one _ _ h=>cases h with|rref _ _ _ A cap hg hu hA=>exact⟨hg,hu,A,cap,rfl,hA⟩
theorem io{d g:Nat}{u:Value}(h:AVr κ H (.one (.mref d g)) u):g<κ.nr d∧κ.row d g=u∧∃r,u= .map (some r):=by
 cases h with|one _ _ h=>cases h with|mref _ _ r hg hu=>exact⟨hg,hu,r,rfl⟩
theorem sq{d g sz i off:Nat}{u:Value}(h:AVr κ H (.one (.eref d g sz i off)) u):g<κ.nr d∧∃b n cap,κ.row d g= .slice (some ⟨b,0,none⟩) n cap∧i<n∧u= .pointer (some ⟨b,i*sz+off,none⟩):=by
 cases h with|one _ _ h=>cases h with|eref _ _ _ _ _ b n cap hg hu hi=>exact⟨hg,b,n,cap,hu,hi,rfl⟩
theorem agG{α β:Type}(f:α→β):∀l:List α,(l.map fun x=>[f x]).flatten=l.map f
 | []=>rfl
 |x::l=>by rw[bE,aO,agG f l];rfl
theorem vO(h:WRel X κ H s a w){v x:AV}{u:Value}{ws:List Wr}(hv:AVr κ H v u)(hr:Runs P G s (frzE v) (x,ws)):∃H',WRel X κ H' (s.writes ws) a w∧Fz.le H H'∧AVr κ H' x u:=by
 unfold frzE at hr;split at hr
 ·rename_i d g n;obtain⟨ft,h⟩:=h.f;obtain⟨c,hc,hr⟩:=az hr;obtain⟨hok,hn,-⟩:=h.at_ hc;obtain⟨hg,hu,-⟩:=eU hv;rw[hu]at hok;obtain⟨h1,hfree⟩:=h.gone (d:=d) (g:=g) hg;split at hr
  ·rename_i e sz xs;simp only[Runs,ai]at hr;obtain⟨rfl,rfl⟩:=hr;obtain⟨H',k1,k2,-,k4⟩:=oX h1 hok hfree;exact⟨H',k1.wrel,k2,.one _ _ (k4.mono (Con.no_le κ) (Fz.le_refl H'))⟩
  ·rename_i e2 sz2 e yss;simp only[Runs,ai]at hr;obtain⟨rfl,rfl⟩:=hr;rcases hok with⟨rfl,rfl,q⟩|⟨b,cap,cur,bss,rfl,q1,q2,q3,q4,q5,q6,q7,q8⟩
   ·exact⟨H,h1.wrel,Fz.le_refl H,.one _ _ (.nil e 1 none none 0 (ka.none _ _))⟩
   ·rw[q8]at hfree;have hnd:=h.obs.nodup d;rw[q8,bF]at hnd;obtain⟨H1,k1,k2,k3,k4⟩:=xC (e:=e2) (sz:=sz2) (cur.toList.take yss.length) yss bss h1 (by simp;omega) q6 (fun j v ys bj a1 a2 a3=>by
     rw[bM]at a1;split at a1
     ·exact q7 j v ys bj (by simpa using a1) a2 a3
     ·cases a1) hnd.2 fun k hk=>hfree k (aD _ hk)
    obtain⟨H2,m1,m2,-,m4⟩:=oX (u:=.slice (some ⟨b,0,none⟩) yss.length cap) (e:=e) (sz:=1) (xs:=yss.map fun ys=>[.sl e2 sz2 ys none]) (bs:=[b]) k1 ⟨by simp,.inr ⟨b,cap,cur,by simp,q1,by simpa using q2,q3,by simpa using q4,fun i=>by rw[k3 b hnd.1];exact q5 i,by
     rw[agG,cG,eF];exact k4,rfl⟩⟩ (fun k hk=>by
      obtain rfl:=ax.1 hk;exact(hfree k (aI ..)).frz k3 hnd.1)
    exact⟨H2,m1.wrel,Fz.le_trans k2 m2,.one _ _ (m4.mono (Con.no_le κ) (Fz.le_refl H2))⟩
  ·exact hr.elim
 ·rename_i x y z d g n;obtain⟨ft,h⟩:=h.f;obtain⟨c,hc,hr⟩:=az hr;obtain⟨hok,hn,-⟩:=h.at_ hc;cases hv with|agg _ us hcc=>
  obtain⟨hl,hcs⟩:=hcc;have hl:us.length=4:=hl;obtain⟨u3,hu3⟩:∃u3,us[3]?=some u3:=⟨_,ad (l:=us) (i:=3) (by omega)⟩;have h3:=hcs 3 _ u3 rfl hu3;obtain⟨hg,hu,-⟩:=eU (.one _ _ h3);rw[hu]at hok;obtain⟨h1,hfree⟩:=h.gone (d:=d) (g:=g) hg;split at hr
  ·rename_i e sz xs;simp only[Runs,ai]at hr;obtain⟨rfl,rfl⟩:=hr;obtain⟨H',k1,k2,-,k4⟩:=oX h1 hok hfree;refine⟨H',k1.wrel,k2,.agg _ us ⟨hl,fun j c u a1 a2=>?_⟩⟩
   match j with
   |0=>exact(hcs 0 c u a1 a2).mono (Con.le_refl κ) k2
   |1=>exact(hcs 1 c u a1 a2).mono (Con.le_refl κ) k2
   |2=>exact(hcs 2 c u a1 a2).mono (Con.le_refl κ) k2
   |3=>
    rw[hu3]at a2;cases a1;cases a2;exact k4.mono (Con.no_le κ) (Fz.le_refl H')
   |j+4=>simp at a1
  ·exact hr.elim
 ·rename_i d g n x y;obtain⟨ft,h⟩:=h.f;obtain⟨c,hc,hr⟩:=az hr;obtain⟨hok,hn,-⟩:=h.at_ hc;cases hv with|agg _ us hcc=>
  obtain⟨hl,hcs⟩:=hcc;have hl:us.length=3:=hl;obtain⟨u3,hu3⟩:∃u3,us[0]?=some u3:=⟨_,ad (l:=us) (i:=0) (by omega)⟩;have h3:=hcs 0 _ u3 rfl hu3;obtain⟨hg,hu,-⟩:=eU (.one _ _ h3);rw[hu]at hok;obtain⟨h1,hfree⟩:=h.gone (d:=d) (g:=g) hg;split at hr
  ·rename_i e sz xs;simp only[Runs,ai]at hr;obtain⟨rfl,rfl⟩:=hr;obtain⟨H',k1,k2,-,k4⟩:=oX h1 hok hfree;refine⟨H',k1.wrel,k2,.agg _ us ⟨hl,fun j c u a1 a2=>?_⟩⟩
   match j with
   |0=>
    rw[hu3]at a2;cases a1;cases a2;exact k4.mono (Con.no_le κ) (Fz.le_refl H')
   |1=>exact(hcs 1 c u a1 a2).mono (Con.le_refl κ) k2
   |2=>exact(hcs 2 c u a1 a2).mono (Con.le_refl κ) k2
   |j+3=>simp at a1
  ·exact hr.elim
 ·simp only[Runs,ai]at hr;obtain⟨rfl,rfl⟩:=hr;exact⟨H,h,Fz.le_refl H,hv⟩
theorem ahd{v:AV}{i:Nat}(h:WRel X κ H s a w)(hi:i<2048)(hv:AVr κ H v (a.tmps.getD i undef)):WRel X κ H (s.write (.tmp i v)) a w:=by
 obtain⟨ft,h⟩:=h.f;refine⟨{ h.rel with size:=h.rel.size,defers:=h.rel.defers,tmps:=fun t x e=>?_},⟨ft,?_⟩,h.n⟩
 ·simp only[St.write,cW]at e;split at e
  ·rename_i hi;cases e;subst hi;exact hv
  ·exact h.rel.tmps t x e
 ·refine h.obs.upd h.rel [] (Con.le_refl κ) (Fz.le_refl H) (fun _ _ _ _=>⟨rfl,rfl⟩) (au _) (fun x _=>?_) (fun d b e=>.inl ⟨b,e,rfl⟩) (fun d p e hl=>.inl ⟨p,e,hl,rfl⟩) (fun _ _=>rfl) (fun x hx=>by cases hx) (fun x hx=>by cases hx) (fun x hx=>by cases hx) (fun x hx=>by cases hx)
  exact bV (by unfold OB;omega) _ _
theorem agx(hG:bK G H)(h:WRel X κ H s a w){o:Oper}{x:Operand}(ho:o.op= .move x∨o.op= .assign x){v:AV}{ws:List Wr}(hr:Runs P G s (mvE M G o x) (v,ws)):cm P X κ H s a o v ws w:=by
 obtain⟨y,hy,hr⟩:=az hr;have hyv:=jr hG h.rel hy;have hrun:(execOp a.eval o).run P w= .ok (.value (a.eval x)) w:=by rcases ho with ho|ho<;>simp[execOp,ho]
 have plain:∀{v ws},Runs P G s (.ret (y,[]):RE) (v,ws)→cm P X κ H s a o v ws w:=by
  intro v ws hr;simp only[Runs,ai]at hr;obtain⟨rfl,rfl⟩:=hr;exact cm.value h hrun hyv
 split at hr
 ·split at hr
  ·rename_i k _ _;split at hr
   ·rename_i hkl;have hkl:k<2048:=by simpa [dp]using hkl
    obtain⟨⟨v1,ws1⟩,r1,hr⟩:=az hr;simp only[Runs,ai]at hr;obtain⟨rfl,rfl⟩:=hr;obtain⟨H',k1,k2,k3⟩:=vO h hyv r1;intro K Q hn;unfold Oper.wp;rw[hrun,bN];refine hn κ H' w _ ?_ k3;rw[bQ];exact ahd k1 hkl k3
   ·exact hr.elim
  ·obtain⟨H',k1,k2,k3⟩:=vO h hyv hr;intro K Q hn;unfold Oper.wp;rw[hrun,bN];exact hn κ H' w _ k1 k3
 ·split at hr
  ·rename_i d g n t hd;split at hr
   ·rename_i hm hne;obtain⟨c,hc,hr⟩:=az hr;obtain⟨ft,h⟩:=h.f;obtain⟨hok,hn1,-⟩:=h.at_ hc;obtain⟨hg,hu,A,cap,he,hA⟩:=eU hyv;rw[hu]at hok;have hdt:=eZ hne
    have key:∀(c:Ob),(∀κ',Con.le κ κ'→ObOk κ' H w (a.eval x) c (ft d))→∀{v ws},Runs P G s (obN t c fun g' ws=>.ret (.one (.rref t g' n),obW d g .gone::ws)) (v,ws)→cm P X κ H s a o v ws w:=by
     intro c hcok v ws hr;have hr:=gK h.rel hr;simp only[Runs,ai]at hr;obtain⟨rfl,rfl⟩:=hr;obtain⟨h1,hfree⟩:=h.gone (d:=d) (g:=g) hg;have h2:=h1.add t (a.eval x) (h.obs.nodup d) hfree (hcok _ (κ.le_addRow t _));intro K Q hn;unfold Oper.wp;rw[hrun,bN]
     refine hn _ H w _ (h2.congr (fun _=>rfl) (fun _=>rfl) (fun _=>rfl)).wrel ?_;rw[he];exact .one _ _ (.newRref κ H t n hA)
    split at hr
    ·exact key _ (fun κ' hle=>hok.kept hle (fun _ _=>⟨rfl,rfl⟩) (Fz.le_refl _)) hr
    ·exact key _ (fun κ' hle=>hok.kept hle (fun _ _=>⟨rfl,rfl⟩) (Fz.le_refl _)) hr
    ·exact hr.elim
   ·exact plain hr
  ·exact plain hr
theorem se(h:WRel X κ H s a w){o:Oper}{d e sz n cap:Nat}{xs:List (List AC)}{us rest:List Value}{w1:World}(hw:w1.heap=w.heap∧w1.os=w.os∧w1.tape=w.tape∧w1.output=w.output)
 (hx:∀x∈xs,x.length=sz) (hn:n=xs.length) (hc:Cs Con.no H xs.flatten us) (hcap:n≤cap) (hmax:cap≤maxLen) (hlen:us.length+rest.length=cap*sz)
 (hrun:(execOp a.eval o).run P w= .ok (.value (.slice (some ⟨w.heap.size,0,none⟩) n cap)) (w1.alloc (.cells (us++rest).toArray e))) {v:AV} {ws:List Wr}
 (hr:Runs P G s (obN d (.row e sz xs) fun g ws=>.ret (.one (.rref d g n),ws)) (v,ws)):cm P X κ H s a o v ws w:=by
 subst hn;obtain⟨ft,h⟩:=h.f;have hr:=gK h.rel hr;simp only[Runs,ai]at hr;obtain⟨rfl,rfl⟩:=hr;have hs:=fq h.rel.fz (.cells (us++rest).toArray e) w1 hw;have h1:=h.step hs (.inr (au _))
 have hnew:(w1.alloc (.cells (us++rest).toArray e)).heap[w.heap.size]?=some (.cells (us++rest).toArray e (0,0)):=by
  have:=dA w1 (.cells (us++rest).toArray e)
  rwa [hw.1]at this
 have hlt:w.heap.size<(w1.alloc (.cells (us++rest).toArray e)).heap.size:=(ay.1 hnew).1;have hfl:=dk hx;have hul:us.length=xs.length*sz:=by rw[hc.1,hfl]
 have h2:=h1.add d (.slice (some ⟨w.heap.size,0,none⟩) xs.length cap) (c:=.row e sz xs) (bs:=[w.heap.size]) (by simp) (fun k hk=>by
  obtain rfl:=ax.1 hk;exact h.fresh (au _) hlt fun i=>h.rel.new i)
  ⟨hx,.inr ⟨w.heap.size,cap,_,rfl,hnew,hcap,hmax,by simp[hlen],fun i=>h.rel.new i,by
   have:(us++rest).toArray.toList.take (xs.length*sz)=us:=by simp[←hul]
   rw[this];exact hc,rfl⟩⟩
 intro K Q hn;unfold Oper.wp;rw[hrun,bN];exact hn _ H _ _ h2.wrel (.one _ _ (.newRref κ H d _ (.inr ⟨_,rfl⟩)))
end
section
variable{P:Program}{T:Tab}{J:Kn}{M:Md}{G:Nat→Option (List AC)}{X:Ctx}{κ:Con}{H:Fz}{s:St}{a:Act}{w:World}{ft:Nat→List Nat}
theorem sh{α:Type}{z:List α}{sz:Nat}(hz:z.length=sz)(h0:0<sz):∀(n j:Nat),j<n*sz→(List.replicate n z).flatten[j]?=z[j % sz]?
 |0,j,h=>by simp at h
 |n+1,j,h=>by
  rw[jw,aO];by_cases hj:j<sz
  ·rw[bH (by omega),Nat.mod_eq_of_lt hj]
  ·rw[cj (by omega),hz,sh hz h0 n (j-sz) (by rw[dQ]at h;omega)]
   congr 1
   rw[Nat.mod_eq_sub_mod (by omega:j≥sz)]
theorem aau{z:List AC}{zv:Array Value}(hc:Cs Con.no H z zv.toList){sz:Nat}(hz:z.length=sz)(h0:0<sz)(n:Nat):Cs Con.no H (List.replicate n z).flatten (madeCells zv (n*sz)).toList:=by
 have hl:zv.size=sz:=by have:=hc.1;simp at this;omega
 have hfl:(List.replicate n z).flatten.length=n*sz:=by simp[hz]
 refine⟨by rw[bO,size_madeCells,hfl],fun j c u h1 h2=>?_⟩;have hj:j<n*sz:=by rw[←hfl];exact(aq.1 h1).1
 rw[sh hz h0 n j hj]at h1;have hm:j % sz<zv.size:=by rw[hl];exact gZ _ h0
 have:zv.toList[j % sz]?=some u:=by
  rw[cA]at h2 ⊢;simp only[madeCells,Array.getElem?_map]at h2;rw[Array.getElem?_range]at h2;rw[if_pos hj]at h2;simp only[bW,am,hl]at h2;rw[←h2];simp[hm]
 exact hc.2 _ c u h1 this
theorem vr(E:Env P T J)(hG:bK G H)(h:WRel X κ H s a w){o:Oper}{t:Nat}{x y:Operand}(ho:o.op= .makeSlice t x y){v:AV}{ws:List Wr}(hr:Runs P G s ((opd G x).bind fun a=>(opd G y).bind fun b=>nX T M o t a b) (v,ws)):cm P X κ H s a o v ws w:=by
 obtain⟨p,q,h1,h2,hr'⟩:=opd2 hG h.rel hr;clear hr;have hr:=hr';clear hr';unfold nX at hr;split at hr
 ·rename_i k n k' m i d hT hd;obtain⟨-,dd,hdd,hund,-⟩:=E.tab t i hT;split at hr
  ·rename_i e sz bytes hk;rw[hk]at hund;obtain⟨rfl,ie,z,hie,hsz,hby,hz,hzs,hpos⟩:=hund;split at hr
   ·rename_i ie' hTe;obtain⟨⟨ti,z',hti,hsz',hz',hzz⟩,-⟩:=E.tab e ie' hTe;rw[hie]at hti;cases hti;rw[hz]at hz';cases hz';obtain⟨⟨rfl,hn0,hn1⟩,hr⟩:=hr;obtain⟨l1,l2,l3⟩:=yW (n:=n.toNat) (bytes:=bytes) (by omega);have e1:=(cN h1).1;have e2:=(cN h2).1
    have hrun:=run_make (P:=P) w t e ie z hdd hie hz k k' n n hn0 (fP _) (by
     rw[hby];have:=(Int.toNat_of_nonneg hn0);rw[←this,←Int.natCast_mul,Nat.mul_comm];omega) (by omega)
    have hrun':(execOp a.eval o).run P w= .ok (.value (.slice (some ⟨w.heap.size,0,none⟩) n.toNat n.toNat)) (w.alloc (.cells (madeCells z.cells (n.toNat*ie.size)) e)):=by
     simp only[execOp,ho,e1,e2,aY,hrun,aF,bu]
    have hcz:Cs Con.no H ie'.zero z.cells.toList:=hzz Con.no H;have hzl:ie'.zero.length=sz:=by rw[←hcz.1,bO];exact hzs
    split at hr
    ·split at hr
     ·rename_i e2 sz2 hze;obtain⟨ft,h⟩:=h.f;have hr:=gK h.rel hr;simp only[Runs,ai]at hr;obtain⟨rfl,rfl⟩:=hr;have hs:=fq h.rel.fz (.cells (madeCells z.cells (n.toNat*ie.size)) e) w ⟨rfl,rfl,rfl,rfl⟩;have g1:=h.step hs (.inr (au _))
      have hnew:=dA w (.cells (madeCells z.cells (n.toNat*ie.size)) e);have hlt:w.heap.size<(w.alloc (.cells (madeCells z.cells (n.toNat*ie.size)) e)).heap.size:=(ay.1 hnew).1;rw[hze]at hzl hcz;have hs1:sz=1:=by simpa using hzl.symm
      subst hs1;rw[hsz,eF]at hnew g1 hlt hrun';have hcs:=aau hcz (sz:=1) rfl (by omega) n.toNat;rw[eF]at hcs;have hall:∀(j:Nat) (v:Value),(madeCells z.cells n.toNat)[j]?=some v→v=Value.slice none 0 0:=by
       intro j v hj;have hj':j<n.toNat:=by
        have:=(ay.1 hj).1;simpa [size_madeCells]using this
       have hc1:(List.replicate n.toNat [AC.nil e2 sz2]).flatten[j]?=some (.nil e2 sz2):=by
        rw[sh (sz:=1) rfl (by omega) n.toNat j (by omega),Nat.mod_one];rfl
       have:=hcs.2 j _ v hc1 (by simpa using hj);cases this;rfl
      have g2:=g1.add d (.slice (some ⟨w.heap.size,0,none⟩) n.toNat n.toNat) (c:=.rows e2 sz2 e (List.replicate n.toNat [])) (bs:=[w.heap.size]) (by simp) (fun k hk=>by
       obtain rfl:=ax.1 hk;exact h.fresh (au _) hlt fun i=>h.rel.new i)
       (.inr ⟨w.heap.size,n.toNat,_,List.replicate n.toNat [],by simp,hnew,by simp,l1,by simp[size_madeCells],fun i=>h.rel.new i,by simp,fun j v ys bj a1 a2 a3=>by
        obtain rfl:=(fX.1 (bi a2)).2;obtain rfl:=(fX.1 (bi a3)).2;rw[hall j v a1];exact⟨by simp,.inl ⟨rfl,rfl,rfl⟩⟩,by simp⟩)
      intro K Q hn;unfold Oper.wp;rw[hrun',bN];refine hn _ H _ _ g2.wrel (.one _ _ (.newRref κ H d _ (.inr ⟨_,rfl⟩)))
     ·exact hr.elim
    ·refine se (us:=(madeCells z.cells (n.toNat*sz)).toList) (rest:=[]) (cap:=n.toNat) (w1:=w) h ⟨rfl,rfl,rfl,rfl⟩ (xs:=List.replicate n.toNat ie'.zero) (fun x hx=>by rw[(fX.1 hx).2];exact hzl) (by simp) (aau hcz hzl hpos n.toNat) (au _) l1 (by simp[size_madeCells]) ?_ hr
     rw[hrun',hsz];simp
   ·exact hr.elim
  ·exact hr.elim
 ·exact hr.elim
theorem vq(E:Env P T J)(hG:bK G H)(h:WRel X κ H s a w){o:Oper}(hok:okOp X.N X.A o=true){x:Operand}(ho:o.op= .nilCheck x){v:AV}{ws:List Wr}
 (hr:Runs P G s ((opd G x).bind fun v=>match v with| .one (.eref ..)=>.ret (v,[])|_=>it T J G o) (v,ws)):cm P X κ H s a o v ws w:=by
 obtain⟨p,h1,hr'⟩:=opd1 hG h.rel hr;clear hr;split at hr'
 ·simp only[Runs,ai]at hr';obtain⟨rfl,rfl⟩:=hr';obtain⟨-,b,n,cap,-,-,he⟩:=sq h1;refine cm.value h (u:=a.eval x) ?_ h1;rw[he];simp[execOp,ho,he]
 ·exact dZ E hG h hok hr'
theorem tw(E:Env P T J)(hG:bK G H)(h:WRel X κ H s a w){o:Oper}(hok:okOp X.N X.A o=true){t f:Nat}{x:Operand}(ho:o.op= .fieldAddr t x f){v:AV}{ws:List Wr}
 (hr:Runs P G s (evW T J M G o) (v,ws)):cm P X κ H s a o v ws w:=by
 simp only[evW,ho]at hr;obtain⟨p,h1,hr'⟩:=opd1 hG h.rel hr;clear hr;split at hr'
 ·rename_i d g sz i off;split at hr'
  ·rename_i ti hT;obtain⟨-,dd,hdd,hund,-⟩:=E.tab t ti hT;split at hr'
   ·rename_i fs hk;rw[hk]at hund;obtain⟨fields,rfl,-,hfs⟩:=hund;split at hr'
    ·rename_i o' n gg hff;obtain⟨F,ti',d',hF,hoff,hti,htsz,hd',hrow⟩:=hfs f o' _ gg hff;simp only[Runs,ai]at hr';obtain⟨rfl,rfl⟩:=hr';cases h1 with|one _ _ h1=>
     generalize he:a.eval x=u at h1;cases h1 with
     |eref _ _ _ _ _ b n' cap hg hu hi=>
      have hres:=ACr.eref (κ:=κ) (H:=H) d g sz i (off+o') b n' cap hg hu hi;rw[←ge]at hres;refine cm.value h ?_ (.one _ _ hres);have hpl:∀(A:Addr),(fieldPlace A F).run P w= .ok (A.add o') w:=fun A=>by
       simp[fieldPlace,run_sizeOf hti w,htsz,hoff]
      simp only[execOp,ho,he,Instr.fieldAt,Instr.sureAddr,aY,aA hdd w,aF,hF,bu,hpl,dI]
    ·exact hr'.elim
   ·exact hr'.elim
  ·exact hr'.elim
 ·exact dZ E hG h hok hr'
theorem tv(E:Env P T J)(hG:bK G H)(h:WRel X κ H s a w){o:Oper}(hok:okOp X.N X.A o=true){t:Nat}{x y:Operand}(ho:o.op= .indexAddr t x y){v:AV}{ws:List Wr}
 (hr:Runs P G s (evW T J M G o) (v,ws)):cm P X κ H s a o v ws w:=by
 simp only[evW,ho]at hr;obtain⟨p,q,h1,h2,hr'⟩:=opd2 hG h.rel hr;clear hr;split at hr'
 ·rename_i d g n k i;split at hr'
  ·rename_i ti hT;obtain⟨-,dd,hdd,hund,-⟩:=E.tab t ti hT;split at hr'
   ·rename_i e sz by' hk
    rw[hk]at hund;obtain⟨rfl,ie,z,hie,hsz,-⟩:=hund;obtain⟨⟨hn0,hn1⟩,hr'⟩:=hr';simp only[Runs,ai]at hr';obtain⟨rfl,rfl⟩:=hr';have e2:=(cN h2).1;obtain⟨hg,hu,A,cap,he,hA⟩:=eU h1;obtain⟨b,rfl⟩:=hA.resolve_left (by omega);rw[he]at hu
    have hres:=ACr.eref (κ:=κ) (H:=H) d g (sz+1) i.toNat 0 b n cap hg hu (by omega);rw[fl]at hres;refine cm.value h ?_ (.one _ _ hres);simp[execOp,ho,he,e2,Instr.indexAt,asIntOf,aA hdd,hn0,hn1,run_sizeOf hie w,hsz,dI]
   ·exact hr'.elim
  ·exact hr'.elim
 ·exact dZ E hG h hok hr'
end
section
variable{P:Program}{T:Tab}{J:Kn}{M:Md}{G:Nat→Option (List AC)}{X:Ctx}{κ:Con}{H:Fz}{s:St}{a:Act}{w:World}{ft:Nat→List Nat}
theorem rU:∀(l:List AC) (n:Nat),over l n []=l
 | [],n=>by cases n<;>rfl
 |c::cs,0=>rfl
 |c::cs,n+1=>by rw[over,rU cs n]
theorem rV:∀(l:List AC) (n:Nat) (xs:List AC),(over l n xs).length=l.length
 | [],n,xs=>by cases n<;>cases xs<;>rfl
 |c::cs,0,[]=>rfl
 |c::cs,0,x::xs=>by simp[over,rV cs 0 xs]
 |c::cs,n+1,xs=>by simp[over,rV cs n xs]
theorem wZ:∀(l r:List AC) (n:Nat) (xs:List AC),over (l++r) (l.length+n) xs=l++over r n xs
 | [],r,n,xs=>by simp
 |c::cs,r,n,xs=>by
  rw[fL,aT,show cs.length+1+n=(cs.length+n)+1 by omega,over,wZ cs r n xs];rfl
theorem pV:∀(l r:List AC) (n:Nat) (xs:List AC),n+xs.length≤l.length→over (l++r) n xs=over l n xs++r
 | [],r,n,[],_=>by rw[rU,rU]
 | [],r,n,x::xs,h=>by simp at h
 |c::cs,r,0,[],_=>by simp[over]
 |c::cs,r,0,x::xs,h=>by simp only[fL,over];rw[pV cs r 0 xs (by simp at h ⊢;omega)]
 |c::cs,r,n+1,xs,h=>by simp only[fL,over];rw[pV cs r n xs (by simp at h ⊢;omega)]
theorem tT{sz off:Nat}{cs:List AC}:∀{xs:List (List AC)} {i:Nat} {old:List AC},(∀x∈xs,x.length=sz)→xs[i]?=some old→off+cs.length≤sz→over xs.flatten (i*sz+off) cs=(xs.set i (over old off cs)).flatten
 | [],i,old,_,h,_=>by simp at h
 |x::xs,0,old,hs,h,hl=>by
  simp only[aZ,am]at h;subst h;simp only[aO,Nat.zero_mul,bA,eh];exact pV x xs.flatten off cs (by rw[hs x (aI ..)];exact hl)
 |x::xs,i+1,old,hs,h,hl=>by
  simp only[cd]at h;simp only[aO,List.set_cons_succ];rw[←tT (fun y hy=>hs y (aD _ hy)) h hl,show(i+1)*sz+off=x.length+(i*sz+off) by rw[hs x (aI ..),dQ];omega,wZ]
theorem zi{κ:Con}{xs:List (List AC)}{us:List Value}{sz i:Nat}{cs:List AC}(hc:Cs κ H xs.flatten us)(hs:∀x∈xs,x.length=sz)(hi:xs[i]?=some cs):Cs κ H cs ((us.drop (i*sz)).take sz):=by
 have hcl:cs.length=sz:=hs cs (bi hi);have hlt:=(aq.1 hi).1;have hfl:=dk hs;have h1:i*sz+sz≤xs.length*sz:=by rw[←dQ];exact dn _ hlt
 refine⟨by rw[dx,cr,hc.1,hfl,hcl];omega,fun j c u hj hj'=>?_⟩;rw[bM]at hj';split at hj'
 ·rename_i hjs;rw[cI]at hj';exact hc.2 _ c u ((lY hs hi j hjs).trans hj) hj'
 ·cases hj'
theorem iX{α:Type}(bss:List (List α))(i:Nat)(hi:i<bss.length)(y:List α):(bss.set i y).flatten=(bss.take i).flatten++y++(bss.drop (i+1)).flatten:=by
 rw[List.set_eq_take_append_cons_drop,if_pos hi];simp
theorem lL{α:Type}(bss:List (List α))(i:Nat)(hi:i<bss.length):bss.flatten=(bss.take i).flatten++bss[i]++(bss.drop (i+1)).flatten:=by
 have:=iX bss i hi bss[i]
 rwa [List.set_getElem_self]at this
theorem vw{α:Type}{a b c:List α}(h:(a++b++c).Nodup):(a++c).Nodup∧b.Nodup∧∀x∈a++c,x∉b:=by
 obtain⟨h1,h2,h3⟩:=aU.1 h;obtain⟨k1,k2,k3⟩:=aU.1 h1;refine⟨aU.2 ⟨k1,h2,fun x hx y hy e=>h3 x (aL _ hx) y hy e⟩,k2,fun x hx hb=>?_⟩;rcases aM.1 hx with hx|hx
 ·exact k3 x hx x hb rfl
 ·exact h3 x (aQ _ hb) x hx rfl
theorem qZ{α:Type}{a b c:List α}(h:(a++c).Nodup)(hb:b.Nodup)(hd:∀x∈a++c,x∉b):(a++b++c).Nodup:=by
 obtain⟨h1,h2,h3⟩:=aU.1 h;refine aU.2 ⟨aU.2 ⟨h1,hb,fun x hx y hy e=>hd x (aL _ hx) (e▸hy)⟩,h2,fun x hx y hy e=>?_⟩;rcases aM.1 hx with hx|hx
 ·exact h3 x hx y hy e
 ·exact hd y (aQ _ hy) (e▸hx)
theorem qI{α:Type}(t k j:Nat)(x y z:α)(l:List (Nat×α)):find t ((k,x)::(j,y)::(k,z)::l)=find t ((k,x)::(j,y)::l):=by
 simp only[cW];by_cases h:k=t
 ·simp[h]
 ·simp[h]
theorem dF{α:Type}(t k:Nat)(x z:α)(l:List (Nat×α)):find t ((k,x)::(k,z)::l)=find t ((k,x)::l):=by
 simp only[cW];by_cases h:k=t
 ·simp[h]
 ·simp[h]
theorem Free.add{d:Nat}{u:Value}{c:Ob}{bs:List Nat}{k:Nat}(h:WRf X κ H s a w ft)(hk:Free X κ H s w ft k)(hkb:k∉bs):
 Free X (κ.addRow d u) H (s.writes [.perm d ⟨κ.nr d,0,0,false⟩,obW d (κ.nr d) c]) w (V.setF (V.setF ft d []) d bs) k:=
 ((h.new d u).2.2.2 k hk).setF hkb
theorem rH(E:Env P T J){t:Nat}{ti:TI}(hT:T t=some ti){o:Oper}{x y:Operand}(ho:o.op= .store t x y){b off e:Nat}{cur:Array Value}(hx:a.eval x= .pointer (some ⟨b,off,none⟩))(hfz:FzOk H w)(hb:∀i,H b i=none)
 (hw:w.heap[b]?=some (.cells cur e (0,0))) (hsz:(a.eval y).cells.size=ti.size) (hle:off+(a.eval y).cells.size≤cur.size) (h1:∀u∈(a.eval y).cells.toList,u.oneCell'=true):
 ∃w',(execOp a.eval o).run P w= .ok .skip w'∧Step H w b H w'∧w'.heap[b]?=some (.cells (cur.toList.take off++(a.eval y).cells.toList++cur.toList.drop (off+(a.eval y).cells.size)).toArray e (0,0)):=by
 obtain⟨⟨i,z,hi,hs,-⟩,-⟩:=E.tab t ti hT;have hst:=run_storeCells_at (P:=P) b off e (a.eval y).cells.toList 0 cur w hw (by simpa using hle) h1;refine⟨_,?_,?_,setRow_heap w b cur _ e (0,0) hw⟩
 ·have hsz':(a.eval y).cells.size=i.size:=by rw[hs,hsz]
  simp only[execOp,ho,hx,Instr.storeAt,Instr.sureAddr,storeVar,aY,bu,aF,run_sizeOf hi w,hsz',ne_eq,not_true,if_false,hst];simp[hsz']
 ·exact{
   le:=Fz.le_refl H
   fz:=fun k i v hv=>by
    have hk:k≠b:=fun e=>by subst e;rw[hb]at hv;cases hv
    rw[cell_setRow_other w b _ ⟨k,i,none⟩ hk];exact hfz k i v hv
   heap:=fun k _ hk=>setRow_other w b k _ hk
   kept:=fun _ _=>rfl
   grown:=by simp
   os:=rfl
   tape:=rfl
   output:=rfl}
theorem acH(E:Env P T J)(hG:bK G H)(h:WRel X κ H s a w){o:Oper}(hok:okOp X.N X.A o=true){t:Nat}{x:Operand}(ho:o.op= .load t x){v:AV}{ws:List Wr}(hr:Runs P G s (evW T J M G o) (v,ws)):cm P X κ H s a o v ws w:=by
 simp only[evW,ho]at hr;obtain⟨p,h1,hr'⟩:=opd1 hG h.rel hr;clear hr;unfold agB at hr';split at hr'
 ·rename_i d g sz i off;obtain⟨c,hc,hr⟩:=az hr';clear hr';obtain⟨ft,h⟩:=h.f;obtain⟨hob,hn,-⟩:=h.at_ hc;obtain⟨hg,b,n,cap,hu,hi,he⟩:=sq h1;rw[hu]at hob;split at hr
  ·rename_i e sz' xs;split at hr
   ·rename_i hsz;have hsz:=aP hsz;subst hsz;obtain⟨cs,⟨-,hcs⟩,hr⟩:=hr;obtain⟨y,hy,hr⟩:=az hr;simp only[Runs,ai]at hr;obtain⟨rfl,rfl⟩:=hr;have hy:=pG hy;rw[fH]at hy;obtain⟨y0,hy0,hy1⟩:=hy;obtain⟨hs,⟨q,-⟩|⟨b',cap',cur,q,k2,k3,k4,k5,k6,k7,-⟩⟩:=hob
    ·cases q
    ·simp only[bR,am,gf]at q;obtain⟨⟨rfl,-⟩,rfl,rfl⟩:=q;have hel:=zi k7 hs (i:=i) hcs;obtain⟨u,hrun,hav⟩:=my (w:=w) E (b:=b) (base:=i*sz) hy0 hel (fun j u hj=>by
      rw[bM]at hj;split at hj
      ·rw[cI,bM]at hj;split at hj
       ·rw[ii w b _ cur e (0,0) k2];simpa using hj
       ·cases hj
      ·cases hj)
     refine cm.value h.wrel ?_ ((dO hy1 hav).mono (Con.no_le κ) (Fz.le_refl H));simp only[execOp,ho,he,aY,hrun,aF,bu]
   ·exact hr.elim
  ·rename_i e2 sz2 e yss;split at hr
   ·rename_i t' ti hdst hT;split at hr
    ·rename_i htk hag;obtain⟨ys,hys,hr⟩:=hr;simp only[aw,dg]at htk;have hne:=eZ htk.2;have hr:=gK h.rel hr;simp only[Runs,ai]at hr;obtain⟨rfl,rfl⟩:=hr;rcases hob with⟨q,-⟩|⟨b',cap',cur,bss,q,k2,k3,k4,k5,k6,k7,k8,hft⟩
     ·cases q
     ·simp only[bR,am,gf]at q;obtain⟨⟨rfl,-⟩,rfl,rfl⟩:=q;have hic:i<cur.size:=by omega
      have hiy:i<bss.length:=by omega
      have hcu:=aE hic;have hbi:=ad hiy;have hrow:=k8 i _ ys _ hcu hys hbi;simp only[ej]at hrow;have hnd:=h.obs.nodup d;rw[hft,bF]at hnd;obtain⟨h1,hfree⟩:=h.gone (d:=d) (g:=g) hg;rw[hft]at hfree;have hfa:=lL bss i hiy
      have hfs:=iX bss i hiy [];rw[aX]at hfs;have hn3:=hnd.2;rw[hfa]at hn3;obtain⟨n1,n2,n3⟩:=vw hn3;have h2:=h1.add t' cur[i] (c:=.row e2 sz2 ys) (bs:=bss[i]) n2 (fun k hk=>hfree k (aD _ (gc hbi hk))) hrow
      have hfr2:∀k∈b::(bss.set i []).flatten,k∉bss[i]∧k∈b::bss.flatten:=by
       intro k hk;rcases aV.1 hk with rfl|hk
       ·exact⟨fun hq=>hnd.1 (gc hbi hq),aI ..⟩
       ·rw[hfs]at hk;exact⟨n3 k hk,aD _ (by
         rw[hfa];rcases aM.1 hk with hk|hk
         ·exact aL _ (aL _ hk)
         ·exact aQ _ hk)⟩
      have hnrd:(κ.addRow t' cur[i]).nr d=g+1:=by simp[Con.addRow,Ne.symm hne,hn]
      have hrowd:(κ.addRow t' cur[i]).row d g= .slice (some ⟨b,0,none⟩) yss.length cap:=by
       rw[(κ.le_addRow t' cur[i]).row d g hg];exact hu
      have hrowt:(κ.addRow t' cur[i]).row t' (κ.nr t')=cur[i]:=by simp[Con.addRow]
      have h3:=h2.set (d:=d) (g:=g) (c:=.rowsL e2 sz2 e yss i t' (κ.nr t')) (bs:=b::(bss.set i []).flatten) hnrd (by rw[dy _ _ (Ne.symm hne),dy _ _ (Ne.symm hne),cQ])
       (by
        refine bF.2 ⟨fun hq=>hnd.1 ?_,by rw[hfs];exact n1⟩;have:=(hfr2 b (aD _ hq)).2;rw[hfs]at hq;rw[hfa];rcases aM.1 hq with hq|hq
        ·exact aL _ (aL _ hq)
        ·exact aQ _ hq)
       (fun k hk=>(hfree k (hfr2 k hk).2).add h1 (hfr2 k hk).1)
       (by
        refine⟨.inr ⟨b,cap,cur,bss.set i [],hrowd,k2,k3,k4,k5,k6,by simpa using k7,fun j v ys' bj a1 a2 a3=>?_,rfl⟩,by simp[Con.addRow]⟩;rw[bf]at a3;simp only[ej];split at a3
        ·rename_i hij;rw[if_pos hij];subst hij;rw[hcu]at a1;cases a1;cases a3;exact⟨hrowt.symm,rfl⟩
        ·rename_i hij;rw[if_neg hij];have:=k8 j v ys' bj a1 a2 a3;simpa [ej]using this)
      have hval:κ.nr t'=κ.nr t':=rfl;have hrun:(execOp a.eval o).run P w= .ok (.value cur[i]) w:=by
       obtain⟨⟨i',z,hi',hs',-⟩,dd,hdd,-,hrow'⟩:=E.tab t ti hT;have hcell:w.cell? ⟨b,i*1+0,none⟩=some cur[i]:=by
        rw[ii w b _ cur e (0,0) k2,eF,fl];exact hcu
       simp only[execOp,ho,he,Instr.loadAt,Instr.sureAddr,loadVar,aY,bu,aF,mV hdd w,hrow',hag,cJ,if_false,run_load,hcell]
      intro K Q hn';unfold Oper.wp;rw[hrun,bN];obtain⟨hys0,hA⟩:=hrow;have h4:=h3.congr (s':=s.writes ([.perm t' ⟨κ.nr t',0,0,false⟩,obW t' (κ.nr t') (.row e2 sz2 ys)]++[obW d g (.rowsL e2 sz2 e yss i t' (κ.nr t'))])) (fun t=>(qI _ _ _ _ _ _ _).symm) (fun _=>rfl) (fun _=>rfl)
      refine hn' _ H w _ h4.wrel ?_;obtain⟨A,cp,hcs,hAA⟩:∃A cp,cur[i]= .slice A ys.length cp∧(ys.length=0∨∃b,A=some ⟨b,0,none⟩):=by
       rcases hA with⟨q,rfl,-⟩|⟨b',cap',cur',q,-⟩
       ·exact⟨none,0,q,.inl rfl⟩
       ·exact⟨_,_,q,.inr ⟨_,rfl⟩⟩
      rw[hcs];exact .one _ _ (.newRref κ H t' _ hAA)
    ·exact hr.elim
   ·exact hr.elim
  ·exact hr.elim
 ·exact dZ E hG h hok hr'
end
end
end Go.Proofs.YtgkenhpfiempbaaGreatDoor.V
