/-
  Part M05: B16, B17, B18, B19. Conditions stand in the theorems.
-/
import Derived.Test.YtgkenhpfiempbaaGreatDoorM04
set_option linter.all false
set_option maxRecDepth 1000000
set_option maxHeartbeats 8000000
namespace Go.Proofs.YtgkenhpfiempbaaGreatDoor.V
open Go Go.Proofs
noncomputable section
abbrev It:=(Nat×Box) ⊕ (Nat×Nat)
def itB(l:List It):List (Nat×Box):=l.filterMap Sum.getLeft?
def itO(l:List It):List (Nat×Nat):=l.filterMap Sum.getRight?
def gq(κ:Con)(ft:Nat→List Nat):It→List Nat
 | .inl (d,b)=>[κ.blk d b.gen]
 | .inr (d,_)=>ft d
def okI(κ:Con)(s:St):It→Prop
 | .inl (d,b)=>find d s.boxes=some b
 | .inr (d,g)=>κ.nr d=g+1
def HmOk(κ:Con):Hm→Value→Prop
 | .ob d g,u=>κ.nr d=g+1∧u=κ.row d g
 | .box d b,u=>u= .pointer (some ⟨κ.blk d b.gen,0,none⟩)
 | .clo f l,u=>∃cu:List Value,u= .func (.func f) #[] cu.toArray∧cu.length=l.length∧∀(j d:Nat) (b:Box) (c:Value),l[j]?=some (some (d,b))→cu[j]?=some c→c= .pointer (some ⟨κ.blk d b.gen,0,none⟩)
section
variable{P:Program}{T:Tab}{J:Kn}{M:Md}{G:Nat→Option (List AC)}{X:Ctx}{κ:Con}{H:Fz}{s:St}{a:Act}{w:World}{ft:Nat→List Nat}
theorem kY{d:Nat}:∀{l:List Nat},memN d l=true↔d∈l
 | []=>by simp[memN]
 |k::l=>by
  unfold memN;split
  ·rename_i h;simp[aP h]
  ·rename_i h;rw[kY (l:=l)];have:=eZ h;simp[Ne.symm this]
theorem pY:∀{l:List Nat},oM l=true↔l.Nodup
 | []=>by simp[oM]
 |d::l=>by
  simp only[oM,aw,dg,bF,pY (l:=l)];constructor
  ·rintro⟨h1,h2⟩;exact⟨fun hm=>(by rw[kY.2 hm]at h1;cases h1),h2⟩
  ·rintro⟨h1,h2⟩;refine⟨?_,h2⟩;cases hm:memN d l with
   |false=>rfl
   |true=>exact absurd (kY.1 hm) h1
theorem oW{α:Type}:∀(l:List (Nat×α)),fstL l=l.map (·.1)
 | []=>rfl
 |(d,x)::l=>by simp[fstL,oW l]
theorem ni(l l':List It):itB (l++l')=itB l++itB l':=gm
theorem nh(l l':List It):itO (l++l')=itO l++itO l':=gm
theorem lI(h:WRf X κ H s a w ft):∀{l:List It},(∀x∈l,okI κ s x)→((itB l).map (·.1)).Nodup→((itO l).map (·.1)).Nodup→(l.flatMap (gq κ ft)).Nodup
 | [],_,_,_=>by simp
 |x::l,hok,h1,h2=>by
  rw[de];have hok':∀x∈l,okI κ s x:=fun y hy=>hok y (aD _ hy);cases x with
  |inl x=>
   obtain⟨d,b⟩:=x;have e1:itB (.inl (d,b)::l)=(d,b)::itB l:=rfl;have e2:itO (.inl (d,b)::l)=itO l:=rfl;rw[e1,bE,bF]at h1;rw[e2]at h2;refine aU.2 ⟨by simp[gq],lI h hok' h1.2 h2,fun k hk k' hk' he=>?_⟩;subst he;obtain rfl:=ax.1 hk
   obtain⟨y,hy,hky⟩:=ei.1 hk';have hb:=hok _ (aI ..);cases y with
   |inl y=>
    obtain⟨d',b'⟩:=y;have hq:=ax.1 hky;have:=h.rel.bb d d' b b' hb (hok' _ hy) hq;subst this;exact h1.1 (bZ.2 ⟨(d,b'),dq.2 ⟨_,hy,rfl⟩,rfl⟩)
   |inr y=>
    obtain⟨d',g'⟩:=y;exact(h.obs.blk d' _ hky).2.2.2.1 d b hb rfl
  |inr x=>
   obtain⟨d,g⟩:=x;have e1:itB (.inr (d,g)::l)=itB l:=rfl;have e2:itO (.inr (d,g)::l)=(d,g)::itO l:=rfl;rw[e1]at h1;rw[e2,bE,bF]at h2;refine aU.2 ⟨h.obs.nodup d,lI h hok' h1 h2.2,fun k hk k' hk' he=>?_⟩;subst he;obtain⟨y,hy,hky⟩:=ei.1 hk'
   have hk:k∈ft d:=hk;cases y with
   |inl y=>
    obtain⟨d',b'⟩:=y;have hq:=ax.1 hky;exact(h.obs.blk d k hk).2.2.2.1 d' b' (hok' _ hy) hq.symm
   |inr y=>
    obtain⟨d',g'⟩:=y;by_cases hd:d=d'
    ·subst hd;exact h2.1 (bZ.2 ⟨(d,g'),dq.2 ⟨_,hy,rfl⟩,rfl⟩)
    ·exact h.obs.apart d d' hd k hk hky
theorem TrR.one{u:Value}{c:AC}(h:ACr Con.no H c u):TrR H w c u []:=.pers c u h
theorem rm(h:WRf X κ H s a w ft){own:Bool}{c c':AC}{os:List (Nat×Nat)}{u:Value}(hc:ACr κ H c u)(hr:Runs P G s (oY own c) (c',os)):
 ∃l:List It,itB l=[]∧itO l=os∧(∀x∈l,okI κ s x)∧TrR H w c' u (l.flatMap (gq κ ft)):=by
 have pl:∀{c c':AC} {os:List (Nat×Nat)},ACr κ H c u→Runs P G s (match jt c with|some c=>(.ret (c,[]):Rd (AC×List (Nat×Nat)))|none=>.none) (c',os)→∃l:List It,itB l=[]∧itO l=os∧(∀x∈l,okI κ s x)∧TrR H w c' u (l.flatMap (gq κ ft)):=by
  intro c c' os hc hr;split at hr
  ·rename_i c0 hk;simp only[Runs,ai]at hr;obtain⟨rfl,rfl⟩:=hr;exact⟨[],rfl,rfl,by simp,.one (fR hk hc)⟩
  ·exact hr.elim
 unfold oY at hr;split at hr
 ·rename_i d g n;obtain⟨cc,hcc,hr⟩:=az hr;obtain⟨hob,hn,-⟩:=h.at_ hcc;obtain⟨hg,hu,-⟩:=eU (.one _ _ hc);rw[hu]at hob;split at hr
  ·simp only[Runs,ai]at hr;obtain⟨rfl,rfl⟩:=hr;exact⟨[.inr (d,g)],rfl,rfl,by simp[okI,hn],by simpa [gq]using TrR.own _ _ _ u (ft d) hob⟩
  ·simp only[Runs,ai]at hr;obtain⟨rfl,rfl⟩:=hr;exact⟨[.inr (d,g)],rfl,rfl,by simp[okI,hn],by simpa [gq]using TrR.uf _ _ u (ft d) hob⟩
  ·exact hr.elim
 ·rename_i d g;obtain⟨cc,hcc,hr⟩:=az hr;obtain⟨hob,hn,-⟩:=h.at_ hcc;obtain⟨hg,hu,-⟩:=io (.one _ _ hc);rw[hu]at hob;split at hr
  ·simp only[Runs,ai]at hr;obtain⟨rfl,rfl⟩:=hr;exact⟨[.inr (d,g)],rfl,rfl,by simp[okI,hn],by simpa [gq]using TrR.omap _ _ _ u (ft d) hob⟩
  ·simp only[Runs,ai]at hr;obtain⟨rfl,rfl⟩:=hr;exact⟨[.inr (d,g)],rfl,rfl,by simp[okI,hn],by simpa [gq]using TrR.omrow _ _ _ _ _ u (ft d) hob⟩
  ·exact hr.elim
 ·rename_i d g;obtain⟨cc,hcc,hr⟩:=az hr;obtain⟨hob,hn,-⟩:=h.at_ hcc;obtain⟨hg,hu,-⟩:=oS (.one _ _ hc);rw[hu]at hob;split at hr
  ·simp only[Runs,ai]at hr;obtain⟨rfl,rfl⟩:=hr;exact⟨[.inr (d,g)],rfl,rfl,by simp[okI,hn],by simpa [gq]using TrR.bld _ _ u (ft d) hob⟩
  ·exact hr.elim
 ·have hu:=inv_nil (.one _ _ hc);split at hr
  ·simp only[Runs,ai]at hr;obtain⟨rfl,rfl⟩:=hr;exact⟨[],rfl,rfl,by simp,.own _ _ [] u [] ⟨by simp,.inl ⟨hu,rfl,rfl⟩⟩⟩
  ·simp only[Runs,ai]at hr;obtain⟨rfl,rfl⟩:=hr;refine⟨[],rfl,rfl,by simp,.one ?_⟩;rw[hu];exact .nil _ _ none none 0 (ka.none _ _)
 ·exact pl hc hr
theorem aaK(h:WRf X κ H s a w ft){ty:Nat}:∀{cs cs':List AC} {k:Nat} {os:List (Nat×Nat)} {us:List Value},Cs κ H cs us→Runs P G s (xD M ty k cs) (cs',os)→
 ∃(l:List It) (bss:List (List Nat)),itB l=[]∧itO l=os∧(∀x∈l,okI κ s x)∧bss.flatten=l.flatMap (gq κ ft)∧cs'.length=us.length∧bss.length=us.length∧
  ∀(j:Nat) (c:AC) (u:Value) (bj:List Nat),cs'[j]?=some c→us[j]?=some u→bss[j]?=some bj→TrR H w c u bj
 | [],cs',k,os,us,hc,hr=>by
  simp only[xD,Runs,ai]at hr;obtain⟨rfl,rfl⟩:=hr;rw[hc.inv_nil];exact⟨[],[],rfl,rfl,by simp,rfl,rfl,rfl,by simp⟩
 |c::cs,cs',k,os,us,hc,hr=>by
  obtain⟨u,us',rfl,h1,h2⟩:=hc.inv_cons;unfold xD at hr;obtain⟨⟨c0,o0⟩,r1,hr⟩:=az hr;obtain⟨⟨cs0,o1⟩,r2,hr⟩:=az hr;simp only[Runs,ai]at hr;obtain⟨rfl,rfl⟩:=hr;obtain⟨l1,k1,k2,k3,k4⟩:=rm h h1 r1;obtain⟨l2,bss,m1,m2,m3,m4,m5,m6,m7⟩:=aaK h h2 r2
  refine⟨l1++l2,l1.flatMap (gq κ ft)::bss,by rw[ni,k1,m1];rfl,by rw[nh,k2,m2],fun x hx=>(aM.1 hx).elim (k3 x) (m3 x),by simp[m4],by simp[m5],by simp[m6],fun j c u bj a1 a2 a3=>?_⟩;cases j with
  |zero=>simp at a1 a2 a3;subst a1;subst a2;subst a3;exact k4
  |succ j=>exact m7 j c u bj (by simpa using a1) (by simpa using a2) (by simpa using a3)
theorem vQ(h:WRf X κ H s a w ft){d g:Nat}{c:AC}{b:Box}{os:List (Nat×Nat)}(hr:Runs P G s (xE M d g) (c,b,os)):
 ∃l:List It,itB l=[(d,b)]∧itO l=os∧(∀x∈l,okI κ s x)∧b.gen=g∧(∃cs,c= .obox b.ty cs)∧TrR H w c (.pointer (some ⟨κ.blk d g,0,none⟩)) (l.flatMap (gq κ ft)):=by
 unfold xE at hr;obtain⟨⟨bg,bt,bc⟩,hb,hr⟩:=az hr;obtain⟨hf,hg⟩:=wc hb;obtain⟨⟨cs,o0⟩,r1,hr⟩:=az hr;simp only[Runs,ai]at hr;obtain⟨rfl,rfl,rfl⟩:=hr;simp only at hg;subst hg;obtain⟨-,q1,us,q2,q3⟩:=h.rel.box d _ hf;obtain⟨l,bss,m1,m2,m3,m4,m5,m6,m7⟩:=aaK h q3 r1
 refine⟨.inl (d,⟨bg,bt,bc⟩)::l,by simp[itB]at m1 ⊢;exact m1,(show itO l=_ from m2),fun x hx=>?_,rfl,⟨_,rfl⟩,?_⟩
 ·rcases aV.1 hx with rfl|hx
  ·exact hf
  ·exact m3 x hx
 ·have:=TrR.obox bt cs (κ.blk d bg) us bss q1 q2 m5.symm (m6.trans m5.symm) m7;rw[m4]at this;simpa [gq]using this
theorem vP(h:WRf X κ H s a w ft):∀{cs cs':List AC} {hs:List (Option (Nat×Box))} {os:List (Nat×Nat)} {us:List Value},Cs κ H cs us→Runs P G s (sE M cs) (cs',hs,os)→
 ∃(l:List It) (bss:List (List Nat)),itB l=hs.filterMap id∧itO l=os∧(∀x∈l,okI κ s x)∧bss.flatten=l.flatMap (gq κ ft)∧cs'.length=us.length∧bss.length=us.length∧us.length=hs.length∧
  (∀(j:Nat) (c:AC) (u:Value) (bj:List Nat),cs'[j]?=some c→us[j]?=some u→bss[j]?=some bj→TrR H w c u bj)∧(∀(j d:Nat) (b:Box) (c:Value),hs[j]?=some (some (d,b))→us[j]?=some c→c= .pointer (some ⟨κ.blk d b.gen,0,none⟩))∧
  (kI hs=true→ownL cs'=true)∧(kI hs=false→ownL cs'=false)
 | [],cs',hs,os,us,hc,hr=>by
  simp only[sE,Runs,ai]at hr;obtain⟨rfl,rfl,rfl⟩:=hr;rw[hc.inv_nil];exact⟨[],[],rfl,rfl,by simp,rfl,rfl,rfl,rfl,by simp,by simp,by simp[kI],by simp[ownL]⟩
 |c::cs,cs',hs,os,us,hc,hr=>by
  obtain⟨u,us',rfl,h1,h2⟩:=hc.inv_cons
  have plain:∀{cs' hs os},Runs P G s (match jt c with|some c=>(sE M cs).bind fun(cs,hs,os)=>.ret (c::cs,none::hs,os)|none=>.none) (cs',hs,os)→∃(l:List It) (bss:List (List Nat)),itB l=hs.filterMap id∧itO l=os∧(∀x∈l,okI κ s x)∧bss.flatten=l.flatMap (gq κ ft)∧cs'.length=(u::us').length∧bss.length=(u::us').length∧(u::us').length=hs.length∧
   (∀(j:Nat) (c:AC) (v:Value) (bj:List Nat),cs'[j]?=some c→(u::us')[j]?=some v→bss[j]?=some bj→TrR H w c v bj)∧(∀(j d:Nat) (b:Box) (c:Value),hs[j]?=some (some (d,b))→(u::us')[j]?=some c→c= .pointer (some ⟨κ.blk d b.gen,0,none⟩))∧
   (kI hs=true→ownL cs'=true)∧(kI hs=false→ownL cs'=false):=by
   intro cs' hs os hr;split at hr
   ·rename_i c0 hk;obtain⟨⟨cs0,hs0,o0⟩,r1,hr⟩:=az hr;simp only[Runs,ai]at hr;obtain⟨rfl,rfl,rfl⟩:=hr;obtain⟨l,bss,m1,m2,m3,m4,m5,m6,m7,m8,m9,m10,m11⟩:=vP h h2 r1;have hno:ownC c0=false:=by
     unfold jt at hk;split at hk<;>first|(cases hk;rfl)|cases hk
    refine⟨l,[]::bss,by simpa using m1,m2,m3,by simpa using m4,by simp[m5],by simp[m6],by simp[m7],fun j c v bj a1 a2 a3=>?_,fun j d b c a1 a2=>?_,fun hq=>by simp[ownL,hno];exact m10 hq,fun hq=>by simp[ownL,hno];exact m11 hq⟩
    ·cases j with
     |zero=>simp at a1 a2 a3;subst a1;subst a2;subst a3;exact .one (fR hk h1)
     |succ j=>exact m8 j c v bj (by simpa using a1) (by simpa using a2) (by simpa using a3)
    ·cases j with
     |zero=>simp at a1
     |succ j=>exact m9 j d b c (by simpa using a1) (by simpa using a2)
   ·exact hr.elim
  unfold sE at hr;split at hr
  ·rename_i hq;cases hq
  ·rename_i d g cs1 hq;cases hq;obtain⟨⟨c0,b,o0⟩,r0,hr⟩:=az hr;obtain⟨⟨cs0,hs0,o1⟩,r1,hr⟩:=az hr;simp only[Runs,ai]at hr;obtain⟨rfl,rfl,rfl⟩:=hr;obtain⟨l0,p1,p2,p3,p4,⟨cc,rfl⟩,p5⟩:=vQ h r0;obtain⟨l,bss,m1,m2,m3,m4,m5,m6,m7,m8,m9,m10,m11⟩:=vP h h2 r1
   have hu:=(gD (.one _ _ h1)).1
   refine⟨l0++l,l0.flatMap (gq κ ft)::bss,by rw[ni,p1,m1];rfl,by rw[nh,p2,m2],fun x hx=>(aM.1 hx).elim (p3 x) (m3 x),by simp[m4],by simp[m5],by simp[m6],by simp[m7],fun j c v bj a1 a2 a3=>?_,fun j d' b' c a1 a2=>?_,fun _=>by simp[ownL,ownC],fun hq=>by simp[kI]at hq⟩
   ·cases j with
    |zero=>simp at a1 a2 a3;subst a1;subst a2;subst a3;rw[hu];exact p5
    |succ j=>exact m8 j c v bj (by simpa using a1) (by simpa using a2) (by simpa using a3)
   ·cases j with
    |zero=>
     simp only[aZ,am,ai]at a1 a2;obtain⟨rfl,rfl⟩:=a1;rw[←a2,hu,p4]
    |succ j=>exact m9 j d' b' c (by simpa using a1) (by simpa using a2)
  ·rename_i hq;cases hq;exact plain hr
theorem abq{v v':AV}(h:iy v=some v'):eH v'=false:=by
 cases v with
 |one c=>
  simp only[iy,ar]at h;obtain⟨c',h1,rfl⟩:=h;show ownC c'=false;unfold jt at h1;split at h1<;>first|(cases h1;rfl)|cases h1
 |agg cs=>
  simp only[iy,ar]at h;obtain⟨c',h1,rfl⟩:=h;rfl
 |undef=>cases h
 |tup=>cases h
 |ob=>cases h
theorem abr{v v':AV}{u:Value}(hk:iy v=some v')(hu:AVr κ H v u):ArgW H w v' u []:=by
 have:=dO hk hu;cases v' with
 |one c=>cases this with|one _ _ h=>exact .one h
 |undef=>exact⟨this,rfl⟩
 |agg=>exact⟨this,rfl⟩
 |tup=>exact⟨this,rfl⟩
 |ob=>exact⟨this,rfl⟩
theorem age(h:WRf X κ H s a w ft){v a':AV}{u:Value}{hs:List Hm}{os:List (Nat×Nat)}(hv:AVr κ H v u)(hr:Runs P G s (aeG M v) (a',hs,os)):
 ∃l:List It,itB l=hs.flatMap hmB∧itO l=os∧(∀x∈l,okI κ s x)∧ArgW H w a' u (l.flatMap (gq κ ft))∧((eH a'=false∧hs=[])∨(eH a'=true∧∃hm,hs=[hm]∧HmOk κ hm u)):=by
 have plain:∀{a' hs os},Runs P G s (match iy v with|some v=>(.ret (v,[],[]):Rd (AV×List Hm×List (Nat×Nat)))|none=>.none) (a',hs,os)→∃l:List It,itB l=hs.flatMap hmB∧itO l=os∧(∀x∈l,okI κ s x)∧ArgW H w a' u (l.flatMap (gq κ ft))∧((eH a'=false∧hs=[])∨(eH a'=true∧∃hm,hs=[hm]∧HmOk κ hm u)):=by
  intro a' hs os hr;split at hr
  ·rename_i v' hk;simp only[Runs,ai]at hr;obtain⟨rfl,rfl,rfl⟩:=hr;exact⟨[],rfl,rfl,by simp,abr hk hv,.inl ⟨abq hk,rfl⟩⟩
  ·exact hr.elim
 unfold aeG at hr;split at hr
 ·rename_i d g;obtain⟨⟨c,b,o0⟩,r0,hr⟩:=az hr;simp only[Runs,ai]at hr;obtain⟨rfl,rfl,rfl⟩:=hr;obtain⟨l,p1,p2,p3,p4,⟨cc,rfl⟩,p5⟩:=vQ h r0;have hu:=(gD hv).1;rw[←hu]at p5;exact⟨l,by rw[p1];rfl,p2,p3,p5,.inr ⟨rfl,_,rfl,by rw[hu,←p4];rfl⟩⟩
 ·rename_i d g n;obtain⟨⟨c,o0⟩,r0,hr⟩:=az hr;simp only[Runs,ai]at hr;obtain⟨rfl,rfl,rfl⟩:=hr;have hvv:=hv;cases hvv with|one _ _ hc=>
  obtain⟨l,p1,p2,p3,p4⟩:=rm h hc r0;have hown:ownC c=true∧κ.nr d=g+1:=by
   unfold oY at r0;simp only at r0;obtain⟨cc,hcc,r0⟩:=az r0;refine⟨?_,(h.at_ hcc).2.1⟩;split at r0
   ·simp only[Runs,ai]at r0;rw[←r0.1];rfl
   ·simp only[Runs,ai]at r0;rw[←r0.1];rfl
   ·exact r0.elim
  exact⟨l,by rw[p1];rfl,p2,p3,p4,.inr ⟨hown.1,_,rfl,hown.2,(eU hv).2.1.symm⟩⟩
 ·rename_i d g;obtain⟨⟨c,o0⟩,r0,hr⟩:=az hr;simp only[Runs,ai]at hr;obtain⟨rfl,rfl,rfl⟩:=hr;have hvv:=hv;cases hvv with|one _ _ hc=>
  obtain⟨l,p1,p2,p3,p4⟩:=rm h hc r0;have hown:ownC c=true∧κ.nr d=g+1:=by
   unfold oY at r0;simp only at r0;obtain⟨cc,hcc,r0⟩:=az r0;refine⟨?_,(h.at_ hcc).2.1⟩;split at r0
   ·simp only[Runs,ai]at r0;rw[←r0.1];rfl
   ·simp only[Runs,ai]at r0;rw[←r0.1];rfl
   ·exact r0.elim
  exact⟨l,by rw[p1];rfl,p2,p3,p4,.inr ⟨hown.1,_,rfl,hown.2,(io hv).2.1.symm⟩⟩
 ·rename_i d g;obtain⟨⟨c,o0⟩,r0,hr⟩:=az hr;simp only[Runs,ai]at hr;obtain⟨rfl,rfl,rfl⟩:=hr;have hvv:=hv;cases hvv with|one _ _ hc=>
  obtain⟨l,p1,p2,p3,p4⟩:=rm h hc r0;have hown:ownC c=true∧κ.nr d=g+1:=by
   unfold oY at r0;simp only at r0;obtain⟨cc,hcc,r0⟩:=az r0;refine⟨?_,(h.at_ hcc).2.1⟩;split at r0
   ·simp only[Runs,ai]at r0;rw[←r0.1];rfl
   ·exact r0.elim
  exact⟨l,by rw[p1];rfl,p2,p3,p4,.inr ⟨hown.1,_,rfl,hown.2,(oS hv).2.1.symm⟩⟩
 ·rename_i f cs;obtain⟨⟨cs0,hs0,o0⟩,r0,hr⟩:=az hr;cases hv with|one _ _ hc=>
  cases hc with
  |clo _ _ us hl hrr=>
   obtain⟨l,bss,m1,m2,m3,m4,m5,m6,m7,m8,m9,m10,m11⟩:=vP h (us:=us) ⟨hl,hrr⟩ r0;have htr:=TrR.clo (H:=H) (w:=w) f cs0 us bss m5.symm (m6.trans m5.symm) m8;rw[m4]at htr;simp only at hr;split at hr
   ·rename_i hi;simp only[Runs,ai]at hr;obtain⟨rfl,rfl,rfl⟩:=hr;exact⟨l,by simpa [hmB]using m1,m2,m3,htr,.inr ⟨m10 hi,_,rfl,us,rfl,m7,m9⟩⟩
   ·rename_i hi;simp only[Runs,ai]at hr;obtain⟨rfl,rfl,rfl⟩:=hr;have hnil:hs0.filterMap id=[]:=by
     clear m1 m7 m9 m10 m11 r0
     induction hs0 with
     |nil=>rfl
     |cons x l ih=>
      cases x with
      |none=>simpa [kI]using ih hi
      |some y=>simp[kI]at hi
    exact⟨l,by rw[m1,hnil];rfl,m2,m3,htr,.inl ⟨m11 hi,rfl⟩⟩
 ·exact plain hr
theorem td(h:WRf X κ H s a w ft):∀{vs Qa:List AV} {us:List Value} {hs:List Hm} {os:List (Nat×Nat)},us.length=vs.length→(∀(j:Nat) (v:AV) (u:Value),vs[j]?=some v→us[j]?=some u→AVr κ H v u)→Runs P G s (qv M vs) (Qa,hs,os)→
 ∃(l:List It) (bss:List (List Nat)) (us':List Value),itB l=hs.flatMap hmB∧itO l=os∧(∀x∈l,okI κ s x)∧bss.flatten=l.flatMap (gq κ ft)∧ky H w Qa us bss∧us'.length=hs.length∧(∀(i:Nat) (hm:Hm) (u:Value),hs[i]?=some hm→us'[i]?=some u→HmOk κ hm u)∧
  ∀H' w' cs bo,fi H' w' Qa us cs bo→cs.length=hs.length∧bo.length=hs.length∧∀(i:Nat) (c:AC) (u:Value) (b:List Nat),cs[i]?=some c→us'[i]?=some u→bo[i]?=some b→TrR H' w' c u b
 | [],Qa,us,hs,os,hl,_,hr=>by
  simp only[qv,Runs,ai]at hr;obtain⟨rfl,rfl,rfl⟩:=hr;rw[aK hl];refine⟨[],[],[],rfl,rfl,by simp,rfl,trivial,rfl,by simp,fun H' w' cs bo ho=>?_⟩;cases cs with
  |nil=>cases bo with|nil=>simp|cons=>exact ho.elim
  |cons=>cases bo<;>exact ho.elim
 |v::vs,Qa,[],hs,os,hl,_,hr=>by simp at hl
 |v::vs,Qa,u::us,hs,os,hl,hv,hr=>by
  unfold qv at hr;obtain⟨⟨a',h0,o0⟩,r0,hr⟩:=az hr;obtain⟨⟨as',hs',o1⟩,r1,hr⟩:=az hr;simp only[Runs,ai]at hr;obtain⟨rfl,rfl,rfl⟩:=hr;obtain⟨l0,p1,p2,p3,p4,p5⟩:=age h (hv 0 v u rfl rfl) r0
  obtain⟨l,bss,us',m1,m2,m3,m4,m5,m6,m7,m8⟩:=td h (us:=us) (by simpa using hl) (fun j v u a1 a2=>hv (j+1) v u (by simpa using a1) (by simpa using a2)) r1;rcases p5 with⟨q1,rfl⟩|⟨q1,hm,rfl,q2⟩
  ·refine⟨l0++l,l0.flatMap (gq κ ft)::bss,us',by rw[ni,p1,m1];simp,by rw[nh,p2,m2],fun x hx=>(aM.1 hx).elim (p3 x) (m3 x),by simp[m4],⟨p4,m5⟩,m6,m7,fun H' w' cs bo ho=>?_⟩
   have:(eH a'=false∧fi H' w' as' us cs bo)∨(eH a'=true∧∃c cs' b bs',cs=c::cs'∧bo=b::bs'∧TrR H' w' c u b∧fi H' w' as' us cs' bs'):=by
    cases cs<;>cases bo<;>exact ho
   rcases this with⟨-,ho⟩|⟨hq,-⟩
   ·exact m8 H' w' cs bo ho
   ·rw[q1]at hq;cases hq
  ·refine⟨l0++l,l0.flatMap (gq κ ft)::bss,u::us',by rw[ni,p1,m1];simp,by rw[nh,p2,m2],fun x hx=>(aM.1 hx).elim (p3 x) (m3 x),by simp[m4],⟨p4,m5⟩,by simp[m6],fun i hm' u' a1 a2=>?_,fun H' w' cs bo ho=>?_⟩
   ·cases i with
    |zero=>simp at a1 a2;subst a1;subst a2;exact q2
    |succ i=>exact m7 i hm' u' (by simpa using a1) (by simpa using a2)
   ·have:(eH a'=false∧fi H' w' as' us cs bo)∨(eH a'=true∧∃c cs' b bs',cs=c::cs'∧bo=b::bs'∧TrR H' w' c u b∧fi H' w' as' us cs' bs'):=by
     cases cs<;>cases bo<;>exact ho
    rcases this with⟨hq,-⟩|⟨-,c,cs',b,bs',rfl,rfl,ht,ho⟩
    ·rw[q1]at hq;cases hq
    ·obtain⟨k1,k2,k3⟩:=m8 H' w' cs' bs' ho;refine⟨by simp[k1],by simp[k2],fun i c' u' b' a1 a2 a3=>?_⟩;cases i with
     |zero=>simp at a1 a2 a3;subst a1;subst a2;subst a3;exact ht
     |succ i=>exact k3 i c' u' b' (by simpa using a1) (by simpa using a2) (by simpa using a3)
end
structure Fr0(X:Ctx)(κ:Con)(s:St)(w:World)(ft:Nat→List Nat)(k:Nat):Prop where
 lt:k<w.heap.size
 pr:¬X.Pr k
 box:∀d b,find d s.boxes=some b→κ.blk d b.gen≠k
 tail:∀d p,find d s.perms=some p→p.live=true→(κ.row d p.gen).ownBlock≠some k
 ob:∀x,k∉ft x
section
variable{P:Program}{T:Tab}{J:Kn}{M:Md}{G:Nat→Option (List AC)}{X:Ctx}{κ:Con}{H:Fz}{s:St}{a:Act}{w:World}{ft:Nat→List Nat}
theorem Free.fr0{k:Nat}(h:Free X κ H s w ft k):Fr0 X κ s w ft k:=⟨h.lt,h.pr,h.box,h.tail,h.ob⟩
theorem Fr0.free{k:Nat}(h:Fr0 X κ s w ft k)(hf:∀i,H k i=none):Free X κ H s w ft k:=⟨h.lt,hf,h.pr,h.box,h.tail,h.ob⟩
theorem adJ(h:FzOk H w){r:Nat}{es:Array MapEntry}{n:Nat}(hr:w.heap[r]?=some (.map es n))(i:Nat):H r i=none:=by
 cases hv:H r i with
 |none=>rfl
 |some v=>have:=h r i v hv;simp[World.cell?,hr]at this
theorem RowO.fz{u:Value}{e sz:Nat}{xs:List (List AC)}{bs:List Nat}(h:RowO H w u e sz xs bs):∀k∈bs,∀i,H k i=none:=by
 obtain⟨-,⟨-,-,rfl⟩|⟨b,cap,cur,-,-,-,-,-,h6,-,rfl⟩⟩:=h
 ·simp
 ·intro k hk;obtain rfl:=ax.1 hk;exact h6
theorem MapO.fz(hf:FzOk H w){u z:Value}{ks:List Value}{vs:List MV}{bs:List Nat}(h:MapO H w u z ks vs bs):∀k∈bs,∀i,H k i=none:=by
 obtain⟨r,es,-,rfl,-,h2,-⟩:=h;intro k hk;obtain rfl:=ax.1 hk;exact adJ hf h2
theorem nP.fz(hf:FzOk H w){u z:Value}{e sz:Nat}{ks:List Value}{yss:List (List (List AC))}{bs:List Nat}(h:nP H w u z e sz ks yss none bs):∀k∈bs,∀i,H k i=none:=by
 obtain⟨r,es,bss,-,-,h2,h3,h4,h5,h6,rfl⟩:=h;intro k hk;rcases aV.1 hk with rfl|hk
 ·exact adJ hf h2
 ·obtain⟨bj,hbj,hk⟩:=dM.1 hk;obtain⟨j,hj⟩:=bT.1 hbj;have hlt:j<bss.length:=(aq.1 hj).1;have h1:=aE (xs:=es) (i:=j) (by omega);have h2:=ad (l:=ks) (i:=j) (by omega)
  have h3:=ad (l:=yss) (i:=j) (by omega);exact RowO.fz (h6 j _ _ _ bj h1 h2 h3 hj).2.2 k hk
theorem TrR.fz(hf:FzOk H w){c:AC}{u:Value}{bs:List Nat}(h:TrR H w c u bs):∀k∈bs,∀i,H k i=none:=by
 have lst:∀{cs:List AC} {us:List Value} {bss:List (List Nat)},us.length=cs.length→bss.length=cs.length→(∀(j:Nat) (c:AC) (u:Value) (bj:List Nat),cs[j]?=some c→us[j]?=some u→bss[j]?=some bj→∀k∈bj,∀i,H k i=none)→∀k∈bss.flatten,∀i,H k i=none:=by
  intro cs us bss hl hl2 ih k hk;obtain⟨bj,hbj,hk⟩:=dM.1 hk;obtain⟨j,hj⟩:=bT.1 hbj;have hlt:j<bss.length:=(aq.1 hj).1
  exact ih j _ _ bj (ad (l:=cs) (i:=j) (by omega)) (ad (l:=us) (i:=j) (by omega)) hj k hk
 induction h with
 |pers c u h=>simp
 |own e sz xs u bs h=>exact h.fz
 |uf n p u bs h=>obtain⟨l,-,-,h⟩:=h;exact h.fz
 |bld l s u bs h=>
  obtain⟨k,-,-,h3,⟨-,rfl⟩|⟨-,p,v,bs',-,-,a3,rfl⟩⟩:=h
  ·intro x hx;obtain rfl:=ax.1 hx;exact h3
  ·intro x hx;rcases aV.1 hx with rfl|hx
   ·exact h3
   ·exact a3.fz x hx
 |omap z ks vs u bs h=>exact h.fz hf
 |omrow z e sz ks yss u bs h=>exact h.fz hf
 |obox ty cs b us bss hb hw hl hl2 h ih=>
  intro k hk;rcases aV.1 hk with rfl|hk
  ·exact hb
  ·exact lst hl hl2 ih k hk
 |clo f cs us bss hl hl2 h ih=>exact lst hl hl2 ih
theorem TrR.oneCell{c:AC}{u:Value}{bs:List Nat}(h:TrR H w c u bs):u.oneCell'=true:=by
 cases h with
 |pers _ _ h=>exact h.oneCell
 |own _ _ _ _ _ h=>
  obtain⟨-,⟨rfl,-⟩|⟨b,cap,cur,rfl,-⟩⟩:=h<;>rfl
 |omap _ _ _ _ _ h=>obtain⟨r,es,rfl,-⟩:=h;rfl
 |uf _ _ _ _ h=>
  obtain⟨l,-,-,h⟩:=h;obtain⟨-,⟨rfl,-⟩|⟨b,cap,cur,rfl,-⟩⟩:=h<;>rfl
 |omrow _ _ _ _ _ _ _ h=>obtain⟨r,es,bss,rfl,-⟩:=h;rfl
 |bld _ _ _ _ h=>obtain⟨k,rfl,-⟩:=h;rfl
 |obox=>rfl
 |clo=>rfl
theorem WRf.goneL:∀{os:List (Nat×Nat)} {s:St} {ft:Nat→List Nat},WRf X κ H s a w ft→(∀x∈os,x.2<κ.nr x.1)→
 ∃ft',WRf X κ H (s.writes (V.goneL os)) a w ft'∧(∀k,Fr0 X κ s w ft k→Fr0 X κ (s.writes (V.goneL os)) w ft' k)∧∀x∈os,∀k∈ft x.1,Fr0 X κ (s.writes (V.goneL os)) w ft' k
 | [],s,ft,h,_=>⟨ft,h,fun _ hk=>hk,by simp⟩
 |(d,g)::os,s,ft,h,hg=>by
  obtain⟨h1,h2⟩:=h.gone (d:=d) (g:=g) (hg (d,g) (aI ..));obtain⟨ft',k1,k2,k3⟩:=WRf.goneL (os:=os) h1 fun x hx=>hg x (aD _ hx);refine⟨ft',k1,fun k hk=>k2 k ⟨hk.lt,hk.pr,hk.box,hk.tail,fun x hx=>?_⟩,fun x hx k hk=>?_⟩
  ·by_cases hxd:x=d
   ·subst hxd;rw[cQ]at hx;cases hx
   ·rw[dy _ _ hxd]at hx;exact hk.ob x hx
  ·by_cases hxd:x.1=d
   ·rw[hxd]at hk;exact k2 k (h2 k hk).fr0
   ·rcases aV.1 hx with rfl|hx
    ·exact absurd rfl hxd
    ·exact k3 x hx k (by rw[dy _ _ hxd];exact hk)
theorem Rel.boxes2{H':Fz}{w':World}{bs:List (Nat×Box)}(h:Rel X κ H s a w)(hbs:∀d b',find d bs=some b'→∃b,find d s.boxes=some b∧b.gen=b'.gen∧gO κ H' w' (κ.blk d b.gen) b'.ty b'.cells)
 (hno:∀d,find d bs=none→find d s.boxes=none) (hle:Fz.le H H') (hfz:FzOk H' w')
 (hpr:∀k,X.Pr k→w'.heap[k]?=w.heap[k]? ∧H' k=H k)
 (htl:∀d p k,find d s.perms=some p→p.live=true→(κ.row d p.gen).ownBlock=some k→w'.heap[k]?=w.heap[k]? ∧H' k=H k)
 (hg:w.heap.size≤w'.heap.size) (hos:w'.os=w.os) (htape:w'.tape=w.tape) (hout:w'.output=w.output):Rel X κ H' ⟨s.tmps,bs,s.perms⟩ a w' where
 size:=h.size
 tmps:=fun t v e=>(h.tmps t v e).mono (Con.le_refl κ) hle
 defers:=h.defers
 fz:=hfz
 hk:=fun b hb=>(hpr b hb).2.trans (h.hk b hb)
 h0:=Fz.le_trans h.h0 hle
 box:=fun d b' e=>by
  obtain⟨b,h1,h2,h3⟩:=hbs d b' e;have:=(h.box d b h1).1;rw[←h2];exact⟨this,h3⟩
 nobox:=fun d e=>h.nobox d (hno d e)
 args:=fun d b hd e=>by
  obtain⟨b',h1,h2,_⟩:=hbs d b e;rw[←h2];exact h.args d b' hd h1
 perm:=fun d p e=>by
  obtain⟨h1,h2⟩:=h.perm d p e;exact⟨h1,fun l=>(h2 l).kept fun k hq=>htl d p k e l hq⟩
 noperm:=h.noperm
 bb:=fun d d' b b' e e' hq=>by
  obtain⟨c,h1,h2,_⟩:=hbs d b e;obtain⟨c',h1',h2',_⟩:=hbs d' b' e';exact h.bb d d' c c' h1 h1' (by rw[h2,h2'];exact hq)
 rr:=h.rr
 br:=fun d d' b p e e' l=>by
  obtain⟨c,h1,h2,_⟩:=hbs d b e;rw[←h2];exact h.br d d' c p h1 e' l
 pb:=fun d b e=>by
  obtain⟨c,h1,h2,_⟩:=hbs d b e;rw[←h2];exact h.pb d c h1
 pr:=h.pr
 keep:=fun b hb=>(hpr b hb).1.trans (h.keep b hb)
 grown:=dR h.grown hg
 os:=hos.trans h.os
 tape:=htape.trans h.tape
 output:=hout.trans h.output
def phC(w:World)(k:Nat):List AC:=match w.heap[k]? with
 |some (.cells us _ _)=>List.replicate us.size .any
 |_=>[]
def phW(κ:Con)(w:World):List (Nat×Box)→List Wr
 | []=>[]
 |(d,b)::B=>.box d ⟨b.gen,b.ty,phC w (κ.blk d b.gen)⟩::phW κ w B
theorem kj{d:Nat}:∀{B:List (Nat×Box)},(Loc.box d∈(phW κ w B).map Wr.loc↔d∈B.map (·.1))∧(∀t,Loc.tmp t∉(phW κ w B).map Wr.loc)∧∀t,Loc.perm t∉(phW κ w B).map Wr.loc
 | []=>by simp[phW]
 |(d',b)::B=>by
  obtain⟨h1,h2,h3⟩:=kj (d:=d) (B:=B);refine⟨?_,fun t=>?_,fun t=>?_⟩
  ·simp only[phW,bE,aV,h1,Wr.loc];constructor
   ·rintro(h|h)
    ·cases h;exact .inl rfl
    ·exact .inr h
   ·rintro(h|h)
    ·subst h;exact .inl rfl
    ·exact .inr h
  ·have:=h2 t;simp only[phW,bE,aV,Wr.loc,not_or];exact⟨by simp,this⟩
  ·have:=h3 t;simp only[phW,bE,aV,Wr.loc,not_or];exact⟨by simp,this⟩
theorem yL:∀{B:List (Nat×Box)} {s:St} {x:Nat×Box},(B.map (·.1)).Nodup→x∈B→find x.1 (s.writes (phW κ w B)).boxes=some ⟨x.2.gen,x.2.ty,phC w (κ.blk x.1 x.2.gen)⟩
 |(d,b)::B,s,x,hn,hx=>by
  rw[bE,bF]at hn;rcases aV.1 hx with rfl|hx
  ·have:=cS (l:=.box d) (ws:=phW κ w B) (fun h=>hn.1 (kj.1.1 h)) (s.write (.box d ⟨b.gen,b.ty,phC w (κ.blk d b.gen)⟩));refine Eq.trans this ?_;simp[St.write,cD]
  ·exact yL (B:=B) (s:=s.write (.box d ⟨b.gen,b.ty,phC w (κ.blk d b.gen)⟩)) hn.2 hx
theorem WRf.after(h:WRf X κ H s a w ft){B:List (Nat×Box)}(hB:∀x∈B,find x.1 s.boxes=some x.2)(hn:(B.map (·.1)).Nodup){bs:List Nat}(hbs:∀k∈bs,(∃x∈B,k=κ.blk x.1 x.2.gen)∨Fr0 X κ s w ft k){H':Fz}{w':World}
 (hle:Fz.le H H') (hfz:FzOk H' w') (hkeep:∀b,b<w.heap.size→b∉bs→w'.heap[b]?=w.heap[b]? ∧H' b=H b) (hgrown:w.heap.size≤w'.heap.size) (hos:w'.os=w.os) (htape:w'.tape=w.tape) (hout:w'.output=w.output)
 (hin:∀x∈B,∃us:List Value,(∀i,H' (κ.blk x.1 x.2.gen) i=none)∧w'.heap[κ.blk x.1 x.2.gen]?=some (.cells us.toArray x.2.ty (0,0))∧∀u∈us,u.oneCell'=true):
 WRf X κ H' (s.writes (phW κ w' B)) a w' ft∧∀k,(k∈bs∨w.heap.size≤k)→k<w'.heap.size→(∀x∈B,k≠κ.blk x.1 x.2.gen)→Fr0 X κ (s.writes (phW κ w' B)) w' ft k:=by
 have hnot:∀d,d∉B.map (·.1)→find d (s.writes (phW κ w' B)).boxes=find d s.boxes:=fun d hd=>cS (l:=.box d) (fun h=>hd (kj.1.1 h)) s;have hat:∀x∈B,find x.1 (s.writes (phW κ w' B)).boxes=some ⟨x.2.gen,x.2.ty,phC w' (κ.blk x.1 x.2.gen)⟩:=fun x hx=>yL hn hx
 have htm:∀t,find t (s.writes (phW κ w' B)).tmps=find t s.tmps:=fun t=>cS (l:=.tmp t) ((kj (d:=0)).2.1 t) s;have hpm:∀t,find t (s.writes (phW κ w' B)).perms=find t s.perms:=fun t=>cS (l:=.perm t) ((kj (d:=0)).2.2 t) s
 have hgen:∀d b',find d (s.writes (phW κ w' B)).boxes=some b'→∃b,find d s.boxes=some b∧b.gen=b'.gen:=by
  intro d b' e;by_cases hd:d∈B.map (·.1)
  ·obtain⟨x,hx,rfl⟩:=bZ.1 hd;rw[hat x hx]at e;cases e;exact⟨x.2,hB x hx,rfl⟩
  ·rw[hnot d hd]at e;exact⟨b',e,rfl⟩
 have hsafe:∀k,k<w.heap.size→((∃d b,find d s.boxes=some b∧d∉B.map (·.1)∧k=κ.blk d b.gen)∨X.Pr k∨(∃d p,find d s.perms=some p∧p.live=true∧(κ.row d p.gen).ownBlock=some k)∨∃d,k∈ft d)→k∉bs:=by
  intro k hk hc hm;rcases hbs k hm with⟨x,hx,rfl⟩|hf
  ·rcases hc with⟨d,b,e,hd,hq⟩|hc|⟨d,p,e,l,hq⟩|⟨d,hd⟩
   ·exact hd (bZ.2 ⟨x,hx,h.rel.bb x.1 d x.2 b (hB x hx) e hq⟩)
   ·exact h.rel.pb _ _ (hB x hx) hc
   ·exact h.rel.br x.1 d x.2 p (hB x hx) e l hq
   ·exact(h.obs.blk d _ hd).2.2.2.1 x.1 x.2 (hB x hx) rfl
  ·rcases hc with⟨d,b,e,hd,hq⟩|hc|⟨d,p,e,l,hq⟩|⟨d,hd⟩
   ·exact hf.box d b e hq.symm
   ·exact hf.pr hc
   ·exact hf.tail d p e l hq
   ·exact hf.ob d hd
 have hr:Rel X κ H' ⟨s.tmps,(s.writes (phW κ w' B)).boxes,s.perms⟩ a w':=by
  refine h.rel.boxes2 (fun d b' e=>?_) (fun d e=>?_) hle hfz (fun k hk=>?_) (fun d p k e l hq=>?_) hgrown hos htape hout
  ·by_cases hd:d∈B.map (·.1)
   ·obtain⟨x,hx,rfl⟩:=bZ.1 hd;rw[hat x hx]at e;cases e;obtain⟨us,q1,q2,q3⟩:=hin x hx;refine⟨x.2,hB x hx,rfl,q1,us,q2,?_⟩;simp only[phC,q2];refine⟨by simp,fun j c u hc hu=>?_⟩;rw[eI]at hc;split at hc
    ·cases hc;exact .any u (q3 u (bi hu))
    ·cases hc
   ·rw[hnot d hd]at e;have hk:=hkeep _ (h.rel.box_lt e) (hsafe _ (h.rel.box_lt e) (.inl ⟨d,b',e,hd,rfl⟩));exact⟨b',e,rfl,(h.rel.box d b' e).2.kept hk.1 hk.2 (Con.le_refl κ) hle⟩
  ·by_cases hd:d∈B.map (·.1)
   ·obtain⟨x,hx,rfl⟩:=bZ.1 hd;rw[hat x hx]at e;cases e
   ·rw[←hnot d hd];exact e
  ·have:=bd (X.lt k hk) h.rel.grown;exact hkeep k this (hsafe k this (.inr (.inl hk)))
  ·have:=((h.rel.perm d p e).2 l).lt hq;exact hkeep k this (hsafe k this (.inr (.inr (.inl ⟨d,p,e,l,hq⟩))))
 have ho:ObsOk X κ H' ⟨s.tmps,(s.writes (phW κ w' B)).boxes,s.perms⟩ w' ft:=by
  refine h.obs.upd h.rel [] (Con.le_refl κ) hle (fun x _ k hk=>?_) hgrown (fun _ _=>rfl) (fun d b e=>.inl ?_) (fun d p e hl=>.inl ⟨p,e,hl,rfl⟩) (fun _ _=>rfl) (fun x hx=>by cases hx) (fun x hx=>by cases hx) (fun x hx=>by cases hx) (fun x hx=>by cases hx)
  ·have:=(h.obs.blk x k hk).1;exact hkeep k this (hsafe k this (.inr (.inr (.inr ⟨x,hk⟩))))
  ·obtain⟨b0,e0,hg⟩:=hgen d b e;exact⟨b0,e0,by rw[hg]⟩
 refine⟨(WRf.mk hr ho h.n).congr htm (fun _=>rfl) hpm,fun k hk hlt hne=>?_⟩;have hbx:∀d b,find d s.boxes=some b→k∈bs∨w.heap.size≤k→κ.blk d b.gen≠k:=by
  intro d b e hk hq;by_cases hd:d∈B.map (·.1)
  ·obtain⟨x,hx,rfl⟩:=bZ.1 hd;have:=hB x hx;rw[e]at this;cases this;exact hne x hx hq.symm
  ·rcases hk with hk|hk
   ·exact hsafe k (hq▸h.rel.box_lt e) (.inl ⟨d,b,e,hd,hq.symm⟩) hk
   ·have:=h.rel.box_lt e;omega
 refine⟨hlt,fun hp=>?_,fun d b e hq=>?_,fun d p e l hq=>?_,fun x hx=>?_⟩
 ·have:=bd (X.lt k hp) h.rel.grown;rcases hk with hk|hk
  ·exact hsafe k this (.inr (.inl hp)) hk
  ·omega
 ·obtain⟨b0,e0,hg⟩:=hgen d b e;exact hbx d b0 e0 hk (by rw[hg];exact hq)
 ·rw[hpm]at e;have:=((h.rel.perm d p e).2 l).lt hq;rcases hk with hk|hk
  ·exact hsafe k this (.inr (.inr (.inl ⟨d,p,e,l,hq⟩))) hk
  ·omega
 ·have:=(h.obs.blk x k hx).1;rcases hk with hk|hk
  ·exact hsafe k this (.inr (.inr (.inr ⟨x,hx⟩))) hk
  ·omega
end
structure Stp(X:Ctx)(H:Fz)(a:Act)(w:World)(κ:Con)(s:St)(ft:Nat→List Nat)(D B:Nat→Prop)(bs:List Nat)(κ':Con)(s':St)(ft':Nat→List Nat):Prop where
 wrf:WRf X κ' H s' a w ft'
 le:Con.le κ κ'
 nr:∀x,¬D x→κ'.nr x=κ.nr x
 nb:∀x,κ'.nb x=κ.nb x
 bx:∀d,¬B d→find d s'.boxes=find d s.boxes
 fr:∀k,k∉bs→Fr0 X κ s w ft k→Fr0 X κ' s' w ft' k
section
variable{P:Program}{T:Tab}{J:Kn}{M:Md}{G:Nat→Option (List AC)}{X:Ctx}{κ κ0:Con}{H H0:Fz}{s s0:St}{a a0:Act}{w w0:World}{ft:Nat→List Nat}
theorem Stp.refl(h:WRf X κ H s a w ft)(D B:Nat→Prop)(bs:List Nat):Stp X H a w κ s ft D B bs κ s ft:=⟨h,Con.le_refl κ,fun _ _=>rfl,fun _=>rfl,fun _ _=>rfl,fun _ _ h=>h⟩
theorem Stp.trans{κ1 κ2:Con}{s1 s2:St}{f1 f2:Nat→List Nat}{D D1 D2 B B1 B2:Nat→Prop}{bs b1 b2:List Nat}(h:Stp X H a w κ s ft D1 B1 b1 κ1 s1 f1)(k:Stp X H a w κ1 s1 f1 D2 B2 b2 κ2 s2 f2)
 (hD:∀x,D1 x∨D2 x→D x) (hB:∀x,B1 x∨B2 x→B x) (hb:∀x,x∈b1∨x∈b2→x∈bs):Stp X H a w κ s ft D B bs κ2 s2 f2 where
 wrf:=k.wrf
 le:=Con.le_trans h.le k.le
 nr:=fun x hx=>(k.nr x fun e=>hx (hD x (.inr e))).trans (h.nr x fun e=>hx (hD x (.inl e)))
 nb:=fun x=>(k.nb x).trans (h.nb x)
 bx:=fun x hx=>(k.bx x fun e=>hx (hB x (.inr e))).trans (h.bx x fun e=>hx (hB x (.inl e)))
 fr:=fun x hx hf=>k.fr x (fun e=>hx (hb x (.inr e))) (h.fr x (fun e=>hx (hb x (.inl e))) hf)
theorem oz(h:WRf X κ H s a w ft)(d:Nat)(u:Value){c:Ob}{bs:List Nat}(hnd:bs.Nodup)(hf:∀k∈bs,Free X κ H s w ft k)(hc:∀κ',Con.le κ κ'→ObOk κ' H w u c bs):
 ∃ft',Stp X H a w κ s ft (· =d) (fun _=>False) bs (κ.addRow d u) (s.writes [.perm d ⟨κ.nr d,0,0,false⟩,obW d (κ.nr d) c]) ft'∧(κ.addRow d u).row d (κ.nr d)=u∧(κ.addRow d u).nr d=κ.nr d+1:=by
 obtain⟨h1,h2,h3,h4⟩:=h.new d u;have hle:=κ.le_addRow d u;refine⟨_,⟨h.add d u hnd hf (hc _ hle),hle,fun x hx=>by simp[Con.addRow,hx],fun _=>rfl,fun _ _=>rfl,fun k hk hfr=>?_⟩,h3,h2⟩;refine⟨hfr.lt,hfr.pr,fun d' b e=>hfr.box d' b e,fun d' p e hl hq=>?_,fun x hx=>?_⟩
 ·have e:find d' (putB d ⟨κ.nr d,0,0,false⟩ s.perms)=some p:=e;rw[cD]at e;split at e
  ·cases e;cases hl
  ·have:=(h.rel.perm d' p e).1;rw[hle.row d' p.gen (by omega)]at hq;exact hfr.tail d' p e hl hq
 ·by_cases hxd:x=d
  ·subst hxd;rw[cQ]at hx;exact hk hx
  ·rw[dy _ _ hxd,dy _ _ hxd]at hx;exact hfr.ob x hx
theorem aeZ(h:WRf X κ H s a w ft){d g:Nat}{c:Ob}{bs:List Nat}(hg:g<κ.nr d)(hnd:bs.Nodup)(hf:∀k∈bs,Free X κ H s w ft k)(hc:κ.nr d=g+1→ObOk κ H w (κ.row d g) c bs):
 ∃ft',Stp X H a w κ s ft (fun _=>False) (fun _=>False) bs κ (s.write (obW d g c)) ft':=by
 have fr:∀{f:List Nat},(∀k∈f,k∈bs)→∀k,k∉bs→Fr0 X κ s w ft k→Fr0 X κ (s.write (obW d g c)) w (setF ft d f) k:=fun hfb k hk hfr=>⟨hfr.lt,hfr.pr,hfr.box,hfr.tail,fun x hx=>by
  by_cases hxd:x=d
  ·subst hxd;rw[cQ]at hx;exact hk (hfb k hx)
  ·rw[dy _ _ hxd]at hx;exact hfr.ob x hx⟩
 by_cases hn:κ.nr d=g+1
 ·exact⟨_,h.set0 hn hnd hf (hc hn),Con.le_refl κ,fun _ _=>rfl,fun _=>rfl,fun _ _=>rfl,fr fun _ h=>h⟩
 ·refine⟨setF ft d [],⟨h.rel.putOb d g c d,?_,h.n⟩,Con.le_refl κ,fun _ _=>rfl,fun _=>rfl,fun _ _=>rfl,fr fun _ h=>by cases h⟩
  refine h.obs.upd h.rel [d] (Con.le_refl κ) (Fz.le_refl H) (fun _ _ _ _=>⟨rfl,rfl⟩) (au _) (fun x hx=>lN _ _ (by simpa using hx)) (fun d b e=>.inl ⟨b,e,rfl⟩) (fun d p e hl=>.inl ⟨p,e,hl,rfl⟩) (fun x hx=>dy _ _ (by simpa using hx)) ?_ ?_ ?_ ?_
  ·intro x hx;obtain rfl:=ax.1 hx;rw[cQ];simp
  ·intro x hx y hy hne;obtain rfl:=ax.1 hx;obtain rfl:=ax.1 hy;exact absurd rfl hne
  ·intro x hx g' c e;obtain rfl:=ax.1 hx;rw[gE]at e;cases e;exact hg
  ·intro x hx g' c e hq;obtain rfl:=ax.1 hx;rw[gE]at e;cases e;exact absurd hq hn
theorem zQ(h:WRf X κ H s a w ft){d:Nat}{b:Box}{cs:List AC}(hb:find d s.boxes=some b)(hin:gO κ H w (κ.blk d b.gen) b.ty cs):
 Stp X H a w κ s ft (fun _=>False) (· =d) [] κ (s.write (.box d ⟨b.gen,b.ty,cs⟩)) ft:=by
 have hgen:∀d' b',find d' (putB d ⟨b.gen,b.ty,cs⟩ s.boxes)=some b'→∃b0,find d' s.boxes=some b0∧b0.gen=b'.gen∧(d'=d→b'=⟨b.gen,b.ty,cs⟩∧b0=b)∧(d'≠d→b0=b'):=by
  intro d' b' e;rw[cD]at e;split at e
  ·rename_i hd;subst hd;cases e;exact⟨b,hb,rfl,fun _=>⟨rfl,rfl⟩,fun hne=>absurd rfl hne⟩
  ·rename_i hd;exact⟨b',e,rfl,fun e=>absurd e.symm hd,fun _=>rfl⟩
 refine⟨⟨?_,?_,h.n⟩,Con.le_refl κ,fun _ _=>rfl,fun _=>rfl,fun x hx=>?_,fun k _ hf=>⟨hf.lt,hf.pr,fun d' b' e=>?_,hf.tail,hf.ob⟩⟩
 ·refine(h.rel.boxes2 (bs:=putB d ⟨b.gen,b.ty,cs⟩ s.boxes) (fun d' b' e=>?_) (fun d' e=>?_) (Fz.le_refl H) h.rel.fz (fun _ _=>⟨rfl,rfl⟩) (fun _ _ _ _ _ _=>⟨rfl,rfl⟩) (au _) rfl rfl rfl)
  ·obtain⟨b0,e0,hg,h1,h2⟩:=hgen d' b' e;refine⟨b0,e0,hg,?_⟩;by_cases hd:d'=d
   ·obtain⟨rfl,rfl⟩:=h1 hd;subst hd;exact hin
   ·obtain rfl:=h2 hd;exact(h.rel.box d' b0 e0).2
  ·rw[cD]at e;split at e
   ·cases e
   ·exact e
 ·refine h.obs.upd h.rel [] (Con.le_refl κ) (Fz.le_refl H) (fun _ _ _ _=>⟨rfl,rfl⟩) (au _) (fun _ _=>rfl) (fun d' b' e=>.inl ?_) (fun d p e hl=>.inl ⟨p,e,hl,rfl⟩) (fun _ _=>rfl) (fun x hx=>by cases hx) (fun x hx=>by cases hx) (fun x hx=>by cases hx) (fun x hx=>by cases hx)
  obtain⟨b0,e0,hg,-⟩:=hgen d' b' e;exact⟨b0,e0,by rw[hg]⟩
 ·show find x (putB d _ s.boxes)=_;rw[cD,if_neg fun e=>hx e.symm]
 ·obtain⟨b0,e0,hg,-⟩:=hgen d' b' e;rw[←hg];exact hf.box d' b0 e0
theorem abM(h0:Rel X κ0 H0 s0 a0 w0)(h:WRf X κ H s a w ft){nm:Nat}{c c':AC}{ws:List Wr}{u:Value}{bs:List Nat}(hr:Runs P G s0 (unfC nm c) (c',ws))(hnr:κ.nr nm=κ0.nr nm)(ht:TrR H w c u bs)(hnd:bs.Nodup)(hf:∀k∈bs,Fr0 X κ s w ft k):
 ∃κ' ft',Stp X H a w κ s ft (· =nm) (fun _=>False) bs κ' (s.writes ws) ft'∧ACr κ' H c' u:=by
 have hfz:=ht.fz h.rel.fz;have hfree:∀k∈bs,Free X κ H s w ft k:=fun k hk=>(hf k hk).free (hfz k hk);have plain:Runs P G s0 (match jt c with|some c=>(.ret (c,[]):Rd (AC×List Wr))|none=>.none) (c',ws)→∃κ' ft',Stp X H a w κ s ft (· =nm) (fun _=>False) bs κ' (s.writes ws) ft'∧ACr κ' H c' u:=by
  intro hr;split at hr
  ·rename_i c0 hk;simp only[Runs,ai]at hr;obtain⟨rfl,rfl⟩:=hr;refine⟨κ,ft,Stp.refl h _ _ _,?_⟩;cases ht with
   |pers _ _ hc=>exact(fR hk hc).mono (Con.no_le κ) (Fz.le_refl H)
   |own=>cases hk
   |omap=>cases hk
   |omrow=>cases hk
   |uf=>cases hk
   |bld=>cases hk
   |obox=>cases hk
   |clo _ _ us bss hl hl2 hh=>
    rename_i f cs;cases cs with
    |nil=>
     obtain rfl:=aK hl;exact(fR (κ:=Con.no) (H:=H) hk (.clo f [] [] rfl (by simp))).mono (Con.no_le κ) (Fz.le_refl H)
    |cons=>cases hk
  ·exact hr.elim
 unfold unfC at hr;split at hr
 ·rename_i e sz xs;obtain⟨⟨v,ws'⟩,r1,r2⟩:=az hr;have r1:=gK h0 r1;simp only[Runs,ai]at r1;obtain⟨rfl,rfl⟩:=r1;simp only[Runs,ai]at r2;obtain⟨rfl,rfl⟩:=r2;cases ht with
  |pers _ _ hc=>cases hc
  |own _ _ _ _ _ hrow=>
   rw[←hnr];obtain⟨ft',k1,k2,k3⟩:=oz h nm u hnd hfree (c:=.row e sz xs) fun κ' hle=>hrow;refine⟨_,ft',k1,?_⟩;obtain⟨-,⟨rfl,rfl,-⟩|⟨b,cap,cur,rfl,-⟩⟩:=hrow
   ·exact .newRref κ H nm 0 (.inl rfl)
   ·exact .newRref κ H nm _ (.inr ⟨b,rfl⟩)
 ·rename_i z ks vs;obtain⟨⟨v,ws'⟩,r1,r2⟩:=az hr;have r1:=gK h0 r1;simp only[Runs,ai]at r1;obtain⟨rfl,rfl⟩:=r1;simp only[Runs,ai]at r2;obtain⟨rfl,rfl⟩:=r2;cases ht with
  |pers _ _ hc=>cases hc
  |omap _ _ _ _ _ hrow=>
   rw[←hnr];obtain⟨ft',k1,k2,k3⟩:=oz h nm u hnd hfree (c:=.map z ks vs) fun κ' hle=>hrow;refine⟨_,ft',k1,?_⟩;obtain⟨r,es,rfl,-⟩:=hrow;exact .mref nm _ r (by rw[k3];omega) k2
 ·rename_i z e sz ks yss;obtain⟨⟨v,ws'⟩,r1,r2⟩:=az hr;have r1:=gK h0 r1;simp only[Runs,ai]at r1;obtain⟨rfl,rfl⟩:=r1;simp only[Runs,ai]at r2;obtain⟨rfl,rfl⟩:=r2;cases ht with
  |pers _ _ hc=>cases hc
  |omrow _ _ _ _ _ _ _ hrow=>
   rw[←hnr];obtain⟨ft',k1,k2,k3⟩:=oz h nm u hnd hfree (c:=.mrow z e sz ks yss) fun κ' hle=>hrow;refine⟨_,ft',k1,?_⟩;obtain⟨r,es,bss,rfl,-⟩:=hrow;exact .mref nm _ r (by rw[k3];omega) k2
 ·rename_i n p;obtain⟨⟨v,ws'⟩,r1,r2⟩:=az hr;have r1:=gK h0 r1;simp only[Runs,ai]at r1;obtain⟨rfl,rfl⟩:=r1;simp only[Runs,ai]at r2;obtain⟨rfl,rfl⟩:=r2;cases ht with
  |pers _ _ hc=>cases hc
  |uf _ _ _ _ hrow=>
   rw[←hnr];obtain⟨ft',k1,k2,k3⟩:=oz h nm u hnd hfree (c:=.uf n p) fun κ' hle=>hrow;refine⟨_,ft',k1,?_⟩;obtain⟨l,rfl,-,hrow⟩:=hrow;have hl:(l.map fun i=>[AC.v (.int .i64 i)]).length=l.length:=by simp
   rw[←hl];obtain⟨-,⟨rfl,he,-⟩|⟨b,cap,cur,rfl,-⟩⟩:=hrow
   ·rw[he];exact .newRref κ H nm 0 (.inl rfl)
   ·exact .newRref κ H nm _ (.inr ⟨b,rfl⟩)
 ·exact hr.elim
 ·exact hr.elim
 ·exact plain hr
theorem Stp.fr'{κ':Con}{s':St}{ft':Nat→List Nat}{D B:Nat→Prop}{bs:List Nat}(h:Stp X H a w κ s ft D B bs κ' s' ft'){l:List Nat}(hl:∀k∈l,Fr0 X κ s w ft k)(hd:∀k∈l,k∉bs):∀k∈l,Fr0 X κ' s' w ft' k:=fun k hk=>h.fr k (hd k hk) (hl k hk)
theorem uN(h0:Rel X κ0 H0 s0 a0 w0){d:Nat}:∀{cs cs':List AC} {k:Nat} {ws:List Wr} {us:List Value} {bss:List (List Nat)} {κ:Con} {s:St} {ft:Nat→List Nat},WRf X κ H s a w ft→Runs P G s0 (unfL d k cs) (cs',ws)→
 (∀j,k≤j→j<k+cs.length→κ.nr (eV d j)=κ0.nr (eV d j))→us.length=cs.length→bss.length=cs.length→(∀(j:Nat) (c:AC) (u:Value) (bj:List Nat),cs[j]?=some c→us[j]?=some u→bss[j]?=some bj→TrR H w c u bj)→bss.flatten.Nodup→(∀k∈bss.flatten,Fr0 X κ s w ft k)→
 ∃κ' ft',Stp X H a w κ s ft (fun x=>∃j,k≤j∧j<k+cs.length∧x=eV d j) (fun _=>False) bss.flatten κ' (s.writes ws) ft'∧Cs κ' H cs' us
 | [],cs',k,ws,us,bss,κ,s,ft,h,hr,_,hl,hl2,_,_,_=>by
  simp only[unfL,Runs,ai]at hr;obtain⟨rfl,rfl⟩:=hr;obtain rfl:=aK hl;exact⟨κ,ft,Stp.refl h _ _ _,.nil⟩
 |c::cs,cs',k,ws,u::us,b::bss,κ,s,ft,h,hr,hnr,hl,hl2,ht,hnd,hf=>by
  unfold unfL at hr;obtain⟨⟨c1,ws1⟩,r1,hr⟩:=az hr;obtain⟨⟨cs2,ws2⟩,r2,hr⟩:=az hr;simp only[Runs,ai]at hr;obtain⟨rfl,rfl⟩:=hr;rw[aO]at hnd hf;obtain⟨n1,n2,n3⟩:=aU.1 hnd
  obtain⟨κ1,f1,k1,k2⟩:=abM h0 h r1 (hnr k (au _) (by simp)) (ht 0 c u b rfl rfl rfl) n1 fun k hk=>hf k (aL _ hk)
  obtain⟨κ2,f2,m1,m2⟩:=uN h0 (us:=us) (bss:=bss) k1.wrf r2 (fun j hj1 hj2=>(k1.nr _ (by unfold eV;omega)).trans (hnr j (by omega) (by simp only[aT];omega))) (by simpa using hl) (by simpa using hl2)
   (fun j c u bj a1 a2 a3=>ht (j+1) c u bj (by simpa using a1) (by simpa using a2) (by simpa using a3)) n2 (k1.fr' (fun k hk=>hf k (aQ _ hk)) fun k hk hkb=>n3 k hkb k hk rfl)
  refine⟨κ2,f2,?_,.cons (k2.mono m1.le (Fz.le_refl H)) m2⟩;rw[bQ];refine k1.trans m1 (fun x hx=>?_) (fun x hx=>hx.elim id id) (fun x hx=>by rw[aO];exact aM.2 hx);rcases hx with rfl|⟨j,h1,h2,rfl⟩
  ·exact⟨k,au _,by simp,rfl⟩
  ·exact⟨j,by omega,by simp only[aT];omega,rfl⟩
 |c::cs,cs',k,ws,[],bss,κ,s,ft,h,hr,hnr,hl,hl2,ht,hnd,hf=>by simp at hl
 |c::cs,cs',k,ws,u::us,[],κ,s,ft,h,hr,hnr,hl,hl2,ht,hnd,hf=>by simp at hl2
def gh(l:List (Nat×Box))(x:Nat):Prop:=∃d∈l.map (·.1),∃j,j<64∧x=eV d j
theorem jD{d d' j j':Nat}(h:eV d j=eV d' j')(hj:j<64)(hj':j'<64):d=d'∧j=j':=by
 unfold eV at h;omega
structure BoxesAt(κ0 κ:Con)(s:St)(l:List (Nat×Box)):Prop where
 at_:∀x∈l,∃pl,find x.1 s.boxes=some ⟨x.2.gen,x.2.ty,pl⟩
 blk:∀x∈l,κ.blk x.1 x.2.gen=κ0.blk x.1 x.2.gen
 nr:∀x,gh l x→κ.nr x=κ0.nr x
theorem BoxesAt.sub{l l':List (Nat×Box)}(h:BoxesAt κ0 κ s l)(hl:∀x∈l',x∈l):BoxesAt κ0 κ s l':=
 ⟨fun x hx=>h.at_ x (hl x hx),fun x hx=>h.blk x (hl x hx),fun x ⟨d,hd,j,hj,e⟩=>h.nr x ⟨d,(let⟨y,hy,e⟩:=bZ.1 hd;bZ.2 ⟨y,hl y hy,e⟩),j,hj,e⟩⟩
theorem BoxesAt.step{κ':Con}{s':St}{ft':Nat→List Nat}{D B:Nat→Prop}{bs:List Nat}{l:List (Nat×Box)}(h:BoxesAt κ0 κ s l)(hr:Rel X κ H s a w)(k:Stp X H a w κ s ft D B bs κ' s' ft')(hD:∀x,gh l x→¬D x)(hB:∀x∈l,¬B x.1):BoxesAt κ0 κ' s' l where
 at_:=fun x hx=>let⟨pl,e⟩:=h.at_ x hx;⟨pl,by rw[k.bx _ (hB x hx)];exact e⟩
 blk:=fun x hx=>by
  obtain⟨pl,e⟩:=h.at_ x hx;rw[k.le.blk _ _ (by have:=(hr.box _ _ e).1;simp only at this;omega)];exact h.blk x hx
 nr:=fun x hx=>(k.nr x (hD x hx)).trans (h.nr x hx)
theorem abN(h0:Rel X κ0 H0 s0 a0 w0)(h:WRf X κ H s a w ft){d:Nat}{b:Box}{c:AC}{ws:List Wr}{bs:List Nat}(hr:Runs P G s0 (unfB d b c) ws)(hb:BoxesAt κ0 κ s [(d,b)])(ht:TrR H w c (.pointer (some ⟨κ0.blk d b.gen,0,none⟩)) bs)(hnd:bs.Nodup){Q:Nat→Prop}(hf:∀k∈bs,¬Q k→Fr0 X κ s w ft k)(hq:∀k∈bs,Q k→k=κ0.blk d b.gen):
 ∃κ' ft',Stp X H a w κ s ft (gh [(d,b)]) (· =d) bs κ' (s.writes ws) ft'∧Loc.box d∈ws.map Wr.loc:=by
 rw[uO]at hr;unfold zM at hr;split at hr
 ·rename_i ty cs;split at hr
  ·rename_i hc;simp only[aw]at hc;obtain⟨hty,hlen⟩:=hc;have hty:=aP hty;subst hty;have hlen:cs.length<64:=by simpa [dp]using hlen
   obtain⟨⟨cs',ws'⟩,r1,hr⟩:=az hr;simp only[Runs]at hr;subst hr;generalize hu:Value.pointer (some ⟨κ0.blk d b.gen,0,none⟩)=u at ht;cases ht with
   |pers _ _ hc=>cases hc
   |obox _ _ k us bss h1 h2 h3 h4 h5=>
    cases hu;obtain⟨n1,n2⟩:=bF.1 hnd;obtain⟨κ1,f1,k1,k2⟩:=uN h0 h r1 (fun j _ hj=>hb.nr _ ⟨d,by simp,j,by omega,rfl⟩) h3 h4 h5 n2 fun k hk=>hf k (aD _ hk) fun e=>n1 (hq k (aD _ hk) e▸hk);obtain⟨pl,e⟩:=hb.at_ (d,b) (by simp)
    have e1:find d (s.writes ws').boxes=some ⟨b.gen,b.ty,pl⟩:=(k1.bx d (fun h=>h)).trans e;have hblk:κ1.blk d b.gen=κ0.blk d b.gen:=by
     rw[k1.le.blk _ _ (by have:=(h.rel.box _ _ e).1;simp only at this;omega)];exact hb.blk (d,b) (by simp)
    have k3:=zQ (cs:=cs') k1.wrf e1 (by rw[hblk];exact⟨h1,us,h2,k2⟩);refine⟨κ1,f1,?_,by simp[Wr.loc]⟩;rw[bQ];refine k1.trans k3 (fun x hx=>?_) (fun x hx=>hx.elim False.elim id) (fun x hx=>hx.elim (fun h=>aD _ h) (fun h=>by cases h));rcases hx with⟨j,_,hj,rfl⟩|hx
    ·exact⟨d,by simp,j,by omega,rfl⟩
    ·exact hx.elim
  ·exact hr.elim
 ·exact hr.elim
theorem pL{d k:Nat}{b:Box}{c:AC}{ws:List Wr}{bs:List Nat}(hr:Runs P G s0 (unfB d b c) ws)(ht:TrR H w c (.pointer (some ⟨k,0,none⟩)) bs):k∈bs:=by
 rw[uO]at hr;unfold zM at hr;split at hr
 ·generalize hq:Value.pointer (some ⟨k,0,none⟩)=u at ht;cases ht with
  |pers _ _ hc=>cases hc
  |obox=>cases hq;exact aI ..
 ·exact hr.elim
def HdOk(κ0:Con)(l:List (Nat×Box))(bs:List Nat):Prop:=∀x∈l,κ0.blk x.1 x.2.gen∈bs
theorem lw:∀{hs:List (Option (Nat×Box))} {cs:List AC} {ws:List Wr} {us:List Value} {bss:List (List Nat)},Runs P G s0 (unfK hs cs) ws→us.length=cs.length→bss.length=cs.length→
 (∀(j:Nat) (c:AC) (u:Value) (bj:List Nat),cs[j]?=some c→us[j]?=some u→bss[j]?=some bj→TrR H w c u bj)→(∀(j d:Nat) (b:Box) (c:Value),hs[j]?=some (some (d,b))→us[j]?=some c→c= .pointer (some ⟨κ0.blk d b.gen,0,none⟩))→HdOk κ0 (hs.filterMap id) bss.flatten
 | [],_,ws,us,bss,hr,hl,hl2,ht,hu=>by simp[HdOk]
 |some _::_,[],ws,us,bss,hr,hl,hl2,ht,hu=>by simp only[unfK]at hr;exact hr.elim
 |none::_,[],ws,us,bss,hr,hl,hl2,ht,hu=>by simp only[unfK]at hr;exact hr.elim
 |_::_,c::cs,ws,[],bss,hr,hl,hl2,ht,hu=>by simp at hl
 |_::_,c::cs,ws,u::us,[],hr,hl,hl2,ht,hu=>by simp at hl2
 |none::hs,c::cs,ws,u::us,b::bss,hr,hl,hl2,ht,hu=>by
  unfold unfK at hr;have:=lw (hs:=hs) (cs:=cs) (us:=us) (bss:=bss) hr (by simpa using hl) (by simpa using hl2) (fun j c u bj a1 a2 a3=>ht (j+1) c u bj (by simpa using a1) (by simpa using a2) (by simpa using a3))
   (fun j d b c a1 a2=>hu (j+1) d b c (by simpa using a1) (by simpa using a2))
  intro x hx;rw[aO];exact aQ _ (this x (by simpa using hx))
 |some (d,b)::hs,c::cs,ws,u::us,bj::bss,hr,hl,hl2,ht,hu=>by
  unfold unfK at hr;obtain⟨ws1,r1,hr⟩:=az hr;obtain⟨ws2,r2,hr⟩:=az hr;have:=lw (hs:=hs) (cs:=cs) (us:=us) (bss:=bss) r2 (by simpa using hl) (by simpa using hl2) (fun j c u bj a1 a2 a3=>ht (j+1) c u bj (by simpa using a1) (by simpa using a2) (by simpa using a3))
   (fun j d b c a1 a2=>hu (j+1) d b c (by simpa using a1) (by simpa using a2))
  intro x hx;rw[aO];have ef:(some (d,b)::hs).filterMap id=(d,b)::hs.filterMap id:=rfl;rw[ef]at hx;rcases aV.1 hx with rfl|hx
  ·have ht0:=ht 0 c u bj rfl rfl rfl;rw[hu 0 d b u rfl rfl]at ht0;exact aL _ (pL r1 ht0)
  ·exact aQ _ (this x hx)
theorem zS{Q:Nat→Prop}{l1 l2:List (Nat×Box)}{b1 b2:List Nat}(hq:∀k∈b1++b2,Q k→∃x∈l1++l2,k=κ0.blk x.1 x.2.gen)(h1:HdOk κ0 l1 b1)(h2:HdOk κ0 l2 b2)(hn:(b1++b2).Nodup):
 (∀k∈b1,Q k→∃x∈l1,k=κ0.blk x.1 x.2.gen)∧∀k∈b2,Q k→∃x∈l2,k=κ0.blk x.1 x.2.gen:=by
 obtain⟨-,-,n3⟩:=aU.1 hn;constructor
 ·intro k hk hqk;obtain⟨x,hx,rfl⟩:=hq k (aL _ hk) hqk;rcases aM.1 hx with hx|hx
  ·exact⟨x,hx,rfl⟩
  ·exact absurd rfl (n3 _ hk _ (h2 x hx))
 ·intro k hk hqk;obtain⟨x,hx,rfl⟩:=hq k (aQ _ hk) hqk;rcases aM.1 hx with hx|hx
  ·exact absurd rfl (n3 _ (h1 x hx) _ hk)
  ·exact⟨x,hx,rfl⟩
theorem zw{l1 l2:List (Nat×Box)}{x:Nat}:gh (l1++l2) x↔gh l1 x∨gh l2 x:=by
 unfold gh;constructor
 ·rintro⟨d,hd,j,hj,e⟩;rw[bw]at hd;rcases aM.1 hd with hd|hd
  ·exact .inl ⟨d,hd,j,hj,e⟩
  ·exact .inr ⟨d,hd,j,hj,e⟩
 ·rintro(⟨d,hd,j,hj,e⟩|⟨d,hd,j,hj,e⟩)
  ·exact⟨d,by rw[bw];exact aL _ hd,j,hj,e⟩
  ·exact⟨d,by rw[bw];exact aQ _ hd,j,hj,e⟩
theorem xV{l1 l2:List (Nat×Box)}(hn:((l1++l2).map (·.1)).Nodup){x:Nat}(h1:gh l1 x)(h2:gh l2 x):False:=by
 rw[bw]at hn;obtain⟨-,-,n3⟩:=aU.1 hn;obtain⟨d,hd,j,hj,rfl⟩:=h1;obtain⟨d',hd',j',hj',e⟩:=h2;exact n3 d hd d' hd' (jD e hj hj').1
theorem tU{κ1:Con}{s1:St}{f1:Nat→List Nat}{l1 l2:List (Nat×Box)}{b1 b2:List Nat}{Q:Nat→Prop}(hr:Rel X κ H s a w)(k1:Stp X H a w κ s ft (gh l1) (fun d=>d∈l1.map (·.1)) b1 κ1 s1 f1)(hb:BoxesAt κ0 κ s (l1++l2))(hn:((l1++l2).map (·.1)).Nodup)(hnd:(b1++b2).Nodup)
 (hf:∀k∈b1++b2,¬Q k→Fr0 X κ s w ft k):BoxesAt κ0 κ1 s1 l2∧∀k∈b2,¬Q k→Fr0 X κ1 s1 w f1 k:=by
 refine⟨BoxesAt.step (hb.sub fun x hx=>aQ _ hx) hr k1 (fun x hx h1=>xV hn h1 hx) fun x hx h1=>?_,fun k hk hq=>?_⟩
 ·rw[bw]at hn;exact(aU.1 hn).2.2 _ h1 _ (bZ.2 ⟨x,hx,rfl⟩) rfl
 ·exact k1.fr k (fun h1=>(aU.1 hnd).2.2 k h1 k hk rfl) (hf k (aQ _ hk) hq)
theorem ub{κ1 κ2:Con}{s1 s2:St}{f1 f2:Nat→List Nat}{l1 l2:List (Nat×Box)}{b1 b2:List Nat}(k1:Stp X H a w κ s ft (gh l1) (fun d=>d∈l1.map (·.1)) b1 κ1 s1 f1)(k2:Stp X H a w κ1 s1 f1 (gh l2) (fun d=>d∈l2.map (·.1)) b2 κ2 s2 f2):
 Stp X H a w κ s ft (gh (l1++l2)) (fun d=>d∈(l1++l2).map (·.1)) (b1++b2) κ2 s2 f2:=
 k1.trans k2 (fun x hx=>zw.2 hx) (fun x hx=>by rw[bw];exact aM.2 hx) (fun x hx=>aM.2 hx)
theorem yx(h0:Rel X κ0 H0 s0 a0 w0){Q:Nat→Prop}:∀{hs:List (Option (Nat×Box))} {cs:List AC} {ws:List Wr} {us:List Value} {bss:List (List Nat)} {κ:Con} {s:St} {ft:Nat→List Nat},WRf X κ H s a w ft→Runs P G s0 (unfK hs cs) ws→us.length=cs.length→bss.length=cs.length→
 (∀(j:Nat) (c:AC) (u:Value) (bj:List Nat),cs[j]?=some c→us[j]?=some u→bss[j]?=some bj→TrR H w c u bj)→(∀(j d:Nat) (b:Box) (c:Value),hs[j]?=some (some (d,b))→us[j]?=some c→c= .pointer (some ⟨κ0.blk d b.gen,0,none⟩))→
 BoxesAt κ0 κ s (hs.filterMap id)→((hs.filterMap id).map (·.1)).Nodup→bss.flatten.Nodup→(∀k∈bss.flatten,¬Q k→Fr0 X κ s w ft k)→(∀k∈bss.flatten,Q k→∃x∈hs.filterMap id,k=κ0.blk x.1 x.2.gen)→
 ∃κ' ft',Stp X H a w κ s ft (gh (hs.filterMap id)) (fun d=>d∈(hs.filterMap id).map (·.1)) bss.flatten κ' (s.writes ws) ft'∧∀d∈(hs.filterMap id).map (·.1),Loc.box d∈ws.map Wr.loc
 | [],[],ws,us,bss,κ,s,ft,h,hr,hl,hl2,ht,hu,hb,hn,hnd,hf,hq=>by
  simp only[unfK,Runs]at hr;subst hr;exact⟨κ,ft,Stp.refl h _ _ _,by simp⟩
 | [],_::_,ws,us,bss,κ,s,ft,h,hr,hl,hl2,ht,hu,hb,hn,hnd,hf,hq=>by simp only[unfK]at hr;exact hr.elim
 |some _::_,[],ws,us,bss,κ,s,ft,h,hr,hl,hl2,ht,hu,hb,hn,hnd,hf,hq=>by simp only[unfK]at hr;exact hr.elim
 |none::_,[],ws,us,bss,κ,s,ft,h,hr,hl,hl2,ht,hu,hb,hn,hnd,hf,hq=>by simp only[unfK]at hr;exact hr.elim
 |_::_,c::cs,ws,[],bss,κ,s,ft,h,hr,hl,hl2,ht,hu,hb,hn,hnd,hf,hq=>by simp at hl
 |_::_,c::cs,ws,u::us,[],κ,s,ft,h,hr,hl,hl2,ht,hu,hb,hn,hnd,hf,hq=>by simp at hl2
 |none::hs,c::cs,ws,u::us,b::bss,κ,s,ft,h,hr,hl,hl2,ht,hu,hb,hn,hnd,hf,hq=>by
  unfold unfK at hr;rw[aO]at hnd hf hq;obtain⟨κ1,f1,k1,k2⟩:=yx h0 (hs:=hs) (cs:=cs) (us:=us) (bss:=bss) h hr (by simpa using hl) (by simpa using hl2) (fun j c u bj a1 a2 a3=>ht (j+1) c u bj (by simpa using a1) (by simpa using a2) (by simpa using a3))
   (fun j d b c a1 a2=>hu (j+1) d b c (by simpa using a1) (by simpa using a2)) (by simpa using hb) (by simpa using hn) (aU.1 hnd).2.1 (fun k hk=>hf k (aQ _ hk)) (fun k hk=>by simpa using hq k (aQ _ hk))
  refine⟨κ1,f1,?_,by simpa using k2⟩;exact(k1.trans (Stp.refl k1.wrf (fun _=>False) (fun _=>False) []) (fun x hx=>by simpa using hx) (fun x hx=>by simpa using hx) (fun x hx=>hx.elim (fun h=>by rw[aO];exact aQ _ h) (fun h=>by cases h)))
 |some (d,b)::hs,c::cs,ws,u::us,bj::bss,κ,s,ft,h,hr,hl,hl2,ht,hu,hb,hn,hnd,hf,hq=>by
  unfold unfK at hr;obtain⟨ws1,r1,hr⟩:=az hr;obtain⟨ws2,r2,hr⟩:=az hr;simp only[Runs]at hr;subst hr;have ef:(some (d,b)::hs).filterMap id=[(d,b)]++hs.filterMap id:=rfl;rw[ef]at hb hn hq ⊢;rw[aO]at hnd hf hq ⊢;have hu0:=hu 0 d b u rfl rfl;have ht0:=ht 0 c u bj rfl rfl rfl
  rw[hu0]at ht0;have ht':∀(j:Nat) (c:AC) (u:Value) (bj:List Nat),cs[j]?=some c→us[j]?=some u→bss[j]?=some bj→TrR H w c u bj:=fun j c u bj a1 a2 a3=>ht (j+1) c u bj (by simpa using a1) (by simpa using a2) (by simpa using a3)
  have hu':∀(j d:Nat) (b:Box) (c:Value),hs[j]?=some (some (d,b))→us[j]?=some c→c= .pointer (some ⟨κ0.blk d b.gen,0,none⟩):=fun j d b c a1 a2=>hu (j+1) d b c (by simpa using a1) (by simpa using a2)
  obtain⟨q1,q2⟩:=zS hq (fun x hx=>by obtain rfl:=ax.1 hx;exact pL r1 ht0) (lw (hs:=hs) r2 (by simpa using hl) (by simpa using hl2) ht' hu') hnd
  obtain⟨κ1,f1,k1,k2⟩:=abN h0 h r1 (hb.sub (by simp)) ht0 (aU.1 hnd).1 (fun k hk=>hf k (aL _ hk)) (fun k hk hqk=>by obtain⟨x,hx,rfl⟩:=q1 k hk hqk;obtain rfl:=ax.1 hx;rfl)
  have k1':Stp X H a w κ s ft (gh [(d,b)]) (fun x=>x∈[(d,b)].map (·.1)) bj κ1 (s.writes ws1) f1:={ k1 with bx:=fun x hx=>k1.bx x fun e=>hx (by simp[e])};obtain⟨p1,p2⟩:=tU (l2:=hs.filterMap id) h.rel k1' hb hn hnd hf
  obtain⟨κ2,f2,m1,m2⟩:=yx h0 (hs:=hs) (cs:=cs) (us:=us) (bss:=bss) k1.wrf r2 (by simpa using hl) (by simpa using hl2) ht' hu' p1 (by rw[bw]at hn;exact(aU.1 hn).2.1) (aU.1 hnd).2.1 p2 q2;refine⟨κ2,f2,by rw[bQ];exact ub k1' m1,fun x hx=>?_⟩
  rw[bw]at hx ⊢;rcases aM.1 hx with hx|hx
  ·simp only[bE,fY,ax]at hx;subst hx;exact aL _ k2
  ·exact aQ _ (m2 x hx)
theorem zp{f f':Nat}{cs:List AC}{cu:List Value}{bs:List Nat}(ht:TrR H w (.clo f' cs) (.func (.func f) #[] cu.toArray) bs):∃bss:List (List Nat),bs=bss.flatten∧cu.length=cs.length∧bss.length=cs.length∧
 ∀(j:Nat) (c:AC) (u:Value) (bj:List Nat),cs[j]?=some c→cu[j]?=some u→bss[j]?=some bj→TrR H w c u bj:=by
 generalize hq:Value.func (.func f) #[] cu.toArray=u at ht;cases ht with
 |pers _ _ hc=>
  cases hc with
  |clo _ _ us hl2 hr2=>
   have e:us=cu:=by cases hq;rfl
   subst e;refine⟨List.replicate cs.length [],by simp,hl2,by simp,fun j c u bj a1 a2 a3=>?_⟩;rw[eI]at a3;split at a3
   ·cases a3;exact .pers c u (hr2 j c u a1 a2)
   ·cases a3
 |clo _ _ us bss h1 h2 h3=>
  have e:us=cu:=by cases hq;rfl
  subst e;exact⟨bss,rfl,h1,h2,h3⟩
theorem rE{hm:Hm}{c:AC}{ws:List Wr}{u:Value}{bs:List Nat}(hr:Runs P G s0 (unfH hm c) ws)(hu:HmOk κ0 hm u)(ht:TrR H w c u bs):HdOk κ0 (hmB hm) bs:=by
 unfold unfH at hr;split at hr
 ·simp[HdOk,hmB]
 ·simp[HdOk,hmB]
 ·simp[HdOk,hmB]
 ·simp[HdOk,hmB]
 ·simp[HdOk,hmB]
 ·rename_i d b;obtain rfl:=hu;intro x hx;obtain rfl:=ax.1 hx;exact pL hr ht
 ·rename_i f hs f' cs;split at hr
  ·obtain⟨cu,rfl,hl,hu⟩:=hu;obtain⟨bss,rfl,h1,h2,h3⟩:=zp ht;exact lw hr h1 h2 h3 (fun j d b c a1 a2=>hu j d b c a1 a2)
  ·exact hr.elim
 ·exact hr.elim
theorem agX(h0:Rel X κ0 H0 s0 a0 w0)(h:WRf X κ H s a w ft)(hle:Con.le κ0 κ){hm:Hm}{c:AC}{ws:List Wr}{u:Value}{bs:List Nat}{Q:Nat→Prop}(hr:Runs P G s0 (unfH hm c) ws)(hu:HmOk κ0 hm u)(ht:TrR H w c u bs)(hb:BoxesAt κ0 κ s (hmB hm))(hn:((hmB hm).map (·.1)).Nodup)(hnd:bs.Nodup)
 (hf:∀k∈bs,¬Q k→Fr0 X κ s w ft k) (hq:∀k∈bs,Q k→∃x∈hmB hm,k=κ0.blk x.1 x.2.gen):
 ∃κ' ft',Stp X H a w κ s ft (gh (hmB hm)) (fun d=>d∈(hmB hm).map (·.1)) bs κ' (s.writes ws) ft'∧∀d∈(hmB hm).map (·.1),Loc.box d∈ws.map Wr.loc:=by
 have obj:∀{d g:Nat} {c:Ob},hmB hm=[]→g<κ.nr d→(κ.nr d=g+1→ObOk κ H w (κ.row d g) c bs)→
  ∃κ' ft',Stp X H a w κ s ft (gh (hmB hm)) (fun d=>d∈(hmB hm).map (·.1)) bs κ' (s.writes [obW d g c]) ft'∧∀d'∈(hmB hm).map (·.1),Loc.box d'∈[obW d g c].map Wr.loc:=by
  intro d g c he hg hc;rw[he]at hq ⊢;obtain⟨ft',k⟩:=aeZ h hg hnd (fun k hk=>(hf k hk fun e=>by obtain⟨x,hx,-⟩:=hq k hk e;cases hx).free (ht.fz h.rel.fz k hk)) hc
  exact⟨κ,ft',k.trans (Stp.refl k.wrf (fun _=>False) (fun _=>False) []) (fun x hx=>by simpa using hx) (fun x hx=>by simpa using hx) (fun x hx=>by simpa using hx),by simp⟩
 unfold unfH at hr;split at hr
 ·rename_i d g e sz xs;simp only[Runs]at hr;subst hr;obtain⟨hn',rfl⟩:=hu;have h1:=hle.nr d;refine obj rfl (by omega) fun _=>?_;rw[hle.row d g (by omega)];cases ht with
  |pers _ _ hc=>cases hc
  |own _ _ _ _ _ hrow=>exact hrow
 ·rename_i d g z ks vs;simp only[Runs]at hr;subst hr;obtain⟨hn',rfl⟩:=hu;have h1:=hle.nr d;refine obj rfl (by omega) fun _=>?_;rw[hle.row d g (by omega)];cases ht with
  |pers _ _ hc=>cases hc
  |omap _ _ _ _ _ hrow=>exact hrow
 ·rename_i d g z e sz ks yss;simp only[Runs]at hr;subst hr;obtain⟨hn',rfl⟩:=hu;have h1:=hle.nr d;refine obj rfl (by omega) fun _=>?_;rw[hle.row d g (by omega)];cases ht with
  |pers _ _ hc=>cases hc
  |omrow _ _ _ _ _ _ _ hrow=>exact hrow
 ·rename_i d g n p;simp only[Runs]at hr;subst hr;obtain⟨hn',rfl⟩:=hu;have h1:=hle.nr d;refine obj rfl (by omega) fun _=>?_;rw[hle.row d g (by omega)];cases ht with
  |pers _ _ hc=>cases hc
  |uf _ _ _ _ hrow=>exact hrow
 ·rename_i d g n p;simp only[Runs]at hr;subst hr;obtain⟨hn',rfl⟩:=hu;have h1:=hle.nr d;refine obj rfl (by omega) fun _=>?_;rw[hle.row d g (by omega)];cases ht with
  |pers _ _ hc=>cases hc
  |bld _ _ _ _ hrow=>exact hrow
 ·rename_i d b;obtain rfl:=hu;obtain⟨κ1,f1,k1,k2⟩:=abN h0 h hr hb ht hnd hf (fun k hk hqk=>by obtain⟨x,hx,rfl⟩:=hq k hk hqk;obtain rfl:=ax.1 hx;rfl);exact⟨κ1,f1,{ k1 with bx:=fun x hx=>k1.bx x fun e=>hx (by simp[hmB,e])},fun x hx=>by
   simp only[hmB,bE,fY,ax]at hx;subst hx;exact k2⟩
 ·rename_i f hs f' cs;split at hr
  ·obtain⟨cu,rfl,hl,hu⟩:=hu;obtain⟨bss,rfl,h1,h2,h3⟩:=zp ht;exact yx h0 h hr h1 h2 h3 (fun j d b c a1 a2=>hu j d b c a1 a2) hb hn hnd hf hq
  ·exact hr.elim
 ·exact hr.elim
theorem lF:∀{hs:List Hm} {cs:List AC} {ws:List Wr} {us:List Value} {bo:List (List Nat)},Runs P G s0 (iF hs cs) ws→us.length=hs.length→bo.length=hs.length→
 (∀(i:Nat) (hm:Hm) (u:Value),hs[i]?=some hm→us[i]?=some u→HmOk κ0 hm u)→(∀(i:Nat) (c:AC) (u:Value) (b:List Nat),cs[i]?=some c→us[i]?=some u→bo[i]?=some b→TrR H w c u b)→HdOk κ0 (hs.flatMap hmB) bo.flatten
 | [],cs,ws,us,bo,hr,hl,hl2,hu,ht=>by simp[HdOk]
 |_::_,[],ws,us,bo,hr,hl,hl2,hu,ht=>by simp only[iF]at hr;exact hr.elim
 |_::_,c::cs,ws,[],bo,hr,hl,hl2,hu,ht=>by simp at hl
 |_::_,c::cs,ws,u::us,[],hr,hl,hl2,hu,ht=>by simp at hl2
 |hm::hs,c::cs,ws,u::us,b::bo,hr,hl,hl2,hu,ht=>by
  unfold iF at hr;obtain⟨ws1,r1,hr⟩:=az hr;obtain⟨ws2,r2,hr⟩:=az hr
  have:=lF (hs:=hs) (us:=us) (bo:=bo) r2 (by simpa using hl) (by simpa using hl2) (fun i hm u a1 a2=>hu (i+1) hm u (by simpa using a1) (by simpa using a2)) (fun i c u b a1 a2 a3=>ht (i+1) c u b (by simpa using a1) (by simpa using a2) (by simpa using a3));intro x hx;rw[de]at hx
  rw[aO];rcases aM.1 hx with hx|hx
  ·exact aL _ (rE r1 (hu 0 hm u rfl rfl) (ht 0 c u b rfl rfl rfl) x hx)
  ·exact aQ _ (this x hx)
theorem xd(h0:Rel X κ0 H0 s0 a0 w0){Q:Nat→Prop}:∀{hs:List Hm} {cs:List AC} {ws:List Wr} {us:List Value} {bo:List (List Nat)} {κ:Con} {s:St} {ft:Nat→List Nat},WRf X κ H s a w ft→Con.le κ0 κ→Runs P G s0 (iF hs cs) ws→us.length=hs.length→bo.length=hs.length→
 (∀(i:Nat) (hm:Hm) (u:Value),hs[i]?=some hm→us[i]?=some u→HmOk κ0 hm u)→(∀(i:Nat) (c:AC) (u:Value) (b:List Nat),cs[i]?=some c→us[i]?=some u→bo[i]?=some b→TrR H w c u b)→
 BoxesAt κ0 κ s (hs.flatMap hmB)→((hs.flatMap hmB).map (·.1)).Nodup→bo.flatten.Nodup→(∀k∈bo.flatten,¬Q k→Fr0 X κ s w ft k)→(∀k∈bo.flatten,Q k→∃x∈hs.flatMap hmB,k=κ0.blk x.1 x.2.gen)→
 ∃κ' ft',Stp X H a w κ s ft (gh (hs.flatMap hmB)) (fun d=>d∈(hs.flatMap hmB).map (·.1)) bo.flatten κ' (s.writes ws) ft'∧∀d∈(hs.flatMap hmB).map (·.1),Loc.box d∈ws.map Wr.loc
 | [],[],ws,us,bo,κ,s,ft,h,hle,hr,hl,hl2,hu,ht,hb,hn,hnd,hf,hq=>by
  simp only[iF,Runs]at hr;subst hr;exact⟨κ,ft,Stp.refl h _ _ _,by simp⟩
 | [],_::_,ws,us,bo,κ,s,ft,h,hle,hr,hl,hl2,hu,ht,hb,hn,hnd,hf,hq=>by simp only[iF]at hr;exact hr.elim
 |_::_,[],ws,us,bo,κ,s,ft,h,hle,hr,hl,hl2,hu,ht,hb,hn,hnd,hf,hq=>by simp only[iF]at hr;exact hr.elim
 |_::_,c::cs,ws,[],bo,κ,s,ft,h,hle,hr,hl,hl2,hu,ht,hb,hn,hnd,hf,hq=>by simp at hl
 |_::_,c::cs,ws,u::us,[],κ,s,ft,h,hle,hr,hl,hl2,hu,ht,hb,hn,hnd,hf,hq=>by simp at hl2
 |hm::hs,c::cs,ws,u::us,b::bo,κ,s,ft,h,hle,hr,hl,hl2,hu,ht,hb,hn,hnd,hf,hq=>by
  unfold iF at hr;obtain⟨ws1,r1,hr⟩:=az hr;obtain⟨ws2,r2,hr⟩:=az hr;simp only[Runs]at hr;subst hr;rw[de]at hb hn hq ⊢;rw[aO]at hnd hf hq ⊢
  have hu':∀(i:Nat) (hm:Hm) (u:Value),hs[i]?=some hm→us[i]?=some u→HmOk κ0 hm u:=fun i hm u a1 a2=>hu (i+1) hm u (by simpa using a1) (by simpa using a2)
  have ht':∀(i:Nat) (c:AC) (u:Value) (b:List Nat),cs[i]?=some c→us[i]?=some u→bo[i]?=some b→TrR H w c u b:=fun i c u b a1 a2 a3=>ht (i+1) c u b (by simpa using a1) (by simpa using a2) (by simpa using a3);have hu0:=hu 0 hm u rfl rfl;have ht0:=ht 0 c u b rfl rfl rfl
  obtain⟨q1,q2⟩:=zS hq (rE r1 hu0 ht0) (lF r2 (by simpa using hl) (by simpa using hl2) hu' ht') hnd
  obtain⟨κ1,f1,k1,k2⟩:=agX h0 h hle r1 hu0 ht0 (hb.sub fun x hx=>aL _ hx) (by rw[bw]at hn;exact(aU.1 hn).1) (aU.1 hnd).1 (fun k hk=>hf k (aL _ hk)) q1;obtain⟨p1,p2⟩:=tU h.rel k1 hb hn hnd hf
  obtain⟨κ2,f2,m1,m2⟩:=xd h0 k1.wrf (Con.le_trans hle k1.le) r2 (by simpa using hl) (by simpa using hl2) hu' ht' p1 (by rw[bw]at hn;exact(aU.1 hn).2.1) (aU.1 hnd).2.1 p2 q2;refine⟨κ2,f2,by rw[bQ];exact ub k1 m1,fun x hx=>?_⟩
  rw[bw]at hx ⊢;rcases aM.1 hx with hx|hx
  ·exact aL _ (k2 x hx)
  ·exact aQ _ (m2 x hx)
end
section
variable{P:Program}{T:Tab}{J:Kn}{M:Md}{G:Nat→Option (List AC)}{X:Ctx}{κ κ0:Con}{H H0:Fz}{s s0:St}{a a0:Act}{w w0:World}{ft:Nat→List Nat}
theorem ow:∀{rs:List WRes} {us:List Value} {br:List (List Nat)} {vs:List AV},qy rs=some vs→mQ H w rs us br→vs.length=us.length∧∀(j:Nat) (v:AV) (u:Value),vs[j]?=some v→us[j]?=some u→AVr Con.no H v u
 | [],[],[],vs,h,_=>by
  simp only[qy,am]at h;subst h;simp
 |r::rs,u::us,b::br,vs,h,hr=>by
  unfold qy at h;split at h
  ·rename_i hq;cases hq
  ·rename_i v rs' hq;cases hq;split at h
   ·rename_i vs' h1;cases h;obtain⟨k1,k2⟩:=ow h1 hr.2;refine⟨by simp[k1],fun j v u a1 a2=>?_⟩;cases j with
    |zero=>simp at a1 a2;subst a1;subst a2;exact hr.1.1
    |succ j=>exact k2 j v u (by simpa using a1) (by simpa using a2)
   ·cases h
  ·cases h
 | [],_::_,_,vs,h,hr=>by cases hr
 |_::_,[],_,vs,h,hr=>by cases hr
 | [],[],_::_,vs,h,hr=>by cases hr
 |_::_,_::_,[],vs,h,hr=>by cases hr
theorem afd(h0:Rel X κ0 H0 s0 a0 w0)(h:WRf X κ H s a w ft){ok:Bool}{d:Nat}(hnr:κ.nr d=κ0.nr d)(hnb:κ.nb d=κ0.nb d)(hok:ok=true→X.A≤d∧d<2048∧∀j,j<64→κ.nr (eV d j)=κ0.nr (eV d j))
 {rs:List WRes} {us:List Value} {br:List (List Nat)} {vs:List AV} {ws:List Wr} (hr:Runs P G s0 (aco ok d rs) (vs,ws)) (ht:mQ H w rs us br) (hnd:br.flatten.Nodup) (hf:∀k∈br.flatten,Fr0 X κ s w ft k):
 ∃κ',WRel X κ' H (s.writes ws) a w∧vs.length=us.length∧∀(j:Nat) (v:AV) (u:Value),vs[j]?=some v→us[j]?=some u→AVr κ' H v u:=by
 have cons:∀{κ':Con} {v0:AV} {u0:Value} {vs:List AV} {us:List Value},AVr κ' H v0 u0→(vs.length=us.length∧∀(j:Nat) (v:AV) (u:Value),vs[j]?=some v→us[j]?=some u→AVr Con.no H v u)→(v0::vs).length=(u0::us).length∧∀(j:Nat) (v:AV) (u:Value),(v0::vs)[j]?=some v→(u0::us)[j]?=some u→AVr κ' H v u:=by
  intro κ' v0 u0 vs us h1 ⟨h2,h3⟩;refine⟨by simp[h2],fun j v u a1 a2=>?_⟩;cases j with
  |zero=>simp at a1 a2;subst a1;subst a2;exact h1
  |succ j=>exact(h3 j v u (by simpa using a1) (by simpa using a2)).mono (Con.no_le κ') (Fz.le_refl H)
 unfold aco at hr;split at hr
 ·rename_i e sz xs rs';split at hr
  ·rename_i vals hvals;obtain⟨⟨v0,ws0⟩,r1,hr⟩:=az hr;simp only[Runs,ai]at hr;obtain⟨rfl,rfl⟩:=hr;cases us with
   |nil=>cases br<;>exact ht.elim
   |cons u0 us=>
    cases br with
    |nil=>exact ht.elim
    |cons b br=>
     obtain⟨⟨t1,t2,rfl⟩,ht⟩:=ht;have hown:∀k,u0.ownBlock=some k→Fr0 X κ s w ft k:=fun k hk=>hf k (by rw[aO];exact aL _ (by simp[hk]));have hfr:v0= .one (.sl e sz xs (some (d,κ.nr d)))∧ws0=[.perm d ⟨κ.nr d,e,sz,true⟩]:=by
      unfold eO at r1;simp only[Runs]at r1;cases hq:find d s0.perms with
      |none=>
       rw[hq]at r1;simp only[Runs,ai]at r1;rw[hnr,h0.noperm d hq];exact⟨r1.1.symm,r1.2.symm⟩
      |some p=>
       rw[hq]at r1;simp only[Runs,ai]at r1;rw[hnr,(h0.perm d p hq).1];exact⟨r1.1.symm,r1.2.symm⟩
     obtain⟨rfl,rfl⟩:=hfr;obtain⟨k1,k2⟩:=h.rel.addRow (d:=d) t2 (fun d' b e hq=>(hown _ hq).box d' b e rfl) (fun d' p k e l _ hq hk=>(hown _ hk).tail d' p e l hq) (fun k hk=>(hown k hk).pr);have hle:=κ.le_addRow d u0;refine⟨_,⟨k1,⟨ft,?_⟩,h.n⟩,cons (.one _ _ ?_) (ow hvals ht)⟩
     ·refine h.obs.upd h.rel [] hle (Fz.le_refl H) (fun _ _ _ _=>⟨rfl,rfl⟩) (au _) (fun _ _=>rfl) (fun d b e=>.inl ⟨b,e,rfl⟩) (fun d' p e hl=>?_) (fun _ _=>rfl) (fun x hx=>by cases hx) (fun x hx=>by cases hx) (fun x hx=>by cases hx) (fun x hx=>by cases hx)
      have e1:find d' (putB d ⟨κ.nr d,_,sz,true⟩ s.perms)=some p:=e;rw[cD]at e1;split at e1
      ·rename_i hd;subst hd;cases e1;refine .inr fun x k hk hq=>?_;have hq:((κ.addRow d u0).row d (κ.nr d)).ownBlock=some k:=hq;rw[show(κ.addRow d u0).row d (κ.nr d)=u0 by simp[Con.addRow]]at hq;exact(hown k hq).ob x hk
      ·exact .inl ⟨p,e1,hl,by rw[hle.row d' p.gen (by have:=(h.rel.perm d' p e1).1;omega)]⟩
     ·have:=t1.mono (Con.no_le (κ.addRow d u0)) (Fz.le_refl H);cases this with
      |nil _ _ _ A cap _=>exact .nil e sz _ A cap k2
      |sl _ _ _ _ b off cap us hc hs hl hu hr' _=>exact .sl e sz xs _ b off cap us hc hs hl hu hr' k2
  ·exact hr.elim
 ·rename_i e sz xs rs';split at hr
  ·rename_i vals hvals;obtain⟨⟨v0,ws0⟩,r1,hr⟩:=az hr;simp only[Runs,ai]at hr;obtain⟨rfl,rfl⟩:=hr;have r1:=gK h0 r1;simp only[Runs,ai]at r1;obtain⟨rfl,rfl⟩:=r1;cases us with
   |nil=>cases br<;>exact ht.elim
   |cons u0 us=>
    cases br with
    |nil=>exact ht.elim
    |cons b br=>
     obtain⟨hrow,ht⟩:=ht;have hrow:RowO H w u0 e sz xs b:=hrow;rw[aO]at hnd hf;rw[←hnr];obtain⟨ft',k1,k2,k3⟩:=oz h d u0 (aU.1 hnd).1 (fun k hk=>(hf k (aL _ hk)).free (hrow.fz k hk)) (c:=.row e sz xs) fun κ' hle=>hrow
     refine⟨_,k1.wrf.wrel,cons (.one _ _ ?_) (ow hvals ht)⟩;obtain⟨-,⟨rfl,rfl,-⟩|⟨b,cap,cur,rfl,-⟩⟩:=hrow
     ·exact .newRref κ H d 0 (.inl rfl)
     ·exact .newRref κ H d _ (.inr ⟨b,rfl⟩)
  ·exact hr.elim
 ·rename_i ty cs rs';split at hr
  ·rename_i vals hvals hck;simp only[aw]at hck;obtain⟨hA1,hA2,hA3⟩:=hok hck.1;have hlen:cs.length<64:=by simpa [dp]using hck.2
   obtain⟨⟨cs',ws1⟩,r1,hr⟩:=az hr;obtain⟨⟨v0,ws2⟩,r2,hr⟩:=az hr;simp only[Runs,ai]at hr;obtain⟨rfl,rfl⟩:=hr;cases us with
   |nil=>cases br<;>exact ht.elim
   |cons u0 us=>
    cases br with
    |nil=>exact ht.elim
    |cons b br=>
     obtain⟨hbox,ht⟩:=ht;have hbox:TrR H w (.obox ty cs) u0 b:=hbox;rw[aO]at hnd hf;cases hbox with
     |pers _ _ hc=>cases hc
     |obox _ _ k us bss h1 h2 h3 h4 h5=>
      have hnd1:=(aU.1 hnd).1;obtain⟨n1,n2⟩:=bF.1 hnd1;obtain⟨κ1,f1,k1,k2⟩:=uN h0 h r1 (fun j _ hj=>hA3 j (by omega)) h3 h4 h5 n2 fun k hk=>hf k (aL _ (aD _ hk));have hfr:=k1.fr k n1 (hf k (aL _ (aI ..)))
      have hnb1:κ1.nb d=κ0.nb d:=(k1.nb d).trans hnb;have hbx:v0= .one (.ptr d (κ1.nb d) 0)∧ws2=[.box d ⟨κ1.nb d,ty,cs'⟩]:=by
       unfold lb at r2;simp only[Runs]at r2;cases hq:find d s0.boxes with
       |none=>
        rw[hq]at r2;simp only[Runs,ai]at r2;rw[hnb1,h0.nobox d hq];exact⟨r2.1.symm,r2.2.symm⟩
       |some p=>
        rw[hq]at r2;simp only[Runs,ai]at r2;rw[hnb1,(h0.box d p hq).1];exact⟨r2.1.symm,r2.2.symm⟩
      obtain⟨rfl,rfl⟩:=hbx;obtain⟨m1,m2⟩:=k1.wrf.rel.addBox (d:=d) (ty:=ty) (b0:=k) (cells:=cs') ⟨h1,us,h2,k2⟩ hfr.box hfr.tail hfr.pr ⟨hA1,hA2⟩;have hle:=κ1.le_addBox d k;refine⟨κ1.addBox d k,?_,cons (.one _ _ m2) (ow hvals ht)⟩;rw[bQ];refine⟨m1,⟨f1,?_⟩,h.n⟩
      refine k1.wrf.obs.upd k1.wrf.rel [] hle (Fz.le_refl H) (fun _ _ _ _=>⟨rfl,rfl⟩) (au _) (fun _ _=>rfl) (fun d' b e=>?_) (fun d' p e hl=>.inl ⟨p,e,hl,rfl⟩) (fun _ _=>rfl) (fun x hx=>by cases hx) (fun x hx=>by cases hx) (fun x hx=>by cases hx) (fun x hx=>by cases hx)
      have e1:find d' (putB d ⟨κ1.nb d,ty,cs'⟩ (s.writes ws1).boxes)=some b:=e;rw[cD]at e1;split at e1
      ·rename_i hd;subst hd;cases e1;refine .inr fun x hx=>?_;have hx:(κ1.addBox d k).blk d (κ1.nb d)∈f1 x:=hx;rw[show(κ1.addBox d k).blk d (κ1.nb d)=k by simp[Con.addBox]]at hx;exact hfr.ob x hx
      ·exact .inl ⟨b,e1,by rw[hle.blk d' b.gen (by have:=(k1.wrf.rel.box d' b e1).1;omega)]⟩
  ·exact hr.elim
 ·split at hr
  ·rename_i vals hvals;simp only[Runs,ai]at hr;obtain⟨rfl,rfl⟩:=hr;obtain⟨k1,k2⟩:=ow hvals ht;exact⟨κ,h.wrel,k1,fun j v u a1 a2=>(k2 j v u a1 a2).mono (Con.no_le κ) (Fz.le_refl H)⟩
  ·exact hr.elim
theorem yc{d:Nat}:∀{ws:List Wr} {s s':St},Loc.box d∈ws.map Wr.loc→dC (.box d) (s.writes ws) (s'.writes ws)
 |x::ws,s,s',h=>by
  by_cases h1:Loc.box d∈ws.map Wr.loc
  ·exact yc (ws:=ws) (s:=s.write x) (s':=s'.write x) h1
  ·rw[bE,aV]at h;refine dC.writes ws (s:=s.write x) (s':=s'.write x) ?_;rcases h with h|h
   ·cases x with
    |box d' b=>simp only[Wr.loc,Loc.box.injEq]at h;subst h;simp[dC,St.write,cD]
    |tmp=>cases h
    |perm=>cases h
    |drop=>cases h
   ·exact absurd h h1
theorem qG:∀(os:List (Nat×Nat)) (s:St),(s.writes (V.goneL os)).boxes=s.boxes
 | [],_=>rfl
 |(d,g)::os,s=>qG os (s.write (obW d g .gone))
theorem oU{b:Nat}{o:Obj}(h:w.heap[b]?=some o):b<w.heap.size:=(ay.1 h).1
theorem RowO.lt{u:Value}{e sz:Nat}{xs:List (List AC)}{bs:List Nat}(h:RowO H w u e sz xs bs):∀k∈bs,k<w.heap.size:=by
 obtain⟨-,⟨-,-,rfl⟩|⟨b,cap,cur,-,h2,-,-,-,h6,-,rfl⟩⟩:=h
 ·simp
 ·intro k hk;obtain rfl:=ax.1 hk;exact oU h2
theorem TrR.lt{c:AC}{u:Value}{bs:List Nat}(h:TrR H w c u bs):∀k∈bs,k<w.heap.size:=by
 have lst:∀{cs:List AC} {us:List Value} {bss:List (List Nat)},us.length=cs.length→bss.length=cs.length→(∀(j:Nat) (c:AC) (u:Value) (bj:List Nat),cs[j]?=some c→us[j]?=some u→bss[j]?=some bj→∀k∈bj,k<w.heap.size)→∀k∈bss.flatten,k<w.heap.size:=by
  intro cs us bss hl hl2 ih k hk;obtain⟨bj,hbj,hk⟩:=dM.1 hk;obtain⟨j,hj⟩:=bT.1 hbj;have hlt:j<bss.length:=(aq.1 hj).1
  exact ih j _ _ bj (ad (l:=cs) (i:=j) (by omega)) (ad (l:=us) (i:=j) (by omega)) hj k hk
 induction h with
 |pers c u h=>simp
 |own e sz xs u bs h=>exact h.lt
 |uf n p u bs h=>obtain⟨l,-,-,h⟩:=h;exact h.lt
 |bld l s u bs h=>
  obtain⟨k,-,h2,-,⟨-,rfl⟩|⟨-,p,v,bs',-,-,a3,rfl⟩⟩:=h
  ·intro x hx;obtain rfl:=ax.1 hx;exact h2
  ·intro x hx;rcases aV.1 hx with rfl|hx
   ·exact h2
   ·exact a3.lt x hx
 |omap z ks vs u bs h=>
  obtain⟨r,es,-,rfl,-,h2,-⟩:=h;intro k hk;obtain rfl:=ax.1 hk;exact oU h2
 |omrow z e sz ks yss u bs h=>
  obtain⟨r,es,bss,-,-,h2,h3,h4,h5,h6,rfl⟩:=h;intro k hk;rcases aV.1 hk with rfl|hk
  ·exact oU h2
  ·obtain⟨bj,hbj,hk⟩:=dM.1 hk;obtain⟨j,hj⟩:=bT.1 hbj;have hlt:j<bss.length:=(aq.1 hj).1;have h1:=aE (xs:=es) (i:=j) (by omega);have h2:=ad (l:=ks) (i:=j) (by omega)
   have h3:=ad (l:=yss) (i:=j) (by omega);exact RowO.lt (h6 j _ _ _ bj h1 h2 h3 hj).2.2 k hk
 |obox ty cs b us bss hb hw hl hl2 h ih=>
  intro k hk;rcases aV.1 hk with rfl|hk
  ·exact oU hw
  ·exact lst hl hl2 ih k hk
 |clo f cs us bss hl hl2 h ih=>exact lst hl hl2 ih
theorem wX:∀{rs:List WRes} {us:List Value} {br:List (List Nat)},mQ H w rs us br→∀k∈br.flatten,k<w.heap.size
 | [],[],[],_=>by simp
 |r::rs,u::us,b::br,h=>by
  intro k hk;rw[aO]at hk;rcases aM.1 hk with hk|hk
  ·have h1:=h.1;cases r with
   |val=>rw[h1.2]at hk;cases hk
   |row e sz xs=>
    rw[h1.2.2]at hk;exact h1.2.1.lt (by simpa using hk)
   |own e sz xs=>exact RowO.lt h1 k hk
   |box ty cs=>exact TrR.lt h1 k hk
  ·exact wX h.2 k hk
 | [],_::_,_,h=>by cases h
 |_::_,[],_,h=>by cases h
 | [],[],_::_,h=>by cases h
 |_::_,_::_,[],h=>by cases h
theorem aet:∀{hs:List Hm} {cs:List AC} {ws:List Wr} {us:List Value} {bo:List (List Nat)},Runs P G s0 (iF hs cs) ws→us.length=hs.length→bo.length=hs.length→
 (∀(i:Nat) (hm:Hm) (u:Value),hs[i]?=some hm→us[i]?=some u→HmOk κ0 hm u)→(∀(i:Nat) (c:AC) (u:Value) (b:List Nat),cs[i]?=some c→us[i]?=some u→bo[i]?=some b→TrR H w c u b)→
 ∀x∈hs.flatMap hmB,∃us:List Value,(∀i,H (κ0.blk x.1 x.2.gen) i=none)∧w.heap[κ0.blk x.1 x.2.gen]?=some (.cells us.toArray x.2.ty (0,0))∧∀u∈us,u.oneCell'=true:=by
 have box1:∀{d:Nat} {b:Box} {c:AC} {ws:List Wr} {bs:List Nat},Runs P G s0 (unfB d b c) ws→TrR H w c (.pointer (some ⟨κ0.blk d b.gen,0,none⟩)) bs→∃us:List Value,(∀i,H (κ0.blk d b.gen) i=none)∧w.heap[κ0.blk d b.gen]?=some (.cells us.toArray b.ty (0,0))∧∀u∈us,u.oneCell'=true:=by
  intro d b c ws bs hr ht;rw[uO]at hr;unfold zM at hr;split at hr
  ·rename_i ty cs;split at hr
   ·rename_i hc;simp only[aw]at hc;obtain rfl:=aP hc.1;generalize hq:Value.pointer (some ⟨κ0.blk d b.gen,0,none⟩)=u at ht;cases ht with
    |pers _ _ hc=>cases hc
    |obox _ _ k us bss h1 h2 h3 h4 h5=>
     cases hq;refine⟨us,h1,h2,fun u hu=>?_⟩;obtain⟨j,hj⟩:=bT.1 hu;have hlt:=(aq.1 hj).1;exact(h5 j _ u _ (ad (l:=cs) (i:=j) (by omega)) hj (ad (l:=bss) (i:=j) (by omega))).oneCell
   ·exact hr.elim
  ·exact hr.elim
 have boxK:∀{hs:List (Option (Nat×Box))} {cs:List AC} {ws:List Wr} {us:List Value} {bss:List (List Nat)},Runs P G s0 (unfK hs cs) ws→us.length=cs.length→bss.length=cs.length→
  (∀(j:Nat) (c:AC) (u:Value) (bj:List Nat),cs[j]?=some c→us[j]?=some u→bss[j]?=some bj→TrR H w c u bj)→(∀(j d:Nat) (b:Box) (c:Value),hs[j]?=some (some (d,b))→us[j]?=some c→c= .pointer (some ⟨κ0.blk d b.gen,0,none⟩))→
  ∀x∈hs.filterMap id,∃us:List Value,(∀i,H (κ0.blk x.1 x.2.gen) i=none)∧w.heap[κ0.blk x.1 x.2.gen]?=some (.cells us.toArray x.2.ty (0,0))∧∀u∈us,u.oneCell'=true:=by
  intro hs
  induction hs with
  |nil=>intro cs ws us bss _ _ _ _ _ x hx;simp at hx
  |cons h hs ih=>
   intro cs ws us bss hr hl hl2 ht hu x hx;cases cs with
   |nil=>cases h<;>(simp only[unfK]at hr;exact hr.elim)
   |cons c cs=>
    cases us with
    |nil=>simp at hl
    |cons u us=>
     cases bss with
     |nil=>simp at hl2
     |cons bj bss=>
      have ht':∀(j:Nat) (c:AC) (u:Value) (bj:List Nat),cs[j]?=some c→us[j]?=some u→bss[j]?=some bj→TrR H w c u bj:=fun j c u bj a1 a2 a3=>ht (j+1) c u bj (by simpa using a1) (by simpa using a2) (by simpa using a3)
      have hu':∀(j d:Nat) (b:Box) (c:Value),hs[j]?=some (some (d,b))→us[j]?=some c→c= .pointer (some ⟨κ0.blk d b.gen,0,none⟩):=fun j d b c a1 a2=>hu (j+1) d b c (by simpa using a1) (by simpa using a2);cases h with
      |none=>
       simp only[unfK]at hr;exact ih hr (by simpa using hl) (by simpa using hl2) ht' hu' x (by simpa using hx)
      |some y=>
       obtain⟨d,b⟩:=y;simp only[unfK]at hr;obtain⟨ws1,r1,hr⟩:=az hr;obtain⟨ws2,r2,hr⟩:=az hr;rcases aV.1 hx with rfl|hx
       ·have ht0:=ht 0 c u bj rfl rfl rfl;rw[hu 0 d b u rfl rfl]at ht0;exact box1 r1 ht0
       ·exact ih r2 (by simpa using hl) (by simpa using hl2) ht' hu' x hx
 intro hs
 induction hs with
 |nil=>intro cs ws us bo _ _ _ _ _ x hx;simp at hx
 |cons hm hs ih=>
  intro cs ws us bo hr hl hl2 hu ht x hx;cases cs with
  |nil=>simp only[iF]at hr;exact hr.elim
  |cons c cs=>
   cases us with
   |nil=>simp at hl
   |cons u us=>
    cases bo with
    |nil=>simp at hl2
    |cons b bo=>
     unfold iF at hr;obtain⟨ws1,r1,hr⟩:=az hr;obtain⟨ws2,r2,hr⟩:=az hr;rw[de]at hx;rcases aM.1 hx with hx|hx
     ·have hu0:=hu 0 hm u rfl rfl;have ht0:=ht 0 c u b rfl rfl rfl;unfold unfH at r1;split at r1
      ·simp[hmB]at hx
      ·simp[hmB]at hx
      ·simp[hmB]at hx
      ·simp[hmB]at hx
      ·simp[hmB]at hx
      ·rename_i d b';obtain rfl:=hu0;obtain rfl:=ax.1 hx;exact box1 r1 ht0
      ·split at r1
       ·obtain⟨cu,rfl,hl',hu'⟩:=hu0;obtain⟨bss,rfl,h1,h2,h3⟩:=zp ht0;exact boxK r1 h1 h2 h3 hu' x hx
       ·exact r1.elim
      ·exact r1.elim
     ·exact ih r2 (by simpa using hl) (by simpa using hl2) (fun i hm u a1 a2=>hu (i+1) hm u (by simpa using a1) (by simpa using a2)) (fun i c u b a1 a2 a3=>ht (i+1) c u b (by simpa using a1) (by simpa using a2) (by simpa using a3)) x hx
theorem zA(E:Env P T J)(hG:bK G H)(hWR:WRel X κ H s a w)(hM:X.A≤M.A){o:Oper}{d f:Nat}{vs:List AV}{us:List Value}(hl:us.length=vs.length)(hv:∀(j:Nat) (v:AV) (u:Value),vs[j]?=some v→us[j]?=some u→AVr κ H v u)
 (hrun:∀fn c,P.funcs[f]?=some fn→fn.body=some c→(fn.name== "runtime.NumGoroutine")=false→(execOp a.eval o).run P w= .ok (.enter f us.toArray) w) {v:AV} {ws:List Wr} (hr:Runs P G s (zB J M d f vs) (v,ws)):cm P X κ H s a o v ws w:=by
 obtain⟨ft,h⟩:=hWR.f;unfold zB at hr;split at hr
 ·rename_i hfb;obtain⟨fn,c,hfn,hbody,hname⟩:=E.fbs f hfb;obtain⟨⟨Qa,hs,os⟩,hr1,hr2⟩:=az hr;simp only at hr2;split at hr2
  ·rename_i hck;simp only[aw]at hck;obtain⟨⟨c1,c2⟩,c3⟩:=hck;have hdlt:d<2048:=by simpa [dp]using c3
   rw[pY,oW]at c1 c2;obtain⟨l,bss,us',l1,l2,l3,l4,l5,l6,l7,l8⟩:=td h hl hv hr1;have hB:∀x∈hs.flatMap hmB,find x.1 s.boxes=some x.2:=by
    intro x hx;rw[←l1]at hx;obtain⟨y,hy,hyx⟩:=dq.1 hx;have:=l3 y hy;cases y with
    |inl y=>simp only[Sum.getLeft?_inl,am]at hyx;subst hyx;exact this
    |inr y=>simp at hyx
   have hO:∀x∈os,κ.nr x.1=x.2+1:=by
    intro x hx;rw[←l2]at hx;obtain⟨y,hy,hyx⟩:=dq.1 hx;have:=l3 y hy;cases y with
    |inl y=>simp at hyx
    |inr y=>simp only[Sum.getRight?_inr,am]at hyx;subst hyx;exact this
   have hnd:bss.flatten.Nodup:=by
    rw[l4];exact lI h l3 (by rw[l1];exact c1) (by rw[l2];exact c2)
   obtain⟨rs,cs,hct,hr3⟩:=hr2;intro K Q hn;unfold Oper.wp;rw[hrun fn c hfn hbody hname,Oper.upon_enter];refine hU (hct H w us bss h.rel.fz hG l5 hnd) fun e w' hpost=>?_;obtain⟨rv,H',rfl,hp⟩:=hpost;show K (a.put o.dst rv) w';obtain⟨ws1,hr4,hr3⟩:=az hr3
   obtain⟨⟨vs',ws2⟩,hr5,hr3⟩:=az hr3;simp only[Runs,ai]at hr3;obtain⟨rfl,rfl⟩:=hr3;obtain⟨vsr,bo,br,p1,p2,rfl,p3,p4⟩:=hp.res;obtain⟨m1,m2,m3⟩:=l8 H' w' cs bo p1;obtain⟨ft1,g1,g2,g3⟩:=h.goneL (os:=os) fun x hx=>by rw[hO x hx];omega
   have hbx1:(s.writes (goneL os)).boxes=s.boxes:=qG os s;have hB1:∀x∈hs.flatMap hmB,find x.1 (s.writes (goneL os)).boxes=some x.2:=fun x hx=>by rw[hbx1];exact hB x hx
   have hbs:∀k∈bss.flatten,(∃x∈hs.flatMap hmB,k=κ.blk x.1 x.2.gen)∨Fr0 X κ (s.writes (goneL os)) w ft1 k:=by
    intro k hk;rw[l4]at hk;obtain⟨y,hy,hk⟩:=ei.1 hk;cases y with
    |inl y=>
     left;refine⟨y,?_,ax.1 hk⟩;rw[←l1];exact dq.2 ⟨_,hy,rfl⟩
    |inr y=>
     right;refine g3 y ?_ k hk;rw[←l2];exact dq.2 ⟨_,hy,rfl⟩
   have hin:=aet (κ0:=κ) hr4 (l6.trans rfl) m2 l7 m3;obtain⟨a1,a2⟩:=g1.after hB1 c1 hbs hp.le hp.fz hp.keep hp.grown hp.os hp.tape hp.output hin;have hlt:∀k∈bo.flatten++br.flatten,k<w'.heap.size:=by
    intro k hk;rcases aM.1 hk with hk|hk
    ·obtain⟨b,hb,hk⟩:=dM.1 hk;obtain⟨i,hi⟩:=bT.1 hb;have hil:=(aq.1 hi).1;exact(m3 i _ _ b (ad (l:=cs) (i:=i) (by omega)) (ad (l:=us') (i:=i) (by omega)) hi).lt k hk
    ·exact wX p2 k hk
   have hds:=lF (κ0:=κ) hr4 l6 m2 l7 m3;obtain⟨n1,n2,n3⟩:=aU.1 p3
   have hfo:∀k∈bo.flatten++br.flatten,¬(∃x∈hs.flatMap hmB,k=κ.blk x.1 x.2.gen)→Fr0 X κ ((s.writes (goneL os)).writes (phW κ w' (hs.flatMap hmB))) w' ft1 k:=fun k hk hne=>a2 k (p4 k hk) (hlt k hk) fun x hx e=>hne ⟨x,hx,e⟩
   have hba:BoxesAt κ κ ((s.writes (goneL os)).writes (phW κ w' (hs.flatMap hmB))) (hs.flatMap hmB):=⟨fun x hx=>⟨_,yL c1 hx⟩,fun _ _=>rfl,fun _ _=>rfl⟩
   obtain⟨κ1,f1,k1,k2⟩:=xd (Q:=fun k=>∃x∈hs.flatMap hmB,k=κ.blk x.1 x.2.gen) h.rel a1 (Con.le_refl κ) hr4 l6 m2 l7 m3 hba c1 n1 (fun k hk=>hfo k (aL _ hk)) (fun k _ hq=>hq)
   have hbr:∀k∈br.flatten,Fr0 X κ1 (((s.writes (goneL os)).writes (phW κ w' (hs.flatMap hmB))).writes ws1) w' f1 k:=fun k hk=>k1.fr k (fun e=>n3 k e k hk rfl) (hfo k (aQ _ hk) fun⟨x,hx,e⟩=>n3 _ (hds x hx) k hk e.symm)
   obtain⟨κ2,r1,r2,r3⟩:=afd h.rel k1.wrf (d:=d) (k1.nr d fun⟨d',_,j,_,e⟩=>by unfold eV at e;omega) (k1.nb d) (fun hok=>by
    simp only[aw,dg]at hok;refine⟨dR hM (bB hok.1),hdlt,fun j hj=>k1.nr _ fun⟨d',hd',j',hj',e⟩=>?_⟩;obtain⟨rfl,-⟩:=jD e hj hj';have:=kY.2 (oW _▸hd');rw[this]at hok;cases hok.2) hr5 p2 n2 hbr
   have hfin:WRel X κ2 H' (s.writes (goneL os++ws1++ws2)) a w':=by
    obtain⟨f2,r1⟩:=r1.f;rw[bQ,bQ];refine(r1.congr (fun t=>?_) (fun t=>?_) (fun t=>?_)).wrel
    ·exact((cS (l:=.tmp t) ((kj (d:=0)).2.1 t) _).writes ws1).writes ws2 |>.symm
    ·by_cases ht:t∈(hs.flatMap hmB).map (·.1)
     ·exact((yc (d:=t) (k2 t ht)).writes ws2:dC (.box t) _ _)
     ·exact((cS (l:=.box t) (fun e=>ht (kj.1.1 e)) _).writes ws1).writes ws2 |>.symm
    ·exact((cS (l:=.perm t) ((kj (d:=0)).2.2 t) _).writes ws1).writes ws2 |>.symm
   exact hn κ2 H' w' _ hfin (vf r2.symm r3)
  ·exact hr2.elim
 ·exact hr.elim
end
end
end Go.Proofs.YtgkenhpfiempbaaGreatDoor.V
