/-
  Part M13: F41, F73, F73b, F25, F78, P9, F124, F125, F79, F80, F43, F128, F83, F44, P10. Conditions stand in the theorems.
-/
import Derived.Test.YtgkenhpfiempbaaGreatDoorM12
import Derived.Test.YtgkenhpfiempbaaGreatDoorM10
import Derived.Test.YtgkenhpfiempbaaGreatDoorM09
set_option linter.all false
set_option maxRecDepth 1000000
set_option maxHeartbeats 8000000
namespace Go.Proofs.YtgkenhpfiempbaaGreatDoor.V
open Go Go.Proofs
noncomputable section
theorem nilw{c:AC}{ec:List AC}{rs:List WRes}{outs:List AC}(h:Cw 73 [.one c,.one (.sl 9 1 (([]:List ByteArray).map str) none),.agg ec] rs outs):Cw 73 [.one c,.one (.v (.slice none 0 0)),.agg ec] rs outs:=
 zH (xs':=[.one c,.one (.sl 9 1 [] none),.agg ec]) ⟨⟨rfl,fun _ _ _ _ h=>h⟩,adb,⟨rfl,fun _ _ _ _ h=>h⟩,trivial⟩ h
theorem abI{ds:List DataD}(hd:FineDs ds){k:Nat}(ih:∀j,j<k→WiOk ds j):WrOk ds k:=by
 intro nm e nm' p hf h;cases k with
 |zero=>simp[rA]at h
 |succ k=>
 have ih:∀j,j≤k→WiOk ds j:=fun j hj=>ih j (by omega);obtain⟨kd,a,s,n,kids,alts⟩:=e;have hel:=eR kids;have hkl:=hf.1;unfold rA at h;refine cw { fb:=[3]} Tryz.func41 (by kernel_rfl) ?_;unfold exC;conv=>whnf
 by_cases h1:kd=1
 ·rw[ag h1];conv=>whnf
  rcases getC (x:=s) (l:=nm) with⟨ix,v,q0,q1,q2,q3⟩|⟨q0,q1,q3⟩
  ·refine⟨some ix,q1,?_⟩;conv=>whnf
   refine⟨_,q2,?_⟩;conv=>whnf
   refine⟨aN (by kernel_rfl),?_⟩;by_cases hv:v=0
   ·rw[if_pos ⟨h1,by rw[q3];exact hv⟩]at h;cases h;rw[ag hv];conv=>whnf
    exact⟨rfl,rfl⟩
   ·rw[if_neg (fun h=>hv (by have:=h.2;rw[q3]at this;exact this)),if_neg (by omega)]at h;rw[af hv];conv=>whnf
    refine⟨fun j st=>∃i nm2,i≤kids.length∧j≤k∧jU ds j nm2 kd s i (kids.drop i) alts=some (nm',p)∧st=⟨(42,.one (iv i))::(41,.one (iv (exsC kids).length))::(40,.one (.sl 78 6 (exsC kids) none))::(3,.one (.ref [.v (.int .i64 kd),.v (.int .i64 a),.v (.string s),.v (.int .i64 n),.sl 78 6 (exsC kids) none,.sl 226 9 (cf alts) none] 0))::(0,.one (.ptr 1500 0 0))::sobs nm2,
     [sbox ds],[aS 100097]⟩,
     ⟨k,_,ww [42,41,40,3,0] [1500] [100097] [] rfl,0,nm,aR _,au _,h,rfl⟩,?_⟩
    rintro j st ⟨i,nm2,hi,hj,hq,rfl⟩;conv=>whnf
    cases j with
    |zero=>simp[jU]at hq
    |succ j=>
    by_cases him:i<kids.length
    ·rw[ag (p:=(i:Int)<((exsC kids).length:Int)) (by omega)];rw[aj him]at hq;have eg:=dB (ad him);have hfe:=cP hf.2.2.1 (ad him);generalize kids[i]=e at hq eg hfe;unfold jU at hq;split at hq
     ·rename_i nm3 q hwi;have hwc:=ih j (by omega) _ _ _ _ _ (by split<;>simp) hfe hwi;obtain⟨ek,ea,es,en,ekids,ealts⟩:=e;unfold exC at hwc;conv=>whnf
      refine⟨_,⟨ae _,eg⟩,?_⟩;unfold exC;conv=>whnf
      by_cases h6:kd=6
      ·rw[if_pos (.inl h6)]at hwc;rw[ag h6];conv=>whnf
       refine⟨_,_,hwc,?_⟩;conv=>whnf
       by_cases hq0:0≤q
       ·rw[if_pos hq0]at hq;cases hq;rw[ag hq0];conv=>whnf
        exact⟨rfl,rfl⟩
       ·rw[if_neg hq0]at hq;rw[af hq0];conv=>whnf
        rw[i64s i (by omega)];exact⟨j,_,ah j,ww [42,41,40,3,0] [1500] [100097] [] rfl,i+1,nm3,him,by omega,hq,rfl⟩
      rw[af h6];conv=>whnf
      by_cases h7:kd=7
      ·rw[ag h7];conv=>whnf
       by_cases hi1:i=1
       ·rw[if_pos (.inr ⟨h7,hi1⟩)]at hwc;rw[ag (p:=(i:Int)=1) (by omega)];conv=>whnf
        refine⟨_,_,hwc,?_⟩;conv=>whnf
        by_cases hq0:0≤q
        ·rw[if_pos hq0]at hq;cases hq;rw[ag hq0];conv=>whnf
         exact⟨rfl,rfl⟩
        ·rw[if_neg hq0]at hq;rw[af hq0];conv=>whnf
         rw[i64s i (by omega)];exact⟨j,_,ah j,ww [42,41,40,3,0] [1500] [100097] [] rfl,i+1,nm3,him,by omega,hq,rfl⟩
       ·rw[if_neg (by rintro(h|h);exact h6 h;exact hi1 h.2)]at hwc;rw[af (p:=(i:Int)=1) (by omega)];conv=>whnf
        refine⟨_,_,nilw hwc,?_⟩;conv=>whnf
        by_cases hq0:0≤q
        ·rw[if_pos hq0]at hq;cases hq;rw[ag hq0];conv=>whnf
         exact⟨rfl,rfl⟩
        ·rw[if_neg hq0]at hq;rw[af hq0];conv=>whnf
         rw[i64s i (by omega)];exact⟨j,_,ah j,ww [42,41,40,3,0] [1500] [100097] [] rfl,i+1,nm3,him,by omega,hq,rfl⟩
      ·rw[af h7];rw[if_neg (by rintro(h|h);exact h6 h;exact h7 h.1)]at hwc;conv=>whnf
       refine⟨_,_,nilw hwc,?_⟩;conv=>whnf
       by_cases hq0:0≤q
       ·rw[if_pos hq0]at hq;cases hq;rw[ag hq0];conv=>whnf
        exact⟨rfl,rfl⟩
       ·rw[if_neg hq0]at hq;rw[af hq0];conv=>whnf
        rw[i64s i (by omega)];exact⟨j,_,ah j,ww [42,41,40,3,0] [1500] [100097] [] rfl,i+1,nm3,him,by omega,hq,rfl⟩
     ·cases hq
    ·rw[af (p:=(i:Int)<((exsC kids).length:Int)) (by omega)];rw[ap (by omega)]at hq;unfold jU at hq;conv=>whnf
     refine⟨_,_,wr hd (fun j' hj'=>ih j' (by omega)) hf.2.1 hf.2.2.2 hq,?_⟩;conv=>whnf
     exact⟨rfl,rfl⟩
  ·rw[if_pos ⟨h1,by rw[q3];rfl⟩]at h;cases h;refine⟨none,q1,?_⟩;conv=>whnf
   refine⟨aN (by kernel_rfl),?_⟩;conv=>whnf
   exact⟨rfl,rfl⟩
 ·rw[af h1];rw[if_neg (fun h=>h1 h.1)]at h;conv=>whnf
  by_cases h2:kd=2
  ·rw[if_pos h2]at h;rw[ag h2];conv=>whnf
   cases hc:conN ds s with
   |none=>rw[hc]at h;cases h
   |some r=>
   obtain⟨cn,ok⟩:=r;rw[hc]at h;refine⟨_,_,zW (nm:=nm) hd hc,?_⟩;cases ok with
   |false=>
    cases h;conv=>whnf
    exact⟨rfl,rfl⟩
   |true=>
    simp only at h;conv=>whnf
    refine⟨fun j st=>∃i nm2,i≤kids.length∧j≤k∧jU ds j nm2 kd s i (kids.drop i) alts=some (nm',p)∧st=⟨(42,.one (iv i))::(41,.one (iv (exsC kids).length))::(40,.one (.sl 78 6 (exsC kids) none))::(3,.one (.ref [.v (.int .i64 kd),.v (.int .i64 a),.v (.string s),.v (.int .i64 n),.sl 78 6 (exsC kids) none,.sl 226 9 (cf alts) none] 0))::(0,.one (.ptr 1500 0 0))::sobs nm2,
     [sbox ds],[aS 100097]⟩,
     ⟨k,_,ww [42,41,40,3,0] [1500] [100097] [] rfl,0,nm,aR _,au _,h,rfl⟩,?_⟩
    rintro j st ⟨i,nm2,hi,hj,hq,rfl⟩;conv=>whnf
    cases j with
    |zero=>simp[jU]at hq
    |succ j=>
    by_cases him:i<kids.length
    ·rw[ag (p:=(i:Int)<((exsC kids).length:Int)) (by omega)];rw[aj him]at hq;have eg:=dB (ad him);have hfe:=cP hf.2.2.1 (ad him);generalize kids[i]=e at hq eg hfe;unfold jU at hq;split at hq
     ·rename_i nm3 q hwi;have hwc:=ih j (by omega) _ _ _ _ _ (by split<;>simp) hfe hwi;obtain⟨ek,ea,es,en,ekids,ealts⟩:=e;unfold exC at hwc;conv=>whnf
      refine⟨_,⟨ae _,eg⟩,?_⟩;unfold exC;conv=>whnf
      by_cases h6:kd=6
      ·rw[if_pos (.inl h6)]at hwc;rw[ag h6];conv=>whnf
       refine⟨_,_,hwc,?_⟩;conv=>whnf
       by_cases hq0:0≤q
       ·rw[if_pos hq0]at hq;cases hq;rw[ag hq0];conv=>whnf
        exact⟨rfl,rfl⟩
       ·rw[if_neg hq0]at hq;rw[af hq0];conv=>whnf
        rw[i64s i (by omega)];exact⟨j,_,ah j,ww [42,41,40,3,0] [1500] [100097] [] rfl,i+1,nm3,him,by omega,hq,rfl⟩
      rw[af h6];conv=>whnf
      by_cases h7:kd=7
      ·rw[ag h7];conv=>whnf
       by_cases hi1:i=1
       ·rw[if_pos (.inr ⟨h7,hi1⟩)]at hwc;rw[ag (p:=(i:Int)=1) (by omega)];conv=>whnf
        refine⟨_,_,hwc,?_⟩;conv=>whnf
        by_cases hq0:0≤q
        ·rw[if_pos hq0]at hq;cases hq;rw[ag hq0];conv=>whnf
         exact⟨rfl,rfl⟩
        ·rw[if_neg hq0]at hq;rw[af hq0];conv=>whnf
         rw[i64s i (by omega)];exact⟨j,_,ah j,ww [42,41,40,3,0] [1500] [100097] [] rfl,i+1,nm3,him,by omega,hq,rfl⟩
       ·rw[if_neg (by rintro(h|h);exact h6 h;exact hi1 h.2)]at hwc;rw[af (p:=(i:Int)=1) (by omega)];conv=>whnf
        refine⟨_,_,nilw hwc,?_⟩;conv=>whnf
        by_cases hq0:0≤q
        ·rw[if_pos hq0]at hq;cases hq;rw[ag hq0];conv=>whnf
         exact⟨rfl,rfl⟩
        ·rw[if_neg hq0]at hq;rw[af hq0];conv=>whnf
         rw[i64s i (by omega)];exact⟨j,_,ah j,ww [42,41,40,3,0] [1500] [100097] [] rfl,i+1,nm3,him,by omega,hq,rfl⟩
      ·rw[af h7];rw[if_neg (by rintro(h|h);exact h6 h;exact h7 h.1)]at hwc;conv=>whnf
       refine⟨_,_,nilw hwc,?_⟩;conv=>whnf
       by_cases hq0:0≤q
       ·rw[if_pos hq0]at hq;cases hq;rw[ag hq0];conv=>whnf
        exact⟨rfl,rfl⟩
       ·rw[if_neg hq0]at hq;rw[af hq0];conv=>whnf
        rw[i64s i (by omega)];exact⟨j,_,ah j,ww [42,41,40,3,0] [1500] [100097] [] rfl,i+1,nm3,him,by omega,hq,rfl⟩
     ·cases hq
    ·rw[af (p:=(i:Int)<((exsC kids).length:Int)) (by omega)];rw[ap (by omega)]at hq;unfold jU at hq;conv=>whnf
     refine⟨_,_,wr hd (fun j' hj'=>ih j' (by omega)) hf.2.1 hf.2.2.2 hq,?_⟩;conv=>whnf
     exact⟨rfl,rfl⟩
  ·rw[if_neg h2]at h;rw[af h2];conv=>whnf
   refine⟨fun j st=>∃i nm2,i≤kids.length∧j≤k∧jU ds j nm2 kd s i (kids.drop i) alts=some (nm',p)∧st=⟨(42,.one (iv i))::(41,.one (iv (exsC kids).length))::(40,.one (.sl 78 6 (exsC kids) none))::(3,.one (.ref [.v (.int .i64 kd),.v (.int .i64 a),.v (.string s),.v (.int .i64 n),.sl 78 6 (exsC kids) none,.sl 226 9 (cf alts) none] 0))::(0,.one (.ptr 1500 0 0))::sobs nm2,
    [sbox ds],[aS 100097]⟩,
    ⟨k,_,ww [42,41,40,3,0] [1500] [100097] [] rfl,0,nm,aR _,au _,h,rfl⟩,?_⟩
   rintro j st ⟨i,nm2,hi,hj,hq,rfl⟩;conv=>whnf
   cases j with
   |zero=>simp[jU]at hq
   |succ j=>
   by_cases him:i<kids.length
   ·rw[ag (p:=(i:Int)<((exsC kids).length:Int)) (by omega)];rw[aj him]at hq;have eg:=dB (ad him);have hfe:=cP hf.2.2.1 (ad him);generalize kids[i]=e at hq eg hfe;unfold jU at hq;split at hq
    ·rename_i nm3 q hwi;have hwc:=ih j (by omega) _ _ _ _ _ (by split<;>simp) hfe hwi;obtain⟨ek,ea,es,en,ekids,ealts⟩:=e;unfold exC at hwc;conv=>whnf
     refine⟨_,⟨ae _,eg⟩,?_⟩;unfold exC;conv=>whnf
     by_cases h6:kd=6
     ·rw[if_pos (.inl h6)]at hwc;rw[ag h6];conv=>whnf
      refine⟨_,_,hwc,?_⟩;conv=>whnf
      by_cases hq0:0≤q
      ·rw[if_pos hq0]at hq;cases hq;rw[ag hq0];conv=>whnf
       exact⟨rfl,rfl⟩
      ·rw[if_neg hq0]at hq;rw[af hq0];conv=>whnf
       rw[i64s i (by omega)];exact⟨j,_,ah j,ww [42,41,40,3,0] [1500] [100097] [] rfl,i+1,nm3,him,by omega,hq,rfl⟩
     rw[af h6];conv=>whnf
     by_cases h7:kd=7
     ·rw[ag h7];conv=>whnf
      by_cases hi1:i=1
      ·rw[if_pos (.inr ⟨h7,hi1⟩)]at hwc;rw[ag (p:=(i:Int)=1) (by omega)];conv=>whnf
       refine⟨_,_,hwc,?_⟩;conv=>whnf
       by_cases hq0:0≤q
       ·rw[if_pos hq0]at hq;cases hq;rw[ag hq0];conv=>whnf
        exact⟨rfl,rfl⟩
       ·rw[if_neg hq0]at hq;rw[af hq0];conv=>whnf
        rw[i64s i (by omega)];exact⟨j,_,ah j,ww [42,41,40,3,0] [1500] [100097] [] rfl,i+1,nm3,him,by omega,hq,rfl⟩
      ·rw[if_neg (by rintro(h|h);exact h6 h;exact hi1 h.2)]at hwc;rw[af (p:=(i:Int)=1) (by omega)];conv=>whnf
       refine⟨_,_,nilw hwc,?_⟩;conv=>whnf
       by_cases hq0:0≤q
       ·rw[if_pos hq0]at hq;cases hq;rw[ag hq0];conv=>whnf
        exact⟨rfl,rfl⟩
       ·rw[if_neg hq0]at hq;rw[af hq0];conv=>whnf
        rw[i64s i (by omega)];exact⟨j,_,ah j,ww [42,41,40,3,0] [1500] [100097] [] rfl,i+1,nm3,him,by omega,hq,rfl⟩
     ·rw[af h7];rw[if_neg (by rintro(h|h);exact h6 h;exact h7 h.1)]at hwc;conv=>whnf
      refine⟨_,_,nilw hwc,?_⟩;conv=>whnf
      by_cases hq0:0≤q
      ·rw[if_pos hq0]at hq;cases hq;rw[ag hq0];conv=>whnf
       exact⟨rfl,rfl⟩
      ·rw[if_neg hq0]at hq;rw[af hq0];conv=>whnf
       rw[i64s i (by omega)];exact⟨j,_,ah j,ww [42,41,40,3,0] [1500] [100097] [] rfl,i+1,nm3,him,by omega,hq,rfl⟩
    ·cases hq
   ·rw[af (p:=(i:Int)<((exsC kids).length:Int)) (by omega)];rw[ap (by omega)]at hq;unfold jU at hq;conv=>whnf
    refine⟨_,_,wr hd (fun j' hj'=>ih j' (by omega)) hf.2.1 hf.2.2.2 hq,?_⟩;conv=>whnf
    exact⟨rfl,rfl⟩
theorem lO{x:ByteArray}:∀{ks:List Value},bL (keyS x) ks=none→bL (keyS x) (ks++[keyS x])=some ks.length
 | [],_=>by
  have:kEq (keyS x) (keyS x)=true:=by
   have:=iI x [x];simp only[bE,fY,fidx,if_true]at this;unfold bL at this;split at this
   ·assumption
   ·simp[bL]at this
  simp[bL,this]
 |k::ks,h=>by
  unfold bL at h;split at h
  ·cases h
  ·rename_i hk;rw[fL];unfold bL;rw[hk];simp only;rw[lO (by simpa using h)];simp
theorem aaR{ds:List DataD}{k:Nat}(ih:WrOk ds k){nm nm':Cnt}{names:List ByteArray}{e:Exp}{p:Int}(hn:names.length≤4294967296)(hf:dJ e)(h:mS ds (k+1) nm names e=some (nm',p)):
 Cw 73 [.one (scA ds nm),.one (.sl 9 1 (names.map str) none),.agg (exC e)] [.val (.one (iv p))] [scA ds nm']:=by
 unfold mS at h;split at h
 ·rename_i nm1 h1;split at h
  ·rename_i nmB pp h2;split at h
   ·rename_i nm3 h3;cases h;have hml:(names.map str).length=names.length:=by simp
    have hw:=ih _ _ _ _ hf h2;obtain⟨ek,ea,es,en,ekids,ealts⟩:=e;refine cw { hand:=[4,10]} Tryz.func73 (by kernel_rfl) ?_;unfold exC at hw ⊢;conv=>whnf
    refine⟨fun j st=>∃i nm2,i+j=names.length∧oo 1 (names.drop i) nm2=some nm1∧st=⟨(14,.one (iv i))::(13,.one (iv (names.map str).length))::(12,.one (.sl 9 1 (names.map str) none))::(5,.one (.ptr 5 0 0))::(1,.one (.sl 9 1 (names.map str) none))::(0,.one (.ptr 1500 0 0))::sobs nm2,
     [sbox ds,(5,⟨0,78,[.v (.int .i64 ek),.v (.int .i64 ea),.v (.string es),.v (.int .i64 en),.sl 78 6 (exsC ekids) none,.sl 226 9 (cf ealts) none]⟩)],[aS 100097]⟩,
     ⟨names.length,_,ww [14,13,12,5,1,0] [1500,5] [100097] [] rfl,0,nm,by omega,h1,rfl⟩,?_⟩
    rintro j st ⟨i,nm2,hij,hq,rfl⟩;conv=>whnf
    cases j with
    |succ j=>
     rw[ag (p:=(i:Int)<((names.map str).length:Int)) (by omega)];have him:i<names.length:=by omega
     rw[aj him]at hq;have eg:(names.map str)[i]?=some (str names[i]):=by simp[him]
     generalize names[i]=x at hq eg;unfold oo at hq;split at hq
     ·rename_i nm4 hb4;unfold uF at hb4;split at hb4
      ·rename_i hb;unfold LIM at hb;cases hb4;conv=>whnf
       refine⟨_,⟨ae _,eg⟩,?_⟩;conv=>whnf
       rcases getC (x:=x) (l:=nm2) with⟨ix,v,q0,q1,q2,q3⟩|⟨q0,q1,q3⟩
       ·rw[q3]at hb;simp only[bG]at hb;obtain⟨p1,p2⟩:=pR (y:=v+1) q0;have hixl:ix<(vC nm2).length:=(aq.1 q2).1;refine⟨some ix,q1,?_⟩;conv=>whnf
        refine⟨_,q2,?_⟩;conv=>whnf
        refine⟨some ix,q1,?_⟩;conv=>whnf
        refine⟨_,q2,?_⟩;conv=>whnf
        refine⟨some ix,q1,?_⟩;conv=>whnf
        refine⟨_,q2,?_⟩;conv=>whnf
        refine⟨rfl,?_⟩;conv=>whnf
        refine⟨⟨by omega,by omega⟩,?_⟩;conv=>whnf
        refine⟨by kernel_rfl,?_⟩;conv=>whnf
        rw[i64s i (by omega)];rw[show IntKind.i64.wrap (v+1)=v+1 from i64w (by omega) (by omega)];refine⟨j,_,ah j,ww [14,13,12,5,1,0] [1500,5] [100097] [] rfl,i+1,_,by omega,hq,?_⟩;unfold sobs;rw[q3,bG,p1,p2];rfl
       ·rw[q3]at hb;obtain⟨p1,p2⟩:=pS (y:=0+1) q0;have hkl:(kC nm2).length=(vC nm2).length:=by simp[kC,vC]
        refine⟨none,q1,?_⟩;conv=>whnf
        refine⟨none,q1,?_⟩;conv=>whnf
        refine⟨some (kC nm2).length,lO q1,?_⟩;conv=>whnf
        refine⟨_,by rw[hkl];exact cE,?_⟩;conv=>whnf
        refine⟨rfl,?_⟩;conv=>whnf
        refine⟨⟨by omega,by simp;omega⟩,?_⟩;conv=>whnf
        refine⟨by kernel_rfl,?_⟩;conv=>whnf
        rw[i64s i (by omega)];refine⟨j,_,ah j,ww [14,13,12,5,1,0] [1500,5] [100097] [] rfl,i+1,_,by omega,hq,?_⟩;unfold sobs;rw[q3,ed,p1,p2];have e9:(vC nm2++[mi 0]).set (kC nm2).length (mi (IntKind.i64.wrap (0+1)))=vC nm2++[mi (0+1)]:=by
         rw[hkl,da _ _ (au _),ch,eh,i64w (by omega) (by omega)]
         try rfl
        rw[←e9];rfl
      ·cases hb4
     ·cases hq
    |zero=>
     rw[af (p:=(i:Int)<((names.map str).length:Int)) (by omega)];rw[ap (by omega)]at hq;cases hq;conv=>whnf
     refine⟨_,_,hw,?_⟩;conv=>whnf
     refine⟨fun j st=>∃i nm2,i+j=names.length∧oo (-1) (names.drop i) nm2=some nm'∧st=⟨(34,.one (iv i))::(33,.one (iv (names.map str).length))::(32,.one (.sl 9 1 (names.map str) none))::(9,.one (iv p))::(0,.one (.ptr 1500 0 0))::sobs nm2,
      [sbox ds],[aS 100097]⟩,
      ⟨names.length,_,ww [34,33,32,9,0] [1500] [100097] [] rfl,0,nmB,by omega,h3,rfl⟩,?_⟩
     rintro j st ⟨i,nm2,hij,hq,rfl⟩;conv=>whnf
     cases j with
     |succ j=>
      rw[ag (p:=(i:Int)<((names.map str).length:Int)) (by omega)];have him:i<names.length:=by omega
      rw[aj him]at hq;have eg:(names.map str)[i]?=some (str names[i]):=by simp[him]
      generalize names[i]=x at hq eg;unfold oo at hq;split at hq
      ·rename_i nm4 hb4;unfold uF at hb4;split at hb4
       ·rename_i hb;unfold LIM at hb;cases hb4;conv=>whnf
        refine⟨_,⟨ae _,eg⟩,?_⟩;conv=>whnf
        rcases getC (x:=x) (l:=nm2) with⟨ix,v,q0,q1,q2,q3⟩|⟨q0,q1,q3⟩
        ·rw[q3]at hb;simp only[bG]at hb;obtain⟨p1,p2⟩:=pR (y:=v+ -1) q0;have hixl:ix<(vC nm2).length:=(aq.1 q2).1;refine⟨some ix,q1,?_⟩;conv=>whnf
         refine⟨_,q2,?_⟩;conv=>whnf
         refine⟨some ix,q1,?_⟩;conv=>whnf
         refine⟨_,q2,?_⟩;conv=>whnf
         refine⟨some ix,q1,?_⟩;conv=>whnf
         refine⟨_,q2,?_⟩;conv=>whnf
         refine⟨rfl,?_⟩;conv=>whnf
         refine⟨⟨by omega,by omega⟩,?_⟩;conv=>whnf
         refine⟨by kernel_rfl,?_⟩;conv=>whnf
         rw[i64s i (by omega)];rw[show IntKind.i64.wrap (v-1)=v+ -1 from i64w (by omega) (by omega)];refine⟨j,_,ah j,ww [34,33,32,9,0] [1500] [100097] [] rfl,i+1,_,by omega,hq,?_⟩;unfold sobs;rw[q3,bG,p1,p2];rfl
        ·rw[q3]at hb;obtain⟨p1,p2⟩:=pS (y:=0+ -1) q0;have hkl:(kC nm2).length=(vC nm2).length:=by simp[kC,vC]
         refine⟨none,q1,?_⟩;conv=>whnf
         refine⟨none,q1,?_⟩;conv=>whnf
         refine⟨some (kC nm2).length,lO q1,?_⟩;conv=>whnf
         refine⟨_,by rw[hkl];exact cE,?_⟩;conv=>whnf
         refine⟨rfl,?_⟩;conv=>whnf
         refine⟨⟨by omega,by simp;omega⟩,?_⟩;conv=>whnf
         refine⟨by kernel_rfl,?_⟩;conv=>whnf
         rw[i64s i (by omega)];refine⟨j,_,ah j,ww [34,33,32,9,0] [1500] [100097] [] rfl,i+1,_,by omega,hq,?_⟩;unfold sobs;rw[q3,ed,p1,p2];have e9:(vC nm2++[mi 0]).set (kC nm2).length (mi (IntKind.i64.wrap (0-1)))=vC nm2++[mi (0+ -1)]:=by
          rw[hkl,da _ _ (au _),ch,eh,i64w (by omega) (by omega)]
          try rfl
         rw[←e9];rfl
       ·cases hb4
      ·cases hq
     |zero=>
      rw[af (p:=(i:Int)<((names.map str).length:Int)) (by omega)];rw[ap (by omega)]at hq;cases hq;conv=>whnf
      exact⟨rfl,rfl⟩
   ·cases h
  ·cases h
 ·cases h
theorem wrwi{ds:List DataD}(hd:FineDs ds):∀k,WrOk ds k∧WiOk ds k:=by
 intro k
 induction k using Nat.strongRecOn with
 |_ k ih=>
  refine⟨abI hd fun j hj=>(ih j hj).2,?_⟩;cases k with
  |zero=>
   intro nm names e nm' p _ _ h;unfold mS at h;cases h
  |succ k=>exact fun nm names e nm' p hn hf h=>aaR (ih k (ah k)).1 hn hf h
def wG:List BindD→Cnt→Option (Cnt×Option Int)
 | [],nm=>some (nm,none)
 |b::l,nm=>if 0<(getA b.s nm).getD 0 then some (nm,some b.at_) else match uF 1 b.s nm with
  |some nm1=>wG l nm1
  |none=>none
def pk(ds:List DataD)(k:Nat):List BindD→Cnt→Option (Option Int)
 | [],_=>some none
 |b::l,nm=>match rA ds k nm b.body with
  |some (nm1,p)=>if 0≤p then some (some p) else pk ds k l nm1
  |none=>none
def yD(k:Nat)(p:ProgD):Option (Int×Int):=match zu p.datas with
 |none=>none
 |some (e,q)=>if e≠0 then some (e,q) else match wG p.binds [] with
  |none=>none
  |some (_,some q)=>some (7,q)
  |some (nm,none)=>match pk p.datas k p.binds nm with
   |none=>none
   |some (some q)=>some (7,q)
   |some none=>some (0,0)
theorem abJ{ds:List DataD}(hd:FineDs ds)(k:Nat):WrOk ds k:=(wrwi hd k).1
theorem acg{k:Nat}{p:ProgD}{e q:Int}(hf:FineDs p.datas)(hbl:p.binds.length≤4294967296)(hfb:∀b∈p.binds,dJ b.body)(h:yD k p=some (e,q)):Cw 25 [.agg (oF p)] [.val (.one (iv e)),.val (.one (iv q))] []:=by
 obtain⟨ds,bs⟩:=p;have hml:(bs.map bz).length=bs.length:=by simp
 simp only at hf hbl hfb;unfold yD at h;simp only at h;split at h
 ·cases h
 rename_i e0 q0 h0;have hck:=aej hf h0;refine cw { hand:=[10]} Tryz.func25 (by kernel_rfl) ?_;conv=>whnf
 refine⟨_,_,hck,?_⟩;by_cases he0:e0=0
 case neg=>
  rw[if_pos he0]at h;cases h;conv=>whnf
  rw[af he0];conv=>whnf
  exact⟨rfl,rfl⟩
 rw[if_neg (by simp[he0])]at h;conv=>whnf
 rw[ag he0];conv=>whnf
 generalize h9:wG bs []=r9 at h
 refine⟨fun j st=>∃i nm,i+j=bs.length∧r9=wG (bs.drop i) nm∧st=⟨[(30,.one (iv i)),(29,.one (iv (bs.map bz).length)),(28,.one (.sl 80 8 (bs.map bz) none)),(6,.one (.ptr 26 0 0)),(1,.one (.ptr 1 0 0)),(OB+24,.ob 24 0 (.map kz (kC nm) (vC nm)))],[(26,⟨0,128,[.sl 158 4 (ds.map bS) none,.mref 24 0]⟩),(1,⟨0,60,[.sl 158 4 (ds.map bS) none,.sl 80 8 (bs.map bz) none]⟩)],[aS 24]⟩,
  ⟨bs.length,_,ww [30,29,28,6,1] [26,1] [24] [] rfl,0,[],by omega,h9.symm,rfl⟩,?_⟩
 rintro j st ⟨i,nm,hij,hq,rfl⟩;conv=>whnf
 cases j with
 |zero=>
  rw[af (p:=(i:Int)<((bs.map bz).length:Int)) (by omega)];rw[ap (by omega)]at hq;have hq:r9=some (nm,none):=hq;rw[hq]at h;simp only at h;generalize h8:pk ds k bs nm=r8 at h;conv=>whnf
  refine⟨fun j st=>∃i nm,i+j=bs.length∧r8=pk ds k (bs.drop i) nm∧st=⟨[(60,.one (iv i)),(59,.one (iv (bs.map bz).length)),(58,.one (.sl 80 8 (bs.map bz) none)),(6,.one (.ptr 26 0 0)),(OB+5761,.ob 5761 0 (.map kz (kC nm) (vC nm)))],[(26,⟨0,128,[.sl 158 4 (ds.map bS) none,.mref 5761 0]⟩)],[aS 5761]⟩,
   ⟨bs.length,_,ww [60,59,58,6] [26] [5761] [.box 26 1 5761] rfl,0,nm,by omega,h8.symm,rfl⟩,?_⟩
  rintro j st ⟨i,nm,hij,hq,rfl⟩;conv=>whnf
  cases j with
  |zero=>
   rw[af (p:=(i:Int)<((bs.map bz).length:Int)) (by omega)];rw[ap (by omega)]at hq;have hq:r8=some none:=hq;rw[hq]at h;cases h;conv=>whnf
   exact⟨rfl,rfl⟩
  |succ j=>
   rw[ag (p:=(i:Int)<((bs.map bz).length:Int)) (by omega)];have him:i<bs.length:=by omega
   rw[aj him]at hq;have eg:(bs.map bz)[i]?=some (bz bs[i]):=by simp[him]
   have hfe:=hfb _ (bp him);generalize bs[i]=B at hq eg hfe;unfold pk at hq;split at hq
   ·rename_i nm1 pp hw;have hwc:=abJ hf k nm B.body nm1 pp hfe hw;obtain⟨bn,ba,bk,be,bm,bnn,bl,bq⟩:=B;unfold exC at hwc;conv=>whnf
    refine⟨_,⟨ae _,eg⟩,?_⟩;conv=>whnf
    refine⟨_,_,hwc,?_⟩;conv=>whnf
    by_cases hp0:0≤pp
    ·rw[if_pos hp0]at hq;rw[hq]at h;cases h;rw[ag hp0];conv=>whnf
     exact⟨rfl,rfl⟩
    ·rw[if_neg hp0]at hq;rw[af hp0];conv=>whnf
     rw[i64s i (by omega)];exact⟨j,_,ah j,ww [60,59,58,6] [26] [5761] [] rfl,i+1,nm1,by omega,hq,rfl⟩
   ·rw[hq]at h;cases h
 |succ j=>
  rw[ag (p:=(i:Int)<((bs.map bz).length:Int)) (by omega)];have him:i<bs.length:=by omega
  rw[aj him]at hq;have eg:(bs.map bz)[i]?=some (bz bs[i]):=by simp[him]
  generalize bs[i]=B at hq eg;unfold wG at hq;obtain⟨bn,ba,bk,be,bm,bnn,bl,bq⟩:=B;conv=>whnf
  refine⟨_,⟨ae _,eg⟩,?_⟩;conv=>whnf
  simp only at hq;rcases getC (x:=bn) (l:=nm) with⟨ix,v,q0,q1,q2,q3⟩|⟨q0,q1,q3⟩
  ·rw[q3,bG]at hq;refine⟨some ix,q1,?_⟩;conv=>whnf
   refine⟨_,q2,?_⟩;conv=>whnf
   refine⟨aN (by kernel_rfl),?_⟩;conv=>whnf
   by_cases hv:0<v
   ·rw[if_pos hv]at hq;rw[hq]at h;cases h;rw[ag hv];conv=>whnf
    refine⟨aN (by kernel_rfl),?_⟩;conv=>whnf
    exact⟨rfl,rfl⟩
   ·rw[if_neg hv]at hq;rw[af hv];split at hq
    ·rename_i nm1 hb1;unfold uF at hb1;rw[q3,bG]at hb1;split at hb1
     ·rename_i hb;unfold LIM at hb;cases hb1;obtain⟨p1,p2⟩:=pR (y:=v+1) q0;have hixl:ix<(vC nm).length:=(aq.1 q2).1;conv=>whnf
      refine⟨some ix,q1,?_⟩;conv=>whnf
      refine⟨_,q2,?_⟩;conv=>whnf
      refine⟨some ix,q1,?_⟩;conv=>whnf
      refine⟨_,q2,?_⟩;conv=>whnf
      refine⟨some ix,q1,?_⟩;conv=>whnf
      refine⟨_,q2,?_⟩;conv=>whnf
      refine⟨rfl,?_⟩;conv=>whnf
      refine⟨⟨by omega,by omega⟩,?_⟩;conv=>whnf
      refine⟨by kernel_rfl,?_⟩;conv=>whnf
      rw[i64s i (by omega)];rw[show IntKind.i64.wrap (v+1)=v+1 from i64w (by omega) (by omega)];refine⟨j,_,ah j,ww [30,29,28,6,1] [26,1] [24] [] rfl,i+1,_,by omega,hq,?_⟩;rw[p1,p2];rfl
     ·cases hb1
    ·rw[hq]at h;cases h
  ·rw[q3,ed]at hq;refine⟨none,q1,?_⟩;conv=>whnf
   refine⟨aN (by kernel_rfl),?_⟩;conv=>whnf
   rw[if_neg (by decide)]at hq;split at hq
   ·rename_i nm1 hb1;unfold uF at hb1;rw[q3,ed]at hb1;split at hb1
    ·cases hb1;obtain⟨p1,p2⟩:=pS (y:=0+1) q0;have hkl:(kC nm).length=(vC nm).length:=by simp[kC,vC]
     refine⟨none,q1,?_⟩;conv=>whnf
     refine⟨none,q1,?_⟩;conv=>whnf
     refine⟨some (kC nm).length,lO q1,?_⟩;conv=>whnf
     refine⟨_,by rw[hkl];exact cE,?_⟩;conv=>whnf
     refine⟨rfl,?_⟩;conv=>whnf
     refine⟨⟨by omega,by simp;omega⟩,?_⟩;conv=>whnf
     refine⟨by kernel_rfl,?_⟩;conv=>whnf
     rw[i64s i (by omega)];refine⟨j,_,ah j,ww [30,29,28,6,1] [26,1] [24] [] rfl,i+1,_,by omega,hq,?_⟩;rw[p1,p2];have e9:(vC nm++[mi 0]).set (kC nm).length (mi (IntKind.i64.wrap (0+1)))=vC nm++[mi (0+1)]:=by
      rw[hkl,da _ _ (au _),ch,eh,i64w (by omega) (by omega)]
      try rfl
     rw[←e9];rfl
    ·cases hb1
   ·rw[hq]at h;cases h
abbrev Gr:=List (List Int)
def aW(g:Gr):List (List AC):=g.map fun l=>[.sl 3 1 (ints l) none]
def cY(g:Gr):List (List (List AC)):=g.map ints
theorem dS(g:Gr):(aW g).length=g.length:=by simp[aW]
theorem dz{g:Gr}{i:Nat}{l:List Int}(h:g[i]?=some l):(aW g)[i]?=some [.sl 3 1 (ints l) none]:=by simp[aW,h]
theorem kT{g:Gr}{i:Nat}{l:List Int}(h:g[i]?=some l):(cY g)[i]?=some (ints l):=by simp[cY,h]
theorem mW(g:Gr):((cY g).map fun ys=>[AC.sl 3 1 ys none])=aW g:=by simp[cY,aW]
theorem kS(g:Gr)(i:Nat)(l:List Int):(cY g).set i (ints l)=cY (g.set i l):=by simp[cY,bX]
def edIn(n a:Nat):List Int→Gr→List (Int×Int)→Option (Gr×List (Int×Int))
 | [],out,had=>some (out,had)
 |b::l,out,had=>if 0≤b∧b<n∧fidx ((a:Int),b) had=none then match out[a]? with
  |some row=>if row.length<LIM then edIn n a l (out.set a (row++[b])) (had++[((a:Int),b)]) else none
  |none=>none
  else edIn n a l out had
def ux(n:Nat):Gr→Nat→Gr→List (Int×Int)→Option Gr
 | [],_,out,_=>some out
 |l::g,a,out,had=>if l.length≤LIM then match edIn n a l out had with
  |some (out1,had1)=>ux n g (a+1) out1 had1
  |none=>none else none
def sO(g:Gr):Option Gr:=if g.length≤LIM then ux g.length g 0 (List.replicate g.length []) [] else none
def ttP(had:List (Int×Int)):List MV:=had.map fun _=>tt
def M78:Md:={ mt:=[54],nest:=[13],tk:=[51]}
theorem sP{n a:Nat}:∀{l:List Int} {out out':Gr} {had had':List (Int×Int)},edIn n a l out had=some (out',had')→out'.length=out.length
 | [],out,out',had,had',h=>by cases h;rfl
 |b::l,out,out',had,had',h=>by
  unfold edIn at h;split at h
  ·split at h
   ·split at h
    ·have:=sP h;simpa using this
    ·cases h
   ·cases h
  ·exact sP h
theorem adZ{g out:Gr}(h:sO g=some out):Cw 78 [.one (.sl 24 1 (aW g) none)] [.val (.one (.sl 24 1 (aW out) none))] []:=by
 have hgl:=dS g;unfold sO at h;split at h
 case isFalse=>cases h
 rename_i hlim;unfold LIM at hlim;refine cw M78 Tryz.func78 (by kernel_rfl) ?_;conv=>whnf
 refine⟨⟨rfl,by omega,by show((aW g).length:Int)≤(lim 24:Nat);simp[lim];omega⟩,?_⟩;conv=>whnf
 refine⟨fun j st=>∃i ou had,i+j=g.length∧ou.length=g.length∧ux g.length (g.drop i) i ou had=some out∧st=⟨[(16,.one (iv i)),(15,.one (iv (aW g).length)),(14,.one (.sl 24 1 (aW g) none)),(4,.one (.rref 13 0 (aW g).length)),(3,.one (.mref 10 0)),(0,.one (.sl 24 1 (aW g) none)),(OB+13,.ob 13 0 (.rows 3 1 24 (cY ou))),(OB+10,.ob 10 0 (.map (iW (0,0)) (keyP had) (ttP had)))],[],[aS 13,aS 10]⟩,
  ⟨g.length,_,ww [16,15,14,4,3,0] [] [13,10] [] rfl,0,List.replicate g.length [],[],by omega,by simp,h,?_⟩,?_⟩
 ·have:cY (List.replicate g.length [])=List.replicate (aW g).length []:=by simp[cY,aW,ints]
  rw[this];rfl
 rintro j st ⟨i,ou,had,hij,hol,hq,rfl⟩;conv=>whnf
 cases j with
 |zero=>
  rw[af (p:=(i:Int)<((aW g).length:Int)) (by omega)];rw[ap (by omega)]at hq;cases hq;conv=>whnf
  exact⟨by rw[←mW],rfl⟩
 |succ j=>
 rw[ag (p:=(i:Int)<((aW g).length:Int)) (by omega)];have him:i<g.length:=by omega
 rw[aj him]at hq;have eg:=dz (ad him);generalize g[i]=l at hq eg;have hil:=bh l;unfold ux at hq;split at hq
 case isFalse=>cases hq
 rename_i hll;unfold LIM at hll;split at hq
 case h_2=>cases hq
 rename_i ou9 had9 h9;conv=>whnf
 refine⟨_,⟨ae _,eg⟩,?_⟩;conv=>whnf
 refine⟨fun j2 st=>∃i2 ou2 had2,i2+j2=l.length∧ou2.length=g.length∧edIn g.length i (l.drop i2) ou2 had2=some (ou9,had9)∧st=⟨[(23,.one (iv i2)),(22,.one (iv (ints l).length)),(21,.one (.sl 3 1 (ints l) none)),(5,.one (iv i)),(16,.one (iv i)),(15,.one (iv (aW g).length)),(14,.one (.sl 24 1 (aW g) none)),(4,.one (.rref 13 0 (aW g).length)),(3,.one (.mref 10 0)),(0,.one (.sl 24 1 (aW g) none)),(OB+13,.ob 13 0 (.rows 3 1 24 (cY ou2))),(OB+10,.ob 10 0 (.map (iW (0,0)) (keyP had2) (ttP had2)))],[],[aS 13,aS 10]⟩,
  ⟨l.length,_,ww [23,22,21,5,16,15,14,4,3,0] [] [13,10] [] rfl,0,ou,had,by omega,hol,h9,rfl⟩,?_⟩
 rintro j2 st ⟨i2,ou2,had2,hij2,hol2,hq2,rfl⟩;conv=>whnf
 cases j2 with
 |zero=>
  rw[af (p:=(i2:Int)<((ints l).length:Int)) (by omega)];rw[ap (by omega)]at hq2;cases hq2;conv=>whnf
  rw[i64s i (by omega)];exact⟨j,_,ah j,ww [16,15,14,4,3,0] [] [13,10] [] rfl,i+1,ou9,had9,by omega,hol2,hq,rfl⟩
 |succ j2=>
 rw[ag (p:=(i2:Int)<((ints l).length:Int)) (by omega)];have him2:i2<l.length:=by omega
 rw[aj him2]at hq2;have eg2:=bD (ad him2);generalize l[i2]=b at hq2 eg2;have hfk:bL (iW ((i:Int),b)) (keyP had2)=fidx ((i:Int),b) had2:=lP _ _
 have hw2:IntKind.i64.wrap ((i2:Int)+1)=((i2+1:Nat):Int):=by rw[i64w (by omega) (by omega)];omega
 unfold edIn at hq2;conv=>whnf
 refine⟨_,⟨ae _,eg2⟩,?_⟩;conv=>whnf
 by_cases hb0:0≤b
 case neg=>
  rw[af hb0];rw[if_neg (fun h=>hb0 h.1)]at hq2;conv=>whnf
  rw[hw2];exact⟨j2,_,ah j2,ww [23,22,21,5,16,15,14,4,3,0] [] [13,10] [] rfl,i2+1,ou2,had2,by omega,hol2,hq2,rfl⟩
 rw[ag hb0];conv=>whnf
 by_cases hbn:b<(aW g).length
 case neg=>
  rw[af hbn];rw[if_neg (fun h=>hbn (by rw[hgl];exact h.2.1))]at hq2;conv=>whnf
  rw[hw2];exact⟨j2,_,ah j2,ww [23,22,21,5,16,15,14,4,3,0] [] [13,10] [] rfl,i2+1,ou2,had2,by omega,hol2,hq2,rfl⟩
 rw[ag hbn];conv=>whnf
 cases hfi:fidx ((i:Int),b) had2 with
 |some ix=>
  rw[if_neg (fun h=>by rw[hfi]at h;cases h.2.2)]at hq2;refine⟨some ix,hfk.trans hfi,?_⟩;conv=>whnf
  refine⟨tt,by simp[ttP,iq hfi],?_⟩;conv=>whnf
  rw[hw2];exact⟨j2,_,ah j2,ww [23,22,21,5,16,15,14,4,3,0] [] [13,10] [] rfl,i2+1,ou2,had2,by omega,hol2,hq2,rfl⟩
 |none=>
  rw[if_pos ⟨hb0,by rw[←hgl];exact hbn,hfi⟩]at hq2;split at hq2
  case h_2=>cases hq2
  rename_i row hrow;split at hq2
  case isFalse=>cases hq2
  rename_i hrl;unfold LIM at hrl;have hirl:=bh row;refine⟨none,hfk.trans hfi,?_⟩;conv=>whnf
  refine⟨none,hfk.trans hfi,?_⟩;conv=>whnf
  refine⟨⟨ae _,by omega⟩,?_⟩;conv=>whnf
  refine⟨_,kT hrow,?_⟩;conv=>whnf
  refine⟨by show(ints row).length+1≤lim 8;simp[lim];omega,?_⟩;conv=>whnf
  refine⟨⟨ae _,by omega⟩,?_⟩;conv=>whnf
  refine⟨rfl,?_⟩;conv=>whnf
  rw[hw2];refine⟨j2,_,ah j2,ww [23,22,21,5,16,15,14,4,3,0] [] [13,10] [] rfl,i2+1,ou2.set i (row++[b]),had2++[((i:Int),b)],by omega,by simp[hol2],hq2,?_⟩;have e1:cY (ou2.set i (row++[b]))=(cY ou2).set i (ints row++[[iv b]]):=by rw[←kS];simp[ints]
  have e2:keyP (had2++[((i:Int),b)])=keyP had2++[iW ((i:Int),b)]:=by simp[keyP]
  have e3:ttP (had2++[((i:Int),b)])=ttP had2++[tt]:=by simp[ttP]
  rw[e1,e2,e3];rfl
structure Fn where
 out:Gr
 num:List Int
 low:List Int
 op:List Int
 is:List Bool
 cnt:Int
 grp:Gr
def dh(l:List Bool):List (List AC):=l.map fun b=>[bv b]
theorem jJ(l:List Bool):(dh l).length=l.length:=by simp[dh]
theorem gd{l:List Bool}{i:Nat}{b:Bool}(h:l[i]?=some b):(dh l)[i]?=some [bv b]:=by simp[dh,h]
theorem nC(l:List Bool)(i:Nat)(b:Bool):(dh l).set i [bv b]=dh (l.set i b):=by simp[dh,bX]
theorem jW(l:List Int)(i:Nat)(b:Int):(ints l).set i [iv b]=ints (l.set i b):=by simp[ints,bX]
def fnA(f:Fn):AC:=.obox 184 [.sl 24 1 (aW f.out) none,.own 3 1 (ints f.num),.own 3 1 (ints f.low),.own 3 1 (ints f.op),.own 4 1 (dh f.is),iv f.cnt,.own 24 1 (aW f.grp)]
def fnP:List (Nat×Perm):=[aS 100097,aS 100098,aS 100099,aS 100100,aS 100102]
def vT(f:Fn)(x:Int):Option Fn:=if -LIM<f.cnt∧f.cnt<LIM∧f.op.length<LIM∧0≤x∧x.toNat<f.num.length∧x.toNat<f.low.length∧x.toNat<f.is.length then
 some { f with cnt:=f.cnt+1,num:=f.num.set x.toNat (f.cnt+1),low:=f.low.set x.toNat (f.cnt+1),op:=f.op++[x],is:=f.is.set x.toNat true} else none
def idxI(x:Int):List Int→Nat→Int
 | [],_=> -1
 |y::l,i=>if x=y then(i:Int) else idxI x l (i+1)
def vY:List Int→List Bool→Option (List Bool)
 | [],is=>some is
 |y::l,is=>if 0≤y∧y.toNat<is.length then vY l (is.set y.toNat false) else none
def vy(f:Fn)(x:Int):Option Fn:=match at? f.low x,at? f.num x with
 |some a,some b=>if a<b then some f else
  if 0≤idxI x f.op 0∧f.op.length≤12∧f.grp.length<LIM then match vY (f.op.drop (idxI x f.op 0).toNat) f.is with
   |some is=>some { f with op:=f.op.take (idxI x f.op 0).toNat,is:=is,grp:=f.grp++[lW (f.op.drop (idxI x f.op 0).toNat)]}
   |none=>none
  else none
 |_,_=>none
def qH:Nat→Fn→List (Int×Int)→Option Fn
 |0,_,_=>none
 |k+1,f,st=>match st.getLast? with
  |none=>some f
  |some (x,nx)=>match at? f.out x,decide (st.length<LIM) with
   |some row,true=>if row.length≤LIM then if nx<row.length then match at? row nx with
    |some y=>match at? f.num y with
     |some c=>if c=0 then match vT f y with
      |some f1=>qH k f1 (st.dropLast++[(x,nx+1)]++[(y,0)])
      |none=>none
      else match at? f.is y with
       |some true=>match at? f.low x with
        |some a=>qH k { f with low:=f.low.set x.toNat (min a c)} (st.dropLast++[(x,nx+1)])
        |none=>none
       |some false=>qH k f (st.dropLast++[(x,nx+1)])
       |none=>none
     |none=>none
    |none=>none
    else match st.dropLast.getLast? with
     |some (up,_)=>match at? f.low up,at? f.low x with
      |some a,some b=>match vy { f with low:=f.low.set up.toNat (min a b)} x with
       |some f2=>qH k f2 st.dropLast
       |none=>none
      |_,_=>none
     |none=>match vy f x with
      |some f2=>qH k f2 st.dropLast
      |none=>none
    else none
   |_,_=>none
def adK(k:Nat)(f:Fn)(x:Int):Option Fn:=match vT f x with
 |some f1=>qH k f1 [(x,0)]
 |none=>none
def ofK(K:Nat):Nat→Nat→Fn→Option Fn
 |0,_,f=>some f
 |k+1,x,f=>match f.num[x]? with
  |some c=>if c=0 then match adK K f x with
   |some f1=>ofK K k (x+1) f1
   |none=>none
   else ofK K k (x+1) f
  |none=>none
def cmpI(a b:Int):Int:=if a<b then -1 else if b<a then 1 else 0
def ue:Nat→Gr→Option Gr
 |0,l=>some l
 |j+1,l=>match l[j+1]?,l[j]? with
  |some (x::xs),some (y::ys)=>if x<y then ue j ((l.set (j+1) (y::ys)).set j (x::xs)) else some l
  |_,_=>none
def ug:Nat→Nat→Gr→Option Gr
 |0,_,l=>some l
 |k+1,i,l=>match ue i l with
  |some l1=>ug k (i+1) l1
  |none=>none
def abX(l:Gr):Option Gr:=if l.length≤12 then ug (l.length-1) 1 l else none
def sccR(K:Nat)(g:Gr):Option Gr:=match sO g with
 |some out=>match ofK K g.length 0 ⟨out,List.replicate g.length 0,List.replicate g.length 0,[],List.replicate g.length false,0,[]⟩ with
  |some f=>abX f.grp
  |none=>none
 |none=>none
theorem xM{f f':Fn}{x:Int}(h:vT f x=some f'):Cw 124 [.one (fnA f),.one (iv x)] [.val (.agg [iv x,iv 0])] [fnA f']:=by
 unfold vT at h;split at h
 case isFalse=>cases h
 rename_i hc;cases h;obtain⟨h1,h2,h3,h4,h5,h6,h7⟩:=hc;unfold LIM at h1 h2 h3;obtain⟨out,num,low,op,is,cnt,grp⟩:=f;simp only at h1 h2 h3 h5 h6 h7;have e1:=bh num;have e2:=bh low;have e3:=bh op;have e4:=jJ is;have g1:=bD (ad h5)
 have g2:=bD (ad h6);have g3:=gd (ad h7);refine cw {} Tryz.func124 (by kernel_rfl) ?_;conv=>whnf
 rw[show IntKind.i64.wrap (cnt+1)=cnt+1 from i64w (by omega) (by omega)];refine⟨⟨h4,by show x<((ints num).length:Int);omega⟩,?_⟩;conv=>whnf
 refine⟨_,⟨ae _,g1⟩,?_⟩;conv=>whnf
 refine⟨⟨h4,by show x<((ints low).length:Int);omega⟩,?_⟩;conv=>whnf
 refine⟨_,⟨ae _,g2⟩,?_⟩;conv=>whnf
 refine⟨aN (by kernel_rfl),?_⟩;conv=>whnf
 refine⟨by show(ints op).length+1≤lim 8;simp[lim];omega,?_⟩;conv=>whnf
 refine⟨⟨h4,by show x<((dh is).length:Int);omega⟩,?_⟩;conv=>whnf
 refine⟨_,⟨ae _,g3⟩,?_⟩;conv=>whnf
 refine⟨aN (by kernel_rfl),?_⟩;conv=>whnf
 refine⟨rfl,?_⟩;have q1:(ints num).set x.toNat [iv (cnt+1)]=ints (num.set x.toNat (cnt+1)):=jW _ _ _;have q2:(ints low).set x.toNat [iv (cnt+1)]=ints (low.set x.toNat (cnt+1)):=jW _ _ _;have q3:(dh is).set x.toNat [bv true]=dh (is.set x.toNat true):=nC _ _ _
 have q4:ints op++[[iv x]]=ints (op++[x]):=by simp[ints]
 unfold fnA;simp only;rw[←q1,←q2,←q3,←q4];rfl
theorem ahM{l:List Int}{x:Int}(hl:l.length≤4294967296):Cw 170 [.one (.own 3 1 (ints l)),.one (iv x)] [.val (.one (iv (idxI x l 0)))] [.own 3 1 (ints l)]:=by
 have hil:=bh l;refine cw {} Tryz.func170 (by kernel_rfl) ?_;conv=>whnf
 refine⟨fun j st=>∃i,i+j=l.length∧idxI x l 0=idxI x (l.drop i) i∧st=⟨[(8,.one (iv i)),(7,.one (iv (ints l).length)),(1,.one (iv x)),(0,.one (.rref 3000 0 (ints l).length)),(OB+3000,.ob 3000 0 (.row 3 1 (ints l)))],[],[aS 3000]⟩,
  ⟨l.length,_,ww [8,7,1,0] [] [3000] [] rfl,0,by omega,rfl,rfl⟩,?_⟩
 rintro j st ⟨i,hij,hc,rfl⟩;conv=>whnf
 cases j with
 |zero=>
  rw[af (p:=(i:Int)<((ints l).length:Int)) (by omega)];rw[ap (by omega)]at hc;conv=>whnf
  exact⟨by rw[hc];rfl,rfl⟩
 |succ j=>
  rw[ag (p:=(i:Int)<((ints l).length:Int)) (by omega)];have him:i<l.length:=by omega
  rw[aj him]at hc;have eg:=bD (ad him);generalize l[i]=y at hc eg;have hc':idxI x l 0=if x=y then(i:Int) else idxI x (l.drop (i+1)) (i+1):=hc
  conv=>whnf
  refine⟨⟨ae _,by omega⟩,?_⟩;conv=>whnf
  refine⟨_,⟨ae _,eg⟩,?_⟩;conv=>whnf
  by_cases hxy:x=y
  ·rw[if_pos hxy]at hc';rw[ag hxy];conv=>whnf
   exact⟨by rw[hc'];rfl,rfl⟩
  ·rw[if_neg hxy]at hc';rw[af hxy];conv=>whnf
   rw[i64s i (by omega)];exact⟨j,_,ah j,ww [8,7,1,0] [] [3000] [] rfl,i+1,by omega,hc',rfl⟩
theorem aaE{x:Int}:∀(l:List Int) (i:Nat),0≤idxI x l i→idxI x l i<i+l.length
 | [],i,h=>by simp[idxI]at h
 |y::l,i,h=>by
  have e:idxI x (y::l) i=if x=y then(i:Int) else idxI x l (i+1):=rfl
  rw[e]at h ⊢;split
  ·simp;omega
  ·rename_i hn;rw[if_neg hn]at h;have:=aaE l (i+1) h;simp;omega
theorem xp{f f':Fn}{x:Int}(h:vy f x=some f'):Cw 125 [.one (fnA f),.one (iv x)] [] [fnA f']:=by
 obtain⟨out,num,low,op,is,cnt,grp⟩:=f;unfold vy at h;simp only at h;split at h
 case h_2=>cases h
 rename_i a b ha hb;obtain⟨hx0,hxl,ha⟩:=bY ha;obtain⟨-,hxn,hb⟩:=bY hb;have e1:=bh num;have e2:=bh low;have e3:=bh op;have e4:=jJ is;have e5:=dS grp;refine cw { fz:=[65]} Tryz.func125 (by kernel_rfl) ?_;conv=>whnf
 refine⟨⟨hx0,by show x<((ints low).length:Int);omega⟩,?_⟩;conv=>whnf
 refine⟨_,⟨ae _,bD ha⟩,?_⟩;conv=>whnf
 refine⟨⟨hx0,by show x<((ints num).length:Int);omega⟩,?_⟩;conv=>whnf
 refine⟨_,⟨ae _,bD hb⟩,?_⟩;conv=>whnf
 refine⟨aN (by kernel_rfl),?_⟩;conv=>whnf
 by_cases hab:a<b
 ·rw[if_pos hab]at h;cases h;rw[ag hab];conv=>whnf
  exact⟨rfl,rfl⟩
 rw[if_neg hab]at h;rw[af hab];split at h
 case isFalse=>cases h
 rename_i hcond;obtain⟨hi0,hop,hgl⟩:=hcond;unfold LIM at hgl;split at h
 case h_2=>cases h
 rename_i is9 h9;cases h;have hidx:=ahM (l:=op) (x:=x) (by omega);have hil:=aaE op 0 hi0;generalize idxI x op 0=i at hi0 hil h9 hidx;have hdl:(op.drop i.toNat).length=op.length-i.toNat:=by simp
 have hcl:=abD (xs:=(ints op).drop i.toNat) (by unfold LIM;simp[ints];omega) (by intro y hy;have:=fo hy;simp[ints]at this;obtain⟨z,-,rfl⟩:=this;rfl);have hdr:(ints op).drop i.toNat=ints (op.drop i.toNat):=by simp[ints,List.map_drop]
 have hsort:=zT (l:=op.drop i.toNat) (by omega);conv=>whnf
 refine⟨_,_,hidx,?_⟩;conv=>whnf
 refine⟨⟨hi0,by show i<((ints op).length:Int);omega⟩,?_⟩;conv=>whnf
 refine⟨_,_,hcl,?_⟩;conv=>whnf
 refine⟨fun y hy c hc=>?_,?_⟩
 ·have:=fo hy;simp only[ints,bZ]at this;obtain⟨z,-,rfl⟩:=this;obtain rfl:=ax.1 hc;exact⟨_,rfl⟩
 conv=>whnf
 refine⟨⟨hi0,by show i≤((ints op).length:Int);omega⟩,?_⟩;conv=>whnf
 rw[hdr];have e6:=bh (op.drop i.toNat)
 refine⟨fun j st=>∃k is2,k+j=(op.drop i.toNat).length∧is2.length=is.length∧vY ((op.drop i.toNat).drop k) is2=some is9∧st=⟨[(47,.one (iv k)),(46,.one (iv (ints (op.drop i.toNat)).length)),(45,.one (.rref 35 0 (ints (op.drop i.toNat)).length)),(5,.one (.rref 35 0 (ints (op.drop i.toNat)).length)),(0,.one (.ptr 1500 0 0)),(OB+35,.ob 35 0 (.row 3 1 (ints (op.drop i.toNat)))),(OB+100097,.ob 100097 0 (.row 3 1 (ints num))),(OB+100098,.ob 100098 0 (.row 3 1 (ints low))),(OB+100099,.ob 100099 0 (.row 3 1 ((ints op).take i.toNat))),(OB+100100,.ob 100100 0 (.row 4 1 (dh is2))),(OB+100102,.ob 100102 0 (.row 24 1 (aW grp)))],
  [(1500,⟨0,184,[.sl 24 1 (aW out) none,.rref 100097 0 (ints num).length,.rref 100098 0 (ints low).length,.rref 100099 0 i.toNat,.rref 100100 0 (dh is).length,iv cnt,.rref 100102 0 (aW grp).length]⟩)],aS 35::fnP⟩,
  ⟨(op.drop i.toNat).length,_,ww [47,46,45,5,0] [1500] [35,100097,100098,100099,100100,100102] [] rfl,0,is,by omega,rfl,h9,rfl⟩,?_⟩
 rintro j st ⟨k,is2,hkj,hl2,hq,rfl⟩;conv=>whnf
 have e7:=jJ is2;cases j with
 |zero=>
  rw[af (p:=(k:Int)<((ints (op.drop i.toNat)).length:Int)) (by omega)];rw[ap (by omega)]at hq;cases hq;conv=>whnf
  refine⟨_,_,hsort,?_⟩;conv=>whnf
  refine⟨by show(aW grp).length+1≤lim 24;simp[lim];omega,?_⟩;conv=>whnf
  refine⟨rfl,?_⟩;have q1:(ints op).take i.toNat=ints (op.take i.toNat):=by simp[ints,iQ]
  have q2:aW (grp++[lW (op.drop i.toNat)])=aW grp++[[.sl 3 1 (ints (lW (op.drop i.toNat))) none]]:=by simp[aW]
  unfold fnA;simp only;rw[←q1,q2];rfl
 |succ j=>
  rw[ag (p:=(k:Int)<((ints (op.drop i.toNat)).length:Int)) (by omega)];have hkm:k<(op.drop i.toNat).length:=by omega
  rw[aj hkm]at hq;have eg:=bD (ad hkm);generalize (op.drop i.toNat)[k]=y at hq eg;unfold vY at hq;split at hq
  case isFalse=>cases hq
  rename_i hy;have g1:=gd (ad hy.2);conv=>whnf
  refine⟨⟨ae _,by omega⟩,?_⟩;conv=>whnf
  refine⟨_,⟨ae _,eg⟩,?_⟩;conv=>whnf
  refine⟨⟨hy.1,by show y<((dh is).length:Int);omega⟩,?_⟩;conv=>whnf
  refine⟨_,⟨ae _,g1⟩,?_⟩;conv=>whnf
  rw[i64s k (by omega)];refine⟨j,_,ah j,ww [47,46,45,5,0] [1500] [35,100097,100098,100099,100100,100102] [] rfl,k+1,is2.set y.toNat false,by omega,by simp[hl2],hq,?_⟩;have q3:(dh is2).set y.toNat [bv false]=dh (is2.set y.toNat false):=nC _ _ _;rw[←q3];rfl
def fob(f:Fn):List (Nat×AV):=[(OB+100097,.ob 100097 0 (.row 3 1 (ints f.num))),(OB+100098,.ob 100098 0 (.row 3 1 (ints f.low))),(OB+100099,.ob 100099 0 (.row 3 1 (ints f.op))),(OB+100100,.ob 100100 0 (.row 4 1 (dh f.is))),(OB+100102,.ob 100102 0 (.row 24 1 (aW f.grp)))]
def fbx(f:Fn):Nat×Box:=(1500,⟨0,184,[.sl 24 1 (aW f.out) none,.rref 100097 0 (ints f.num).length,.rref 100098 0 (ints f.low).length,.rref 100099 0 (ints f.op).length,.rref 100100 0 (dh f.is).length,iv f.cnt,.rref 100102 0 (aW f.grp).length]⟩)
def M79:Md:={ mt:=[12]}
def st79(f:Fn)(st:List (Int×Int)):St:=⟨(4,.one (.rref 12 0 (prs st).length))::(0,.one (.ptr 1500 0 0))::(OB+12,.ob 12 0 (.row 246 2 (prs st)))::fob f,[fbx f],aS 12::fnP⟩
theorem so{α:Type}{l:List α}{x:α}(h:l.getLast? =some x):l[l.length-1]?=some x∧0<l.length:=by
 rw[List.getLast?_eq_getElem?]at h;refine⟨h,?_⟩;have:=(aq.1 h).1;omega
theorem ace{α:Type}{l:List α}(h:0<l.length)(x:α):l.set (l.length-1) x=l.dropLast++[x]:=by
 have hne:l≠[]:=by intro e;subst e;simp at h
 conv=>lhs;rw[←List.dropLast_concat_getLast hne]
 rw[da _ _ (by simp)];simp
theorem aae{l:List (Int×Int)}{i:Nat}{p:Int×Int}(h:l[i]?=some p):(prs l)[i]?=some [iv p.1,iv p.2]:=by simp[prs,h]
theorem afI{k:Nat}{f f':Fn}{x:Int}(h:adK k f x=some f'):Cw 79 [.one (fnA f),.one (iv x)] [] [fnA f']:=by
 unfold adK at h;split at h
 case h_2=>cases h
 rename_i f1 h1;have he:=xM h1;refine cw M79 Tryz.func79 (by kernel_rfl) ?_;conv=>whnf
 refine⟨_,_,he,?_⟩;conv=>whnf
 refine⟨fun j s=>∃f2 st,qH j f2 st=some f'∧s=st79 f2 st,
  ⟨k,_,ww [4,0] [1500] [12,100097,100098,100099,100100,100102] [] rfl,f1,[(x,0)],h,rfl⟩,?_⟩
 rintro j s ⟨f2,st,hq,rfl⟩;clear he h1 h;obtain⟨out,num,low,op,is,cnt,grp⟩:=f2;have hpl:=mZ st;have e1:=bh num;have e2:=bh low;have e3:=bh op;have e4:=jJ is;unfold st79;conv=>whnf
 cases j with
 |zero=>cases hq
 |succ j=>
 unfold qH at hq;split at hq
 ·rename_i hl;have:st=[]:=by simpa using hl
  subst this;cases hq;conv=>whnf
  exact⟨rfl,rfl⟩
 rename_i x1 nx hl;obtain⟨hg,hpos⟩:=so hl;split at hq
 case h_2=>cases hq
 rename_i row hrow hlim;have hlim:=aJ hlim;unfold LIM at hlim;obtain⟨hx0,hxo,hrow⟩:=bY hrow;simp only at hxo hrow;have e5:=dS out;split at hq
 case isFalse=>cases hq
 rename_i hrl;unfold LIM at hrl;have hw1:IntKind.i64.wrap (((prs st).length:Int)-1)=((st.length-1:Nat):Int):=by rw[hpl,i64w (by omega) (by omega)];omega
 have gp:=aae hg;rw[ag (p:=(0:Int)<((prs st).length:Int)) (by omega)];conv=>whnf
 rw[hw1];refine⟨⟨ae _,by omega⟩,?_⟩;conv=>whnf
 refine⟨_,⟨ae _,gp⟩,?_⟩;conv=>whnf
 refine⟨_,⟨ae _,gp⟩,?_⟩;conv=>whnf
 refine⟨_,⟨hx0,dz hrow⟩,?_⟩;conv=>whnf
 refine⟨aN (by kernel_rfl),?_⟩;have hil:=bh row;conv=>whnf
 by_cases hnx:nx<row.length
 ·rw[ag (p:=nx<((ints row).length:Int)) (by omega)];rw[if_pos hnx]at hq;split at hq
  case h_2=>cases hq
  rename_i y hy;obtain⟨hn0,hnl,hy⟩:=bY hy;split at hq
  case h_2=>cases hq
  rename_i c hc;obtain⟨hy0,hyl,hc⟩:=bY hc;simp only at hyl hc;have hwn:IntKind.i64.wrap (nx+1)=nx+1:=i64w (by omega) (by omega);have hst:(prs st).set (st.length-1) [iv x1,iv (nx+1)]=prs (st.dropLast++[(x1,nx+1)]):=by
   rw[←ace hpos];simp[prs,bX]
  have hsl:(st.dropLast++[(x1,nx+1)]).length=st.length:=by simp;omega
  conv=>whnf
  refine⟨_,⟨ae _,gp⟩,?_⟩;conv=>whnf
  refine⟨_,⟨hx0,dz hrow⟩,?_⟩;conv=>whnf
  refine⟨_,⟨ae _,gp⟩,?_⟩;conv=>whnf
  refine⟨_,⟨hn0,bD hy⟩,?_⟩;conv=>whnf
  refine⟨aN (by kernel_rfl),?_⟩;conv=>whnf
  refine⟨_,⟨ae _,gp⟩,?_⟩;conv=>whnf
  rw[hwn];refine⟨_,⟨ae _,gp⟩,?_⟩;conv=>whnf
  refine⟨⟨hy0,by show y<((ints num).length:Int);omega⟩,?_⟩;conv=>whnf
  refine⟨_,⟨ae _,bD hc⟩,?_⟩;conv=>whnf
  by_cases hc0:c=0
  ·rw[if_pos hc0]at hq;rw[ag hc0];split at hq
   case h_2=>cases hq
   rename_i f1 hen;have hec:=xM hen;conv=>whnf
   refine⟨_,_,hec,?_⟩;conv=>whnf
   have hsl2:((prs st).set (st.length-1) [iv x1,iv (nx+1)]).length=st.length:=by rw[dt,hpl]
   refine⟨by show((prs st).set (st.length-1) [iv x1,iv (nx+1)]).length+1≤lim 16;rw[hsl2];simp[lim];omega,?_⟩;conv=>whnf
   refine⟨j,_,ah j,ww [4,0] [1500] [12,100097,100098,100099,100100,100102] [.tmp 4 12] rfl,f1,_,hq,?_⟩;have q1:prs (st.dropLast++[(x1,nx+1)]++[(y,0)])=(prs st).set (st.length-1) [iv x1,iv (nx+1)]++[[iv y,iv 0]]:=by rw[hst];simp[prs]
   rw[q1,aH];rfl
  ·rw[if_neg hc0]at hq;rw[af hc0];split at hq
   case h_3=>cases hq
   ·rename_i hi;obtain⟨-,hyi,hi⟩:=bY hi;simp only at hyi hi;split at hq
    case h_2=>cases hq
    rename_i a ha;obtain⟨-,hxl,ha⟩:=bY ha;simp only at hxl ha;conv=>whnf
    refine⟨⟨hy0,by show y<((dh is).length:Int);omega⟩,?_⟩;conv=>whnf
    refine⟨_,⟨ae _,gd hi⟩,?_⟩;conv=>whnf
    have hsl2:((prs st).set (st.length-1) [iv x1,iv (nx+1)])[st.length-1]?=some [iv x1,iv (nx+1)]:=by
     rw[bf,if_pos rfl,if_pos (by omega)]
    refine⟨_,⟨ae _,hsl2⟩,?_⟩;conv=>whnf
    refine⟨_,⟨ae _,hsl2⟩,?_⟩;conv=>whnf
    refine⟨⟨hx0,by show x1<((ints low).length:Int);omega⟩,?_⟩;conv=>whnf
    refine⟨_,⟨ae _,bD ha⟩,?_⟩;conv=>whnf
    refine⟨⟨hy0,by show y<((ints num).length:Int);omega⟩,?_⟩;conv=>whnf
    refine⟨_,⟨ae _,bD hc⟩,?_⟩;conv=>whnf
    refine⟨⟨hx0,by show x1<((ints low).length:Int);omega⟩,?_⟩;conv=>whnf
    refine⟨_,⟨ae _,bD ha⟩,?_⟩;conv=>whnf
    refine⟨aN (by kernel_rfl),?_⟩;conv=>whnf
    refine⟨j,_,ah j,ww [4,0] [1500] [12,100097,100098,100099,100100,100102] [] rfl,_,_,hq,?_⟩;have q1:prs (st.dropLast++[(x1,nx+1)])=(prs st).set (st.length-1) [iv x1,iv (nx+1)]:=hst.symm
    have q2:(ints low).set x1.toNat [iv (if c<a then c else a)]=ints (low.set x1.toNat (min a c)):=by rw[mn];exact jW _ _ _
    unfold fob fbx;simp only;rw[q1,←q2,dt,dt];rfl
   ·rename_i hi;obtain⟨-,hyi,hi⟩:=bY hi;simp only at hyi hi;conv=>whnf
    refine⟨⟨hy0,by show y<((dh is).length:Int);omega⟩,?_⟩;conv=>whnf
    refine⟨_,⟨ae _,gd hi⟩,?_⟩;conv=>whnf
    refine⟨j,_,ah j,ww [4,0] [1500] [12,100097,100098,100099,100100,100102] [] rfl,_,_,hq,?_⟩;have q1:prs (st.dropLast++[(x1,nx+1)])=(prs st).set (st.length-1) [iv x1,iv (nx+1)]:=hst.symm;rw[q1,dt];rfl
 ·rw[af (p:=nx<((ints row).length:Int)) (by omega)];rw[if_neg hnx]at hq;have hdl:st.dropLast.length=st.length-1:=by simp
  have hpd:(prs st).take (st.length-1)=prs st.dropLast:=by rw[iB];simp[prs,iQ]
  conv=>whnf
  refine⟨_,⟨ae _,gp⟩,?_⟩;conv=>whnf
  rw[hw1];refine⟨⟨ae _,by omega⟩,?_⟩;conv=>whnf
  rw[cv];split at hq
  ·rename_i up nu hup;obtain⟨hug,hupos⟩:=so hup;rw[ag (p:=(0:Int)<((st.length-1:Nat):Int)) (by omega)];split at hq
   case h_2=>cases hq
   rename_i a b ha hb;obtain⟨hu0,hul,ha⟩:=bY ha;obtain⟨-,hxl,hb⟩:=bY hb;simp only at hul ha hxl hb;split at hq
   case h_2=>cases hq
   rename_i f9 hlv;have hlc:=xp hlv;have hw2:IntKind.i64.wrap (((st.length-1:Nat):Int)-1)=((st.length-2:Nat):Int):=by rw[i64w (by omega) (by omega)];omega
   have gu:((prs st).take (st.length-1))[st.length-2]?=some [iv up,iv nu]:=by
    rw[hpd];have:=aae hug;rw[hdl]at this;exact this
   conv=>whnf
   rw[hw2];refine⟨⟨ae _,by omega⟩,?_⟩;conv=>whnf
   rw[cv];refine⟨_,⟨ae _,gu⟩,?_⟩;conv=>whnf
   refine⟨⟨hu0,by show up<((ints low).length:Int);omega⟩,?_⟩;conv=>whnf
   refine⟨_,⟨ae _,bD ha⟩,?_⟩;conv=>whnf
   refine⟨⟨hx0,by show x1<((ints low).length:Int);omega⟩,?_⟩;conv=>whnf
   refine⟨_,⟨ae _,bD hb⟩,?_⟩;conv=>whnf
   refine⟨⟨hu0,by show up<((ints low).length:Int);omega⟩,?_⟩;conv=>whnf
   refine⟨_,⟨ae _,bD ha⟩,?_⟩;conv=>whnf
   refine⟨aN (by kernel_rfl),?_⟩;conv=>whnf
   have q2:(ints low).set up.toNat [iv (if b<a then b else a)]=ints (low.set up.toNat (min a b)):=by rw[mn];exact jW _ _ _
   have hlc2:=hlc;unfold fnA at hlc2;simp only at hlc2;rw[←q2]at hlc2;refine⟨_,_,hlc2,?_⟩;conv=>whnf
   refine⟨j,_,ah j,ww [4,0] [1500] [12,100097,100098,100099,100100,100102] [] rfl,f9,_,hq,?_⟩;have q:(prs st.dropLast).length=st.length-1:=by rw[mZ,hdl]
   rw[q,←hpd];rfl
  ·rename_i hup;have hd0:st.dropLast=[]:=by simpa using hup
   have h1:st.length=1:=by rw[hd0]at hdl;simp at hdl;omega
   rw[af (p:=(0:Int)<((st.length-1:Nat):Int)) (by omega)];split at hq
   case h_2=>cases hq
   rename_i f9 hlv;have hlc:=xp hlv;conv=>whnf
   refine⟨_,_,hlc,?_⟩;conv=>whnf
   refine⟨j,_,ah j,ww [4,0] [1500] [12,100097,100098,100099,100100,100102] [] rfl,f9,_,hq,?_⟩;have q:(prs st.dropLast).length=st.length-1:=by rw[mZ,hdl]
   rw[q,←hpd];rfl
theorem ahY{a b:Int}:Cw 82 [.one (iv a),.one (iv b)] [.val (.one (iv (cmpI a b)))] []:=by
 unfold cmpI;refine cw {} Tryz.func82 (by kernel_rfl) ?_;conv=>whnf
 refine⟨_,_,yT,?_⟩;conv=>whnf
 refine⟨_,_,yT,?_⟩;conv=>whnf
 by_cases h1:a<b
 ·rw[ag h1,if_pos h1];conv=>whnf
  exact⟨rfl,rfl⟩
 rw[af h1,if_neg h1];conv=>whnf
 by_cases h2:b<a
 ·rw[ag h2,if_pos h2];conv=>whnf
  exact⟨rfl,rfl⟩
 ·rw[af h2,if_neg h2];conv=>whnf
  exact⟨rfl,rfl⟩
theorem adN{a b:Int}{xs ys:List Int}:Cw 81 [.one (.sl 3 1 (ints (a::xs)) none),.one (.sl 3 1 (ints (b::ys)) none)] [.val (.one (iv (cmpI a b)))] []:=by
 refine cw {} Tryz.func81 (by kernel_rfl) ?_;conv=>whnf
 refine⟨_,⟨fP _,rfl⟩,?_⟩;conv=>whnf
 refine⟨_,⟨fP _,rfl⟩,?_⟩;conv=>whnf
 refine⟨_,_,ahY,?_⟩;conv=>whnf
 refine⟨aN (by kernel_rfl),?_⟩;conv=>whnf
 exact⟨rfl,rfl⟩
theorem ud:∀{j:Nat} {l l':Gr},ue j l=some l'→l'.length=l.length
 |0,l,l',h=>by cases h;rfl
 |j+1,l,l',h=>by
  unfold ue at h;split at h
  ·split at h
   ·have:=ud h;simpa using this
   ·cases h;rfl
  ·cases h
theorem tJ(g:Gr)(i:Nat)(l:List Int):(aW g).set i [.sl 3 1 (ints l) none]=aW (g.set i l):=by simp[aW,bX]
theorem zb{l l':Gr}{n:Nat}(hl:l.length=n)(hn:n≤12)(h:ug (n-1) 1 l=some l'):Cw 172 [.one (.own 24 1 (aW l)),.one (iv 0),.one (iv n),.one (.clo 81 [])] [] [.own 24 1 (aW l')]:=by
 have hil:=dS l;refine cw {} Tryz.func172 (by kernel_rfl) ?_;conv=>whnf
 rw[hil,hl];refine⟨fun k st=>∃i l2,k=n-i∧1≤i∧ug k i l2=some l'∧l2.length=n∧st=⟨[(8,.one (iv i)),(0,.one (.rref 3000 0 n)),(1,.one (iv 0)),(2,.one (iv n)),(3,.one (.clo 81 [])),(OB+3000,.ob 3000 0 (.row 24 1 (aW l2)))],[],[aS 3000]⟩,
  ⟨n-1,_,ww [8,0,1,2,3] [] [3000] [] rfl,1,l,rfl,au _,h,hl,rfl⟩,?_⟩
 rintro k st ⟨i,l2,hk,hi1,hq,hl2,rfl⟩;conv=>whnf
 by_cases hin:i<n
 ·rw[ag (p:=(i:Int)<(n:Int)) (by omega)];obtain⟨k,rfl⟩:∃k',k=k'+1:=⟨k-1,by omega⟩;unfold ug at hq;split at hq
  case h_2=>cases hq
  rename_i l9 h9;have hl9:=ud h9;conv=>whnf
  refine⟨fun m st=>∃l3,ue m l3=some l9∧l3.length=n∧m≤i∧st=⟨[(9,.one (iv m)),(8,.one (iv i)),(0,.one (.rref 3000 0 n)),(1,.one (iv 0)),(2,.one (iv n)),(3,.one (.clo 81 [])),(OB+3000,.ob 3000 0 (.row 24 1 (aW l3)))],[],[aS 3000]⟩,
   ⟨i,_,ww [9,8,0,1,2,3] [] [3000] [] rfl,l2,h9,hl2,au _,rfl⟩,?_⟩
  rintro m st ⟨l3,hq2,hl3,hmi,rfl⟩;conv=>whnf
  have hw:IntKind.i64.wrap ((i:Int)+1)=((i+1:Nat):Int):=by rw[i64w (by omega) (by omega)];omega
  have hil3:=dS l3;cases m with
  |zero=>
   rw[af (p:=(0:Int)<((0:Nat):Int)) (by simp)];conv=>whnf
   refine⟨aN (by kernel_rfl),?_⟩;conv=>whnf
   rw[hw];cases hq2;exact⟨k,_,ah k,ww [8,0,1,2,3] [] [3000] [] rfl,i+1,l9,by omega,by omega,hq,by omega,rfl⟩
  |succ j=>
   rw[ag (p:=(0:Int)<((j+1:Nat):Int)) (by omega)];have hwj:IntKind.i64.wrap (((j+1:Nat):Int)-1)=(j:Int):=by rw[i64w (by omega) (by omega)];omega
   unfold ue at hq2;split at hq2
   case h_2=>cases hq2
   rename_i x xs y ys e1 e0;conv=>whnf
   refine⟨⟨by omega,by omega⟩,?_⟩;conv=>whnf
   refine⟨_,⟨ae _,dz e1⟩,?_⟩;conv=>whnf
   rw[hwj];refine⟨⟨by omega,by omega⟩,?_⟩;conv=>whnf
   refine⟨_,⟨ae _,dz e0⟩,?_⟩;conv=>whnf
   refine⟨_,_,adN (a:=x) (b:=y),?_⟩;conv=>whnf
   unfold cmpI;by_cases hxy:x<y
   ·rw[if_pos hxy];rw[if_pos hxy]at hq2;refine⟨aN (by kernel_rfl),?_⟩;conv=>whnf
    rw[hwj];refine⟨⟨by omega,by omega⟩,?_⟩;conv=>whnf
    refine⟨_,⟨ae _,dz e0⟩,?_⟩;conv=>whnf
    refine⟨⟨by omega,by omega⟩,?_⟩;conv=>whnf
    refine⟨_,⟨ae _,dz e1⟩,?_⟩;conv=>whnf
    refine⟨⟨by omega,by omega⟩,?_⟩;conv=>whnf
    refine⟨_,⟨ae _,dz e1⟩,?_⟩;conv=>whnf
    refine⟨⟨by omega,by omega⟩,?_⟩;conv=>whnf
    have e01:((aW l3).set (j+1) [.sl 3 1 (ints (y::ys)) none])[j]?=some [.sl 3 1 (ints (y::ys)) none]:=by
     rw[bf,if_neg (by omega)];exact dz e0
    refine⟨_,⟨ae _,e01⟩,?_⟩;conv=>whnf
    refine⟨aN (by kernel_rfl),?_⟩;conv=>whnf
    rw[hwj];have e2:((aW l3).set (j+1) [.sl 3 1 (ints (y::ys)) none]).set j [.sl 3 1 (ints (x::xs)) none]=aW ((l3.set (j+1) (y::ys)).set j (x::xs)):=by rw[tJ,tJ]
    refine⟨j,_,ah j,ww [9,8,0,1,2,3] [] [3000] [] rfl,_,hq2,by simp[hl3],by omega,?_⟩;rw[←e2];rfl
   ·rw[if_neg hxy];rw[if_neg hxy]at hq2;cases hq2;have hge:¬((if y<x then 1 else 0:Int)<0):=by split<;>omega
    generalize (if y<x then 1 else 0:Int)=cc at hge;refine⟨aN (by kernel_rfl),?_⟩;rw[af hge];conv=>whnf
    rw[hw];exact⟨k,_,ah k,ww [8,0,1,2,3] [] [3000] [] rfl,i+1,l9,by omega,by omega,hq,by omega,rfl⟩
 ·rw[af (p:=(i:Int)<(n:Int)) (by omega)];have:k=0:=by omega
  subst this;cases hq;conv=>whnf
  exact⟨rfl,rfl⟩
theorem afh{l l':Gr}{n:Nat}{b:Int}(hl:l.length=n)(hn:n≤12)(h:ug (n-1) 1 l=some l'):Cw 126 [.one (.own 24 1 (aW l)),.one (iv 0),.one (iv n),.one (iv b),.one (.clo 81 [])] [] [.own 24 1 (aW l')]:=by
 have hil:=dS l;have hc:=zb hl hn h;refine cw {} Tryz.func126 (by kernel_rfl) ?_;conv=>whnf
 rw[hil,hl];refine⟨fun k st=>st=⟨[(11,.one (bv true)),(10,.one (bv true)),(0,.one (.rref 3000 0 n)),(1,.one (iv 0)),(2,.one (iv n)),(3,.one (iv b)),(4,.one (.clo 81 [])),(OB+3000,.ob 3000 0 (.row 24 1 (aW l)))],[],[aS 3000]⟩,
  ⟨0,_,ww [11,10,0,1,2,3,4] [] [3000] [] rfl,rfl⟩,?_⟩
 rintro k st rfl;conv=>whnf
 rw[show IntKind.i64.wrap ((n:Int)-0)=(n:Int) by rw[i64w (by omega) (by omega)];omega];rw[ag (p:=(n:Int)≤12) (by omega)];conv=>whnf
 refine⟨_,_,hc,?_⟩;conv=>whnf
 exact⟨rfl,rfl⟩
theorem abW{l l':Gr}(h:abX l=some l'):Cw 80 [.one (.own 24 1 (aW l)),.one (.clo 81 [])] [] [.own 24 1 (aW l')]:=by
 unfold abX at h;split at h
 case isFalse=>cases h
 rename_i hn;have hil:=dS l;have hc:=afh (b:=lenS l.length) rfl hn h;refine cw {} Tryz.func80 (by kernel_rfl) ?_;conv=>whnf
 rw[hil];rw[show IntKind.u64.wrap (l.length:Int)=(l.length:Int) by simp only[IntKind.wrap,IntKind.bits,IntKind.signed];simp;omega];refine⟨_,_,yX hn,?_⟩;conv=>whnf
 refine⟨_,_,hc,?_⟩;conv=>whnf
 exact⟨rfl,rfl⟩
def fo17(f:Fn):List (Nat×AV):=[(OB+5185,.ob 5185 0 (.row 3 1 (ints f.num))),(OB+5186,.ob 5186 0 (.row 3 1 (ints f.low))),(OB+5187,.ob 5187 0 (.row 3 1 (ints f.op))),(OB+5188,.ob 5188 0 (.row 4 1 (dh f.is))),(OB+5190,.ob 5190 0 (.row 24 1 (aW f.grp)))]
def fb17(f:Fn):Nat×Box:=(17,⟨0,184,[.sl 24 1 (aW f.out) none,.rref 5185 0 (ints f.num).length,.rref 5186 0 (ints f.low).length,.rref 5187 0 (ints f.op).length,.rref 5188 0 (dh f.is).length,iv f.cnt,.rref 5190 0 (aW f.grp).length]⟩)
def fp17:List (Nat×Perm):=[aS 5185,aS 5186,aS 5187,aS 5188,aS 5190]
theorem abz{g out:Gr}(h:sO g=some out):out.length=g.length∧g.length≤LIM:=by
 unfold sO at h;split at h
 case isFalse=>cases h
 rename_i hl;refine⟨?_,hl⟩;have:∀(g:Gr) (n a:Nat) (ou out:Gr) (had:List (Int×Int)),ux n g a ou had=some out→out.length=ou.length:=by
  intro g
  induction g with
  |nil=>intro n a ou out had h;cases h;rfl
  |cons l g ih=>
   intro n a ou out had h;unfold ux at h;split at h
   case isFalse=>cases h
   split at h
   case h_2=>cases h
   rename_i h1;rw[ih _ _ _ _ _ h,sP h1]
 rw[this _ _ _ _ _ _ h];simp
theorem acj{K:Nat}{g r:Gr}(h:sccR K g=some r):Cw 43 [.one (.sl 24 1 (aW g) none)] [.val (.one (.sl 24 1 (aW r) none))] []:=by
 have hgl:=dS g;unfold sccR at h;split at h
 case h_2=>cases h
 rename_i out hed;have hec:=adZ hed;obtain⟨hol,hlim⟩:=abz hed;unfold LIM at hlim;split at h
 case h_2=>cases h
 rename_i f9 hf9;have hsc:=abW h;refine cw { own:=[(184,3),(184,6)]} Tryz.func43 (by kernel_rfl) ?_;conv=>whnf
 refine⟨_,_,hec,?_⟩;conv=>whnf
 refine⟨⟨rfl,by omega,by show((aW g).length:Int)≤(lim 8:Nat);simp[lim];omega⟩,?_⟩;conv=>whnf
 refine⟨⟨rfl,by omega,by show((aW g).length:Int)≤(lim 8:Nat);simp[lim];omega⟩,?_⟩;conv=>whnf
 refine⟨⟨rfl,by omega,by show((aW g).length:Int)≤(lim 1:Nat);simp[lim];omega⟩,?_⟩;conv=>whnf
 refine⟨aN (by kernel_rfl),?_⟩;conv=>whnf
 refine⟨fun j st=>∃i f,i+j=g.length∧ofK K j i f=some f9∧st=⟨(20,.one (iv i))::(19,.one (iv (aW g).length))::(4,.one (.ptr 17 0 0))::fo17 f,[fb17 f],fp17⟩,
  ⟨g.length,_,ww [20,19,4] [17] [5185,5186,5187,5188,5190] [.box 17 1 5185,.box 17 2 5186,.box 17 3 5187,.box 17 4 5188,.box 17 6 5190] rfl,0,_,by omega,hf9,?_⟩,?_⟩
 ·have q1:ints (List.replicate g.length 0)=List.replicate (aW g).length [iv 0]:=by simp[ints,hgl]
  have q2:dh (List.replicate g.length false)=List.replicate (aW g).length [bv false]:=by simp[dh,hgl]
  unfold fo17 fb17;simp only;rw[q1,q2,gl,gl];rfl
 rintro j st ⟨i,f,hij,hq,rfl⟩;obtain⟨out2,num,low,op,is,cnt,grp⟩:=f;unfold fo17 fb17;conv=>whnf
 cases j with
 |zero=>
  rw[af (p:=(i:Int)<((aW g).length:Int)) (by omega)];cases hq;conv=>whnf
  refine⟨_,_,hsc,?_⟩;conv=>whnf
  exact⟨rfl,rfl⟩
 |succ j=>
  rw[ag (p:=(i:Int)<((aW g).length:Int)) (by omega)];unfold ofK at hq;split at hq
  case h_2=>cases hq
  rename_i c hc;simp only at hc;have hcl:=(aq.1 hc).1;have e1:=bh num;conv=>whnf
  refine⟨⟨ae _,by show(i:Int)<((ints num).length:Int);omega⟩,?_⟩;conv=>whnf
  refine⟨_,⟨ae _,bD hc⟩,?_⟩;conv=>whnf
  have hw:IntKind.i64.wrap ((i:Int)+1)=((i+1:Nat):Int):=by rw[i64w (by omega) (by omega)];omega
  by_cases hc0:c=0
  ·rw[if_pos hc0]at hq;rw[ag hc0];split at hq
   case h_2=>cases hq
   rename_i f2 hf2;have hfc:=afI hf2;conv=>whnf
   refine⟨_,_,hfc,?_⟩;conv=>whnf
   rw[hw];exact⟨j,_,ah j,ww [20,19,4] [17] [5185,5186,5187,5188,5190] [] rfl,i+1,f2,by omega,hq,rfl⟩
  ·rw[if_neg hc0]at hq;rw[af hc0];conv=>whnf
   rw[hw];exact⟨j,_,ah j,ww [20,19,4] [17] [5185,5186,5187,5188,5190] [] rfl,i+1,_,by omega,hq,rfl⟩
def ml(i:Int):List Int→List Int→Option (List Int)
 | [],of=>some of
 |x::l,of=>if 0≤x∧x.toNat<of.length then ml i l (of.set x.toNat i) else none
def ofG:Gr→Nat→List Int→Option (List Int)
 | [],_,of=>some of
 |l::g,i,of=>if l.length≤LIM then match ml (i:Int) l of with
  |some of1=>ofG g (i+1) of1
  |none=>none else none
def uG(n:Nat)(of:List Int)(x:Nat):List Int→Gr→List (Int×Int)→Option (Gr×List (Int×Int))
 | [],out,had=>some (out,had)
 |y::l,out,had=>if y<0∨(n:Int)≤y then uG n of x l out had else match of[x]?,at? of y with
  |some a,some b=>if a≠b∧fidx (a,b) had=none then match at? out a with
   |some row=>if row.length<LIM then uG n of x l (out.set a.toNat (row++[b])) (had++[(a,b)]) else none
   |none=>none
   else uG n of x l out had
  |_,_=>none
def wg(n:Nat)(of:List Int):Gr→Nat→Gr→List (Int×Int)→Option Gr
 | [],_,out,_=>some out
 |l::g,x,out,had=>if l.length≤LIM then match uG n of x l out had with
  |some (out1,had1)=>wg n of g (x+1) out1 had1
  |none=>none else none
def zE(K:Nat)(g:Gr):Option Gr:=match sccR K g with
 |some gr=>if gr.length≤LIM∧g.length≤LIM then match ofG gr 0 (List.replicate g.length 0) with
  |some of=>wg g.length of g 0 (List.replicate gr.length []) []
  |none=>none else none
 |none=>none
theorem rQ{i:Int}:∀{l of of':List Int},ml i l of=some of'→of'.length=of.length
 | [],of,of',h=>by cases h;rfl
 |x::l,of,of',h=>by
  unfold ml at h;split at h
  ·have:=rQ h;simpa using this
  ·cases h
theorem aan:∀{g:Gr} {i:Nat} {of of':List Int},ofG g i of=some of'→of'.length=of.length
 | [],i,of,of',h=>by cases h;rfl
 |l::g,i,of,of',h=>by
  unfold ofG at h;split at h
  case isFalse=>cases h
  split at h
  ·rename_i h1;rw[aan h,rQ h1]
  ·cases h
def M128:Md:={ mt:=[98],nest:=[43],tk:=[94]}
theorem aeA{K:Nat}{g out:Gr}(h:zE K g=some out):Cw 128 [.one (.sl 24 1 (aW g) none)] [.val (.one (.sl 24 1 (aW out) none))] []:=by
 have hgl:=dS g;unfold zE at h;split at h
 case h_2=>cases h
 rename_i gr hgr;have hsc:=acj hgr;have hrl:=dS gr;split at h
 case isFalse=>cases h
 rename_i hlim;unfold LIM at hlim;split at h
 case h_2=>cases h
 rename_i of9 hof;have hofl:=aan hof;rw[gl]at hofl;refine cw M128 Tryz.func128 (by kernel_rfl) ?_;conv=>whnf
 refine⟨_,_,hsc,?_⟩;conv=>whnf
 refine⟨⟨rfl,by omega,by show((aW g).length:Int)≤(lim 8:Nat);simp[lim];omega⟩,?_⟩;conv=>whnf
 refine⟨fun j st=>∃i of,i+j=gr.length∧of.length=g.length∧ofG (gr.drop i) i of=some of9∧st=⟨[(23,.one (iv i)),(22,.one (iv (aW gr).length)),(21,.one (.sl 24 1 (aW gr) none)),(4,.one (.rref 20 0 g.length)),(3,.one (.sl 24 1 (aW gr) none)),(0,.one (.sl 24 1 (aW g) none)),(OB+20,.ob 20 0 (.row 3 1 (ints of)))],[],[aS 20]⟩,
  ⟨gr.length,_,ww [23,22,21,4,3,0] [] [20] [] rfl,0,_,by omega,by simp,hof,?_⟩,?_⟩
 ·have q1:ints (List.replicate g.length 0)=List.replicate (aW g).length [iv 0]:=by simp[ints,hgl]
  rw[q1,←hgl];rfl
 rintro j st ⟨i,of,hij,hol,hq,rfl⟩;conv=>whnf
 cases j with
 |succ j=>
  rw[ag (p:=(i:Int)<((aW gr).length:Int)) (by omega)];have him:i<gr.length:=by omega
  rw[aj him]at hq;have eg:=dz (ad him);generalize gr[i]=l at hq eg;have hil:=bh l;unfold ofG at hq;split at hq
  case isFalse=>cases hq
  rename_i hll;unfold LIM at hll;split at hq
  case h_2=>cases hq
  rename_i of1 hp;conv=>whnf
  refine⟨_,⟨ae _,eg⟩,?_⟩;conv=>whnf
  refine⟨fun j2 st=>∃i2 of2,i2+j2=l.length∧of2.length=g.length∧ml (i:Int) (l.drop i2) of2=some of1∧st=⟨[(30,.one (iv i2)),(29,.one (iv (ints l).length)),(28,.one (.sl 3 1 (ints l) none)),(5,.one (iv i)),(23,.one (iv i)),(22,.one (iv (aW gr).length)),(21,.one (.sl 24 1 (aW gr) none)),(4,.one (.rref 20 0 g.length)),(3,.one (.sl 24 1 (aW gr) none)),(0,.one (.sl 24 1 (aW g) none)),(OB+20,.ob 20 0 (.row 3 1 (ints of2)))],[],[aS 20]⟩,
   ⟨l.length,_,ww [30,29,28,5,23,22,21,4,3,0] [] [20] [] rfl,0,of,by omega,hol,hp,rfl⟩,?_⟩
  rintro j2 st ⟨i2,of2,hij2,hol2,hq2,rfl⟩;conv=>whnf
  cases j2 with
  |zero=>
   rw[af (p:=(i2:Int)<((ints l).length:Int)) (by omega)];rw[ap (by omega)]at hq2;cases hq2;conv=>whnf
   rw[i64s i (by omega)];exact⟨j,_,ah j,ww [23,22,21,4,3,0] [] [20] [] rfl,i+1,of1,by omega,hol2,hq,rfl⟩
  |succ j2=>
   rw[ag (p:=(i2:Int)<((ints l).length:Int)) (by omega)];have him2:i2<l.length:=by omega
   rw[aj him2]at hq2;have eg2:=bD (ad him2);generalize l[i2]=x at hq2 eg2;unfold ml at hq2;split at hq2
   case isFalse=>cases hq2
   rename_i hx;conv=>whnf
   refine⟨_,⟨ae _,eg2⟩,?_⟩;conv=>whnf
   refine⟨⟨hx.1,by omega⟩,?_⟩;conv=>whnf
   refine⟨_,⟨ae _,bD (ad hx.2)⟩,?_⟩;conv=>whnf
   rw[i64s i2 (by omega)];refine⟨j2,_,ah j2,ww [30,29,28,5,23,22,21,4,3,0] [] [20] [] rfl,i2+1,of2.set x.toNat i,by omega,by simp[hol2],hq2,?_⟩;rw[←jW];rfl
 |zero=>
 rw[af (p:=(i:Int)<((aW gr).length:Int)) (by omega)];rw[ap (by omega)]at hq;cases hq;conv=>whnf
 refine⟨⟨rfl,by omega,by show((aW gr).length:Int)≤(lim 24:Nat);simp[lim];omega⟩,?_⟩;conv=>whnf
 refine⟨fun j st=>∃i ou had,i+j=g.length∧ou.length=gr.length∧wg g.length of9 (g.drop i) i ou had=some out∧st=⟨[(46,.one (iv i)),(45,.one (iv (aW g).length)),(44,.one (.sl 24 1 (aW g) none)),(10,.one (.rref 43 0 (aW gr).length)),(9,.one (.mref 40 0)),(4,.one (.rref 20 0 g.length)),(0,.one (.sl 24 1 (aW g) none)),(OB+43,.ob 43 0 (.rows 3 1 24 (cY ou))),(OB+40,.ob 40 0 (.map (iW (0,0)) (keyP had) (ttP had))),(OB+20,.ob 20 0 (.row 3 1 (ints of9)))],[],[aS 43,aS 40,aS 20]⟩,
  ⟨g.length,_,ww [46,45,44,10,9,4,0] [] [43,40,20] [] rfl,0,List.replicate gr.length [],[],by omega,by simp,h,?_⟩,?_⟩
 ·have:cY (List.replicate gr.length [])=List.replicate (aW gr).length []:=by simp[cY,aW,ints]
  rw[this];rfl
 clear hof h;rintro j st ⟨i,ou,had,hij,hol,hq,rfl⟩;conv=>whnf
 cases j with
 |zero=>
  rw[af (p:=(i:Int)<((aW g).length:Int)) (by omega)];rw[ap (by omega)]at hq;cases hq;conv=>whnf
  exact⟨by rw[←mW],rfl⟩
 |succ j=>
 rw[ag (p:=(i:Int)<((aW g).length:Int)) (by omega)];have him:i<g.length:=by omega
 rw[aj him]at hq;have eg:=dz (ad him);generalize g[i]=l at hq eg;have hil:=bh l;unfold wg at hq;split at hq
 case isFalse=>cases hq
 rename_i hll;unfold LIM at hll;split at hq
 case h_2=>cases hq
 rename_i ou9 had9 h9;conv=>whnf
 refine⟨_,⟨ae _,eg⟩,?_⟩;conv=>whnf
 refine⟨fun j2 st=>∃i2 ou2 had2,i2+j2=l.length∧ou2.length=gr.length∧uG g.length of9 i (l.drop i2) ou2 had2=some (ou9,had9)∧st=⟨[(53,.one (iv i2)),(52,.one (iv (ints l).length)),(51,.one (.sl 3 1 (ints l) none)),(11,.one (iv i)),(46,.one (iv i)),(45,.one (iv (aW g).length)),(44,.one (.sl 24 1 (aW g) none)),(10,.one (.rref 43 0 (aW gr).length)),(9,.one (.mref 40 0)),(4,.one (.rref 20 0 g.length)),(0,.one (.sl 24 1 (aW g) none)),(OB+43,.ob 43 0 (.rows 3 1 24 (cY ou2))),(OB+40,.ob 40 0 (.map (iW (0,0)) (keyP had2) (ttP had2))),(OB+20,.ob 20 0 (.row 3 1 (ints of9)))],[],[aS 43,aS 40,aS 20]⟩,
  ⟨l.length,_,ww [53,52,51,11,46,45,44,10,9,4,0] [] [43,40,20] [] rfl,0,ou,had,by omega,hol,h9,rfl⟩,?_⟩
 rintro j2 st ⟨i2,ou2,had2,hij2,hol2,hq2,rfl⟩;conv=>whnf
 cases j2 with
 |zero=>
  rw[af (p:=(i2:Int)<((ints l).length:Int)) (by omega)];rw[ap (by omega)]at hq2;cases hq2;conv=>whnf
  rw[i64s i (by omega)];exact⟨j,_,ah j,ww [46,45,44,10,9,4,0] [] [43,40,20] [] rfl,i+1,ou9,had9,by omega,hol2,hq,rfl⟩
 |succ j2=>
 rw[ag (p:=(i2:Int)<((ints l).length:Int)) (by omega)];have him2:i2<l.length:=by omega
 rw[aj him2]at hq2;have eg2:=bD (ad him2);generalize l[i2]=y at hq2 eg2;have hw2:IntKind.i64.wrap ((i2:Int)+1)=((i2+1:Nat):Int):=by rw[i64w (by omega) (by omega)];omega
 unfold uG at hq2;conv=>whnf
 refine⟨_,⟨ae _,eg2⟩,?_⟩;conv=>whnf
 by_cases hy0:y<0
 ·rw[ag hy0];rw[if_pos (.inl hy0)]at hq2;conv=>whnf
  rw[hw2];exact⟨j2,_,ah j2,ww [53,52,51,11,46,45,44,10,9,4,0] [] [43,40,20] [] rfl,i2+1,ou2,had2,by omega,hol2,hq2,rfl⟩
 rw[af hy0];conv=>whnf
 by_cases hyn:((aW g).length:Int)≤y
 ·rw[ag hyn];rw[if_pos (.inr (by omega))]at hq2;conv=>whnf
  rw[hw2];exact⟨j2,_,ah j2,ww [53,52,51,11,46,45,44,10,9,4,0] [] [43,40,20] [] rfl,i2+1,ou2,had2,by omega,hol2,hq2,rfl⟩
 rw[af hyn];rw[if_neg (by omega)]at hq2;split at hq2
 case h_2=>cases hq2
 rename_i a b ha hb;obtain⟨-,hyl,hb⟩:=bY hb;have hfk:bL (iW (a,b)) (keyP had2)=fidx (a,b) had2:=lP _ _;conv=>whnf
 refine⟨⟨ae _,by omega⟩,?_⟩;conv=>whnf
 refine⟨_,⟨ae _,bD ha⟩,?_⟩;conv=>whnf
 refine⟨⟨by omega,by omega⟩,?_⟩;conv=>whnf
 refine⟨_,⟨ae _,bD hb⟩,?_⟩;conv=>whnf
 refine⟨aN (by kernel_rfl),?_⟩;conv=>whnf
 refine⟨⟨by decide,by decide⟩,?_⟩;conv=>whnf
 refine⟨⟨by decide,by decide⟩,?_⟩;conv=>whnf
 by_cases hab:a=b
 ·rw[ag hab];rw[if_neg (fun h=>h.1 hab)]at hq2;conv=>whnf
  rw[hw2];exact⟨j2,_,ah j2,ww [53,52,51,11,46,45,44,10,9,4,0] [] [43,40,20] [] rfl,i2+1,ou2,had2,by omega,hol2,hq2,rfl⟩
 rw[af hab];conv=>whnf
 cases hfi:fidx (a,b) had2 with
 |some ix=>
  rw[if_neg (fun h=>by rw[hfi]at h;cases h.2)]at hq2;refine⟨some ix,hfk.trans hfi,?_⟩;conv=>whnf
  refine⟨tt,by simp[ttP,iq hfi],?_⟩;conv=>whnf
  rw[hw2];exact⟨j2,_,ah j2,ww [53,52,51,11,46,45,44,10,9,4,0] [] [43,40,20] [] rfl,i2+1,ou2,had2,by omega,hol2,hq2,rfl⟩
 |none=>
  rw[if_pos ⟨hab,hfi⟩]at hq2;split at hq2
  case h_2=>cases hq2
  rename_i row hrow;obtain⟨ha0,hal,hrow⟩:=bY hrow;split at hq2
  case isFalse=>cases hq2
  rename_i hrl2;unfold LIM at hrl2;have hirl:=bh row;refine⟨none,hfk.trans hfi,?_⟩;conv=>whnf
  refine⟨none,hfk.trans hfi,?_⟩;conv=>whnf
  refine⟨⟨by decide,by decide⟩,?_⟩;conv=>whnf
  refine⟨⟨by decide,by decide⟩,?_⟩;conv=>whnf
  refine⟨⟨ha0,by omega⟩,?_⟩;conv=>whnf
  refine⟨_,kT hrow,?_⟩;conv=>whnf
  refine⟨⟨by decide,by decide⟩,?_⟩;conv=>whnf
  refine⟨by show(ints row).length+1≤lim 8;simp[lim];omega,?_⟩;conv=>whnf
  refine⟨⟨ha0,by omega⟩,?_⟩;conv=>whnf
  refine⟨rfl,?_⟩;conv=>whnf
  refine⟨aN (by kernel_rfl),?_⟩;conv=>whnf
  rw[hw2];refine⟨j2,_,ah j2,ww [53,52,51,11,46,45,44,10,9,4,0] [] [43,40,20] [] rfl,i2+1,ou2.set a.toNat (row++[b]),had2++[(a,b)],by omega,by simp[hol2],hq2,?_⟩;have e1:cY (ou2.set a.toNat (row++[b]))=(cY ou2).set a.toNat (ints row++[[iv b]]):=by rw[←kS];simp[ints]
  have e2:keyP (had2++[(a,b)])=keyP had2++[iW (a,b)]:=by simp[keyP]
  have e3:ttP (had2++[(a,b)])=ttP had2++[tt]:=by simp[ttP]
  rw[e1,e2,e3];rfl
def lvIn(lv:List Int)(kn:List Bool):List Int→List Int→Int→Bool→Option (List Int×Int×Bool)
 | [],st,n,rd=>some (st,n,rd)
 |y::l,st,n,rd=>match at? kn y,at? lv y with
  |some true,some v=>if -LIM<v∧v<LIM then lvIn lv kn l st (max n (v+1)) rd else none
  |some false,some v=>if -LIM<v∧v<LIM∧st.length<LIM then lvIn lv kn l (st++[y]) (max n (v+1)) false else none
  |_,_=>none
def lvGo(out:Gr):Nat→List Int→List Bool→List Int→Option (List Int×List Bool)
 |0,_,_,_=>none
 |k+1,lv,kn,st=>match st.getLast? with
  |none=>some (lv,kn)
  |some x=>match at? out x,decide (st.length≤LIM) with
   |some row,true=>if row.length≤LIM then match lvIn lv kn row st 0 true with
    |some (st1,n,true)=>if 0≤x∧x.toNat<lv.length∧x.toNat<kn.length then lvGo out k (lv.set x.toNat n) (kn.set x.toNat true) st.dropLast else none
    |some (st1,_,false)=>lvGo out k lv kn st1
    |none=>none
    else none
   |_,_=>none
def aaw(out:Gr)(K:Nat):Nat→Nat→List Int→List Bool→Option (List Int)
 |0,_,lv,_=>some lv
 |m+1,i,lv,kn=>match lvGo out K lv kn [(i:Int)] with
  |some (lv1,kn1)=>aaw out K m (i+1) lv1 kn1
  |none=>none
def vx(K:Nat)(g:Gr):Option (List Int):=match zE K g with
 |some out=>if out.length≤LIM then aaw out K out.length 0 (List.replicate out.length 0) (List.replicate out.length false) else none
 |none=>none
theorem qd{lv:List Int}{kn:List Bool}:∀{l st st1:List Int} {n n1:Int} {rd:Bool},lvIn lv kn l st n rd=some (st1,n1,true)→st1=st∧rd=true
 | [],st,st1,n,n1,rd,h=>by cases h;exact⟨rfl,rfl⟩
 |y::l,st,st1,n,n1,rd,h=>by
  unfold lvIn at h;split at h
  ·split at h
   ·exact qd h
   ·cases h
  ·split at h
   ·cases(qd h).2
   ·cases h
  ·cases h
def M83:Md:={ mt:=[27]}
theorem abo{K:Nat}{g:Gr}{r:List Int}(h:vx K g=some r):Cw 83 [.one (.sl 24 1 (aW g) none)] [.val (.one (.sl 3 1 (ints r) none))] []:=by
 unfold vx at h;split at h
 case h_2=>cases h
 rename_i out hbel;have hbc:=aeA hbel;split at h
 case isFalse=>cases h
 rename_i hlim;unfold LIM at hlim;have hol:=dS out;refine cw M83 Tryz.func83 (by kernel_rfl) ?_;conv=>whnf
 refine⟨_,_,hbc,?_⟩;conv=>whnf
 refine⟨⟨rfl,by omega,by show((aW out).length:Int)≤(lim 8:Nat);simp[lim];omega⟩,?_⟩;conv=>whnf
 refine⟨⟨rfl,by omega,by show((aW out).length:Int)≤(lim 1:Nat);simp[lim];omega⟩,?_⟩;conv=>whnf
 refine⟨fun j st=>∃i lv kn,i+j=out.length∧lv.length=out.length∧kn.length=out.length∧aaw out K j i lv kn=some r∧st=⟨[(23,.one (iv i)),(22,.one (iv (aW out).length)),(5,.one (.rref 20 0 out.length)),(4,.one (.rref 17 0 out.length)),(3,.one (.sl 24 1 (aW out) none)),(OB+20,.ob 20 0 (.row 4 1 (dh kn))),(OB+17,.ob 17 0 (.row 3 1 (ints lv)))],[],[aS 20,aS 17]⟩,
  ⟨out.length,_,ww [23,22,5,4,3] [] [20,17] [] rfl,0,_,_,by omega,by simp,by simp,h,?_⟩,?_⟩
 ·have q1:ints (List.replicate out.length 0)=List.replicate (aW out).length [iv 0]:=by simp[ints,hol]
  have q2:dh (List.replicate out.length false)=List.replicate (aW out).length [bv false]:=by simp[dh,hol]
  rw[q1,q2,←hol];rfl
 rintro j st ⟨i,lv,kn,hij,hlv,hkn,hq,rfl⟩;conv=>whnf
 cases j with
 |zero=>
  rw[af (p:=(i:Int)<((aW out).length:Int)) (by omega)];cases hq;conv=>whnf
  exact⟨rfl,rfl⟩
 |succ j=>
 rw[ag (p:=(i:Int)<((aW out).length:Int)) (by omega)];unfold aaw at hq;split at hq
 case h_2=>cases hq
 rename_i lv9 kn9 h9;conv=>whnf
 refine⟨fun m st=>∃lv2 kn2 sk,lv2.length=out.length∧kn2.length=out.length∧lvGo out m lv2 kn2 sk=some (lv9,kn9)∧st=⟨[(7,.one (.rref 27 0 (ints sk).length)),(23,.one (iv i)),(22,.one (iv (aW out).length)),(5,.one (.rref 20 0 out.length)),(4,.one (.rref 17 0 out.length)),(3,.one (.sl 24 1 (aW out) none)),(OB+27,.ob 27 0 (.row 3 1 (ints sk))),(OB+20,.ob 20 0 (.row 4 1 (dh kn2))),(OB+17,.ob 17 0 (.row 3 1 (ints lv2)))],[],[aS 27,aS 20,aS 17]⟩,
  ⟨K,_,ww [7,23,22,5,4,3] [] [27,20,17] [] rfl,lv,kn,[(i:Int)],hlv,hkn,h9,rfl⟩,?_⟩
 clear h9;rintro m st ⟨lv2,kn2,sk,hlv2,hkn2,hq2,rfl⟩;have hsl:=bh sk;conv=>whnf
 cases m with
 |zero=>cases hq2
 |succ m=>
 unfold lvGo at hq2;split at hq2
 ·rename_i hl;have:sk=[]:=by simpa using hl
  subst this;cases hq2;conv=>whnf
  rw[i64s i (by omega)];exact⟨j,_,ah j,ww [23,22,5,4,3] [] [20,17] [] rfl,i+1,_,_,by omega,hlv2,hkn2,hq,rfl⟩
 rename_i x hl;obtain⟨hg,hpos⟩:=so hl;split at hq2
 case h_2=>cases hq2
 rename_i row hrow hsk;have hsk:=aJ hsk;unfold LIM at hsk;obtain⟨hx0,hxl,hrow⟩:=bY hrow;split at hq2
 case isFalse=>cases hq2
 rename_i hrl;unfold LIM at hrl;have hw1:IntKind.i64.wrap (((ints sk).length:Int)-1)=((sk.length-1:Nat):Int):=by rw[hsl,i64w (by omega) (by omega)];omega
 have hil:=bh row;rw[ag (p:=(0:Int)<((ints sk).length:Int)) (by omega)];generalize hin:lvIn lv2 kn2 row sk 0 true=rin at hq2;conv=>whnf
 rw[hw1];refine⟨⟨ae _,by omega⟩,?_⟩;conv=>whnf
 refine⟨_,⟨ae _,bD hg⟩,?_⟩;conv=>whnf
 refine⟨_,⟨hx0,dz hrow⟩,?_⟩;conv=>whnf
 refine(pI (fun j2 st=>∃i2 sk2 n2 rd2,i2+j2=row.length∧rin=lvIn lv2 kn2 (row.drop i2) sk2 n2 rd2∧st=⟨[(42,.one (iv i2)),(41,.one (iv (ints row).length)),(40,.one (.sl 3 1 (ints row) none)),(10,.one (bv rd2)),(9,.one (iv n2)),(8,.one (iv x)),(7,.one (.rref 54 0 (ints sk2).length)),(23,.one (iv i)),(22,.one (iv (aW out).length)),(5,.one (.rref 20 0 out.length)),(4,.one (.rref 17 0 out.length)),(3,.one (.sl 24 1 (aW out) none)),(OB+54,.ob 54 0 (.row 3 1 (ints sk2))),(OB+20,.ob 20 0 (.row 4 1 (dh kn2))),(OB+17,.ob 17 0 (.row 3 1 (ints lv2)))],[],[aS 54,aS 20,aS 17]⟩)
  (fun e st=>e= .exit 4∧∃sk2 n2 rd2,rin=some (sk2,n2,rd2)∧st=⟨[(43,.one (bv false)),(42,.one (iv row.length)),(41,.one (iv (ints row).length)),(40,.one (.sl 3 1 (ints row) none)),(10,.one (bv rd2)),(9,.one (iv n2)),(8,.one (iv x)),(7,.one (.rref 54 0 (ints sk2).length)),(23,.one (iv i)),(22,.one (iv (aW out).length)),(5,.one (.rref 20 0 out.length)),(4,.one (.rref 17 0 out.length)),(3,.one (.sl 24 1 (aW out) none)),(OB+54,.ob 54 0 (.row 3 1 (ints sk2))),(OB+20,.ob 20 0 (.row 4 1 (dh kn2))),(OB+17,.ob 17 0 (.row 3 1 (ints lv2)))],[],[aS 54,aS 20,aS 17]⟩)
  ?_ ?_ ?_:evCW Tryz.prog T J M83 G (.loop _) _ _)
 ·exact⟨row.length,_,ww [42,41,40,10,9,8,7,23,22,5,4,3] [] [54,20,17] [.tmp 7 54] rfl,0,sk,0,true,by omega,hin.symm,rfl⟩
 ·rintro j2 st ⟨i2,sk2,n2,rd2,hij2,hq3,rfl⟩;have hsl2:=bh sk2;conv=>whnf
  cases j2 with
  |zero=>
   rw[af (p:=(i2:Int)<((ints row).length:Int)) (by omega)];rw[ap (by omega)]at hq3;have hq3:rin=some (sk2,n2,rd2):=hq3;conv=>whnf
   have:i2=row.length:=by omega
   subst this;exact⟨rfl,sk2,n2,rd2,hq3,rfl⟩
  |succ j2=>
   rw[ag (p:=(i2:Int)<((ints row).length:Int)) (by omega)];have him2:i2<row.length:=by omega
   rw[aj him2]at hq3;have eg2:=bD (ad him2);generalize row[i2]=y at hq3 eg2;have hw2:IntKind.i64.wrap ((i2:Int)+1)=((i2+1:Nat):Int):=by rw[i64w (by omega) (by omega)];omega
   unfold lvIn at hq3;conv=>whnf
   refine⟨_,⟨ae _,eg2⟩,?_⟩;conv=>whnf
   split at hq3
   ·rename_i v hky hvy;obtain⟨hy0,hyk,hky⟩:=bY hky;obtain⟨-,hyl,hvy⟩:=bY hvy;split at hq3
    case isFalse=>rw[hq3]at hq2;cases hq2
    rename_i hv;unfold LIM at hv;refine⟨⟨hy0,by omega⟩,?_⟩;conv=>whnf
    refine⟨_,⟨ae _,gd hky⟩,?_⟩;conv=>whnf
    refine⟨⟨hy0,by omega⟩,?_⟩;conv=>whnf
    refine⟨_,⟨ae _,bD hvy⟩,?_⟩;conv=>whnf
    rw[hw2,show IntKind.i64.wrap (v+1)=v+1 from i64w (by omega) (by omega),show((fun a b=>if b > a then b else a) n2 (v+1):Int)=max n2 (v+1) from mxx _ _];exact⟨j2,_,ah j2,ww [42,41,40,10,9,8,7,23,22,5,4,3] [] [54,20,17] [] rfl,i2+1,sk2,_,rd2,by omega,hq3,rfl⟩
   ·rename_i v hky hvy;obtain⟨hy0,hyk,hky⟩:=bY hky;obtain⟨-,hyl,hvy⟩:=bY hvy;split at hq3
    case isFalse=>rw[hq3]at hq2;cases hq2
    rename_i hv;unfold LIM at hv;refine⟨⟨hy0,by omega⟩,?_⟩;conv=>whnf
    refine⟨_,⟨ae _,gd hky⟩,?_⟩;conv=>whnf
    refine⟨by show(ints sk2).length+1≤lim 8;simp[lim];omega,?_⟩;conv=>whnf
    refine⟨⟨hy0,by omega⟩,?_⟩;conv=>whnf
    refine⟨_,⟨ae _,bD hvy⟩,?_⟩;conv=>whnf
    rw[hw2,show IntKind.i64.wrap (v+1)=v+1 from i64w (by omega) (by omega),show((fun a b=>if b > a then b else a) n2 (v+1):Int)=max n2 (v+1) from mxx _ _];refine⟨j2,_,ah j2,ww [42,41,40,10,9,8,7,23,22,5,4,3] [] [54,20,17] [] rfl,i2+1,sk2++[y],_,false,by omega,hq3,?_⟩
    have q:ints (sk2++[y])=ints sk2++[[iv y]]:=by simp[ints]
    rw[q,aH];rfl
   ·rw[hq3]at hq2;cases hq2
 ·rintro e st ⟨rfl,sk2,n2,rd2,hq3,rfl⟩;have hsl2:=bh sk2;rw[hq3]at hq2;cases rd2 with
  |false=>
   simp only at hq2;conv=>whnf
   exact⟨m,_,ah m,ww [7,23,22,5,4,3] [] [27,20,17] [.tmp 7 27] rfl,lv2,kn2,sk2,hlv2,hkn2,hq2,rfl⟩
  |true=>
   obtain⟨rfl,-⟩:=qd (hin.trans hq3);simp only at hq2;split at hq2
   case isFalse=>cases hq2
   rename_i hx;have hdl:sk2.dropLast.length=sk2.length-1:=by simp
   have hpd:(ints sk2).take (sk2.length-1)=ints sk2.dropLast:=by rw[iB];simp[ints,iQ]
   conv=>whnf
   refine⟨⟨hx0,by omega⟩,?_⟩;conv=>whnf
   refine⟨_,⟨ae _,bD (ad hx.2.1)⟩,?_⟩;conv=>whnf
   refine⟨⟨hx0,by omega⟩,?_⟩;conv=>whnf
   refine⟨_,⟨ae _,gd (ad hx.2.2)⟩,?_⟩;conv=>whnf
   rw[hw1];refine⟨⟨ae _,by omega⟩,?_⟩;conv=>whnf
   refine⟨m,_,ah m,ww [7,23,22,5,4,3] [] [27,20,17] [.tmp 7 27] rfl,_,_,sk2.dropLast,by simp[hlv2],by simp[hkn2],hq2,?_⟩;have q:(ints sk2.dropLast).length=sk2.length-1:=by rw[bh,hdl]
   rw[q,←hpd,←jW,←nC];rfl
def pad(out:Gr)(n:Nat):Gr:=out++List.replicate (n+1-out.length) []
def zK:List Int→Nat→Gr→Option Gr
 | [],_,out=>some out
 |n::l,i,out=>if 0≤n∧n<LIM∧out.length≤LIM then match(pad out n.toNat)[n.toNat]? with
  |some row=>if row.length<LIM then zK l (i+1) ((pad out n.toNat).set n.toNat (row++[(i:Int)])) else none
  |none=>none
  else none
def yu(K:Nat)(g:Gr):Option Gr:=match vx K g with
 |some lv=>if lv.length≤LIM then zK lv 0 [] else none
 |none=>none
def M44:Md:={ tk:=[26]}
theorem acB{out:Gr}{n:Nat}(h:out.length≤n):pad (out++[[]]) n=pad out n:=by
 unfold pad;rw[fp,aH];simp only[aT,bJ]
 congr 1
 rw[show n+1-out.length=(n+1-(out.length+1))+1 by omega,jw];rfl
theorem abL{K:Nat}{g out:Gr}(h:yu K g=some out):Cw 44 [.one (.sl 24 1 (aW g) none)] [.val (.one (.sl 24 1 (aW out) none))] []:=by
 unfold yu at h;split at h
 case h_2=>cases h
 rename_i lv hlv;have hlc:=abo hlv;split at h
 case isFalse=>cases h
 rename_i hll;unfold LIM at hll;have hil:=bh lv;refine cw M44 Tryz.func44 (by kernel_rfl) ?_;conv=>whnf
 refine⟨_,_,hlc,?_⟩;conv=>whnf
 refine⟨fun j st=>∃i ou,i+j=lv.length∧zK (lv.drop i) i ou=some out∧st=⟨[(9,.one (iv i)),(8,.one (iv (ints lv).length)),(7,.one (.sl 3 1 (ints lv) none)),(3,.one (.rref 20 0 (cY ou).length)),(OB+20,.ob 20 0 (.rows 3 1 24 (cY ou)))],[],[aS 20]⟩,
  ⟨lv.length,_,ww [9,8,7,3] [] [20] [.nilR 3 20 3 1 24] rfl,0,[],by omega,h,rfl⟩,?_⟩
 rintro j st ⟨i,ou,hij,hq,rfl⟩;conv=>whnf
 cases j with
 |zero=>
  rw[af (p:=(i:Int)<((ints lv).length:Int)) (by omega)];rw[ap (by omega)]at hq;cases hq;conv=>whnf
  exact⟨by rw[←mW],rfl⟩
 |succ j=>
 rw[ag (p:=(i:Int)<((ints lv).length:Int)) (by omega)];have him:i<lv.length:=by omega
 rw[aj him]at hq;have eg:=bD (ad him);generalize lv[i]=n at hq eg;unfold zK at hq;split at hq
 case isFalse=>cases hq
 rename_i hn;unfold LIM at hn;obtain⟨hn0,hn1,hn2⟩:=hn;split at hq
 case h_2=>cases hq
 rename_i row hrow;split at hq
 case isFalse=>cases hq
 rename_i hrl;unfold LIM at hrl;conv=>whnf
 refine⟨_,⟨ae _,eg⟩,?_⟩;conv=>whnf
 refine(pI (fun m st=>∃ou2,m=n.toNat+1-ou2.length∧pad ou2 n.toNat=pad ou n.toNat∧ou2.length≤1099511627777∧st=⟨[(5,.one (iv n)),(4,.one (iv i)),(9,.one (iv i)),(8,.one (iv (ints lv).length)),(7,.one (.sl 3 1 (ints lv) none)),(3,.one (.rref 20 0 (cY ou2).length)),(OB+20,.ob 20 0 (.rows 3 1 24 (cY ou2)))],[],[aS 20]⟩)
  (fun e st=>e= .exit 2∧∃ou2,n.toNat<ou2.length∧pad ou2 n.toNat=pad ou n.toNat∧ou2.length≤1099511627777∧st=⟨[(17,.one (bv false)),(16,.one (iv n)),(15,.one (iv (cY ou2).length)),(14,.one (.rref 20 0 (cY ou2).length)),(5,.one (iv n)),(4,.one (iv i)),(9,.one (iv i)),(8,.one (iv (ints lv).length)),(7,.one (.sl 3 1 (ints lv) none)),(3,.one (.rref 20 0 (cY ou2).length)),(OB+20,.ob 20 0 (.rows 3 1 24 (cY ou2)))],[],[aS 20]⟩)
  ?_ ?_ ?_:evCW Tryz.prog T J M44 G (.loop _) _ _)
 ·exact⟨n.toNat+1-ou.length,_,ww [5,4,9,8,7,3] [] [20] [] rfl,ou,rfl,rfl,by omega,rfl⟩
 ·rintro m st ⟨ou2,hm,hp,hl2,rfl⟩;have hrb:(cY ou2).length=ou2.length:=by simp[cY]
  conv=>whnf
  by_cases hc:((cY ou2).length:Int)≤n
  ·rw[ag hc];conv=>whnf
   refine⟨by show(cY ou2).length+1≤lim 24;simp[lim];omega,?_⟩;conv=>whnf
   refine⟨n.toNat+1-(ou2.length+1),_,by omega,ww [5,4,9,8,7,3] [] [20] [] rfl,ou2++[[]],by simp,by rw[acB (by omega)];exact hp,by simp;omega,?_⟩;have q:cY (ou2++[[]])=cY ou2++[[]]:=by simp[cY,ints]
   rw[q,aH];rfl
  ·rw[af hc];conv=>whnf
   exact⟨rfl,ou2,by omega,hp,hl2,rfl⟩
 ·rintro e st ⟨rfl,ou2,hl,hp,hl2,rfl⟩;have hrb:(cY ou2).length=ou2.length:=by simp[cY]
  have hpe:pad ou2 n.toNat=ou2:=by
   unfold pad;rw[show n.toNat+1-ou2.length=0 by omega];simp
  rw[←hp,hpe]at hrow hq;have hirl:=bh row;conv=>whnf
  refine⟨⟨hn0,by omega⟩,?_⟩;conv=>whnf
  refine⟨_,kT hrow,?_⟩;conv=>whnf
  refine⟨by show(ints row).length+1≤lim 8;simp[lim];omega,?_⟩;conv=>whnf
  refine⟨⟨hn0,by omega⟩,?_⟩;conv=>whnf
  refine⟨rfl,?_⟩;conv=>whnf
  rw[i64s i (by omega)];refine⟨j,_,ah j,ww [9,8,7,3] [] [20] [] rfl,i+1,_,by omega,hq,?_⟩;have e1:cY (ou2.set n.toNat (row++[(i:Int)]))=(cY ou2).set n.toNat (ints row++[[iv i]]):=by rw[←kS];simp[ints]
  rw[e1,dt];rfl
def nq(x:ByteArray):List BindD→Nat→Option Nat
 | [],_=>none
 |b::l,i=>if b.s=x then some i else nq x l (i+1)
def il(bs:List BindD):List ByteArray→List Int
 | []=>[]
 |s::l=>match nq s bs 0 with
  |some i=>(i:Int)::il bs l
  |none=>il bs l
def oa(k:Nat)(all:List BindD):List BindD→Option Gr
 | []=>some []
 |b::l=>match sJ k ⟨[],[]⟩ b.body with
  |some f=>if(il all f.ns).length≤12∧f.ns.length≤LIM then match oa k all l with
   |some g=>some (lW (il all f.ns)::g)
   |none=>none else none
  |none=>none
def vL(k:Nat)(bs:List BindD):Option Gr:=if bs.length≤4294967296 then oa k bs bs else none
structure Ck where
 ds:List DataD
 bs:List BindD
 graph:Gr
 grps:Gr
 of:List Int
 told:List (ByteArray×Sch)
 at_:Int
def ckC(c:Ck):List AC:=[.sl 158 4 (c.ds.map bS) none,.sl 80 8 (c.bs.map bz) none,.sl 24 1 (aW c.graph) none,.sl 24 1 (aW c.grps) none,.own 3 1 (ints c.of),.omap kz (envK c.told) (envV c.told),iv c.at_]
def ckA(c:Ck):AC:=.obox 71 (ckC c)
def chkR(K k:Nat)(p:ProgD):Option (Ck×Gr):=match vL k p.binds with
 |some g=>match sccR K g with
  |some gr=>match ofG gr 0 (List.replicate p.binds.length 0) with
   |some of=>match yu K g with
    |some w=>if gr.length≤LIM∧p.binds.length≤LIM then some (⟨p.datas,p.binds,g,gr,of,[],-1⟩,w) else none
    |none=>none
   |none=>none
  |none=>none
 |none=>none
abbrev Envl:=List (ByteArray×Sch)
def uw(c:Ck)(i:Int):List Int→Envl→Option (Option Envl)
 | [],out=>some (some out)
 |y::l,out=>match at? c.of y,at? c.bs y with
  |some o,some b=>if o=i then uw c i l out else match getA b.s c.told with
   |none=>some none
   |some s=>if out.length<4294967296 then uw c i l (out++[(b.s,s)]) else none
  |_,_=>none
def vS(c:Ck)(i:Int):List Int→Envl→Option (Option Envl)
 | [],out=>some (some out)
 |x::l,out=>match at? c.graph x with
  |some row=>if row.length≤LIM then match uw c i row out with
   |some (some o1)=>vS c i l o1
   |some none=>some none
   |none=>none else none
  |none=>none
def envR(c:Ck)(i:Int):Option (Option Envl):=match at? c.grps i with
 |some l=>if l.length≤LIM then vS c i l [] else none
 |none=>none
def kq(c:Ck):List Int→Option (List BindD)
 | []=>some []
 |x::l=>match at? c.bs x,kq c l with
  |some b,some bs=>some (b::bs)
  |_,_=>none
def qX:List BindD→List Sch→Envl→Option Envl
 | [],_,t=>some t
 |b::l,s::ss,t=>qX l ss (putA b.s s t)
 |_::_,[],_=>none
def tP:List BindD→Int→Int
 | [],a=>a
 |b::l,a=>tP l (if a<0∨b.at_<a then b.at_ else a)
def su(K:Nat)(ds:List DataD)(fd:FineDs ds)(c:Ck)(i:Int):Option Ck:=match envR c i with
 |none=>none
 |some none=>some c
 |some (some env)=>match at? c.grps i with
  |none=>none
  |some l=>match kq c l with
   |none=>none
   |some bs=>if bs.length≤4294967296∧env.length≤LIM then match zc K env ds fd bs with
    |none=>none
    |some (ss,e)=>if e=0 then match qX bs ss c.told with
     |some t=>some { c with told:=t}
     |none=>none
     else some { c with at_:=tP bs c.at_} else none
def rowK(K:Nat)(ds:List DataD)(fd:FineDs ds):List Int→Ck→Option Ck
 | [],c=>some c
 |i::l,c=>match su K ds fd c i with
  |some c1=>rowK K ds fd l c1
  |none=>none
def zZ(K:Nat)(ds:List DataD)(fd:FineDs ds):Gr→Ck→Option Ck
 | [],c=>some c
 |l::g,c=>if l.length≤LIM then match rowK K ds fd l c with
  |some c1=>zZ K ds fd g c1
  |none=>none else none
theorem uh{K:Nat}{ds:List DataD}{fd:FineDs ds}{c c':Ck}{i:Int}(h:su K ds fd c i=some c'):c'.ds=c.ds∧c'.bs=c.bs:=by
 unfold su at h
 repeat' split at h
 all_goals first
  |(cases h;exact⟨rfl,rfl⟩)
  |cases h
theorem aaa{K:Nat}{ds:List DataD}{fd:FineDs ds}:∀{l:List Int} {c c':Ck},rowK K ds fd l c=some c'→c'.ds=c.ds∧c'.bs=c.bs
 | [],c,c',h=>by cases h;exact⟨rfl,rfl⟩
 |i::l,c,c',h=>by
  unfold rowK at h;split at h
  ·rename_i c1 h1;have a:=uh h1;have b:=aaa h;exact⟨b.1.trans a.1,b.2.trans a.2⟩
  ·cases h
end
end Go.Proofs.YtgkenhpfiempbaaGreatDoor.V
