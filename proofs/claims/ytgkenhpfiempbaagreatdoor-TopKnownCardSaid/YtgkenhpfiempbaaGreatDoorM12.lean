/-
  Part M12: F121, F76, F77, UKb, UK2b, F72, F71a, F71, F40b, F69, F40, F74. Conditions stand in the theorems.
-/
import Derived.Test.YtgkenhpfiempbaaGreatDoorM11
import Derived.Test.YtgkenhpfiempbaaGreatDoorM08
set_option linter.all false
set_option maxRecDepth 1000000
set_option maxHeartbeats 8000000
namespace Go.Proofs.YtgkenhpfiempbaaGreatDoor.V
open Go Go.Proofs
noncomputable section
theorem afK{k:Nat}(ih:∀j,j<k→FiOk j∧InOk j):FiOk k:=by
 intro f e f' hf h;cases k with
 |zero=>simp[sJ]at h
 |succ k=>
 have ih:∀j,j≤k→FiOk j∧InOk j:=fun j hj=>ih j (by omega);obtain⟨nm,ns⟩:=f;obtain⟨kd,a,s,n,kids,alts⟩:=e;have hel:=eR kids;have hal:=fU alts;have hkl:=hf.1;have hkl2:=hf.2.1;unfold sJ adL at h;refine cw { fb:=[3],own:=[(238,1)]} Tryz.func121 (by kernel_rfl) ?_;unfold exC
 conv=>whnf
 by_cases h1:kd=1
 ·rw[ag h1];conv=>whnf
  rcases xA (x:=(s,false)) (l:=nm) with⟨ix,v,q0,q1,q2,q3⟩|⟨q0,q1,q3⟩
  ·refine⟨some ix,q1,?_⟩;conv=>whnf
   refine⟨_,q2,?_⟩;conv=>whnf
   by_cases hv:v=0
   ·rw[ag hv];conv=>whnf
    rcases xA (x:=(s,true)) (l:=nm) with⟨ix1,v1,r0,r1,r2,r3⟩|⟨r0,r1,r3⟩
    ·refine⟨some ix1,r1,?_⟩;conv=>whnf
     refine⟨_,r2,?_⟩;conv=>whnf
     refine⟨aN (by kernel_rfl),?_⟩;by_cases hv1:v1=0
     ·rw[if_pos ⟨h1,by simp[q3, *],by simp[r3, *]⟩]at h;split at h
      ·rename_i f2 hf2;split at hf2
       ·rename_i hb;unfold LIM at hb;have hb:ns.length<1099511627776:=hb;cases hf2;simp only at h;obtain⟨p1,p2⟩:=lC (y:=1) r0;rw[ag hv1];conv=>whnf
        refine⟨some ix1,r1,?_⟩;conv=>whnf
        refine⟨aN (by kernel_rfl),?_⟩;conv=>whnf
        refine⟨by show(ns.map str).length+1≤lim 16;simp[lim];omega,?_⟩;conv=>whnf
        refine⟨aN (by kernel_rfl),?_⟩;conv=>whnf
        refine⟨fun j st=>∃i nm2 ns2,i≤kids.length∧j≤k∧du j ⟨nm2,ns2⟩ kd s i (kids.drop i) alts=some f'∧st=⟨(54,.one (iv i))::(53,.one (iv (exsC kids).length))::(52,.one (.sl 78 6 (exsC kids) none))::(3,.one (.ref [.v (.int .i64 kd),.v (.int .i64 a),.v (.string s),.v (.int .i64 n),.sl 78 6 (exsC kids) none,.sl 226 9 (cf alts) none] 0))::(0,.one (.ptr 1500 0 0))::fobs nm2 ns2,
         [fbox (ns2.map str).length],[aS 100096,aS 100097]⟩,
         ⟨k,_,ww [54,53,52,3,0] [1500] [100096,100097] [.box 1500 1 100097] rfl,0,_,_,aR _,au _,h,by unfold fobs fbox;rw[p1,p2,bw,aH];rfl⟩,?_⟩
        rintro j st ⟨i,nm2,ns2,hi,hj,hq,rfl⟩;conv=>whnf
        cases j with
        |zero=>simp[du]at hq
        |succ j=>
        by_cases him:i<kids.length
        ·rw[ag (p:=(i:Int)<((exsC kids).length:Int)) (by omega)];rw[aj him]at hq;have eg:=dB (ad him);have hfe:=cP hf.2.2.1 (ad him);generalize kids[i]=e at hq eg hfe;unfold du at hq;split at hq
         ·rename_i f3 hwi;obtain⟨nm3,ns3⟩:=f3;by_cases h67:kd=6∨kd=7∧i=1
          ·rw[if_pos h67]at hwi;have hwc:=(ih j (by omega)).2 _ _ _ _ (by simp) hfe hwi;obtain⟨ek,ea,es,en,ekids,ealts⟩:=e;unfold exC at hwc;conv=>whnf
           refine⟨_,⟨ae _,eg⟩,?_⟩;unfold exC;conv=>whnf
           by_cases h6:kd=6
           ·rw[ag h6];conv=>whnf
            refine⟨_,_,hwc,?_⟩;conv=>whnf
            rw[i64s i (by omega)];exact⟨j,_,ah j,ww [54,53,52,3,0] [1500] [100096,100097] [] rfl,i+1,nm3,ns3,him,by omega,hq,rfl⟩
           ·rw[af h6];have h71:=h67.resolve_left h6;conv=>whnf
            rw[ag h71.1];conv=>whnf
            rw[ag (p:=(i:Int)=1) (by omega)];conv=>whnf
            refine⟨_,_,hwc,?_⟩;conv=>whnf
            rw[i64s i (by omega)];exact⟨j,_,ah j,ww [54,53,52,3,0] [1500] [100096,100097] [] rfl,i+1,nm3,ns3,him,by omega,hq,rfl⟩
          ·rw[if_neg h67]at hwi;have hwc:=(ih j (by omega)).1 _ _ _ hfe hwi;obtain⟨ek,ea,es,en,ekids,ealts⟩:=e;unfold exC at hwc;conv=>whnf
           refine⟨_,⟨ae _,eg⟩,?_⟩;unfold exC;conv=>whnf
           rw[af (p:=kd=6) (fun h=>h67 (.inl h))];conv=>whnf
           by_cases h7:kd=7
           ·rw[ag h7];conv=>whnf
            rw[af (p:=(i:Int)=1) (fun h=>h67 (.inr ⟨h7,by omega⟩))];conv=>whnf
            refine⟨_,_,hwc,?_⟩;conv=>whnf
            rw[i64s i (by omega)];exact⟨j,_,ah j,ww [54,53,52,3,0] [1500] [100096,100097] [] rfl,i+1,nm3,ns3,him,by omega,hq,rfl⟩
           ·rw[af h7];conv=>whnf
            refine⟨_,_,hwc,?_⟩;conv=>whnf
            rw[i64s i (by omega)];exact⟨j,_,ah j,ww [54,53,52,3,0] [1500] [100096,100097] [] rfl,i+1,nm3,ns3,him,by omega,hq,rfl⟩
         ·cases hq
        ·rw[af (p:=(i:Int)<((exsC kids).length:Int)) (by omega)];rw[ap (by omega)]at hq;unfold du at hq;conv=>whnf
         refine⟨fun m st=>∃i nm2 ns2,i≤alts.length∧m≤j∧dw m ⟨nm2,ns2⟩ (alts.drop i)=some f'∧st=⟨(84,.one (iv i))::(83,.one (iv (cf alts).length))::(82,.one (.sl 226 9 (cf alts) none))::(0,.one (.ptr 1500 0 0))::fobs nm2 ns2,
          [fbox (ns2.map str).length],[aS 100096,aS 100097]⟩,
          ⟨j,_,ww [84,83,82,0] [1500] [100096,100097] [] rfl,0,_,_,aR _,au _,hq,rfl⟩,?_⟩
         rintro m st ⟨i,nm2,ns2,hi,hm,hq,rfl⟩;conv=>whnf
         cases m with
         |zero=>simp[dw]at hq
         |succ m=>
         by_cases him:i<alts.length
         ·rw[ag (p:=(i:Int)<((cf alts).length:Int)) (by omega)];rw[aj him]at hq;have eg:=fa (ad him);have hfa:=eK hf.2.2.2 (ad him);generalize alts[i]=al at hq eg hfa
          obtain⟨aa,con,names,bk,ba,bs,bn,bkids,balts⟩:=al;unfold dw at hq;split at hq
          ·rename_i f3 hwi;obtain⟨nm3,ns3⟩:=f3;have hwc:=(ih m (by omega)).2 _ _ _ _ hfa.1 hfa.2 hwi;unfold exC at hwc;conv=>whnf
           refine⟨_,⟨ae _,eg⟩,?_⟩;unfold altC exC;conv=>whnf
           refine⟨_,_,hwc,?_⟩;conv=>whnf
           rw[i64s i (by omega)];exact⟨m,_,ah m,ww [84,83,82,0] [1500] [100096,100097] [] rfl,i+1,nm3,ns3,him,by omega,hq,rfl⟩
          ·cases hq
         ·rw[af (p:=(i:Int)<((cf alts).length:Int)) (by omega)];rw[ap (by omega)]at hq;unfold dw at hq;cases hq;conv=>whnf
          exact⟨rfl,rfl⟩
       ·cases hf2
      ·cases h
     ·rw[if_neg (fun h=>hv1 (by have:=h.2.2;rw[r3]at this;exact this))]at h;simp only at h;rw[af hv1];conv=>whnf
      refine⟨fun j st=>∃i nm2 ns2,i≤kids.length∧j≤k∧du j ⟨nm2,ns2⟩ kd s i (kids.drop i) alts=some f'∧st=⟨(54,.one (iv i))::(53,.one (iv (exsC kids).length))::(52,.one (.sl 78 6 (exsC kids) none))::(3,.one (.ref [.v (.int .i64 kd),.v (.int .i64 a),.v (.string s),.v (.int .i64 n),.sl 78 6 (exsC kids) none,.sl 226 9 (cf alts) none] 0))::(0,.one (.ptr 1500 0 0))::fobs nm2 ns2,
       [fbox (ns2.map str).length],[aS 100096,aS 100097]⟩,
       ⟨k,_,ww [54,53,52,3,0] [1500] [100096,100097] [] rfl,0,_,_,aR _,au _,h,rfl⟩,?_⟩
      rintro j st ⟨i,nm2,ns2,hi,hj,hq,rfl⟩;conv=>whnf
      cases j with
      |zero=>simp[du]at hq
      |succ j=>
      by_cases him:i<kids.length
      ·rw[ag (p:=(i:Int)<((exsC kids).length:Int)) (by omega)];rw[aj him]at hq;have eg:=dB (ad him);have hfe:=cP hf.2.2.1 (ad him);generalize kids[i]=e at hq eg hfe;unfold du at hq;split at hq
       ·rename_i f3 hwi;obtain⟨nm3,ns3⟩:=f3;by_cases h67:kd=6∨kd=7∧i=1
        ·rw[if_pos h67]at hwi;have hwc:=(ih j (by omega)).2 _ _ _ _ (by simp) hfe hwi;obtain⟨ek,ea,es,en,ekids,ealts⟩:=e;unfold exC at hwc;conv=>whnf
         refine⟨_,⟨ae _,eg⟩,?_⟩;unfold exC;conv=>whnf
         by_cases h6:kd=6
         ·rw[ag h6];conv=>whnf
          refine⟨_,_,hwc,?_⟩;conv=>whnf
          rw[i64s i (by omega)];exact⟨j,_,ah j,ww [54,53,52,3,0] [1500] [100096,100097] [] rfl,i+1,nm3,ns3,him,by omega,hq,rfl⟩
         ·rw[af h6];have h71:=h67.resolve_left h6;conv=>whnf
          rw[ag h71.1];conv=>whnf
          rw[ag (p:=(i:Int)=1) (by omega)];conv=>whnf
          refine⟨_,_,hwc,?_⟩;conv=>whnf
          rw[i64s i (by omega)];exact⟨j,_,ah j,ww [54,53,52,3,0] [1500] [100096,100097] [] rfl,i+1,nm3,ns3,him,by omega,hq,rfl⟩
        ·rw[if_neg h67]at hwi;have hwc:=(ih j (by omega)).1 _ _ _ hfe hwi;obtain⟨ek,ea,es,en,ekids,ealts⟩:=e;unfold exC at hwc;conv=>whnf
         refine⟨_,⟨ae _,eg⟩,?_⟩;unfold exC;conv=>whnf
         rw[af (p:=kd=6) (fun h=>h67 (.inl h))];conv=>whnf
         by_cases h7:kd=7
         ·rw[ag h7];conv=>whnf
          rw[af (p:=(i:Int)=1) (fun h=>h67 (.inr ⟨h7,by omega⟩))];conv=>whnf
          refine⟨_,_,hwc,?_⟩;conv=>whnf
          rw[i64s i (by omega)];exact⟨j,_,ah j,ww [54,53,52,3,0] [1500] [100096,100097] [] rfl,i+1,nm3,ns3,him,by omega,hq,rfl⟩
         ·rw[af h7];conv=>whnf
          refine⟨_,_,hwc,?_⟩;conv=>whnf
          rw[i64s i (by omega)];exact⟨j,_,ah j,ww [54,53,52,3,0] [1500] [100096,100097] [] rfl,i+1,nm3,ns3,him,by omega,hq,rfl⟩
       ·cases hq
      ·rw[af (p:=(i:Int)<((exsC kids).length:Int)) (by omega)];rw[ap (by omega)]at hq;unfold du at hq;conv=>whnf
       refine⟨fun m st=>∃i nm2 ns2,i≤alts.length∧m≤j∧dw m ⟨nm2,ns2⟩ (alts.drop i)=some f'∧st=⟨(84,.one (iv i))::(83,.one (iv (cf alts).length))::(82,.one (.sl 226 9 (cf alts) none))::(0,.one (.ptr 1500 0 0))::fobs nm2 ns2,
        [fbox (ns2.map str).length],[aS 100096,aS 100097]⟩,
        ⟨j,_,ww [84,83,82,0] [1500] [100096,100097] [] rfl,0,_,_,aR _,au _,hq,rfl⟩,?_⟩
       rintro m st ⟨i,nm2,ns2,hi,hm,hq,rfl⟩;conv=>whnf
       cases m with
       |zero=>simp[dw]at hq
       |succ m=>
       by_cases him:i<alts.length
       ·rw[ag (p:=(i:Int)<((cf alts).length:Int)) (by omega)];rw[aj him]at hq;have eg:=fa (ad him);have hfa:=eK hf.2.2.2 (ad him);generalize alts[i]=al at hq eg hfa
        obtain⟨aa,con,names,bk,ba,bs,bn,bkids,balts⟩:=al;unfold dw at hq;split at hq
        ·rename_i f3 hwi;obtain⟨nm3,ns3⟩:=f3;have hwc:=(ih m (by omega)).2 _ _ _ _ hfa.1 hfa.2 hwi;unfold exC at hwc;conv=>whnf
         refine⟨_,⟨ae _,eg⟩,?_⟩;unfold altC exC;conv=>whnf
         refine⟨_,_,hwc,?_⟩;conv=>whnf
         rw[i64s i (by omega)];exact⟨m,_,ah m,ww [84,83,82,0] [1500] [100096,100097] [] rfl,i+1,nm3,ns3,him,by omega,hq,rfl⟩
        ·cases hq
       ·rw[af (p:=(i:Int)<((cf alts).length:Int)) (by omega)];rw[ap (by omega)]at hq;unfold dw at hq;cases hq;conv=>whnf
        exact⟨rfl,rfl⟩
    ·refine⟨none,r1,?_⟩;conv=>whnf
     refine⟨aN (by kernel_rfl),?_⟩;rw[if_pos ⟨h1,by simp[q3, *],by simp[r3, *]⟩]at h;split at h
     ·rename_i f2 hf2;split at hf2
      ·rename_i hb;unfold LIM at hb;have hb:ns.length<1099511627776:=hb;cases hf2;simp only at h;obtain⟨p1,p2⟩:=lD (y:=1) r0;conv=>whnf
       refine⟨none,r1,?_⟩;conv=>whnf
       refine⟨aN (by kernel_rfl),?_⟩;conv=>whnf
       refine⟨by show(ns.map str).length+1≤lim 16;simp[lim];omega,?_⟩;conv=>whnf
       refine⟨aN (by kernel_rfl),?_⟩;conv=>whnf
       refine⟨fun j st=>∃i nm2 ns2,i≤kids.length∧j≤k∧du j ⟨nm2,ns2⟩ kd s i (kids.drop i) alts=some f'∧st=⟨(54,.one (iv i))::(53,.one (iv (exsC kids).length))::(52,.one (.sl 78 6 (exsC kids) none))::(3,.one (.ref [.v (.int .i64 kd),.v (.int .i64 a),.v (.string s),.v (.int .i64 n),.sl 78 6 (exsC kids) none,.sl 226 9 (cf alts) none] 0))::(0,.one (.ptr 1500 0 0))::fobs nm2 ns2,
        [fbox (ns2.map str).length],[aS 100096,aS 100097]⟩,
        ⟨k,_,ww [54,53,52,3,0] [1500] [100096,100097] [.box 1500 1 100097] rfl,0,_,_,aR _,au _,h,by unfold fobs fbox;rw[p1,p2,bw,aH];rfl⟩,?_⟩
       rintro j st ⟨i,nm2,ns2,hi,hj,hq,rfl⟩;conv=>whnf
       cases j with
       |zero=>simp[du]at hq
       |succ j=>
       by_cases him:i<kids.length
       ·rw[ag (p:=(i:Int)<((exsC kids).length:Int)) (by omega)];rw[aj him]at hq;have eg:=dB (ad him);have hfe:=cP hf.2.2.1 (ad him);generalize kids[i]=e at hq eg hfe;unfold du at hq;split at hq
        ·rename_i f3 hwi;obtain⟨nm3,ns3⟩:=f3;by_cases h67:kd=6∨kd=7∧i=1
         ·rw[if_pos h67]at hwi;have hwc:=(ih j (by omega)).2 _ _ _ _ (by simp) hfe hwi;obtain⟨ek,ea,es,en,ekids,ealts⟩:=e;unfold exC at hwc;conv=>whnf
          refine⟨_,⟨ae _,eg⟩,?_⟩;unfold exC;conv=>whnf
          by_cases h6:kd=6
          ·rw[ag h6];conv=>whnf
           refine⟨_,_,hwc,?_⟩;conv=>whnf
           rw[i64s i (by omega)];exact⟨j,_,ah j,ww [54,53,52,3,0] [1500] [100096,100097] [] rfl,i+1,nm3,ns3,him,by omega,hq,rfl⟩
          ·rw[af h6];have h71:=h67.resolve_left h6;conv=>whnf
           rw[ag h71.1];conv=>whnf
           rw[ag (p:=(i:Int)=1) (by omega)];conv=>whnf
           refine⟨_,_,hwc,?_⟩;conv=>whnf
           rw[i64s i (by omega)];exact⟨j,_,ah j,ww [54,53,52,3,0] [1500] [100096,100097] [] rfl,i+1,nm3,ns3,him,by omega,hq,rfl⟩
         ·rw[if_neg h67]at hwi;have hwc:=(ih j (by omega)).1 _ _ _ hfe hwi;obtain⟨ek,ea,es,en,ekids,ealts⟩:=e;unfold exC at hwc;conv=>whnf
          refine⟨_,⟨ae _,eg⟩,?_⟩;unfold exC;conv=>whnf
          rw[af (p:=kd=6) (fun h=>h67 (.inl h))];conv=>whnf
          by_cases h7:kd=7
          ·rw[ag h7];conv=>whnf
           rw[af (p:=(i:Int)=1) (fun h=>h67 (.inr ⟨h7,by omega⟩))];conv=>whnf
           refine⟨_,_,hwc,?_⟩;conv=>whnf
           rw[i64s i (by omega)];exact⟨j,_,ah j,ww [54,53,52,3,0] [1500] [100096,100097] [] rfl,i+1,nm3,ns3,him,by omega,hq,rfl⟩
          ·rw[af h7];conv=>whnf
           refine⟨_,_,hwc,?_⟩;conv=>whnf
           rw[i64s i (by omega)];exact⟨j,_,ah j,ww [54,53,52,3,0] [1500] [100096,100097] [] rfl,i+1,nm3,ns3,him,by omega,hq,rfl⟩
        ·cases hq
       ·rw[af (p:=(i:Int)<((exsC kids).length:Int)) (by omega)];rw[ap (by omega)]at hq;unfold du at hq;conv=>whnf
        refine⟨fun m st=>∃i nm2 ns2,i≤alts.length∧m≤j∧dw m ⟨nm2,ns2⟩ (alts.drop i)=some f'∧st=⟨(84,.one (iv i))::(83,.one (iv (cf alts).length))::(82,.one (.sl 226 9 (cf alts) none))::(0,.one (.ptr 1500 0 0))::fobs nm2 ns2,
         [fbox (ns2.map str).length],[aS 100096,aS 100097]⟩,
         ⟨j,_,ww [84,83,82,0] [1500] [100096,100097] [] rfl,0,_,_,aR _,au _,hq,rfl⟩,?_⟩
        rintro m st ⟨i,nm2,ns2,hi,hm,hq,rfl⟩;conv=>whnf
        cases m with
        |zero=>simp[dw]at hq
        |succ m=>
        by_cases him:i<alts.length
        ·rw[ag (p:=(i:Int)<((cf alts).length:Int)) (by omega)];rw[aj him]at hq;have eg:=fa (ad him);have hfa:=eK hf.2.2.2 (ad him);generalize alts[i]=al at hq eg hfa
         obtain⟨aa,con,names,bk,ba,bs,bn,bkids,balts⟩:=al;unfold dw at hq;split at hq
         ·rename_i f3 hwi;obtain⟨nm3,ns3⟩:=f3;have hwc:=(ih m (by omega)).2 _ _ _ _ hfa.1 hfa.2 hwi;unfold exC at hwc;conv=>whnf
          refine⟨_,⟨ae _,eg⟩,?_⟩;unfold altC exC;conv=>whnf
          refine⟨_,_,hwc,?_⟩;conv=>whnf
          rw[i64s i (by omega)];exact⟨m,_,ah m,ww [84,83,82,0] [1500] [100096,100097] [] rfl,i+1,nm3,ns3,him,by omega,hq,rfl⟩
         ·cases hq
        ·rw[af (p:=(i:Int)<((cf alts).length:Int)) (by omega)];rw[ap (by omega)]at hq;unfold dw at hq;cases hq;conv=>whnf
         exact⟨rfl,rfl⟩
      ·cases hf2
     ·cases h
   ·rw[af hv];conv=>whnf
    refine⟨aN (by kernel_rfl),?_⟩;rw[if_neg (fun h=>hv (by have:=h.2.1;rw[q3]at this;exact this))]at h;simp only at h;conv=>whnf
    refine⟨fun j st=>∃i nm2 ns2,i≤kids.length∧j≤k∧du j ⟨nm2,ns2⟩ kd s i (kids.drop i) alts=some f'∧st=⟨(54,.one (iv i))::(53,.one (iv (exsC kids).length))::(52,.one (.sl 78 6 (exsC kids) none))::(3,.one (.ref [.v (.int .i64 kd),.v (.int .i64 a),.v (.string s),.v (.int .i64 n),.sl 78 6 (exsC kids) none,.sl 226 9 (cf alts) none] 0))::(0,.one (.ptr 1500 0 0))::fobs nm2 ns2,
     [fbox (ns2.map str).length],[aS 100096,aS 100097]⟩,
     ⟨k,_,ww [54,53,52,3,0] [1500] [100096,100097] [] rfl,0,_,_,aR _,au _,h,rfl⟩,?_⟩
    rintro j st ⟨i,nm2,ns2,hi,hj,hq,rfl⟩;conv=>whnf
    cases j with
    |zero=>simp[du]at hq
    |succ j=>
    by_cases him:i<kids.length
    ·rw[ag (p:=(i:Int)<((exsC kids).length:Int)) (by omega)];rw[aj him]at hq;have eg:=dB (ad him);have hfe:=cP hf.2.2.1 (ad him);generalize kids[i]=e at hq eg hfe;unfold du at hq;split at hq
     ·rename_i f3 hwi;obtain⟨nm3,ns3⟩:=f3;by_cases h67:kd=6∨kd=7∧i=1
      ·rw[if_pos h67]at hwi;have hwc:=(ih j (by omega)).2 _ _ _ _ (by simp) hfe hwi;obtain⟨ek,ea,es,en,ekids,ealts⟩:=e;unfold exC at hwc;conv=>whnf
       refine⟨_,⟨ae _,eg⟩,?_⟩;unfold exC;conv=>whnf
       by_cases h6:kd=6
       ·rw[ag h6];conv=>whnf
        refine⟨_,_,hwc,?_⟩;conv=>whnf
        rw[i64s i (by omega)];exact⟨j,_,ah j,ww [54,53,52,3,0] [1500] [100096,100097] [] rfl,i+1,nm3,ns3,him,by omega,hq,rfl⟩
       ·rw[af h6];have h71:=h67.resolve_left h6;conv=>whnf
        rw[ag h71.1];conv=>whnf
        rw[ag (p:=(i:Int)=1) (by omega)];conv=>whnf
        refine⟨_,_,hwc,?_⟩;conv=>whnf
        rw[i64s i (by omega)];exact⟨j,_,ah j,ww [54,53,52,3,0] [1500] [100096,100097] [] rfl,i+1,nm3,ns3,him,by omega,hq,rfl⟩
      ·rw[if_neg h67]at hwi;have hwc:=(ih j (by omega)).1 _ _ _ hfe hwi;obtain⟨ek,ea,es,en,ekids,ealts⟩:=e;unfold exC at hwc;conv=>whnf
       refine⟨_,⟨ae _,eg⟩,?_⟩;unfold exC;conv=>whnf
       rw[af (p:=kd=6) (fun h=>h67 (.inl h))];conv=>whnf
       by_cases h7:kd=7
       ·rw[ag h7];conv=>whnf
        rw[af (p:=(i:Int)=1) (fun h=>h67 (.inr ⟨h7,by omega⟩))];conv=>whnf
        refine⟨_,_,hwc,?_⟩;conv=>whnf
        rw[i64s i (by omega)];exact⟨j,_,ah j,ww [54,53,52,3,0] [1500] [100096,100097] [] rfl,i+1,nm3,ns3,him,by omega,hq,rfl⟩
       ·rw[af h7];conv=>whnf
        refine⟨_,_,hwc,?_⟩;conv=>whnf
        rw[i64s i (by omega)];exact⟨j,_,ah j,ww [54,53,52,3,0] [1500] [100096,100097] [] rfl,i+1,nm3,ns3,him,by omega,hq,rfl⟩
     ·cases hq
    ·rw[af (p:=(i:Int)<((exsC kids).length:Int)) (by omega)];rw[ap (by omega)]at hq;unfold du at hq;conv=>whnf
     refine⟨fun m st=>∃i nm2 ns2,i≤alts.length∧m≤j∧dw m ⟨nm2,ns2⟩ (alts.drop i)=some f'∧st=⟨(84,.one (iv i))::(83,.one (iv (cf alts).length))::(82,.one (.sl 226 9 (cf alts) none))::(0,.one (.ptr 1500 0 0))::fobs nm2 ns2,
      [fbox (ns2.map str).length],[aS 100096,aS 100097]⟩,
      ⟨j,_,ww [84,83,82,0] [1500] [100096,100097] [] rfl,0,_,_,aR _,au _,hq,rfl⟩,?_⟩
     rintro m st ⟨i,nm2,ns2,hi,hm,hq,rfl⟩;conv=>whnf
     cases m with
     |zero=>simp[dw]at hq
     |succ m=>
     by_cases him:i<alts.length
     ·rw[ag (p:=(i:Int)<((cf alts).length:Int)) (by omega)];rw[aj him]at hq;have eg:=fa (ad him);have hfa:=eK hf.2.2.2 (ad him);generalize alts[i]=al at hq eg hfa
      obtain⟨aa,con,names,bk,ba,bs,bn,bkids,balts⟩:=al;unfold dw at hq;split at hq
      ·rename_i f3 hwi;obtain⟨nm3,ns3⟩:=f3;have hwc:=(ih m (by omega)).2 _ _ _ _ hfa.1 hfa.2 hwi;unfold exC at hwc;conv=>whnf
       refine⟨_,⟨ae _,eg⟩,?_⟩;unfold altC exC;conv=>whnf
       refine⟨_,_,hwc,?_⟩;conv=>whnf
       rw[i64s i (by omega)];exact⟨m,_,ah m,ww [84,83,82,0] [1500] [100096,100097] [] rfl,i+1,nm3,ns3,him,by omega,hq,rfl⟩
      ·cases hq
     ·rw[af (p:=(i:Int)<((cf alts).length:Int)) (by omega)];rw[ap (by omega)]at hq;unfold dw at hq;cases hq;conv=>whnf
      exact⟨rfl,rfl⟩
  ·refine⟨none,q1,?_⟩;conv=>whnf
   rcases xA (x:=(s,true)) (l:=nm) with⟨ix1,v1,r0,r1,r2,r3⟩|⟨r0,r1,r3⟩
   ·refine⟨some ix1,r1,?_⟩;conv=>whnf
    refine⟨_,r2,?_⟩;conv=>whnf
    refine⟨aN (by kernel_rfl),?_⟩;by_cases hv1:v1=0
    ·rw[if_pos ⟨h1,by simp[q3, *],by simp[r3, *]⟩]at h;split at h
     ·rename_i f2 hf2;split at hf2
      ·rename_i hb;unfold LIM at hb;have hb:ns.length<1099511627776:=hb;cases hf2;simp only at h;obtain⟨p1,p2⟩:=lC (y:=1) r0;rw[ag hv1];conv=>whnf
       refine⟨some ix1,r1,?_⟩;conv=>whnf
       refine⟨aN (by kernel_rfl),?_⟩;conv=>whnf
       refine⟨by show(ns.map str).length+1≤lim 16;simp[lim];omega,?_⟩;conv=>whnf
       refine⟨aN (by kernel_rfl),?_⟩;conv=>whnf
       refine⟨fun j st=>∃i nm2 ns2,i≤kids.length∧j≤k∧du j ⟨nm2,ns2⟩ kd s i (kids.drop i) alts=some f'∧st=⟨(54,.one (iv i))::(53,.one (iv (exsC kids).length))::(52,.one (.sl 78 6 (exsC kids) none))::(3,.one (.ref [.v (.int .i64 kd),.v (.int .i64 a),.v (.string s),.v (.int .i64 n),.sl 78 6 (exsC kids) none,.sl 226 9 (cf alts) none] 0))::(0,.one (.ptr 1500 0 0))::fobs nm2 ns2,
        [fbox (ns2.map str).length],[aS 100096,aS 100097]⟩,
        ⟨k,_,ww [54,53,52,3,0] [1500] [100096,100097] [.box 1500 1 100097] rfl,0,_,_,aR _,au _,h,by unfold fobs fbox;rw[p1,p2,bw,aH];rfl⟩,?_⟩
       rintro j st ⟨i,nm2,ns2,hi,hj,hq,rfl⟩;conv=>whnf
       cases j with
       |zero=>simp[du]at hq
       |succ j=>
       by_cases him:i<kids.length
       ·rw[ag (p:=(i:Int)<((exsC kids).length:Int)) (by omega)];rw[aj him]at hq;have eg:=dB (ad him);have hfe:=cP hf.2.2.1 (ad him);generalize kids[i]=e at hq eg hfe;unfold du at hq;split at hq
        ·rename_i f3 hwi;obtain⟨nm3,ns3⟩:=f3;by_cases h67:kd=6∨kd=7∧i=1
         ·rw[if_pos h67]at hwi;have hwc:=(ih j (by omega)).2 _ _ _ _ (by simp) hfe hwi;obtain⟨ek,ea,es,en,ekids,ealts⟩:=e;unfold exC at hwc;conv=>whnf
          refine⟨_,⟨ae _,eg⟩,?_⟩;unfold exC;conv=>whnf
          by_cases h6:kd=6
          ·rw[ag h6];conv=>whnf
           refine⟨_,_,hwc,?_⟩;conv=>whnf
           rw[i64s i (by omega)];exact⟨j,_,ah j,ww [54,53,52,3,0] [1500] [100096,100097] [] rfl,i+1,nm3,ns3,him,by omega,hq,rfl⟩
          ·rw[af h6];have h71:=h67.resolve_left h6;conv=>whnf
           rw[ag h71.1];conv=>whnf
           rw[ag (p:=(i:Int)=1) (by omega)];conv=>whnf
           refine⟨_,_,hwc,?_⟩;conv=>whnf
           rw[i64s i (by omega)];exact⟨j,_,ah j,ww [54,53,52,3,0] [1500] [100096,100097] [] rfl,i+1,nm3,ns3,him,by omega,hq,rfl⟩
         ·rw[if_neg h67]at hwi;have hwc:=(ih j (by omega)).1 _ _ _ hfe hwi;obtain⟨ek,ea,es,en,ekids,ealts⟩:=e;unfold exC at hwc;conv=>whnf
          refine⟨_,⟨ae _,eg⟩,?_⟩;unfold exC;conv=>whnf
          rw[af (p:=kd=6) (fun h=>h67 (.inl h))];conv=>whnf
          by_cases h7:kd=7
          ·rw[ag h7];conv=>whnf
           rw[af (p:=(i:Int)=1) (fun h=>h67 (.inr ⟨h7,by omega⟩))];conv=>whnf
           refine⟨_,_,hwc,?_⟩;conv=>whnf
           rw[i64s i (by omega)];exact⟨j,_,ah j,ww [54,53,52,3,0] [1500] [100096,100097] [] rfl,i+1,nm3,ns3,him,by omega,hq,rfl⟩
          ·rw[af h7];conv=>whnf
           refine⟨_,_,hwc,?_⟩;conv=>whnf
           rw[i64s i (by omega)];exact⟨j,_,ah j,ww [54,53,52,3,0] [1500] [100096,100097] [] rfl,i+1,nm3,ns3,him,by omega,hq,rfl⟩
        ·cases hq
       ·rw[af (p:=(i:Int)<((exsC kids).length:Int)) (by omega)];rw[ap (by omega)]at hq;unfold du at hq;conv=>whnf
        refine⟨fun m st=>∃i nm2 ns2,i≤alts.length∧m≤j∧dw m ⟨nm2,ns2⟩ (alts.drop i)=some f'∧st=⟨(84,.one (iv i))::(83,.one (iv (cf alts).length))::(82,.one (.sl 226 9 (cf alts) none))::(0,.one (.ptr 1500 0 0))::fobs nm2 ns2,
         [fbox (ns2.map str).length],[aS 100096,aS 100097]⟩,
         ⟨j,_,ww [84,83,82,0] [1500] [100096,100097] [] rfl,0,_,_,aR _,au _,hq,rfl⟩,?_⟩
        rintro m st ⟨i,nm2,ns2,hi,hm,hq,rfl⟩;conv=>whnf
        cases m with
        |zero=>simp[dw]at hq
        |succ m=>
        by_cases him:i<alts.length
        ·rw[ag (p:=(i:Int)<((cf alts).length:Int)) (by omega)];rw[aj him]at hq;have eg:=fa (ad him);have hfa:=eK hf.2.2.2 (ad him);generalize alts[i]=al at hq eg hfa
         obtain⟨aa,con,names,bk,ba,bs,bn,bkids,balts⟩:=al;unfold dw at hq;split at hq
         ·rename_i f3 hwi;obtain⟨nm3,ns3⟩:=f3;have hwc:=(ih m (by omega)).2 _ _ _ _ hfa.1 hfa.2 hwi;unfold exC at hwc;conv=>whnf
          refine⟨_,⟨ae _,eg⟩,?_⟩;unfold altC exC;conv=>whnf
          refine⟨_,_,hwc,?_⟩;conv=>whnf
          rw[i64s i (by omega)];exact⟨m,_,ah m,ww [84,83,82,0] [1500] [100096,100097] [] rfl,i+1,nm3,ns3,him,by omega,hq,rfl⟩
         ·cases hq
        ·rw[af (p:=(i:Int)<((cf alts).length:Int)) (by omega)];rw[ap (by omega)]at hq;unfold dw at hq;cases hq;conv=>whnf
         exact⟨rfl,rfl⟩
      ·cases hf2
     ·cases h
    ·rw[if_neg (fun h=>hv1 (by have:=h.2.2;rw[r3]at this;exact this))]at h;simp only at h;rw[af hv1];conv=>whnf
     refine⟨fun j st=>∃i nm2 ns2,i≤kids.length∧j≤k∧du j ⟨nm2,ns2⟩ kd s i (kids.drop i) alts=some f'∧st=⟨(54,.one (iv i))::(53,.one (iv (exsC kids).length))::(52,.one (.sl 78 6 (exsC kids) none))::(3,.one (.ref [.v (.int .i64 kd),.v (.int .i64 a),.v (.string s),.v (.int .i64 n),.sl 78 6 (exsC kids) none,.sl 226 9 (cf alts) none] 0))::(0,.one (.ptr 1500 0 0))::fobs nm2 ns2,
      [fbox (ns2.map str).length],[aS 100096,aS 100097]⟩,
      ⟨k,_,ww [54,53,52,3,0] [1500] [100096,100097] [] rfl,0,_,_,aR _,au _,h,rfl⟩,?_⟩
     rintro j st ⟨i,nm2,ns2,hi,hj,hq,rfl⟩;conv=>whnf
     cases j with
     |zero=>simp[du]at hq
     |succ j=>
     by_cases him:i<kids.length
     ·rw[ag (p:=(i:Int)<((exsC kids).length:Int)) (by omega)];rw[aj him]at hq;have eg:=dB (ad him);have hfe:=cP hf.2.2.1 (ad him);generalize kids[i]=e at hq eg hfe;unfold du at hq;split at hq
      ·rename_i f3 hwi;obtain⟨nm3,ns3⟩:=f3;by_cases h67:kd=6∨kd=7∧i=1
       ·rw[if_pos h67]at hwi;have hwc:=(ih j (by omega)).2 _ _ _ _ (by simp) hfe hwi;obtain⟨ek,ea,es,en,ekids,ealts⟩:=e;unfold exC at hwc;conv=>whnf
        refine⟨_,⟨ae _,eg⟩,?_⟩;unfold exC;conv=>whnf
        by_cases h6:kd=6
        ·rw[ag h6];conv=>whnf
         refine⟨_,_,hwc,?_⟩;conv=>whnf
         rw[i64s i (by omega)];exact⟨j,_,ah j,ww [54,53,52,3,0] [1500] [100096,100097] [] rfl,i+1,nm3,ns3,him,by omega,hq,rfl⟩
        ·rw[af h6];have h71:=h67.resolve_left h6;conv=>whnf
         rw[ag h71.1];conv=>whnf
         rw[ag (p:=(i:Int)=1) (by omega)];conv=>whnf
         refine⟨_,_,hwc,?_⟩;conv=>whnf
         rw[i64s i (by omega)];exact⟨j,_,ah j,ww [54,53,52,3,0] [1500] [100096,100097] [] rfl,i+1,nm3,ns3,him,by omega,hq,rfl⟩
       ·rw[if_neg h67]at hwi;have hwc:=(ih j (by omega)).1 _ _ _ hfe hwi;obtain⟨ek,ea,es,en,ekids,ealts⟩:=e;unfold exC at hwc;conv=>whnf
        refine⟨_,⟨ae _,eg⟩,?_⟩;unfold exC;conv=>whnf
        rw[af (p:=kd=6) (fun h=>h67 (.inl h))];conv=>whnf
        by_cases h7:kd=7
        ·rw[ag h7];conv=>whnf
         rw[af (p:=(i:Int)=1) (fun h=>h67 (.inr ⟨h7,by omega⟩))];conv=>whnf
         refine⟨_,_,hwc,?_⟩;conv=>whnf
         rw[i64s i (by omega)];exact⟨j,_,ah j,ww [54,53,52,3,0] [1500] [100096,100097] [] rfl,i+1,nm3,ns3,him,by omega,hq,rfl⟩
        ·rw[af h7];conv=>whnf
         refine⟨_,_,hwc,?_⟩;conv=>whnf
         rw[i64s i (by omega)];exact⟨j,_,ah j,ww [54,53,52,3,0] [1500] [100096,100097] [] rfl,i+1,nm3,ns3,him,by omega,hq,rfl⟩
      ·cases hq
     ·rw[af (p:=(i:Int)<((exsC kids).length:Int)) (by omega)];rw[ap (by omega)]at hq;unfold du at hq;conv=>whnf
      refine⟨fun m st=>∃i nm2 ns2,i≤alts.length∧m≤j∧dw m ⟨nm2,ns2⟩ (alts.drop i)=some f'∧st=⟨(84,.one (iv i))::(83,.one (iv (cf alts).length))::(82,.one (.sl 226 9 (cf alts) none))::(0,.one (.ptr 1500 0 0))::fobs nm2 ns2,
       [fbox (ns2.map str).length],[aS 100096,aS 100097]⟩,
       ⟨j,_,ww [84,83,82,0] [1500] [100096,100097] [] rfl,0,_,_,aR _,au _,hq,rfl⟩,?_⟩
      rintro m st ⟨i,nm2,ns2,hi,hm,hq,rfl⟩;conv=>whnf
      cases m with
      |zero=>simp[dw]at hq
      |succ m=>
      by_cases him:i<alts.length
      ·rw[ag (p:=(i:Int)<((cf alts).length:Int)) (by omega)];rw[aj him]at hq;have eg:=fa (ad him);have hfa:=eK hf.2.2.2 (ad him);generalize alts[i]=al at hq eg hfa
       obtain⟨aa,con,names,bk,ba,bs,bn,bkids,balts⟩:=al;unfold dw at hq;split at hq
       ·rename_i f3 hwi;obtain⟨nm3,ns3⟩:=f3;have hwc:=(ih m (by omega)).2 _ _ _ _ hfa.1 hfa.2 hwi;unfold exC at hwc;conv=>whnf
        refine⟨_,⟨ae _,eg⟩,?_⟩;unfold altC exC;conv=>whnf
        refine⟨_,_,hwc,?_⟩;conv=>whnf
        rw[i64s i (by omega)];exact⟨m,_,ah m,ww [84,83,82,0] [1500] [100096,100097] [] rfl,i+1,nm3,ns3,him,by omega,hq,rfl⟩
       ·cases hq
      ·rw[af (p:=(i:Int)<((cf alts).length:Int)) (by omega)];rw[ap (by omega)]at hq;unfold dw at hq;cases hq;conv=>whnf
       exact⟨rfl,rfl⟩
   ·refine⟨none,r1,?_⟩;conv=>whnf
    refine⟨aN (by kernel_rfl),?_⟩;rw[if_pos ⟨h1,by simp[q3, *],by simp[r3, *]⟩]at h;split at h
    ·rename_i f2 hf2;split at hf2
     ·rename_i hb;unfold LIM at hb;have hb:ns.length<1099511627776:=hb;cases hf2;simp only at h;obtain⟨p1,p2⟩:=lD (y:=1) r0;conv=>whnf
      refine⟨none,r1,?_⟩;conv=>whnf
      refine⟨aN (by kernel_rfl),?_⟩;conv=>whnf
      refine⟨by show(ns.map str).length+1≤lim 16;simp[lim];omega,?_⟩;conv=>whnf
      refine⟨aN (by kernel_rfl),?_⟩;conv=>whnf
      refine⟨fun j st=>∃i nm2 ns2,i≤kids.length∧j≤k∧du j ⟨nm2,ns2⟩ kd s i (kids.drop i) alts=some f'∧st=⟨(54,.one (iv i))::(53,.one (iv (exsC kids).length))::(52,.one (.sl 78 6 (exsC kids) none))::(3,.one (.ref [.v (.int .i64 kd),.v (.int .i64 a),.v (.string s),.v (.int .i64 n),.sl 78 6 (exsC kids) none,.sl 226 9 (cf alts) none] 0))::(0,.one (.ptr 1500 0 0))::fobs nm2 ns2,
       [fbox (ns2.map str).length],[aS 100096,aS 100097]⟩,
       ⟨k,_,ww [54,53,52,3,0] [1500] [100096,100097] [.box 1500 1 100097] rfl,0,_,_,aR _,au _,h,by unfold fobs fbox;rw[p1,p2,bw,aH];rfl⟩,?_⟩
      rintro j st ⟨i,nm2,ns2,hi,hj,hq,rfl⟩;conv=>whnf
      cases j with
      |zero=>simp[du]at hq
      |succ j=>
      by_cases him:i<kids.length
      ·rw[ag (p:=(i:Int)<((exsC kids).length:Int)) (by omega)];rw[aj him]at hq;have eg:=dB (ad him);have hfe:=cP hf.2.2.1 (ad him);generalize kids[i]=e at hq eg hfe;unfold du at hq;split at hq
       ·rename_i f3 hwi;obtain⟨nm3,ns3⟩:=f3;by_cases h67:kd=6∨kd=7∧i=1
        ·rw[if_pos h67]at hwi;have hwc:=(ih j (by omega)).2 _ _ _ _ (by simp) hfe hwi;obtain⟨ek,ea,es,en,ekids,ealts⟩:=e;unfold exC at hwc;conv=>whnf
         refine⟨_,⟨ae _,eg⟩,?_⟩;unfold exC;conv=>whnf
         by_cases h6:kd=6
         ·rw[ag h6];conv=>whnf
          refine⟨_,_,hwc,?_⟩;conv=>whnf
          rw[i64s i (by omega)];exact⟨j,_,ah j,ww [54,53,52,3,0] [1500] [100096,100097] [] rfl,i+1,nm3,ns3,him,by omega,hq,rfl⟩
         ·rw[af h6];have h71:=h67.resolve_left h6;conv=>whnf
          rw[ag h71.1];conv=>whnf
          rw[ag (p:=(i:Int)=1) (by omega)];conv=>whnf
          refine⟨_,_,hwc,?_⟩;conv=>whnf
          rw[i64s i (by omega)];exact⟨j,_,ah j,ww [54,53,52,3,0] [1500] [100096,100097] [] rfl,i+1,nm3,ns3,him,by omega,hq,rfl⟩
        ·rw[if_neg h67]at hwi;have hwc:=(ih j (by omega)).1 _ _ _ hfe hwi;obtain⟨ek,ea,es,en,ekids,ealts⟩:=e;unfold exC at hwc;conv=>whnf
         refine⟨_,⟨ae _,eg⟩,?_⟩;unfold exC;conv=>whnf
         rw[af (p:=kd=6) (fun h=>h67 (.inl h))];conv=>whnf
         by_cases h7:kd=7
         ·rw[ag h7];conv=>whnf
          rw[af (p:=(i:Int)=1) (fun h=>h67 (.inr ⟨h7,by omega⟩))];conv=>whnf
          refine⟨_,_,hwc,?_⟩;conv=>whnf
          rw[i64s i (by omega)];exact⟨j,_,ah j,ww [54,53,52,3,0] [1500] [100096,100097] [] rfl,i+1,nm3,ns3,him,by omega,hq,rfl⟩
         ·rw[af h7];conv=>whnf
          refine⟨_,_,hwc,?_⟩;conv=>whnf
          rw[i64s i (by omega)];exact⟨j,_,ah j,ww [54,53,52,3,0] [1500] [100096,100097] [] rfl,i+1,nm3,ns3,him,by omega,hq,rfl⟩
       ·cases hq
      ·rw[af (p:=(i:Int)<((exsC kids).length:Int)) (by omega)];rw[ap (by omega)]at hq;unfold du at hq;conv=>whnf
       refine⟨fun m st=>∃i nm2 ns2,i≤alts.length∧m≤j∧dw m ⟨nm2,ns2⟩ (alts.drop i)=some f'∧st=⟨(84,.one (iv i))::(83,.one (iv (cf alts).length))::(82,.one (.sl 226 9 (cf alts) none))::(0,.one (.ptr 1500 0 0))::fobs nm2 ns2,
        [fbox (ns2.map str).length],[aS 100096,aS 100097]⟩,
        ⟨j,_,ww [84,83,82,0] [1500] [100096,100097] [] rfl,0,_,_,aR _,au _,hq,rfl⟩,?_⟩
       rintro m st ⟨i,nm2,ns2,hi,hm,hq,rfl⟩;conv=>whnf
       cases m with
       |zero=>simp[dw]at hq
       |succ m=>
       by_cases him:i<alts.length
       ·rw[ag (p:=(i:Int)<((cf alts).length:Int)) (by omega)];rw[aj him]at hq;have eg:=fa (ad him);have hfa:=eK hf.2.2.2 (ad him);generalize alts[i]=al at hq eg hfa
        obtain⟨aa,con,names,bk,ba,bs,bn,bkids,balts⟩:=al;unfold dw at hq;split at hq
        ·rename_i f3 hwi;obtain⟨nm3,ns3⟩:=f3;have hwc:=(ih m (by omega)).2 _ _ _ _ hfa.1 hfa.2 hwi;unfold exC at hwc;conv=>whnf
         refine⟨_,⟨ae _,eg⟩,?_⟩;unfold altC exC;conv=>whnf
         refine⟨_,_,hwc,?_⟩;conv=>whnf
         rw[i64s i (by omega)];exact⟨m,_,ah m,ww [84,83,82,0] [1500] [100096,100097] [] rfl,i+1,nm3,ns3,him,by omega,hq,rfl⟩
        ·cases hq
       ·rw[af (p:=(i:Int)<((cf alts).length:Int)) (by omega)];rw[ap (by omega)]at hq;unfold dw at hq;cases hq;conv=>whnf
        exact⟨rfl,rfl⟩
     ·cases hf2
    ·cases h
 ·rw[af h1];conv=>whnf
  refine⟨aN (by kernel_rfl),?_⟩;rw[if_neg (fun h=>h1 h.1)]at h;simp only at h;conv=>whnf
  refine⟨fun j st=>∃i nm2 ns2,i≤kids.length∧j≤k∧du j ⟨nm2,ns2⟩ kd s i (kids.drop i) alts=some f'∧st=⟨(54,.one (iv i))::(53,.one (iv (exsC kids).length))::(52,.one (.sl 78 6 (exsC kids) none))::(3,.one (.ref [.v (.int .i64 kd),.v (.int .i64 a),.v (.string s),.v (.int .i64 n),.sl 78 6 (exsC kids) none,.sl 226 9 (cf alts) none] 0))::(0,.one (.ptr 1500 0 0))::fobs nm2 ns2,
   [fbox (ns2.map str).length],[aS 100096,aS 100097]⟩,
   ⟨k,_,ww [54,53,52,3,0] [1500] [100096,100097] [] rfl,0,_,_,aR _,au _,h,rfl⟩,?_⟩
  rintro j st ⟨i,nm2,ns2,hi,hj,hq,rfl⟩;conv=>whnf
  cases j with
  |zero=>simp[du]at hq
  |succ j=>
  by_cases him:i<kids.length
  ·rw[ag (p:=(i:Int)<((exsC kids).length:Int)) (by omega)];rw[aj him]at hq;have eg:=dB (ad him);have hfe:=cP hf.2.2.1 (ad him);generalize kids[i]=e at hq eg hfe;unfold du at hq;split at hq
   ·rename_i f3 hwi;obtain⟨nm3,ns3⟩:=f3;by_cases h67:kd=6∨kd=7∧i=1
    ·rw[if_pos h67]at hwi;have hwc:=(ih j (by omega)).2 _ _ _ _ (by simp) hfe hwi;obtain⟨ek,ea,es,en,ekids,ealts⟩:=e;unfold exC at hwc;conv=>whnf
     refine⟨_,⟨ae _,eg⟩,?_⟩;unfold exC;conv=>whnf
     by_cases h6:kd=6
     ·rw[ag h6];conv=>whnf
      refine⟨_,_,hwc,?_⟩;conv=>whnf
      rw[i64s i (by omega)];exact⟨j,_,ah j,ww [54,53,52,3,0] [1500] [100096,100097] [] rfl,i+1,nm3,ns3,him,by omega,hq,rfl⟩
     ·rw[af h6];have h71:=h67.resolve_left h6;conv=>whnf
      rw[ag h71.1];conv=>whnf
      rw[ag (p:=(i:Int)=1) (by omega)];conv=>whnf
      refine⟨_,_,hwc,?_⟩;conv=>whnf
      rw[i64s i (by omega)];exact⟨j,_,ah j,ww [54,53,52,3,0] [1500] [100096,100097] [] rfl,i+1,nm3,ns3,him,by omega,hq,rfl⟩
    ·rw[if_neg h67]at hwi;have hwc:=(ih j (by omega)).1 _ _ _ hfe hwi;obtain⟨ek,ea,es,en,ekids,ealts⟩:=e;unfold exC at hwc;conv=>whnf
     refine⟨_,⟨ae _,eg⟩,?_⟩;unfold exC;conv=>whnf
     rw[af (p:=kd=6) (fun h=>h67 (.inl h))];conv=>whnf
     by_cases h7:kd=7
     ·rw[ag h7];conv=>whnf
      rw[af (p:=(i:Int)=1) (fun h=>h67 (.inr ⟨h7,by omega⟩))];conv=>whnf
      refine⟨_,_,hwc,?_⟩;conv=>whnf
      rw[i64s i (by omega)];exact⟨j,_,ah j,ww [54,53,52,3,0] [1500] [100096,100097] [] rfl,i+1,nm3,ns3,him,by omega,hq,rfl⟩
     ·rw[af h7];conv=>whnf
      refine⟨_,_,hwc,?_⟩;conv=>whnf
      rw[i64s i (by omega)];exact⟨j,_,ah j,ww [54,53,52,3,0] [1500] [100096,100097] [] rfl,i+1,nm3,ns3,him,by omega,hq,rfl⟩
   ·cases hq
  ·rw[af (p:=(i:Int)<((exsC kids).length:Int)) (by omega)];rw[ap (by omega)]at hq;unfold du at hq;conv=>whnf
   refine⟨fun m st=>∃i nm2 ns2,i≤alts.length∧m≤j∧dw m ⟨nm2,ns2⟩ (alts.drop i)=some f'∧st=⟨(84,.one (iv i))::(83,.one (iv (cf alts).length))::(82,.one (.sl 226 9 (cf alts) none))::(0,.one (.ptr 1500 0 0))::fobs nm2 ns2,
    [fbox (ns2.map str).length],[aS 100096,aS 100097]⟩,
    ⟨j,_,ww [84,83,82,0] [1500] [100096,100097] [] rfl,0,_,_,aR _,au _,hq,rfl⟩,?_⟩
   rintro m st ⟨i,nm2,ns2,hi,hm,hq,rfl⟩;conv=>whnf
   cases m with
   |zero=>simp[dw]at hq
   |succ m=>
   by_cases him:i<alts.length
   ·rw[ag (p:=(i:Int)<((cf alts).length:Int)) (by omega)];rw[aj him]at hq;have eg:=fa (ad him);have hfa:=eK hf.2.2.2 (ad him);generalize alts[i]=al at hq eg hfa
    obtain⟨aa,con,names,bk,ba,bs,bn,bkids,balts⟩:=al;unfold dw at hq;split at hq
    ·rename_i f3 hwi;obtain⟨nm3,ns3⟩:=f3;have hwc:=(ih m (by omega)).2 _ _ _ _ hfa.1 hfa.2 hwi;unfold exC at hwc;conv=>whnf
     refine⟨_,⟨ae _,eg⟩,?_⟩;unfold altC exC;conv=>whnf
     refine⟨_,_,hwc,?_⟩;conv=>whnf
     rw[i64s i (by omega)];exact⟨m,_,ah m,ww [84,83,82,0] [1500] [100096,100097] [] rfl,i+1,nm3,ns3,him,by omega,hq,rfl⟩
    ·cases hq
   ·rw[af (p:=(i:Int)<((cf alts).length:Int)) (by omega)];rw[ap (by omega)]at hq;unfold dw at hq;cases hq;conv=>whnf
    exact⟨rfl,rfl⟩
theorem fiin:∀k,FiOk k∧InOk k:=by
 intro k
 induction k using Nat.strongRecOn with
 |_ k ih=>
  refine⟨afK ih,?_⟩;cases k with
  |zero=>
   intro f names e f' _ _ h;unfold inF2 at h;cases h
  |succ k=>exact fun f names e f' hn hf h=>ajg (ih k (ah k)).1 hn hf h
theorem afJ{k:Nat}{e:Exp}{f:Fd}(hf:dJ e)(h:sJ k ⟨[],[]⟩ e=some f):Cw 76 [.agg (exC e)] [.val (.one (.sl 9 1 (f.ns.map str) none))] []:=by
 have hc:=(fiin k).1 _ _ _ hf h;refine cw { fb:=[1],own:=[(238,1)]} Tryz.func76 (by kernel_rfl) ?_;obtain⟨ek,ea,es,en,ekids,ealts⟩:=e;unfold exC at hc ⊢;conv=>whnf
 refine⟨_,_,hc,?_⟩;conv=>whnf
 exact⟨rfl,rfl⟩
def insJ:Nat→List Int→List Int
 |0,l=>l
 |j+1,l=>match l[j+1]?,l[j]? with
  |some x,some y=>if x<y then insJ j ((l.set (j+1) y).set j x) else l
  |_,_=>l
def insI:Nat→Nat→List Int→List Int
 |0,_,l=>l
 |k+1,i,l=>insI k (i+1) (insJ i l)
def lW(l:List Int):List Int:=insI (l.length-1) 1 l
theorem yT{a:Int}:Cw 127 [.one (iv a)] [.val (.one (bv false))] []:=by
 refine cw {} Tryz.func127 (by kernel_rfl) ?_;conv=>whnf
 refine⟨?_,rfl⟩;have:(!decide (a=a))=false:=by simp
 exact congrArg (fun b=>[WRes.val (.one (bv b))]) this
theorem afz{a b:Int}:Cw 165 [.one (iv a),.one (iv b)] [.val (.one (bv (decide (a<b))))] []:=by
 refine cw {} Tryz.func165 (by kernel_rfl) ?_;conv=>whnf
 refine⟨_,_,yT,?_⟩;conv=>whnf
 exact⟨rfl,rfl⟩
theorem abv{l:List Int}{n:Nat}(hl:l.length=n)(hn:n≤12):Cw 159 [.one (.own 3 1 (ints l)),.one (iv 0),.one (iv n)] [] [.own 3 1 (ints (lW l))]:=by
 have hil:=bh l;refine cw {} Tryz.func159 (by kernel_rfl) ?_;conv=>whnf
 rw[hil,hl];refine⟨fun k st=>∃i l',k=n-i∧1≤i∧insI k i l'=lW l∧l'.length=n∧st=⟨[(6,.one (iv i)),(0,.one (.rref 3000 0 n)),(1,.one (iv 0)),(2,.one (iv n)),(OB+3000,.ob 3000 0 (.row 3 1 (ints l')))],[],[aS 3000]⟩,
  ⟨n-1,_,ww [6,0,1,2] [] [3000] [] rfl,1,l,rfl,au _,by unfold lW;rw[hl],hl,rfl⟩,?_⟩
 rintro k st ⟨i,l',hk,hi1,hq,hl',rfl⟩;conv=>whnf
 by_cases hin:i<n
 ·rw[ag (p:=(i:Int)<(n:Int)) (by omega)];obtain⟨k,rfl⟩:∃k',k=k'+1:=⟨k-1,by omega⟩;unfold insI at hq;obtain⟨l9,h9⟩:∃l9,insJ i l'=l9:=⟨_,rfl⟩;rw[h9]at hq;conv=>whnf
  refine⟨fun m st=>∃l2,insJ m l2=l9∧l2.length=n∧m≤i∧st=⟨[(7,.one (iv m)),(6,.one (iv i)),(0,.one (.rref 3000 0 n)),(1,.one (iv 0)),(2,.one (iv n)),(OB+3000,.ob 3000 0 (.row 3 1 (ints l2)))],[],[aS 3000]⟩,
   ⟨i,_,ww [7,6,0,1,2] [] [3000] [] rfl,l',h9,hl',au _,rfl⟩,?_⟩
  rintro m st ⟨l2,hq2,hl2,hmi,rfl⟩;conv=>whnf
  cases m with
  |zero=>
   rw[af (p:=(0:Int)<((0:Nat):Int)) (by simp)];conv=>whnf
   refine⟨aN (by kernel_rfl),?_⟩;conv=>whnf
   have hw:IntKind.i64.wrap ((i:Int)+1)=((i+1:Nat):Int):=by rw[i64w (by omega) (by omega)];omega
   rw[hw];refine⟨k,_,ah k,ww [6,0,1,2] [] [3000] [] rfl,i+1,l2,by omega,by omega,?_,hl2,rfl⟩;unfold insJ at hq2;rw[hq2];exact hq
  |succ j=>
   rw[ag (p:=(0:Int)<((j+1:Nat):Int)) (by omega)];have hj1:j+1<l2.length:=by omega
   have hj0:j<l2.length:=by omega
   have e1:=ad hj1;have e0:=ad hj0;generalize l2[j+1]=x at e1;generalize l2[j]=y at e0;unfold insJ at hq2;rw[e1,e0]at hq2;simp only at hq2;have hwj:IntKind.i64.wrap (((j+1:Nat):Int)-1)=(j:Int):=by rw[i64w (by omega) (by omega)];omega
   conv=>whnf
   refine⟨⟨by omega,by omega⟩,?_⟩;conv=>whnf
   refine⟨[iv x],⟨ae _,bD e1⟩,?_⟩;conv=>whnf
   rw[hwj];refine⟨⟨by omega,by omega⟩,?_⟩;conv=>whnf
   refine⟨[iv y],⟨ae _,bD e0⟩,?_⟩;conv=>whnf
   refine⟨_,_,afz (a:=x) (b:=y),?_⟩;conv=>whnf
   refine⟨aN (by kernel_rfl),?_⟩;by_cases hxy:x<y
   ·rw[ag hxy];rw[if_pos hxy]at hq2;conv=>whnf
    rw[hwj];refine⟨⟨by omega,by omega⟩,?_⟩;conv=>whnf
    refine⟨[iv y],⟨ae _,bD e0⟩,?_⟩;conv=>whnf
    refine⟨⟨by omega,by omega⟩,?_⟩;conv=>whnf
    refine⟨[iv x],⟨ae _,bD e1⟩,?_⟩;conv=>whnf
    refine⟨⟨by omega,by omega⟩,?_⟩;conv=>whnf
    refine⟨[iv x],⟨ae _,bD e1⟩,?_⟩;conv=>whnf
    refine⟨⟨by omega,by omega⟩,?_⟩;conv=>whnf
    have e01:((ints l2).set (j+1) [iv y])[j]?=some [iv y]:=by
     rw[bf,if_neg (by omega)];exact bD e0
    refine⟨[iv y],⟨ae _,e01⟩,?_⟩;conv=>whnf
    refine⟨aN (by kernel_rfl),?_⟩;conv=>whnf
    rw[hwj];have e2:((ints l2).set (j+1) [iv y]).set j [iv x]=ints ((l2.set (j+1) y).set j x):=by simp[ints,bX]
    refine⟨j,_,ah j,ww [7,6,0,1,2] [] [3000] [] rfl,(l2.set (j+1) y).set j x,hq2,by simp[hl2],by omega,?_⟩;rw[←e2];rfl
   ·rw[af hxy];rw[if_neg hxy]at hq2;conv=>whnf
    have hw:IntKind.i64.wrap ((i:Int)+1)=((i+1:Nat):Int):=by rw[i64w (by omega) (by omega)];omega
    rw[hw];refine⟨k,_,ah k,ww [6,0,1,2] [] [3000] [] rfl,i+1,l2,by omega,by omega,?_,hl2,rfl⟩;rw[hq2];exact hq
 ·rw[af (p:=(i:Int)<(n:Int)) (by omega)];have:k=0:=by omega
  subst this;conv=>whnf
  unfold insI at hq;rw[hq];exact⟨rfl,rfl⟩
def lenS(n:Nat):Int:=if n=0 then 0 else if n<2 then 1 else if n<4 then 2 else if n<8 then 3 else 4
theorem adl{n:Nat}(h:n≤12):Cw 169 [.one (.v (.int .u64 n))] [.val (.one (iv (lenS n)))] []:=by
 rcases(by omega:n=0∨n=1∨n=2∨n=3∨n=4∨n=5∨n=6∨n=7∨n=8∨n=9∨n=10∨n=11∨n=12) with rfl|rfl|rfl|rfl|rfl|rfl|rfl|rfl|rfl|rfl|rfl|rfl|rfl
 all_goals
  refine cw {} Tryz.func169 (by kernel_rfl) ?_;conv=>whnf
  refine⟨⟨by decide,by decide⟩,?_⟩;conv=>whnf
  exact⟨rfl,rfl⟩
theorem yX{n:Nat}(h:n≤12):Cw 123 [.one (.v (.int .u64 n))] [.val (.one (iv (lenS n)))] []:=by
 refine cw {} Tryz.func123 (by kernel_rfl) ?_;conv=>whnf
 refine⟨_,_,adl h,?_⟩;conv=>whnf
 exact⟨rfl,rfl⟩
theorem ahq{l:List Int}{n:Nat}{b:Int}(hl:l.length=n)(hn:n≤12):Cw 122 [.one (.own 3 1 (ints l)),.one (iv 0),.one (iv n),.one (iv b)] [] [.own 3 1 (ints (lW l))]:=by
 have hil:=bh l;have hc:=abv hl hn;refine cw {} Tryz.func122 (by kernel_rfl) ?_;conv=>whnf
 rw[hil,hl];refine⟨fun k st=>st=⟨[(9,.one (bv true)),(8,.one (bv true)),(0,.one (.rref 3000 0 n)),(1,.one (iv 0)),(2,.one (iv n)),(3,.one (iv b)),(OB+3000,.ob 3000 0 (.row 3 1 (ints l)))],[],[aS 3000]⟩,
  ⟨0,_,ww [9,8,0,1,2,3] [] [3000] [] rfl,rfl⟩,?_⟩
 rintro k st rfl;conv=>whnf
 rw[show IntKind.i64.wrap ((n:Int)-0)=(n:Int) by rw[i64w (by omega) (by omega)];omega];rw[ag (p:=(n:Int)≤12) (by omega)];conv=>whnf
 refine⟨_,_,hc,?_⟩;conv=>whnf
 exact⟨rfl,rfl⟩
theorem zT{l:List Int}(hn:l.length≤12):Cw 77 [.one (.own 3 1 (ints l))] [] [.own 3 1 (ints (lW l))]:=by
 have hil:=bh l;have hc:=ahq (l:=l) (b:=lenS l.length) rfl hn;refine cw {} Tryz.func77 (by kernel_rfl) ?_;conv=>whnf
 rw[hil];rw[show IntKind.u64.wrap (l.length:Int)=(l.length:Int) by simp only[IntKind.wrap,IntKind.bits,IntKind.signed];simp;omega];refine⟨_,_,yX hn,?_⟩;conv=>whnf
 refine⟨_,_,hc,?_⟩;conv=>whnf
 exact⟨rfl,rfl⟩
theorem aeB(xs:List (List AC)):Ct 75 [.val (.one (.sl 80 8 xs none))] [.val (.one (.clo 120 [.ref [.sl 80 8 xs none] 0]))] []:=by
 intro H w us hfz hG hargs hnd
 match us,hargs with
 | [u],hargs=>
 refine calls_of_wp Tryz.func75 rfl ?_;have hr:=rel0 (H:=H) (w:=w) (a:={ tmps:= #[u]++Array.replicate (Tryz.f75.ntmps-1) undef,defers:=[]}) (N:=4) (ts:=[(0,.one (.sl 80 8 xs none))]) hfz rfl rfl (by
  intro t v hf;simp only[cW,find]at hf;split at hf
  ·rename_i h;have h:=aP h;subst h;cases hf;exact hargs.1
  ·cases hf)
 refine gx (T:=T) (J:=J) (G:=G) E hG (fu Tryz.f75) (by kernel_rfl) _ (fun ex s=>(ex= .ret∧find 2 s.tmps=some (.one (.clo 120 [.ptr 1 0 0])))∧find 1 s.boxes=some ⟨0,58,[.sl 80 8 xs none]⟩) _ _ _ _ hr ?_ _ ?_
 ·conv=>whnf
  exact⟨⟨rfl,rfl⟩,rfl⟩
 ·rintro ex s κ' H' a' w' h ⟨⟨rfl,h2⟩,h3⟩;obtain⟨hnb,hin0,vs,hin1,hin2⟩:=h.box 1 _ h3;have hb1:¬κ'.blk 1 0<w.heap.size:=h.pb 1 _ h3;simp only at hin0 hin1 hin2;generalize hbb:κ'.blk 1 0=b1 at hb1 hin0 hin1;have hc:Cs Con.no H' [.sl 80 8 xs none] vs:=iO rfl hin2
  let H2:Fz:=fun b i=>if b=b1 then vs[i]? else H' b i
  have hle:Fz.le H' H2:=fun b i v hv=>by
   by_cases e:b=b1
   ·subst e;rw[hin0 i]at hv;cases hv
   ·simp[H2,e,hv]
  have hfz2:FzOk H2 w':=fun b i v hv=>by
   by_cases e:b=b1
   ·subst e;simp only[H2,if_true]at hv;unfold World.cell?;simp only[hin1];simpa using hv
   ·simp only[H2,e,if_false]at hv;exact h.fz b i v hv
  have hkb:∀b,b<w.heap.size→H2 b=H b:=fun b hb=>by
   funext i;have e:b≠b1:=by omega
   simp only[H2,e,if_false];exact congrFun (h.hk b hb) i
  have ht:=h.tmps 2 _ h2;cases ht with
  |one _ _ ht=>
  generalize hu:a'.tmps.getD 2 undef=uu at ht;cases ht with
  |clo _ _ ws hl hrr=>
  match ws,hl with
  | [v1],_=>
  have h1:=hrr 0 _ v1 rfl rfl;cases h1 with
  |ptr _ _ _ _=>
  obtain⟨vv,hvv⟩:∃vv,vv=Value.func (.func 120) #[] #[.pointer (some ⟨κ'.blk 1 0,0,none⟩)]:=⟨_,rfl⟩
  refine⟨h.defers,ff [vv],?_,ff [vv],H2,rfl,{ le:=Fz.le_trans h.h0 hle,fz:=hfz2,keep:=fun b hb _=>⟨h.keep b hb,hkb b hb⟩,outs:=trivial,grown:=h.grown,os:=h.os,tape:=h.tape,output:=h.output,res:=⟨[vv],⟨?_,trivial⟩,rfl⟩}⟩
  ·show(results Tryz.f75 a'.tmps).run Tryz.prog w'=_;refine fO (us:=[vv]) rfl ?_;intro j v u hv hu'
   match j,hv with
   |0,hv=>
    cases hv;cases hu';show(pure (a'.tmps.getD 2 undef):Sem Value).run Tryz.prog w'=_;rw[hu,←hvv];rfl
  ·rw[hvv];refine .one _ _ (.clo 120 _ [_] rfl fun j c u hj hu'=>?_)
   match j,hj with
   |0,hj=>
    cases hj;cases hu';rw[hbb];refine .ref _ 0 b1 0 vs hc.1 (fun j u hj=>?_) (fun j c u hj hu'=>(hc.2 j c u hj hu').mono (Con.le_refl _) hle);simp[H2,hj]
def agm(xs:List (List AC))(yl:Value)(i:Int):List (Nat×AV):=[(0,.one (.v yl)),(1,.one (.ref [.sl 80 8 xs none] 0)),(3,.one (.v (.int .i64 i)))]
def tq(xs:List (List AC))(yl:Value)(Jv:Nat→Fz→World→Prop)(i:Nat)(a:Act)(w:World):Prop:=
 ∃H,Jv i H w∧a.tmps.size=19∧a.defers=[]∧∀t v,find t (agm xs yl ((i:Int)-1))=some v→AVr Con.no H v (a.tmps.getD t undef)
theorem adO{α:Type}{t:Nat}{v:α}{x0 x1 x3:α}(h:find t [(0,x0),(1,x1),(3,x3)]=some v):(t=0∧v=x0)∨(t=1∧v=x1)∨(t=3∧v=x3):=by
 simp only[find]at h;split at h
 ·rename_i h0;cases h;exact .inl ⟨(aP h0).symm,rfl⟩
 ·split at h
  ·rename_i h0;cases h;exact .inr (.inl ⟨(aP h0).symm,rfl⟩)
  ·split at h
   ·rename_i h0;cases h;exact .inr (.inr ⟨(aP h0).symm,rfl⟩)
   ·cases h
theorem ady{xs:List (List AC)}{yl:Value}{Jv:Nat→Fz→World→Prop}(hst:∀i H w H' w',Jv i H w→Later H w H' w'→Jv i H' w'){i:Nat}{H H':Fz}{w w':World}{κ:Con}{s:St}{a:Act}(hJ:Jv i H w)
 (h:Rel { W0:=w,H0:=H,Pr:=fun b=>b<w.heap.size,N:=19,A:=0,ab:=fun _=>0,lt:=fun _ h=>h} κ H' s a w') {z:Int} (hz:z=(i:Int)-1)
 (hf:find 0 s.tmps=some (.one (.v yl))∧find 1 s.tmps=some (.one (.ref [.sl 80 8 xs none] 0))∧find 3 s.tmps=some (.one (.v (.int .i64 z)))):tq xs yl Jv i a w':=by
 refine⟨H',hst _ _ _ _ _ hJ (oP h),h.size,h.defers,fun t v ht=>?_⟩;rcases adO ht with⟨rfl,rfl⟩|⟨rfl,rfl⟩|⟨rfl,rfl⟩
 ·exact dO rfl (h.tmps _ _ hf.1)
 ·exact dO rfl (h.tmps _ _ hf.2.1)
 ·exact dO rfl (h.tmps _ _ (hz▸hf.2.2))
def mq(a:Act):Nat:=match a.tmps.getD 3 undef with
 | .int _ z=>(z+1).toNat
 |_=>0
theorem adi{xs:List (List AC)}{yl:Value}{Jv:Nat→Fz→World→Prop}{i:Nat}{a:Act}{w:World}(h:tq xs yl Jv i a w):mq a=i:=by
 obtain⟨H,-,-,-,ht⟩:=h;have:=(cN (ht 3 _ rfl)).1;unfold mq;rw[this];simp
noncomputable def c120a:Code:=match fu Tryz.f120 with
 | .seq a _=>a
 |_=>.skip
noncomputable def c120b:Code:=match fu Tryz.f120 with
 | .seq _ (.block _ (.loop b))=>b
 |_=>.skip
noncomputable def c120c:Code:=match c120b with
 | .seq a _=>a
 |_=>.skip
noncomputable def c120d:Code:=match c120b with
 | .seq _ (.seq (.block _ d) _)=>d
 |_=>.skip
noncomputable def c120e:Code:=match c120b with
 | .seq _ (.seq _ e)=>e
 |_=>.skip
noncomputable def ops120:Array Oper:=match c120d with
 | .seq (.region _ ops _) _=>ops
 |_=> #[]
noncomputable def o6b:Oper:=ops120.toList.getD 6 default
noncomputable def o7b:Oper:=ops120.toList.getD 7 default
theorem aep:c120d= .seq (.region 3 ops120 false) (.cond (.tmp 18) .ret .skip):=rfl
theorem h6b:ops120[6]?=some o6b:=rfl
theorem h7b:ops120[7]?=some o7b:=rfl
theorem acw:List.range ops120.size=List.range' 0 6++[6,7]:=by kernel_rfl
theorem aiY:im ops120=true:=by kernel_rfl
theorem aiK:ops120.toList.all (okOp 19 0)=true:=by kernel_rfl
theorem ahx:o6b.op= .call { callee:=.value (.tmp 11),args:= #[.tmp 12,.tmp 16],argTypes:= #[3,80]}:=rfl
theorem ahw:o7b.op= .unOp .not 4 (.tmp 17):=rfl
theorem aiB{P:Program}{a:Act}{w:World}{l:Nat}{n:Next}{x y:Value}(h11:a.tmps.getD 11 undef= .func (.yield l) #[] #[])(h12:a.tmps.getD 12 undef=x)(h16:a.tmps.getD 16 undef=y)(hy:(Instr.yield l #[x,y]).run P w= .ok n w):(execOp a.eval o6b).run P w= .ok n w:=by
 unfold execOp;rw[ahx];simp[resolve,Act.eval,h11,h12,h16,Deferred.ofValue,invoke,go_sem,hy]
theorem aiA{P:Program}{a:Act}{w:World}(h17:a.tmps.getD 17 undef= .bool true):(execOp a.eval o7b).run P w= .ok (.value (.bool false)) w:=by
 unfold execOp;rw[ahw];simp[Act.eval,h17,go_sem]<;>rfl
theorem sy(us:List Value)(n j:Nat)(u:Value)(h:us[j]?=some u):(us.toArray++Array.replicate n undef).getD j undef=u:=by
 have hlt:=(aq.1 h).1;rw[aB,dr (by simpa using hlt)];simp[h]
theorem aeC{xs:List (List AC)}(hlen:xs.length≤8589934592)(hxs:∀cs∈xs,∃b:BindD,cs=bz b){l:Nat}{ptr:Value}(Jv:Nat→Fz→World→Prop)
 (hst:∀i H w H' w',Jv i H w→Later H w H' w'→Jv i H' w') (hfz:∀i H w,Jv i H w→FzOk H w) (hGl:∀i H w,Jv i H w→bK G H)
 (hp:∀i H w,Jv i H w→ACr Con.no H (.ref [.sl 80 8 xs none] 0) ptr)
 (hround:∀i H w cs us,Jv (i+1) H w→xs[i]?=some cs→Cs Con.no H cs us→YieldAt Fence.wide 0 Tryz.prog l #[.int .i64 i,.agg us.toArray] w fun e w'=>e= .returned (.bool true)∧∃H',Fz.le H H'∧Jv i H' w')
 {H:Fz} {w:World} (h0:Jv xs.length H w):CallsIn Fence.wide 0 Tryz.prog 120 #[.func (.yield l) #[] #[],ptr] w fun e w'=>(∃v,e= .returned v)∧∃H',Jv 0 H' w':=by
 refine callsIn_of_wp (c:=.seq c120a (.block 0 (.loop (.seq c120c (.seq (.block 1 c120d) c120e))))) Tryz.func120 rfl trivial ?_;generalize hyl:Value.func (.yield l) #[] #[]=yl;have hyc:yl.oneCell'=true:=by rw[←hyl];rfl
 suffices key:∀a:Act,a.tmps.size=19→a.defers=[]→a.tmps.getD 0 undef=yl→a.tmps.getD 1 undef=ptr→(Code.seq c120a (.block 0 (.loop (.seq c120c (.seq (.block 1 c120d) c120e))))).wpIn Fence.wide 0 Tryz.prog (bodyPost Tryz.prog Tryz.f120 fun e w'=>(∃v,e= .returned v)∧∃H',Jv 0 H' w') a w by
  refine key _ ?_ rfl (sy [yl,ptr] _ 0 yl rfl) (sy [yl,ptr] _ 1 ptr rfl);simp only[Array.size_append,Array.size_replicate];kernel_rfl
 intro a hs hd ha hb;have hr:=rel0 (H:=H) (w:=w) (a:=a) (N:=19) (ts:=[(0,.one (.v yl)),(1,.one (.ref [.sl 80 8 xs none] 0))]) (hfz _ _ _ h0) hs hd (by
  intro t v hf;simp only[find]at hf;split at hf
  ·rename_i h;have h:=aP h;subst h;cases hf;rw[ha];exact .one _ _ (.v _ hyc)
  ·split at hf
   ·rename_i h;have h:=aP h;subst h;cases hf;rw[hb];exact .one _ _ (hp _ _ _ h0)
   ·cases hf)
 clear ha hb hs hd
 refine wpIn_seq (wpIn_wide.2 (gx (T:=T) (J:=J) (G:=G) E (hGl _ _ _ h0) c120a (by kernel_rfl) _ (fun ex s=>ex= .normal∧∃z,z=(xs.length:Int)-1∧(find 0 s.tmps=some (.one (.v yl))∧find 1 s.tmps=some (.one (.ref [.sl 80 8 xs none] 0))∧find 3 s.tmps=some (.one (.v (.int .i64 z))))) _ _ _ _ hr ?_ _ ?_))
 ·conv=>whnf
  exact⟨rfl,_,eJ (by omega) (by omega),rfl,rfl,rfl⟩
 ·rintro ex s κ' H' a' w' h ⟨rfl,z,hz,hf⟩;refine wpIn_block (wpIn_loop (fun a w=>∃i,i≤xs.length∧tq xs yl Jv i a w) (fun a _=>mq a) ⟨_,au _,ady hst h0 h hz hf⟩ ?_);clear hr h hf hz h0;rintro a w ⟨i,hi,hin⟩;have hmu:=adi hin;obtain⟨H1,hJ,hs,hd,ht⟩:=hin
  have hr1:=rel0 (H:=H1) (w:=w) (a:=a) (hfz _ _ _ hJ) hs hd ht
  refine wpIn_seq (wpIn_wide.2 (gx (T:=T) (J:=J) (G:=G) E (hGl _ _ _ hJ) c120c (by kernel_rfl) _ (fun ex s=>(ex=if i=0 then .exit 0 else .normal)∧(find 0 s.tmps=some (.one (.v yl))∧find 1 s.tmps=some (.one (.ref [.sl 80 8 xs none] 0))∧find 3 s.tmps=some (.one (.v (.int .i64 ((i:Int)-1)))))) _ _ _ _ hr1 ?_ _ ?_))
  ·conv=>whnf
   cases hc:decide ((0:Int)≤((i:Nat):Int)-1)
   ·conv=>whnf
    have:i=0:=by simp at hc;omega
    exact⟨by rw[if_pos this],rfl,rfl,rfl⟩
   ·conv=>whnf
    have:i≠0:=by simp at hc;omega
    exact⟨by rw[if_neg this],rfl,rfl,rfl⟩
  ·rintro ex s κ' H' a' w' h ⟨rfl,hf⟩;have hin:=ady hst hJ h rfl hf;clear h hf hr1 hJ hs hd ht
   match i,hin with
   |0,hin=>
    obtain⟨H1,hJ,hs,hd,ht⟩:=hin;exact⟨hd,_,fO (us:=[]) rfl (by simp),⟨_,rfl⟩,H1,hJ⟩
   |i+1,hin=>
    obtain⟨H1,hJ,hs,hd,ht⟩:=hin;have hr1:=rel0 (H:=H1) (w:=w') (a:=a') (hfz _ _ _ hJ) hs hd ht;show Code.wpIn _ _ _ (Code.seq (.block 1 c120d) c120e) _ a' w';refine wpIn_seq (wpIn_block ?_);rw[aep];refine wpIn_seq (wpIn_region ?_);rw[acw]
    have hnx:xs[i]?=some (xs[i]'(by omega)):=ad (by omega);generalize xs[i]'(by omega)=cs at hnx
    have hpre:=ru (T:=T) (J:=J) (G:=G) (P:=Tryz.prog) E (hGl _ _ _ hJ) (fun o ho=>cO.1 aiK o ho) (Q:=fun e a w=>e= .normal∧∃s κ H',Rel { W0:=w',H0:=H1,Pr:=fun b=>b<w'.heap.size,N:=19,A:=0,ab:=fun _=>0,lt:=fun _ h=>h} κ H' s a w∧
     ((find 0 s.tmps=some (.one (.v yl))∧find 1 s.tmps=some (.one (.ref [.sl 80 8 xs none] 0))∧find 3 s.tmps=some (.one (.v (.int .i64 i))))∧find 11 s.tmps=some (.one (.v yl))∧find 12 s.tmps=some (.one (.v (.int .i64 i)))∧find 16 s.tmps=some (.agg cs)))
     (K:=fun s=>(find 0 s.tmps=some (.one (.v yl))∧find 1 s.tmps=some (.one (.ref [.sl 80 8 xs none] 0))∧find 3 s.tmps=some (.one (.v (.int .i64 i))))∧find 11 s.tmps=some (.one (.v yl))∧find 12 s.tmps=some (.one (.v (.int .i64 i)))∧find 16 s.tmps=some (.agg cs))
     (ops120.toList.take 6) 0 ⟨ops120.toList.drop 6,by simp⟩ _ _ _ _ _ hr1 ?_ (fun s κ H a w h1 h2=>⟨rfl,s,κ,H,h1,h2⟩)
    ·have:=gw (r:=none) (n:=0) (P:=Tryz.prog) (nf aiY) [] (js:=[6,7]) (Q:=Exit.then ((Code.cond (.tmp 18) .ret .skip).wpIn Fence.wide 0 Tryz.prog (Exit.inBlock 1 (Exit.then (c120e.wpIn Fence.wide 0 Tryz.prog (Exit.then (fun a' w'=>(∃i,i≤xs.length∧tq xs yl Jv i a' w')∧mq a'<mq a) (Exit.inBlock 0 (bodyPost Tryz.prog Tryz.f120 fun e w'=>(∃v,e= .returned v)∧∃H',Jv 0 H' w')))) (Exit.then (fun a' w'=>(∃i,i≤xs.length∧tq xs yl Jv i a' w')∧mq a'<mq a) (Exit.inBlock 0 (bodyPost Tryz.prog Tryz.f120 fun e w'=>(∃v,e= .returned v)∧∃H',Jv 0 H' w')))))) (Exit.inBlock 1 (Exit.then (c120e.wpIn Fence.wide 0 Tryz.prog (Exit.then (fun a' w'=>(∃i,i≤xs.length∧tq xs yl Jv i a' w')∧mq a'<mq a) (Exit.inBlock 0 (bodyPost Tryz.prog Tryz.f120 fun e w'=>(∃v,e= .returned v)∧∃H',Jv 0 H' w')))) (Exit.then (fun a' w'=>(∃i,i≤xs.length∧tq xs yl Jv i a' w')∧mq a'<mq a) (Exit.inBlock 0 (bodyPost Tryz.prog Tryz.f120 fun e w'=>(∃v,e= .returned v)∧∃H',Jv 0 H' w')))))) ?_ (List.range' 0 6) a' w' hpre
     ·rw[aX]at this;exact this
     ·rintro a2 w2 ⟨s2,κ2,H2,h2,hf2,h11,h12,h16⟩;rw[aX];have hJ2:=hst _ _ _ _ _ hJ (oP h2);have e11:=(cN (h2.tmps _ _ h11)).1;have e12:=(cN (h2.tmps _ _ h12)).1;have e16:=h2.tmps _ _ h16;have e1:=dO rfl (h2.tmps _ _ hf2.2.1);have e0:=(cN (h2.tmps _ _ hf2.1)).1
      have e3:=(cN (h2.tmps _ _ hf2.2.2)).1;generalize h16v:a2.tmps.getD 16 undef=v16 at e16;cases e16 with
      |agg _ us hcs=>
      have hcs':Cs Con.no H2 cs us:=by obtain⟨⟨bs,ba,bk,be,bm,bn,bl,bq⟩,rfl⟩:=hxs cs (bi hnx);exact iO rfl hcs
      obtain⟨fn,tmps,assign,body,hy,hrd⟩:=hround i H2 w2 cs us hJ2 hnx hcs';have hq:=aiB (P:=Tryz.prog) (e11.trans hyl.symm) e12 h16v hy;unfold wpOpsIn;simp only[h6b];rw[if_pos (show Region.wanted o6b _=true from rfl)];refine⟨fun _ _=>trivial,?_⟩
      rw[show Fence.round (FR none)=none from rfl,Oper.semAt_none,hq,Oper.uponIn_round];refine⟨fun hd=>by simp[Fence.wide]at hd,RoundIn.mono hrd ?_⟩;rintro e w3 ⟨rfl,H3,hle,hJ3⟩;show wpOpsIn (FR none) 0 Tryz.prog ops120 _ [7] (a2.put (some 17) (.bool true)) w3;have hsz2:a2.tmps.size=19:=h2.size
      unfold wpOpsIn;simp only[h7b];rw[if_pos (show Region.wanted o7b _=true from rfl)];refine⟨fun _ _=>trivial,?_⟩;rw[show Fence.round (FR none)=none from rfl,Oper.semAt_none,aiA (by simp[Act.put,hsz2]),Oper.uponIn_value]
      show(Code.cond (.tmp 18) .ret .skip).wpIn Fence.wide 0 Tryz.prog _ ((a2.put (some 17) (.bool true)).put (some 18) (.bool false)) w3;refine wpIn_cond_false (by simp[Act.put,Act.eval,hsz2]) (wpIn_skip ?_)
      show c120e.wpIn Fence.wide 0 Tryz.prog _ ((a2.put (some 17) (.bool true)).put (some 18) (.bool false)) w3;have hr3:=rel0 (H:=H3) (w:=w3) (a:=(a2.put (some 17) (.bool true)).put (some 18) (.bool false)) (N:=19) (ts:=agm xs yl i) (hfz _ _ _ hJ3) (by simp[Act.put,hsz2]) h2.defers (fun t v ht=>by
       have e:∀t,t≠17→t≠18→((a2.put (some 17) (.bool true)).put (some 18) (.bool false)).tmps.getD t undef=a2.tmps.getD t undef:=fun t h1 h2=>by
        simp[Act.put,aB,cb,Ne.symm h1,Ne.symm h2]
       rcases adO ht with⟨rfl,rfl⟩|⟨rfl,rfl⟩|⟨rfl,rfl⟩
       ·rw[e _ (by decide) (by decide),e0];exact .one _ _ (.v _ hyc)
       ·rw[e _ (by decide) (by decide)];exact e1.mono (Con.le_refl _) hle
       ·rw[e _ (by decide) (by decide),e3];exact .one _ _ (.v _ rfl))
      refine wpIn_wide.2 (gx (T:=T) (J:=J) (G:=G) E (hGl _ _ _ hJ3) c120e (by kernel_rfl) _ (fun ex s=>ex= .normal∧∃z,z=(i:Int)-1∧(find 0 s.tmps=some (.one (.v yl))∧find 1 s.tmps=some (.one (.ref [.sl 80 8 xs none] 0))∧find 3 s.tmps=some (.one (.v (.int .i64 z))))) _ _ _ _ hr3 ?_ _ ?_)
      ·conv=>whnf
       exact⟨rfl,_,eJ (by omega) (by omega),rfl,rfl,rfl⟩
      ·rintro ex s κ' H' a' w' h ⟨rfl,z,hz,hf⟩;have hin:=ady hst hJ3 h hz hf;refine⟨⟨i,by omega,hin⟩,?_⟩;rw[adi hin,hmu];omega
    ·have ez:((i+1:Nat):Int)-1=(i:Int):=by omega
     rw[ez];subst hyl;obtain⟨⟨bs,ba,bk,be,bm,bn,bl,bq⟩,rfl⟩:=hxs cs (bi hnx);conv=>whnf
     refine⟨_,⟨by omega,hnx⟩,?_⟩;conv=>whnf
     exact⟨⟨rfl,rfl,rfl⟩,rfl,rfl,rfl⟩
theorem zW{ds:List DataD}{nm:Cnt}(hf:FineDs ds){s:ByteArray}{n:Int}{ok:Bool}(h:conN ds s=some (n,ok)):Cw 72 [.one (scA ds nm),.one (sv s)] [.val (.one (iv n)),.val (.one (bv ok))] [scA ds nm]:=by
 have hc:=xU (nm:=s) hf;unfold conN at h;generalize km s ds 0=dc at h hc;obtain⟨d,c⟩:=dc;simp only at h;refine cw {} Tryz.func72 (by kernel_rfl) ?_;conv=>whnf
 refine⟨_,_,hc,?_⟩;conv=>whnf
 by_cases hd:d<0
 ·rw[if_pos hd]at h;cases h;rw[ag hd];conv=>whnf
  exact⟨rfl,rfl⟩
 ·rw[if_neg hd]at h;rw[af hd];split at h
  ·rename_i D hD;split at h
   ·rename_i C hC;cases h;obtain⟨d0,dl,hD⟩:=bY hD;obtain⟨c0,cl,hC⟩:=bY hC;have eD:(ds.map bS)[d.toNat]?=some (bS D):=by simp[hD]
    have eC:(D.cons.map conC)[c.toNat]?=some (conC C):=by simp[hC]
    have htl:=bU C.args;conv=>whnf
    refine⟨_,⟨d0,eD⟩,?_⟩;conv=>whnf
    refine⟨_,⟨c0,eC⟩,?_⟩;conv=>whnf
    rw[htl];exact⟨rfl,rfl⟩
   ·cases h
  ·cases h
theorem xS{l:List ByteArray}{x:ByteArray}(hl:l.length≤4294967296):Cw 157 [.one (.sl 9 1 (l.map str) none),.one (sv x)] [.val (.one (bv (decide (0≤eS x l 0))))] []:=by
 have hi:Cw 146 [.one (.sl 9 1 (l.map str) none),.one (sv x)] [.val (.one (iv (eS x l 0)))] []:=CTW.of (xw l x hl) rfl;refine cw {} Tryz.func157 (by kernel_rfl) ?_;conv=>whnf
 refine⟨_,_,hi,?_⟩;conv=>whnf
 exact⟨rfl,rfl⟩
theorem abP{l:List ByteArray}(hl:l.length≤4294967296):Cw 119 [.one (.sl 9 1 (l.map str) none)] [.val (.one (bv (ia l l 0)))] []:=by
 have hml:(l.map str).length=l.length:=by simp
 refine cw {} Tryz.func119 (by kernel_rfl) ?_;conv=>whnf
 refine⟨fun j st=>∃i,i+j=l.length∧ia l (l.drop i) i=ia l l 0∧st=⟨[(7,.one (iv i)),(6,.one (iv (l.map str).length)),(5,.one (.sl 9 1 (l.map str) none)),(0,.one (.sl 9 1 (l.map str) none))],[],[]⟩,
  ⟨l.length,_,ww [7,6,5,0] [] [] [] rfl,0,by omega,rfl,rfl⟩,?_⟩
 rintro j st ⟨i,hij,hq,rfl⟩;conv=>whnf
 cases j with
 |zero=>
  rw[af (p:=(i:Int)<((l.map str).length:Int)) (by omega)];rw[ap (by omega)]at hq;conv=>whnf
  exact⟨by rw[←hq];rfl,rfl⟩
 |succ j=>
  rw[ag (p:=(i:Int)<((l.map str).length:Int)) (by omega)];have him:i<l.length:=by omega
  rw[aj him]at hq;have eg:(l.map str)[i]?=some (str l[i]):=by simp[him]
  generalize l[i]=x at hq eg;rw[show ia l (x::l.drop (i+1)) i=if 0≤eS x (l.take i) 0 then true else ia l (l.drop (i+1)) (i+1) from rfl]at hq;have hc:=xS (l:=l.take i) (x:=x) (by simp;omega);rw[iQ]at hc;conv=>whnf
  refine⟨_,⟨ae _,eg⟩,?_⟩;conv=>whnf
  refine⟨⟨by omega,by omega,by omega⟩,?_⟩;conv=>whnf
  refine⟨_,_,hc,?_⟩;conv=>whnf
  by_cases hx:0≤eS x (l.take i) 0
  ·rw[if_pos hx]at hq;rw[ag hx];conv=>whnf
   exact⟨by rw[←hq];rfl,rfl⟩
  ·rw[if_neg hx]at hq;rw[af hx];conv=>whnf
   rw[i64s i (by omega)];exact⟨j,_,ah j,ww [7,6,5,0] [] [] [] rfl,i+1,by omega,hq,rfl⟩
def mH(nm:ByteArray):List DataD→Nat→Int
 | [],_=> -1
 |c::l,i=>if c.s=nm then(i:Int) else mH nm l (i+1)
theorem sR{nm:ByteArray}{c:DataD}{l:List DataD}{i:Nat}:mH nm (c::l) i=if c.s=nm then(i:Int) else mH nm l (i+1):=rfl
theorem afQ{c:DataD}{nm:ByteArray}:Cw 154 [.agg (bS c),.one (.ref [sv nm] 0)] [.val (.one (bv (decide (c.s=nm))))] []:=by
 refine cw { fb:=[2]} Tryz.func154 (by kernel_rfl) ?_;conv=>whnf
 exact⟨rfl,rfl⟩
theorem aea{l:List DataD}{nm:ByteArray}(hl:l.length≤4294967296):Cw 153 [.one (.sl 158 4 (l.map bS) none),.one (.clo 154 [.ref [sv nm] 0])] [.val (.one (iv (mH nm l 0)))] []:=by
 have hml:(l.map bS).length=l.length:=by simp
 refine cw {} Tryz.func153 (by kernel_rfl) ?_;conv=>whnf
 refine⟨fun j st=>∃i,i+j=l.length∧mH nm l 0=mH nm (l.drop i) i∧st=⟨[(8,.one (iv i)),(7,.one (iv (l.map bS).length)),(1,.one (.clo 154 [.ref [sv nm] 0])),(0,.one (.sl 158 4 (l.map bS) none))],[],[]⟩,
  ⟨l.length,_,ww [8,7,1,0] [] [] [] rfl,0,by omega,rfl,rfl⟩,?_⟩
 rintro j st ⟨i,hij,hc,rfl⟩;conv=>whnf
 cases j with
 |zero=>
  rw[af (p:=(i:Int)<((l.map bS).length:Int)) (by omega)];rw[ap (by omega)]at hc;conv=>whnf
  exact⟨by rw[hc];rfl,rfl⟩
 |succ j=>
  rw[ag (p:=(i:Int)<((l.map bS).length:Int)) (by omega)];have him:i<l.length:=by omega
  rw[aj him]at hc;have eg:(l.map bS)[i]?=some (bS l[i]):=by simp[him]
  conv=>whnf
  refine⟨_,⟨ae _,eg⟩,?_⟩;generalize l[i]=c at hc;rw[sR]at hc;conv=>whnf
  refine⟨_,_,afQ (c:=c),?_⟩;conv=>whnf
  by_cases hn:c.s=nm
  ·rw[if_pos hn]at hc;rw[ag hn];conv=>whnf
   exact⟨by rw[hc];rfl,rfl⟩
  ·rw[if_neg hn]at hc;rw[af hn];conv=>whnf
   rw[i64s i (by omega)];exact⟨j,_,ah j,ww [8,7,1,0] [] [] [] rfl,i+1,by omega,hc,rfl⟩
def zG(ds:List DataD)(s:ByteArray):Int:=if s=intT then 0 else if s=qN then 0 else match at? ds (mH s ds 0) with
 |some D=>(D.vars.length:Int)
 |none=> -1
theorem xP{nm:ByteArray}:∀(l r:List DataD) (i:Nat),l.drop i=r→0≤mH nm r i→∃D,at? l (mH nm r i)=some D
 |l,[],i,_,h=>by simp[mH]at h
 |l,d::r,i,hd,h=>by
  rw[sR]at h ⊢;split
  ·have:l[i]?=some d:=by
    have:=congrArg (fun x=>x[0]?) hd;simpa using this
   exact⟨d,by unfold at?;rw[if_pos (by omega)];simpa using this⟩
  ·rename_i hn;rw[if_neg hn]at h;exact xP l r (i+1) (by rw[←dD,hd];rfl) h
theorem aeF{ds:List DataD}{s:ByteArray}(hf:FineDs ds):Cw 117 [.one (.sl 158 4 (ds.map bS) none),.one (sv s)] [.val (.one (iv (zG ds s)))] []:=by
 have hc:=aea (nm:=s) hf.len;unfold zG;refine cw { fb:=[3]} Tryz.func117 (by kernel_rfl) ?_;conv=>whnf
 by_cases h1:s=intT
 ·rw[if_pos h1];rw[ag (p:=s=⟨#[73,110,116]⟩) h1];conv=>whnf
  exact⟨rfl,rfl⟩
 rw[if_neg h1];rw[af (p:=s=⟨#[73,110,116]⟩) h1];conv=>whnf
 by_cases h2:s=qN
 ·rw[if_pos h2];rw[ag (p:=s=⟨#[66,111,111,108]⟩) h2];conv=>whnf
  exact⟨rfl,rfl⟩
 rw[if_neg h2];rw[af (p:=s=⟨#[66,111,111,108]⟩) h2];conv=>whnf
 refine⟨_,_,hc,?_⟩;have hin:=xP (nm:=s) ds ds 0 rfl;generalize mH s ds 0=d at hin;conv=>whnf
 by_cases hd:d<0
 ·rw[ag hd];conv=>whnf
  refine⟨?_,rfl⟩;unfold at?;rw[if_neg (by omega)];rfl
 ·rw[af hd];obtain⟨D,hD⟩:=hin (by omega);rw[hD];obtain⟨d0,dl,hD⟩:=bY hD;have eD:(ds.map bS)[d.toNat]?=some (bS D):=by simp[hD]
  have hvl:(D.vars.map str).length=D.vars.length:=by simp
  conv=>whnf
  refine⟨_,⟨d0,eD⟩,?_⟩;conv=>whnf
  rw[hvl];exact⟨rfl,rfl⟩
theorem aeb{n a b:Int}:Cw 35 [.one (iv n),.one (iv a),.one (iv b)] [.val (.one (iv (max a (min n b))))] []:=by
 refine cw {} Tryz.func35 (by kernel_rfl) ?_;conv=>whnf
 refine⟨?_,rfl⟩;rw[←mn,←mxx];rfl
theorem wI{n w:Nat}(hn:n≤65536)(hw:1≤w∧w≤64):Cw 21 [.one (iv n),.one (iv w)] [.val (.one (iv (((n+1)*1048576+w*4096:Nat):Int)))] []:=by
 have h1:max 0 (min (n:Int) 65536)=(n:Int):=by omega
 have h2:max 1 (min (w:Int) 64)=(w:Int):=by omega
 have c1:=aeb (n:=(n:Int)) (a:=0) (b:=65536);have c2:=aeb (n:=(w:Int)) (a:=1) (b:=64);rw[h1]at c1;rw[h2]at c2;refine cw {} Tryz.func21 (by kernel_rfl) ?_;conv=>whnf
 refine⟨_,_,c1,?_⟩;conv=>whnf
 refine⟨by decide,?_⟩;conv=>whnf
 refine⟨_,_,c2,?_⟩;conv=>whnf
 refine⟨by decide,?_⟩;conv=>whnf
 refine⟨?_,rfl⟩;have e1:IntKind.i64.wrap ((n:Int)+1)=((n:Int)+1):=i64w (by omega) (by omega);have e2:IntKind.i64.wrap (((n:Int)+1)*2 ^ 20)=((n:Int)+1)*1048576:=i64w (by omega) (by omega);have e3:IntKind.i64.wrap ((w:Int)*2 ^ 12)=(w:Int)*4096:=i64w (by omega) (by omega)
 have e4:IntKind.i64.wrap (((n:Int)+1)*1048576+(w:Int)*4096)=(((n+1)*1048576+w*4096:Nat):Int):=by rw[i64w (by omega) (by omega)];omega
 have e:IntKind.i64.wrap (IntKind.i64.wrap (IntKind.i64.wrap ((n:Int)+1)*2 ^ 20)+IntKind.i64.wrap ((w:Int)*2 ^ 12))=(((n+1)*1048576+w*4096:Nat):Int):=by rw[e1,e2,e3,e4]
 exact congrArg (fun x=>[WRes.val (.one (iv x))]) e
def aac(ds:List DataD)(v k n:Int)(s:ByteArray)(len:Nat):Bool:=
 if k=1 then decide ((len:Int)=0)&&(decide (0≤n)&&decide (n<v))
 else if k≠2 then false
 else if s=⟨#[45,62]⟩ then decide ((len:Int)=2)
 else if s=⟨#[44]⟩ then decide (2≤(len:Int))&&decide ((len:Int)≤8)
 else decide ((len:Int)=zG ds s)
mutual
def kG(ds:List DataD)(v:Int):Ty→Bool
 | .mk k n s kids=>mX ds v kids&&aac ds v k n s kids.length
def mX(ds:List DataD)(v:Int):List Ty→Bool
 | []=>true
 |t::l=>kG ds v t&&mX ds v l
end
def gR(ds:List DataD)(v:Int):List Ty→Nat→Int
 | [],_=> -1
 |t::l,i=>if kG ds v t=true then gR ds v l (i+1) else(i:Int)
theorem lq{ds:List DataD}{v:Int}{t:Ty}{l:List Ty}{i:Nat}:gR ds v (t::l) i=if kG ds v t=true then gR ds v l (i+1) else(i:Int):=rfl
theorem nR{ds:List DataD}{v:Int}:∀(l:List Ty) (i:Nat),decide (0≤gR ds v l i)= !mX ds v l
 | [],_=>rfl
 |t::l,i=>by
  rw[lq];unfold mX;cases h:kG ds v t
  ·rw[if_neg (by simp)];simp
  ·rw[if_pos rfl,nR l (i+1)];simp
def RtOk(ds:List DataD)(v:Int)(t:Ty):Prop:=Cw 71 [.one (.sl 158 4 (ds.map bS) none),.agg (tyC t),.one (iv v)] [.val (.one (bv (kG ds v t)))] []
theorem ahy{ds:List DataD}{v:Int}{t:Ty}(ih:RtOk ds v t):Cw 116 [.agg (tyC t),.one (.ref [.sl 158 4 (ds.map bS) none] 0),.one (.ref [iv v] 0)] [.val (.one (bv (!kG ds v t)))] []:=by
 obtain⟨k,n,s,kids⟩:=t;unfold RtOk at ih;generalize kG ds v (.mk k n s kids)=b at ih;refine cw { fb:=[3]} Tryz.func116 (by kernel_rfl) ?_;unfold tyC at ih ⊢;conv=>whnf
 refine⟨_,_,ih,?_⟩;cases b
 ·conv=>whnf
  exact⟨rfl,rfl⟩
 ·conv=>whnf
  exact⟨rfl,rfl⟩
theorem yq{ds:List DataD}{v:Int}{l:List Ty}(hl:l.length≤4294967296)(ih:∀t∈l,RtOk ds v t):Cw 112 [.one (.sl 88 4 (tysC l) none),.one (.clo 116 [.ref [.sl 158 4 (ds.map bS) none] 0,.ref [iv v] 0])] [.val (.one (iv (gR ds v l 0)))] []:=by
 have hml:=bU l;refine cw {} Tryz.func112 (by kernel_rfl) ?_;conv=>whnf
 refine⟨fun j st=>∃i,i+j=l.length∧gR ds v l 0=gR ds v (l.drop i) i∧st=⟨[(8,.one (iv i)),(7,.one (iv (tysC l).length)),(1,.one (.clo 116 [.ref [.sl 158 4 (ds.map bS) none] 0,.ref [iv v] 0])),(0,.one (.sl 88 4 (tysC l) none))],[],[]⟩,
  ⟨l.length,_,ww [8,7,1,0] [] [] [] rfl,0,by omega,rfl,rfl⟩,?_⟩
 rintro j st ⟨i,hij,hc,rfl⟩;conv=>whnf
 cases j with
 |zero=>
  rw[af (p:=(i:Int)<((tysC l).length:Int)) (by omega)];rw[ap (by omega)]at hc;conv=>whnf
  exact⟨by rw[hc];rfl,rfl⟩
 |succ j=>
  rw[ag (p:=(i:Int)<((tysC l).length:Int)) (by omega)];have him:i<l.length:=by omega
  rw[aj him]at hc;have eg:=ga (ad him);have hi:=ahy (ih l[i] (bp him));conv=>whnf
  generalize l[i]=t at hc eg hi;obtain⟨tk,tn,ts,tkids⟩:=t;refine⟨_,⟨ae _,eg⟩,?_⟩;rw[lq]at hc;generalize kG ds v (.mk tk tn ts tkids)=b at hi hc;unfold tyC at hi ⊢;conv=>whnf
  refine⟨_,_,hi,?_⟩;cases b
  ·rw[if_neg (by simp)]at hc;conv=>whnf
   exact⟨by rw[hc];rfl,rfl⟩
  ·rw[if_pos rfl]at hc;conv=>whnf
   rw[i64s i (by omega)];exact⟨j,_,ah j,ww [8,7,1,0] [] [] [] rfl,i+1,by omega,hc,rfl⟩
theorem yn{ds:List DataD}{v:Int}{l:List Ty}(hl:l.length≤4294967296)(ih:∀t∈l,RtOk ds v t):Cw 66 [.one (.sl 88 4 (tysC l) none),.one (.clo 116 [.ref [.sl 158 4 (ds.map bS) none] 0,.ref [iv v] 0])] [.val (.one (bv (!mX ds v l)))] []:=by
 have hi:=yq hl ih;have he:=nR (ds:=ds) (v:=v) l 0;generalize gR ds v l 0=d at hi he;rw[←he];refine cw {} Tryz.func66 (by kernel_rfl) ?_;conv=>whnf
 refine⟨_,_,hi,?_⟩;conv=>whnf
 exact⟨rfl,rfl⟩
theorem yG{ds:List DataD}(hf:FineDs ds){v k n:Int}{s:ByteArray}{kids:List Ty}(hl:kids.length≤4294967296)(ih:∀t∈kids,RtOk ds v t):RtOk ds v (.mk k n s kids):=by
 have ha:=yn hl ih;have hr:=aeF (s:=s) hf;have htl:=bU kids;unfold RtOk kG;generalize mX ds v kids=b at ha;unfold aac;refine cw { fb:=[3,5]} Tryz.func71 (by kernel_rfl) ?_;unfold tyC;conv=>whnf
 refine⟨_,_,ha,?_⟩;cases b
 ·conv=>whnf
  exact⟨rfl,rfl⟩
 conv=>whnf
 by_cases h1:k=1
 ·rw[if_pos h1,ag h1];conv=>whnf
  rw[htl];cases e1:decide ((kids.length:Int)=0) with
  |false=>
   conv=>whnf
   exact⟨rfl,rfl⟩
  |true=>
   conv=>whnf
   cases e2:decide (0≤n) with
   |false=>
    conv=>whnf
    exact⟨rfl,rfl⟩
   |true=>
    conv=>whnf
    exact⟨rfl,rfl⟩
 rw[if_neg h1,af h1];conv=>whnf
 by_cases h2:k=2
 ·rw[if_neg (by simp[h2]),ag h2];conv=>whnf
  by_cases h3:s=⟨#[45,62]⟩
  ·rw[if_pos h3,ag h3];conv=>whnf
   rw[htl];exact⟨rfl,rfl⟩
  rw[if_neg h3,af h3];conv=>whnf
  by_cases h4:s=⟨#[44]⟩
  ·rw[if_pos h4,ag h4];conv=>whnf
   rw[htl];cases e1:decide (2≤(kids.length:Int)) with
   |false=>
    conv=>whnf
    exact⟨rfl,rfl⟩
   |true=>
    conv=>whnf
    exact⟨rfl,rfl⟩
  rw[if_neg h4,af h4];conv=>whnf
  refine⟨_,_,hr,?_⟩;conv=>whnf
  rw[htl];exact⟨rfl,rfl⟩
 ·rw[if_pos h2,af h2];conv=>whnf
  exact⟨rfl,rfl⟩
mutual
theorem acn{ds:List DataD}(hf:FineDs ds){v:Int}:∀t:Ty,ju t→RtOk ds v t
 | .mk _ _ _ kids,h=>by
  unfold ju at h;exact yG hf h.1 (pP hf kids h.2)
theorem pP{ds:List DataD}(hf:FineDs ds){v:Int}:∀l:List Ty,fF l→∀t∈l,RtOk ds v t
 | [],_,t,hm=>by cases hm
 |x::l,h,t,hm=>by
  unfold fF at h;rcases aV.1 hm with e|hm
  ·rw[e];exact acn hf x h.1
  ·exact pP hf l h.2 t hm
end
theorem acW{ds:List DataD}{D:DataD}{t:Ty}(ih:RtOk ds (D.vars.length:Int) t):Cw 70 [.agg (tyC t),.one (.ref [.sl 158 4 (ds.map bS) none] 0),.one (.obox 158 (bS D))] [.val (.one (bv (!kG ds (D.vars.length:Int) t)))] [.obox 158 (bS D)]:=by
 obtain⟨k,n,s,kids⟩:=t;have hvl:(D.vars.map str).length=D.vars.length:=by simp
 unfold RtOk at ih;generalize kG ds (D.vars.length:Int) (.mk k n s kids)=b at ih;rw[←hvl]at ih;refine cw { fb:=[3]} Tryz.func70 (by kernel_rfl) ?_;unfold tyC at ih ⊢;conv=>whnf
 refine⟨_,_,ih,?_⟩;cases b
 ·conv=>whnf
  exact⟨rfl,rfl⟩
 ·conv=>whnf
  exact⟨rfl,rfl⟩
theorem uM{ds:List DataD}{D:DataD}{l:List Ty}(hl:l.length≤4294967296)(ih:∀t∈l,RtOk ds (D.vars.length:Int) t):Cw 112 [.one (.sl 88 4 (tysC l) none),.one (.clo 70 [.ref [.sl 158 4 (ds.map bS) none] 0,.obox 158 (bS D)])] [.val (.one (iv (gR ds (D.vars.length:Int) l 0)))] [.clo 70 [.ref [.sl 158 4 (ds.map bS) none] 0,.obox 158 (bS D)]]:=by
 have hml:=bU l;refine cw {} Tryz.func112 (by kernel_rfl) ?_;conv=>whnf
 refine⟨fun j st=>∃i,i+j=l.length∧gR ds (D.vars.length:Int) l 0=gR ds (D.vars.length:Int) (l.drop i) i∧st=⟨[(8,.one (iv i)),(7,.one (iv (tysC l).length)),(1,.one (.clo 70 [.ref [.sl 158 4 (ds.map bS) none] 0,.ptr 1517 0 0])),(0,.one (.sl 88 4 (tysC l) none))],[(1517,⟨0,158,bS D⟩)],[]⟩,
  ⟨l.length,_,ww [8,7,1,0] [1517] [] [] rfl,0,by omega,rfl,rfl⟩,?_⟩
 rintro j st ⟨i,hij,hc,rfl⟩;conv=>whnf
 cases j with
 |zero=>
  rw[af (p:=(i:Int)<((tysC l).length:Int)) (by omega)];rw[ap (by omega)]at hc;conv=>whnf
  exact⟨by rw[hc];rfl,rfl⟩
 |succ j=>
  rw[ag (p:=(i:Int)<((tysC l).length:Int)) (by omega)];have him:i<l.length:=by omega
  rw[aj him]at hc;have eg:=ga (ad him);have hi:=acW (D:=D) (ih l[i] (bp him));conv=>whnf
  generalize l[i]=t at hc eg hi;obtain⟨tk,tn,ts,tkids⟩:=t;refine⟨_,⟨ae _,eg⟩,?_⟩;rw[lq]at hc;generalize kG ds (D.vars.length:Int) (.mk tk tn ts tkids)=b at hi hc;unfold tyC at hi ⊢;conv=>whnf
  refine⟨_,_,hi,?_⟩;cases b
  ·rw[if_neg (by simp)]at hc;conv=>whnf
   exact⟨by rw[hc];rfl,rfl⟩
  ·rw[if_pos rfl]at hc;conv=>whnf
   rw[i64s i (by omega)];exact⟨j,_,ah j,ww [8,7,1,0] [1517] [] [] rfl,i+1,by omega,hc,rfl⟩
theorem tC{ds:List DataD}{D:DataD}{l:List Ty}(hl:l.length≤4294967296)(ih:∀t∈l,RtOk ds (D.vars.length:Int) t):Cw 66 [.one (.sl 88 4 (tysC l) none),.one (.clo 70 [.ref [.sl 158 4 (ds.map bS) none] 0,.obox 158 (bS D)])] [.val (.one (bv (!mX ds (D.vars.length:Int) l)))] [.clo 70 [.ref [.sl 158 4 (ds.map bS) none] 0,.obox 158 (bS D)]]:=by
 have hi:=uM (D:=D) hl ih;have he:=nR (ds:=ds) (v:=(D.vars.length:Int)) l 0;generalize gR ds (D.vars.length:Int) l 0=d at hi he;rw[←he];refine cw {} Tryz.func66 (by kernel_rfl) ?_;conv=>whnf
 refine⟨_,_,hi,?_⟩;conv=>whnf
 exact⟨rfl,rfl⟩
def chA:ByteArray:=⟨#[97]⟩
def chB:ByteArray:=⟨#[98]⟩
theorem abp:Cw 199 [.one (sv chB),.one (sv chA)] [.val (.one (bv false))] []:=by
 have n216:∀s:ByteArray,Cw 216 [.one (sv s)] [.val (.one (bv false))] []:=by
  intro s;refine cw {} Tryz.func216 (by kernel_rfl) ?_;conv=>whnf
  refine⟨?_,rfl⟩;have:(!decide (s=s))=false:=by simp
  exact congrArg (fun b=>[WRes.val (.one (bv b))]) this
 refine cw {} Tryz.func199 (by kernel_rfl) ?_;conv=>whnf
 refine⟨_,_,n216 _,?_⟩;conv=>whnf
 exact⟨rfl,rfl⟩
theorem afD:Cw 193 [.one (.own 9 1 ([chA].map str)),.one (iv 0),.one (iv 1)] [] [.own 9 1 ([chA].map str)]:=by
 refine cw {} Tryz.func193 (by kernel_rfl) ?_;conv=>whnf
 refine⟨fun k st=>st=⟨[(6,.one (iv 1)),(0,.one (.rref 3000 0 1)),(1,.one (iv 0)),(2,.one (iv 1)),(OB+3000,.ob 3000 0 (.row 9 1 ([chA].map str)))],[],[aS 3000]⟩,
  ⟨0,_,ww [6,0,1,2] [] [3000] [] rfl,rfl⟩,?_⟩
 rintro k st rfl;conv=>whnf
 exact⟨rfl,rfl⟩
theorem adx:Cw 193 [.one (.own 9 1 ([chA,chB].map str)),.one (iv 0),.one (iv 2)] [] [.own 9 1 ([chA,chB].map str)]:=by
 refine cw {} Tryz.func193 (by kernel_rfl) ?_;conv=>whnf
 refine⟨fun k st=>∃i:Int,(k=1∧i=1∨k=0∧i=2)∧st=⟨[(6,.one (iv i)),(0,.one (.rref 3000 0 2)),(1,.one (iv 0)),(2,.one (iv 2)),(OB+3000,.ob 3000 0 (.row 9 1 ([chA,chB].map str)))],[],[aS 3000]⟩,
  ⟨1,_,ww [6,0,1,2] [] [3000] [] rfl,1,.inl ⟨rfl,rfl⟩,rfl⟩,?_⟩
 rintro k st ⟨i,⟨rfl,rfl⟩|⟨rfl,rfl⟩,rfl⟩
 ·conv=>whnf
  refine⟨fun m st=>st=⟨[(7,.one (iv 1)),(6,.one (iv 1)),(0,.one (.rref 3000 0 2)),(1,.one (iv 0)),(2,.one (iv 2)),(OB+3000,.ob 3000 0 (.row 9 1 ([chA,chB].map str)))],[],[aS 3000]⟩,
   ⟨0,_,ww [7,6,0,1,2] [] [3000] [] rfl,rfl⟩,?_⟩
  rintro m st rfl;conv=>whnf
  refine⟨⟨by decide,by decide⟩,?_⟩;conv=>whnf
  refine⟨_,⟨by decide,rfl⟩,?_⟩;conv=>whnf
  refine⟨⟨by decide,by decide⟩,?_⟩;conv=>whnf
  refine⟨_,⟨by decide,rfl⟩,?_⟩;conv=>whnf
  refine⟨_,_,abp,?_⟩;conv=>whnf
  refine⟨aN (by kernel_rfl),?_⟩;conv=>whnf
  exact⟨0,_,ah 0,ww [6,0,1,2] [] [3000] [] rfl,2,.inr ⟨rfl,rfl⟩,rfl⟩
 ·conv=>whnf
  exact⟨rfl,rfl⟩
theorem afg{l:List ByteArray}{n:Nat}{b:Int}(hl:l.length=n)(hn:n≤12)(hc:Cw 193 [.one (.own 9 1 (l.map str)),.one (iv 0),.one (iv n)] [] [.own 9 1 (l.map str)]):Cw 152 [.one (.own 9 1 (l.map str)),.one (iv 0),.one (iv n),.one (iv b)] [] [.own 9 1 (l.map str)]:=by
 have hil:(l.map str).length=l.length:=by simp
 refine cw {} Tryz.func152 (by kernel_rfl) ?_;conv=>whnf
 rw[hil,hl];refine⟨fun k st=>st=⟨[(9,.one (bv true)),(8,.one (bv true)),(0,.one (.rref 3000 0 n)),(1,.one (iv 0)),(2,.one (iv n)),(3,.one (iv b)),(OB+3000,.ob 3000 0 (.row 9 1 (l.map str)))],[],[aS 3000]⟩,
  ⟨0,_,ww [9,8,0,1,2,3] [] [3000] [] rfl,rfl⟩,?_⟩
 rintro k st rfl;conv=>whnf
 rw[show IntKind.i64.wrap ((n:Int)-0)=(n:Int) by rw[i64w (by omega) (by omega)];omega];rw[ag (p:=(n:Int)≤12) (by omega)];conv=>whnf
 refine⟨_,_,hc,?_⟩;conv=>whnf
 exact⟨rfl,rfl⟩
theorem wL{l:List ByteArray}(hn:l.length≤12)(hc:Cw 193 [.one (.own 9 1 (l.map str)),.one (iv 0),.one (iv l.length)] [] [.own 9 1 (l.map str)]):Cw 114 [.one (.own 9 1 (l.map str))] [] [.own 9 1 (l.map str)]:=by
 have hil:(l.map str).length=l.length:=by simp
 have hc:=afg (b:=lenS l.length) rfl hn hc;refine cw {} Tryz.func114 (by kernel_rfl) ?_;conv=>whnf
 rw[hil];rw[show IntKind.u64.wrap (l.length:Int)=(l.length:Int) by simp only[IntKind.wrap,IntKind.bits,IntKind.signed];simp;omega];refine⟨_,_,yX hn,?_⟩;conv=>whnf
 refine⟨_,_,hc,?_⟩;conv=>whnf
 exact⟨rfl,rfl⟩
theorem aeg:Cw 115 [.one (.sl 9 1 ([chA].map str) none)] [.val (.one (.sl 9 1 ([chA].map str) none))] []:=by
 refine cw {} Tryz.func115 (by kernel_rfl) ?_;conv=>whnf
 exact⟨rfl,rfl⟩
theorem abC:Cw 115 [.one (.sl 9 1 ([chA,chB].map str) none)] [.val (.one (.sl 9 1 ([chA,chB].map str) none))] []:=by
 refine cw {} Tryz.func115 (by kernel_rfl) ?_;conv=>whnf
 refine⟨fun k st=>∃i:Int,(k=1∧i=1∨k=0∧i=2)∧st=⟨[(3,.one (iv i)),(0,.one (.sl 9 1 ([chA,chB].map str) none))],[],[]⟩,
  ⟨1,_,ww [3,0] [] [] [] rfl,1,.inl ⟨rfl,rfl⟩,rfl⟩,?_⟩
 rintro k st ⟨i,⟨rfl,rfl⟩|⟨rfl,rfl⟩,rfl⟩
 ·conv=>whnf
  refine⟨_,⟨by decide,rfl⟩,?_⟩;conv=>whnf
  refine⟨_,⟨by decide,rfl⟩,?_⟩;conv=>whnf
  refine⟨aN (by kernel_rfl),?_⟩;conv=>whnf
  exact⟨0,_,ah 0,ww [3,0] [] [] [] rfl,2,.inr ⟨rfl,rfl⟩,rfl⟩
 ·conv=>whnf
  exact⟨rfl,rfl⟩
def twL(l:List ByteArray):Bool:=decide (l=[chA])|| decide (l=[chA,chB])
theorem ahb:Cw 69 [.one (.sl 9 1 ([chA].map str) none)] [.val (.one (bv false))] []:=by
 have h1:=uD (xs:=[chA].map str) (by simp[LIM]) (by intro x hx;simp at hx;subst hx;rfl);have h2:=wL (l:=[chA]) (by simp) afD;refine cw { fz:=[10]} Tryz.func69 (by kernel_rfl) ?_;conv=>whnf
 refine⟨_,_,h1,?_⟩;conv=>whnf
 refine⟨_,_,h2,?_⟩;conv=>whnf
 refine⟨_,_,aeg,?_⟩;conv=>whnf
 exact⟨rfl,rfl⟩
theorem aeT:Cw 69 [.one (.sl 9 1 ([chA,chB].map str) none)] [.val (.one (bv false))] []:=by
 have h1:=uD (xs:=[chA,chB].map str) (by simp[LIM]) (by intro x hx;simp at hx;rcases hx with rfl|rfl<;>rfl);have h2:=wL (l:=[chA,chB]) (by simp) adx;refine cw { fz:=[10]} Tryz.func69 (by kernel_rfl) ?_;conv=>whnf
 refine⟨_,_,h1,?_⟩;conv=>whnf
 refine⟨_,_,h2,?_⟩;conv=>whnf
 refine⟨_,_,abC,?_⟩;conv=>whnf
 exact⟨rfl,rfl⟩
theorem aiu{l:List ByteArray}(h:twL l=true):Cw 69 [.one (.sl 9 1 (l.map str) none)] [.val (.one (bv false))] []:=by
 unfold twL at h;rw[fe,bC,bC]at h;rcases h with rfl|rfl
 ·exact ahb
 ·exact aeT
abbrev Had:=List (ByteArray×Bool)
def hadV(l:Had):List MV:=l.map fun _=>tt
def lZ(ds:List DataD)(v:Int):List ConD→Had→Had×Option Int
 | [],had=>(had,none)
 |c::l,had=>if(fidx (c.s,true) had).isSome=true then(had,some c.at_) else if mX ds v c.args=false then(had,some c.at_) else lZ ds v l (had++[(c.s,true)])
def kM(ds:List DataD):List DataD→Had→Option (Option Int)
 | [],_=>some none
 |d::l,had=>if(fidx (d.s,false) had).isSome=true then some (some d.at_) else if twL d.vars=false then none else match lZ ds (d.vars.length:Int) d.cons (had++[(d.s,false)]) with
  |(_,some p)=>some (some p)
  |(had1,none)=>kM ds l had1
def zu(ds:List DataD):Option (Int×Int):=match kM ds ds [(intT,false),(qN,false)] with
 |none=>none
 |some none=>some (0,0)
 |some (some p)=>some (6,p)
theorem xz{x:ByteArray×Bool}{l:Had}{i:Nat}(h:fidx x l=some i):(hadV l)[i]?=some tt:=by simp[hadV,iq h]
theorem aaG(l:Had)(x:ByteArray×Bool):(l++[x]).map key2=l.map key2++[key2 x]∧hadV (l++[x])=hadV l++[tt]:=by simp[hadV]
def had0(b:Bool):Had:=if b then [(intT,false),(qN,false)] else [(qN,false),(intT,false)]
theorem mF{α:Type}[DecidableEq α]{x:α}:∀{l:List α},(fidx x l).isSome=true↔x∈l
 | []=>by simp[fidx]
 |y::l=>by
  have ih:=mF (x:=x) (l:=l);unfold fidx;by_cases h:x=y
  ·simp[h]
  ·simp[h,ih]
theorem sU{ds:List DataD}{v:Int}:∀{l:List ConD} {h1 h2:Had},(∀x,x∈h1↔x∈h2)→(lZ ds v l h1).2=(lZ ds v l h2).2∧∀x,x∈(lZ ds v l h1).1↔x∈(lZ ds v l h2).1
 | [],h1,h2,h=>⟨rfl,h⟩
 |c::l,h1,h2,h=>by
  have hi:(fidx (c.s,true) h1).isSome=(fidx (c.s,true) h2).isSome:=by
   rw[dH,mF,mF];exact h _
  unfold lZ;rw[hi];split
  ·exact⟨rfl,h⟩
  ·split
   ·exact⟨rfl,h⟩
   ·exact sU fun x=>by simp[h x]
theorem pa{ds:List DataD}:∀{l:List DataD} {h1 h2:Had},(∀x,x∈h1↔x∈h2)→kM ds l h1=kM ds l h2
 | [],h1,h2,h=>rfl
 |d::l,h1,h2,h=>by
  have hi:(fidx (d.s,false) h1).isSome=(fidx (d.s,false) h2).isSome:=by
   rw[dH,mF,mF];exact h _
  unfold kM;rw[hi];split
  ·rfl
  ·split
   ·rfl
   ·obtain⟨e1,e2⟩:=sU (ds:=ds) (v:=(d.vars.length:Int)) (l:=d.cons) (h1:=h1++[(d.s,false)]) (h2:=h2++[(d.s,false)]) (fun x=>by simp[h x]);generalize lZ ds (d.vars.length:Int) d.cons (h1++[(d.s,false)])=a at e1 e2;generalize lZ ds (d.vars.length:Int) d.cons (h2++[(d.s,false)])=b at e1 e2
    obtain⟨a1,a2⟩:=a;obtain⟨b1,b2⟩:=b;simp only at e1 e2;subst e1;cases a2 with
    |some p=>rfl
    |none=>exact pa e2
theorem qL{ds l:List DataD}(b:Bool):kM ds l (had0 b)=kM ds l [(intT,false),(qN,false)]:=by
 cases b
 ·exact pa fun x=>by simp[had0,or_comm]
 ·rfl
theorem aej{ds:List DataD}{e p:Int}(hf:FineDs ds)(h:zu ds=some (e,p)):Cw 40 [.one (.sl 158 4 (ds.map bS) none)] [.val (.one (iv e)),.val (.one (iv p))] []:=by
 have hml:(ds.map bS).length=ds.length:=by simp
 have hlen:=hf.len;unfold zu at h;obtain⟨r,h0,hr⟩:∃r:Option Int,(∀b,kM ds ds (had0 b)=some r)∧(match r with
  |none=>some ((0:Int),(0:Int))
  |some p=>some (6,p))=some (e,p):=by
  split at h
  ·cases h
  ·rename_i h1;exact⟨none,fun b=>by rw[qL b];exact h1,h⟩
  ·rename_i q h1;exact⟨some q,fun b=>by rw[qL b];exact h1,h⟩
 clear h;refine cw { fb:=[1],any:=[1]} Tryz.func40 (by kernel_rfl) ?_;conv=>whnf
 refine⟨fun st=>∃b,st=⟨[(1,.one (.ref [.sl 158 4 (ds.map bS) none] 0)),(4,.one (.mref 9 0)),(OB+9,.ob 9 0 (.map kz2 ((had0 b).map key2) (hadV (had0 b))))],[],[aS 9]⟩,?_,?_⟩
 ·conv=>whnf
  all_goals repeat' (with_reducible refine And.intro ?_ ?_)
  all_goals conv=>whnf
  all_goals repeat' (with_reducible refine And.intro ?_ ?_)
  all_goals try(with_reducible refine⟨none,by kernel_rfl,?_⟩)
  all_goals conv=>whnf
  all_goals repeat' (with_reducible refine And.intro ?_ ?_)
  all_goals try(with_reducible refine⟨none,by kernel_rfl,?_⟩)
  all_goals conv=>whnf
  all_goals repeat' (with_reducible refine And.intro ?_ ?_)
  all_goals try(with_reducible refine⟨none,by kernel_rfl,?_⟩)
  all_goals conv=>whnf
  all_goals repeat' (with_reducible refine And.intro ?_ ?_)
  all_goals try(with_reducible refine⟨none,by kernel_rfl,?_⟩)
  all_goals conv=>whnf
  all_goals repeat' (with_reducible refine And.intro ?_ ?_)
  all_goals try(with_reducible refine⟨none,by kernel_rfl,?_⟩)
  all_goals conv=>whnf
  all_goals repeat' (with_reducible refine And.intro ?_ ?_)
  all_goals try(with_reducible refine⟨none,by kernel_rfl,?_⟩)
  all_goals conv=>whnf
  all_goals repeat' (with_reducible refine And.intro ?_ ?_)
  all_goals try(with_reducible refine⟨none,by kernel_rfl,?_⟩)
  all_goals conv=>whnf
  all_goals repeat' (with_reducible refine And.intro ?_ ?_)
  all_goals try(with_reducible refine⟨none,by kernel_rfl,?_⟩)
  all_goals conv=>whnf
  all_goals repeat' (with_reducible refine And.intro ?_ ?_)
  all_goals try(with_reducible refine⟨none,by kernel_rfl,?_⟩)
  all_goals first
   |exact rfl
   |exact⟨_,ww [1,4] [] [9] [] rfl,true,rfl⟩
   |exact⟨_,ww [1,4] [] [9] [] rfl,false,rfl⟩
 ·rintro s0 ⟨b,rfl⟩;have h:=h0 b;clear h0;conv=>whnf
  refine⟨fun j st=>∃i had,i+j=ds.length∧kM ds (ds.drop i) had=some r∧st=⟨[(15,.one (iv i)),(14,.one (iv (ds.map bS).length)),(13,.one (.sl 158 4 (ds.map bS) none)),(1,.one (.ref [.sl 158 4 (ds.map bS) none] 0)),(4,.one (.mref 9 0)),(OB+9,.ob 9 0 (.map kz2 (had.map key2) (hadV had)))],[],[aS 9]⟩,
   ⟨ds.length,_,ww [15,14,13,1,4] [] [9] [] rfl,0,had0 b,by omega,h,rfl⟩,?_⟩
  rintro j st ⟨i,had,hij,hq,rfl⟩;conv=>whnf
  cases j with
  |zero=>
   rw[af (p:=(i:Int)<((ds.map bS).length:Int)) (by omega)];rw[ap (by omega)]at hq;cases hq;conv=>whnf
   cases hr;exact⟨rfl,rfl⟩
  |succ j=>
  rw[ag (p:=(i:Int)<((ds.map bS).length:Int)) (by omega)];have him:i<ds.length:=by omega
  rw[aj him]at hq;have eg:(ds.map bS)[i]?=some (bS ds[i]):=by simp[him]
  have hmem:=bp him;have hfc:=hf.cons _ hmem;have hfa:=hf.args _ hmem;generalize ds[i]=D at hq eg hfc hfa;unfold kM at hq;have hfk:bL (key2 (D.s,false)) (had.map key2)=fidx (D.s,false) had:=ld _ had;conv=>whnf
  refine⟨_,⟨ae _,eg⟩,?_⟩;conv=>whnf
  cases hfi:fidx (D.s,false) had with
  |some ix=>
   rw[hfi]at hq;simp only[Option.isSome_some,if_true,am]at hq;subst hq;refine⟨some ix,hfk.trans hfi,?_⟩;conv=>whnf
   refine⟨tt,xz hfi,?_⟩;conv=>whnf
   refine⟨aN (by kernel_rfl),?_⟩;conv=>whnf
   cases hr;exact⟨rfl,rfl⟩
  |none=>
  rw[hfi]at hq;simp only[kb,cJ,if_false]at hq;cases htw:twL D.vars with
  |false=>rw[htw]at hq;simp at hq
  |true=>
  rw[htw]at hq;simp only[Bool.true_eq_false,if_false]at hq;refine⟨none,hfk.trans hfi,?_⟩;conv=>whnf
  refine⟨_,_,aiu htw,?_⟩;conv=>whnf
  refine⟨none,hfk.trans hfi,?_⟩;conv=>whnf
  have hml2:(D.cons.map conC).length=D.cons.length:=by simp
  obtain⟨k1,k2⟩:=aaG had (D.s,false);generalize hh1:had++[(D.s,false)]=had1 at hq k1 k2;generalize hq9:lZ ds (D.vars.length:Int) D.cons had1=q9 at hq
  refine⟨fun j2 st=>∃i2 hd2,i2+j2=D.cons.length∧q9=lZ ds (D.vars.length:Int) (D.cons.drop i2) hd2∧st=⟨[(38,.one (iv i2)),(37,.one (iv (D.cons.map conC).length)),(36,.one (.sl 163 3 (D.cons.map conC) none)),(6,.one (.ptr 6 0 0)),(15,.one (iv i)),(14,.one (iv (ds.map bS).length)),(13,.one (.sl 158 4 (ds.map bS) none)),(1,.one (.ref [.sl 158 4 (ds.map bS) none] 0)),(4,.one (.mref 9 0)),(OB+9,.ob 9 0 (.map kz2 (hd2.map key2) (hadV hd2)))],[(6,⟨0,158,bS D⟩)],[aS 9]⟩,
   ⟨D.cons.length,_,ww [38,37,36,6,15,14,13,1,4] [6] [9] [] rfl,0,had1,by omega,hq9.symm,by rw[k1,k2];rfl⟩,?_⟩
  rintro j2 st ⟨i2,hd2,hij2,hq2,rfl⟩;conv=>whnf
  cases j2 with
  |zero=>
   rw[af (p:=(i2:Int)<((D.cons.map conC).length:Int)) (by omega)];rw[ap (by omega)]at hq2;have hq2:q9=(hd2,none):=hq2;rw[hq2]at hq;simp only at hq;conv=>whnf
   rw[i64s i (by omega)];exact⟨j,_,ah j,ww [15,14,13,1,4] [] [9] [] rfl,i+1,hd2,by omega,hq,rfl⟩
  |succ j2=>
  rw[ag (p:=(i2:Int)<((D.cons.map conC).length:Int)) (by omega)];have him2:i2<D.cons.length:=by omega
  rw[aj him2]at hq2;have eg2:(D.cons.map conC)[i2]?=some (conC D.cons[i2]):=by simp[him2]
  have hmem2:=bp him2;have hca:=hfa _ hmem2;generalize D.cons[i2]=C at hq2 eg2 hca;have hfk2:bL (key2 (C.s,true)) (hd2.map key2)=fidx (C.s,true) hd2:=ld _ hd2;have hany:=tC (ds:=ds) (D:=D) (l:=C.args) hca.1 (pP hf C.args hca.2);unfold lZ at hq2;conv=>whnf
  refine⟨_,⟨ae _,eg2⟩,?_⟩;conv=>whnf
  cases hfi2:fidx (C.s,true) hd2 with
  |some ix=>
   rw[hfi2]at hq2;simp only[Option.isSome_some,if_true]at hq2;rw[hq2]at hq;simp only[am]at hq;subst hq;refine⟨some ix,hfk2.trans hfi2,?_⟩;conv=>whnf
   refine⟨tt,xz hfi2,?_⟩;conv=>whnf
   refine⟨aN (by kernel_rfl),?_⟩;conv=>whnf
   cases hr;exact⟨rfl,rfl⟩
  |none=>
  rw[hfi2]at hq2;simp only[kb,cJ,if_false]at hq2;refine⟨none,hfk2.trans hfi2,?_⟩;conv=>whnf
  refine⟨_,_,hany,?_⟩;cases hrt:mX ds (D.vars.length:Int) C.args with
  |false=>
   rw[hrt]at hq2;simp only[if_true]at hq2;rw[hq2]at hq;simp only[am]at hq;subst hq;conv=>whnf
   refine⟨aN (by kernel_rfl),?_⟩;conv=>whnf
   cases hr;exact⟨rfl,rfl⟩
  |true=>
   rw[hrt]at hq2;simp only[Bool.true_eq_false,if_false]at hq2;conv=>whnf
   refine⟨none,hfk2.trans hfi2,?_⟩;conv=>whnf
   rw[i64s i2 (by omega)];obtain⟨k3,k4⟩:=aaG hd2 (C.s,true);exact⟨j2,_,ah j2,ww [38,37,36,6,15,14,13,1,4] [6] [9] [] rfl,i2+1,hd2++[(C.s,true)],by omega,hq2,by rw[k3,k4];rfl⟩
def keyL(l:List ByteArray):List Value:=l.map keyS
def ttS(l:List ByteArray):List MV:=l.map fun _=>tt
theorem wr{ds:List DataD}(hd:FineDs ds){k:Nat}(ih:∀j,j<k→WiOk ds j){nm nm':Cnt}{alts:List Alt}{p:Int}(hl:alts.length≤4294967296)(hf:lM alts)(h:th ds k nm [] alts=some (nm',p)):
 Cw 74 [.one (scA ds nm),.one (.sl 226 9 (cf alts) none)] [.val (.one (iv p))] [scA ds nm']:=by
 have hal:=fU alts;refine cw {} Tryz.func74 (by kernel_rfl) ?_;conv=>whnf
 refine⟨fun j st=>∃i nm2 had,i≤alts.length∧j≤k∧th ds j nm2 had (alts.drop i)=some (nm',p)∧st=⟨(14,.one (iv i))::(13,.one (iv (cf alts).length))::(12,.one (.sl 226 9 (cf alts) none))::(5,.one (.mref 11 0))::(0,.one (.ptr 1500 0 0))::(OB+11,.ob 11 0 (.map kz (keyL had) (ttS had)))::sobs nm2,
  [sbox ds],[aS 11,aS 100097]⟩,
  ⟨k,_,ww [14,13,12,5,0] [1500] [11,100097] [] rfl,0,nm,[],aR _,au _,h,rfl⟩,?_⟩
 rintro j st ⟨i,nm2,had,hi,hj,hq,rfl⟩;conv=>whnf
 cases j with
 |zero=>simp[th]at hq
 |succ j=>
 by_cases him:i<alts.length
 ·rw[ag (p:=(i:Int)<((cf alts).length:Int)) (by omega)];rw[aj him]at hq;have eg:=fa (ad him);have hfa:=eK hf (ad him);generalize alts[i]=al at hq eg hfa;obtain⟨aa,con,names,bk,ba,bs,bn,bkids,balts⟩:=al
  unfold th at hq;split at hq
  ·rename_i n ok hc;have hml:(names.map str).length=names.length:=by simp
   have hsc:=zW (nm:=nm2) hd hc;have htw:=abP hfa.1;have hfk:bL (keyS con) (keyL had)=fidx con had:=iI con had;conv=>whnf
   refine⟨_,⟨ae _,eg⟩,?_⟩;unfold altC exC;conv=>whnf
   refine⟨_,_,hsc,?_⟩;cases ok with
   |false=>
    rw[if_pos (.inl rfl)]at hq;cases hq;conv=>whnf
    exact⟨rfl,rfl⟩
   |true=>
    conv=>whnf
    by_cases hn:n=names.length
    ·rw[ag (p:=n=((names.map str).length:Int)) (by omega)];conv=>whnf
     refine⟨_,_,htw,?_⟩;cases ht:ia names names 0 with
     |true=>
      rw[if_pos (.inr (.inr (.inl ht)))]at hq;cases hq;conv=>whnf
      exact⟨rfl,rfl⟩
     |false=>
      conv=>whnf
      cases hfi:fidx con had with
      |some ix=>
       rw[if_pos (.inr (.inr (.inr (by rw[hfi];rfl))))]at hq;cases hq;refine⟨some ix,hfk.trans hfi,?_⟩;conv=>whnf
       refine⟨tt,by simp[ttS,iq hfi],?_⟩;conv=>whnf
       exact⟨rfl,rfl⟩
      |none=>
       rw[if_neg (by rintro(h|h|h|h);cases h;exact h hn;rw[ht]at h;cases h;rw[hfi]at h;cases h)]at hq;split at hq
       ·rename_i nm3 q hwi;have hwc:=ih j (by omega) _ _ _ _ _ hfa.1 hfa.2 hwi;unfold exC at hwc;refine⟨none,hfk.trans hfi,?_⟩;conv=>whnf
        refine⟨none,hfk.trans hfi,?_⟩;conv=>whnf
        refine⟨_,_,hwc,?_⟩;conv=>whnf
        by_cases hq0:0≤q
        ·rw[if_pos hq0]at hq;cases hq;rw[ag hq0];conv=>whnf
         exact⟨rfl,rfl⟩
        ·rw[if_neg hq0]at hq;rw[af hq0];conv=>whnf
         rw[i64s i (by omega)];refine⟨j,_,ah j,ww [14,13,12,5,0] [1500] [11,100097] [] rfl,i+1,nm3,had++[con],him,by omega,hq,?_⟩;have e1:keyL (had++[con])=keyL had++[keyS con]:=by simp[keyL]
         have e2:ttS (had++[con])=ttS had++[tt]:=by simp[ttS]
         rw[e1,e2];rfl
       ·cases hq
    ·rw[af (p:=n=((names.map str).length:Int)) (by omega)];rw[if_pos (.inr (.inl hn))]at hq;cases hq;conv=>whnf
     exact⟨rfl,rfl⟩
  ·cases hq
 ·rw[af (p:=(i:Int)<((cf alts).length:Int)) (by omega)];rw[ap (by omega)]at hq;unfold th at hq;cases hq;conv=>whnf
  exact⟨rfl,rfl⟩
end
end Go.Proofs.YtgkenhpfiempbaaGreatDoor.V
