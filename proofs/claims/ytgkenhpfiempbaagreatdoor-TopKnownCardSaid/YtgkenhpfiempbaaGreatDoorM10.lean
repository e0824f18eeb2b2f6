/-
  Part M10: F84, F181, F130, F183, F185, F88, F182, F90, P4, F85, F131, F211, F210, F184, F132, P5, F134. Conditions stand in the theorems.
-/
import Derived.Test.YtgkenhpfiempbaaGreatDoorM09
set_option linter.all false
set_option maxRecDepth 1000000
set_option maxHeartbeats 8000000
namespace Go.Proofs.YtgkenhpfiempbaaGreatDoor.V
open Go Go.Proofs
noncomputable section
theorem wA:∀{m:Nat} {s s':Sv} {l:List Int},Sv.vars m s=some (s',l)→l.length=m
 |0,s,s',l,h=>by cases h;rfl
 |m+1,s,s',l,h=>by
  unfold Sv.vars at h;split at h
  ·split at h
   ·rename_i h2;cases h;simp[wA h2]
   ·cases h
  ·cases h
theorem wz:∀{m:Nat} {s s':Sv} {l:List Int},Sv.vars m s=some (s',l)→s.rs.length≤LIM→m+s.rs.length≤LIM∧s'.rs.length=m+s.rs.length
 |0,s,s',l,h,h0=>by cases h;exact⟨by omega,by omega⟩
 |m+1,s,s',l,h,h0=>by
  unfold Sv.vars at h;split at h
  ·rename_i s1 x h1;unfold Sv.var Sv.add at h1;split at h1
   ·cases h1;split at h
    ·rename_i h2;cases h;have:=wz h2 (by simp;omega);simp at this;exact⟨by omega,by omega⟩
    ·cases h
   ·cases h1
  ·cases h
theorem yw{m:Nat}{s s':Sv}{l:List Int}(h:Sv.vars m s=some (s',l)):m≤LIM:=by
 cases m with
 |zero=>exact aR _
 |succ m=>
  have h2:=h;unfold Sv.vars Sv.var Sv.add at h2;split at h2
  ·rename_i h1;split at h1
   ·have:=(wz h (by omega)).1;omega
   ·cases h1
  ·cases h2
theorem hY{R:GR}{s s':Sv}{m:Nat}{l:List Int}(h:Sv.vars m s=some (s',l)):Cw 84 [.one (sol R s),.one (iv m)] [.val (.one (.sl 3 1 (ints l) none))] [sol R s']:=by
 have hm:=yw h;unfold LIM at hm;refine cw {} Tryz.func84 (by kernel_rfl) ?_;conv=>whnf
 refine⟨⟨rfl,by omega,by show(m:Int)≤(lim 8:Nat);simp[lim];omega⟩,?_⟩;conv=>whnf
 refine⟨fun j st=>∃i s1 l1 l2,i+j=m∧l1.length=i∧l1++l2=l∧Sv.vars j s1=some (s',l2)∧st=⟨(11,.one (iv i))::(10,.one (iv m))::(5,.one (.rref 8 0 m))::(0,.one (.ptr 1500 0 0))::(OB+8,.ob 8 0 (.row 3 1 (ints (l1++List.replicate j 0))))::gobs R s1.ns (.uf s1.rs.length (Uf s1.rs)),[gbox R (nds s1.ns).length s1.rs.length s1.lv],aS 8::fD⟩,
  ⟨m,_,ww [11,10,5,0] [1500] [8,100096,100097,100099,100101] [] rfl,0,s,[],l,by omega,rfl,rfl,h,?_⟩,?_⟩
 ·have:ints ([]++List.replicate m 0)=List.replicate m [iv 0]:=by simp[ints]
  rw[this];rfl
 rintro j st ⟨i,s1,l1,l2,hij,hl1,hl,hv,rfl⟩;conv=>whnf
 cases j with
 |zero=>
  have hd:decide ((i:Int)<(m:Int))=false:=af (by omega);rw[hd];conv=>whnf
  cases hv;simp only[aX]at hl;subst hl;refine⟨by simp,rfl⟩
 |succ j=>
  have hd:decide ((i:Int)<(m:Int))=true:=ag (by omega);rw[hd];unfold Sv.vars at hv;split at hv
  ·rename_i s2 x h1;split at hv
   ·rename_i s3 l3 h2;cases hv;conv=>whnf
    refine⟨_,_,nS h1,?_⟩;conv=>whnf
    refine⟨⟨by omega,by omega⟩,?_⟩;conv=>whnf
    have e0:(ints (l1++List.replicate (j+1) 0))[i]?=some [iv 0]:=by
     simp[ints,hl1,dN]
    refine⟨[iv 0],⟨ae _,e0⟩,?_⟩;conv=>whnf
    have hw:IntKind.i64.wrap ((i:Int)+1)=((i+1:Nat):Int):=by rw[i64w (by omega) (by omega)];omega
    rw[hw];have e1:(ints (l1++List.replicate (j+1) 0)).set i [iv x]=ints (l1++[x]++List.replicate j 0):=by
     simp only[ints,bw];rw[da _ _ (by simp[hl1])];simp[hl1,jw]
    refine⟨j,_,ah j,ww [11,10,5,0] [1500] [8,100096,100097,100099,100101] [] rfl,i+1,s2,l1++[x],l3,by omega,by simp[hl1],by simp[←hl],h2,?_⟩;rw[←e1];rfl
   ·cases hv
  ·cases hv
def M181:Md:={ mt:=[13]}
theorem abH{v:Int}{rs:List Int}{k:Nat}{ns:List Nd}{had st:List Int}{r:List Nd×Bool}(h:jv v rs k ns had st=some r):st.length≤LIM:=by
 cases k with
 |zero=>cases h
 |succ k=>
  unfold jv at h;split at h
  ·rename_i hl;have:st=[]:=by simpa using hl
   simp[this]
  ·split at h
   ·rename_i hd _;exact aJ hd
   ·cases h
def aaP(k:Nat)(s:Sv)(v x:Int):Option (Sv×Bool):=match jv v s.rs k s.ns [] [x],gt s.rs x with
 |some (ns,true),some r=>some ({ s with ns:=ns,rs:=link s.rs v r},true)
 |some (ns,false),_=>some ({ s with ns:=ns},false)
 |_,_=>none
theorem aga{v:Int}{rs:List Int}{ns ns':List Nd}{k:Nat}{x:Int}(h:jv v rs k ns [] [x]=some (ns',true)):rt rs x≠v:=by
 cases k with
 |zero=>cases h
 |succ k=>
  unfold jv at h;simp only[List.getLast?_singleton]at h;split at h
  ·rename_i y _ hy;split at h
   ·cases h
   ·rename_i hne;obtain⟨h0,hl,he⟩:=bY hy;unfold rt;rw[aC,he];exact hne
  ·cases h
theorem aey{R:GR}{k:Nat}{s s':Sv}{v x:Int}{b:Bool}(h:aaP k s v x=some (s',b))(hv:0≤v∧v<s.rs.length)(hvr:rt s.rs v=v):
 Cw 181 [.one (sol R s),.one (iv v),.one (iv x)] [.val (.one (.v (.bool b)))] [sol R s']:=by
 refine ajc fun to hu=>?_;obtain⟨ns',hb,hs⟩:∃ns',jv v s.rs k s.ns [] [x]=some (ns',b)∧(b=true→∃r,gt s.rs x=some r∧s'={ s with ns:=ns',rs:=link s.rs v r})∧(b=false→s'={ s with ns:=ns'}):=by
  unfold aaP at h;split at h
  ·rename_i ns r h1 h2;cases h;exact⟨ns,h1,fun _=>⟨r,h2,rfl⟩,fun e=>by cases e⟩
  ·rename_i ns h1;cases h;exact⟨ns,h1,(fun e=>by cases e),fun _=>rfl⟩
  ·cases h
 clear h;refine cwLe M181 (K:=fun rs cs=>rs=[.val (.one (.v (.bool b)))]∧LeL cs [sol R s']) Tryz.func181 (by kernel_rfl) eqLe ?_;conv=>whnf
 refine⟨fun j st=>∃ns1 to1 had stk,Uf s.rs to1∧jv v s.rs j ns1 had stk=some (ns',b)∧st=⟨(8,.one (.rref 13 0 (ints stk).length))::(7,.one (.mref 11 0))::(2,.one (iv x))::(1,.one (iv v))::(0,.one (.ptr 1500 0 0))::(OB+13,.ob 13 0 (.row 3 1 (ints stk)))::(OB+11,.ob 11 0 (.map (.int .i64 0) (keyI had) (had.map fun _=>tt)))::gobs R ns1 (.row 3 1 (ints to1)),
  [gbox R (nds ns1).length (ints to1).length s.lv],aS 13::aS 11::fD⟩,
  ⟨k,_,ww [8,7,2,1,0] [1500] [13,11,100096,100097,100099,100101] [.tmp 8 13] rfl,s.ns,to,[],[x],hu,hb,rfl⟩,?_⟩
 rintro j st ⟨ns1,to1,had,stk,hu1,h1,rfl⟩;have htl:=hu1.1;conv=>whnf
 have hsl:=bh stk;cases j with
 |zero=>cases h1
 |succ j=>
 unfold jv at h1;cases hl:stk.getLast? with
 |none=>
  rw[hl]at h1;cases h1;have hss:stk=[]:=by simpa using hl
  subst hss;have hd:decide (0<((ints ([]:List Int)).length:Int))=false:=rfl;rw[hd];conv=>whnf
  refine⟨⟨hv.1,by rw[bh];omega⟩,?_⟩;conv=>whnf
  have e0:(ints to1)[v.toNat]?=some [iv (to1.getD v.toNat 0)]:=by
   have:v.toNat<to1.length:=by omega
   simp[ints,this,aC]
  refine⟨_,⟨ae _,e0⟩,?_⟩;conv=>whnf
  refine⟨rfl,?_⟩;obtain⟨r,hr,rfl⟩:=hs.1 rfl;obtain⟨x0,xl,xe⟩:=bY hr;have hne:=aga hb;have hrr:rt s.rs x=r:=by unfold rt;rw[aC,xe];rfl
  have hl:=hu1.link hv.1 hv.2 hvr x0 (by omega) hne;rw[show s.rs.getD x.toNat 0=r from hrr]at hl;have:(ints to1).set v.toNat [iv x]=ints (to1.set v.toNat x):=by simp[ints,bX]
  refine⟨?_,trivial⟩;have hq:AC.own 3 1 ((ints to1).set v.toNat (over [iv (to1.getD v.toNat 0)] 0 [AC.v (Value.int IntKind.i64 x)]))=AC.own 3 1 (ints (to1.set v.toNat x)):=congrArg (AC.own 3 1) this;rw[hq];exact abY (s:={ s with ns:=ns',rs:=link s.rs v r}) hl
 |some y0=>
  rw[hl]at h1;obtain⟨st0,rfl⟩:∃st0,stk=st0++[y0]:=⟨stk.dropLast,by rw[eY]at hl;obtain⟨ys,rfl⟩:=hl;simp⟩;simp only[aH,aT,bJ]at hsl;have hd:decide (0<((ints (st0++[y0])).length:Int))=true:=by rw[hsl];exact ag (by omega)
  rw[hd];simp only at h1;split at h1
  ·rename_i y hlen hr;have hlen:=aJ hlen;unfold LIM at hlen;simp only[aH,aT,bJ]at hlen;have hw:IntKind.i64.wrap (((ints (st0++[y0])).length:Int)-1)=(st0.length:Int):=by rw[hsl,i64w (by omega) (by omega)];omega
   obtain⟨kr,to2,hra,hu2⟩:=aeS hu1 hr;conv=>whnf
   rw[hw];refine⟨⟨by omega,by omega⟩,?_⟩;conv=>whnf
   have e0:(ints (st0++[y0]))[st0.length]?=some [iv y0]:=by simp[ints]
   refine⟨_,⟨ae _,e0⟩,?_⟩;conv=>whnf
   refine⟨_,_,aab hra,?_⟩;conv=>whnf
   rw[hw];refine⟨⟨by omega,by omega⟩,?_⟩;conv=>whnf
   by_cases hyv:y=v
   ·rw[if_pos hyv]at h1;cases h1;rw[ag hyv];conv=>whnf
    refine⟨rfl,?_,trivial⟩;rw[hs.2 rfl];exact abY (s:={ s with ns:=ns'}) hu2
   ·rw[if_neg hyv]at h1;have htk:List.take st0.length (ints (st0++[y0]))=ints st0:=by simp[ints]
    simp only[jb]at h1;rw[af hyv];conv=>whnf
    have hfk:=ic y had;cases hf:fidx y had with
    |some ix=>
     rw[hf]at h1 hfk;have hix:ix<had.length:=iq hf;refine⟨some ix,hfk,?_⟩;conv=>whnf
     refine⟨tt,by simp[hix],?_⟩;conv=>whnf
     refine⟨j,_,ah j,ww [8,7,2,1,0] [1500] [13,11,100096,100097,100099,100101] [.tmp 8 13] rfl,ns1,to2,had,st0,hu2,h1,?_⟩;rw[←htk];have:(List.take st0.length (ints (st0++[y0]))).length=st0.length:=by rw[htk,bh]
     rw[this];rfl
    |none=>
     rw[hf]at h1 hfk;refine⟨none,hfk,?_⟩;conv=>whnf
     refine⟨none,hfk,?_⟩;conv=>whnf
     simp only at h1;split at h1
     ·rename_i ny nv hny hnv;obtain⟨hy0,hyl,hny⟩:=bY hny;obtain⟨hv0,hvl,hnv⟩:=bY hnv;have hnl:=lG ns1;have ey:=jA hny;have ev:=jA hnv;have ek:keyI had++[Value.int .i64 y]=keyI (had++[y]):=by simp[keyI]
      have et:List.map (fun _=>tt) had++[tt]=List.map (fun _=>tt) (had++[y]):=by simp
      refine⟨⟨hy0,by omega⟩,?_⟩;conv=>whnf
      refine⟨_,⟨ae _,ey⟩,?_⟩;conv=>whnf
      cases hc:ny.con with
      |true=>
       rw[hc]at h1;have hlen2:=abH h1;unfold LIM at hlen2;simp only[aH]at hlen2;conv=>whnf
       refine⟨_,⟨ae _,ey⟩,?_⟩;conv=>whnf
       have hl3:(List.take st0.length (ints (st0++[y0]))).length=st0.length:=by rw[htk,bh]
       refine⟨?_,?_⟩
       ·show(List.take st0.length (ints (st0++[y0]))).length+(ints ny.kids).length≤lim 8;rw[hl3,bh];simp[lim];omega
       conv=>whnf
       refine⟨j,_,ah j,ww [8,7,2,1,0] [1500] [13,11,100096,100097,100099,100101] [.tmp 8 13] rfl,ns1,to2,had++[y],st0++ny.kids,hu2,h1,?_⟩;have e5:ints (st0++ny.kids)=List.take st0.length (ints (st0++[y0]))++ints ny.kids:=by rw[htk];simp[ints]
       rw[e5,←ek,←et,aH];rfl
      |false=>
       rw[hc]at h1;have e:({ con:=false,name:=ny.name,kids:=ny.kids,lv:=if nv.lv<ny.lv then nv.lv else ny.lv}:Nd)={ ny with lv:=if nv.lv<ny.lv then nv.lv else ny.lv}:=by
        rw[←hc]
       simp only[e]at h1;conv=>whnf
       refine⟨_,⟨ae _,ey⟩,?_⟩;conv=>whnf
       refine⟨⟨hv.1,by omega⟩,?_⟩;conv=>whnf
       refine⟨_,⟨ae _,ev⟩,?_⟩;conv=>whnf
       refine⟨_,⟨ae _,ey⟩,?_⟩;conv=>whnf
       refine⟨aN (by kernel_rfl),?_⟩;conv=>whnf
       refine⟨j,_,ah j,ww [8,7,2,1,0] [1500] [13,11,100096,100097,100099,100101] [.tmp 8 13] rfl,ns1.set y.toNat { ny with lv:=if nv.lv<ny.lv then nv.lv else ny.lv},to2,had++[y],st0,hu2,h1,?_⟩
       have e6:nds (ns1.set y.toNat { ny with lv:=if nv.lv<ny.lv then nv.lv else ny.lv})=(nds ns1).set y.toNat (over (ndC ny) (0+3) [iv (if nv.lv<ny.lv then nv.lv else ny.lv)]):=by
        simp only[nds,bX];rfl
       have e7:(nds (ns1.set y.toNat { ny with lv:=if nv.lv<ny.lv then nv.lv else ny.lv})).length=(nds ns1).length:=by simp[nds]
       have e8:(List.take st0.length (ints (st0++[y0]))).length=st0.length:=by rw[htk,bh]
       unfold gobs;rw[e7,e6,←ek,←et,←htk,e8];rfl
     ·cases h1
  ·cases h1
def M130:Md:={ mt:=[23]}
def prs(l:List (Int×Int)):List (List AC):=l.map fun p=>[iv p.1,iv p.2]
theorem mZ(l:List (Int×Int)):(prs l).length=l.length:=by simp[prs]
def iW(p:Int×Int):Value:=.agg #[.int .i64 p.1,.int .i64 p.2]
def keyP(l:List (Int×Int)):List Value:=l.map iW
theorem lP(x:Int×Int):∀l:List (Int×Int),bL (iW x) (keyP l)=fidx x l
 | []=>rfl
 |y::l=>by
  have ih:=lP x l;simp only[keyP,bE,bL,fidx,iW]at ih ⊢;rw[ih];obtain⟨a,b⟩:=x;obtain⟨c,d⟩:=y;by_cases h:a=c
  ·by_cases h2:b=d
   ·simp[h,h2,kEq,kL,k1]
   ·simp[h,h2,kEq,kL,k1]
  ·simp[h,kEq,kL,k1]
theorem vb{R:GR}{ns:List Nd}{rs:List Int}{p:List Int→Prop}{n x r:Int}(hp:∀l,p l→Uf rs l)(h:gt rs x=some r):Cw 138 [.one (gJ R ns rs.length p n),.one (iv x)] [.val (.one (iv r))] [gJ R ns rs.length (Uf rs) n]:=
 agP (wM hp) rfl (rM (s:=⟨ns,rs,n⟩) h)
theorem lB{rs:List Int}{x r:Int}(hi:Idem rs)(h:gt rs x=some r):(0≤x∧x<rs.length∧rt rs x=r)∧0≤r∧r<rs.length∧rt rs r=r:=by
 obtain⟨h0,hl,he⟩:=bY h;have hr:rt rs x=r:=by unfold rt;rw[aC,he];rfl
 have:=hi x.toNat hl;rw[show rs.getD x.toNat 0=r from hr]at this;exact⟨⟨h0,by omega,hr⟩,this⟩
theorem acR{k:Nat}{ns:List Nd}{rs:List Int}{had st:List (Int×Int)}{r:List Nd×List Int×List (Int×Int)×Bool}(h:oneR k ns rs had st=some r):st.length≤LIM:=by
 cases k with
 |zero=>cases h
 |succ k=>
  unfold oneR at h;split at h
  ·rename_i hl;have:st=[]:=by simpa using hl
   simp[this]
  ·split at h
   ·rename_i hd _ _;exact aJ hd
   ·cases h
theorem oB{rs:List Int}{x:Int}(h0:0≤x)(hl:x<rs.length):gt rs x=some (rt rs x):=by
 unfold gt at? rt;rw[if_pos h0,aC,ad (by omega)];rfl
theorem yf{k:Nat}{ns ns':List Nd}{rs:List Int}{lv v x:Int}{b:Bool}(h:jv v rs k ns [] [x]=some (ns',b))(hx:gt rs x=some x):aaP k ⟨ns,rs,lv⟩ v x=some (⟨ns',match b with|true=>link rs v x|false=>rs,lv⟩,b):=by
 unfold aaP;simp only[h,hx];cases b<;>rfl
theorem Idem.join{rs:List Int}(h:Idem rs){a b:Int}(ha:0≤a∧a<rs.length)(hb:0≤b∧b<rs.length):Idem (jV rs (a,b)):=by
 obtain⟨a0,a1,a2⟩:=h a.toNat (by omega);obtain⟨b0,b1,b2⟩:=h b.toNat (by omega);have a0:0≤rt rs a:=a0;have a1:rt rs a<rs.length:=a1;have a2:rt rs (rt rs a)=rt rs a:=a2;have b0:0≤rt rs b:=b0;have b1:rt rs b<rs.length:=b1;have b2:rt rs (rt rs b)=rt rs b:=b2;unfold jV;simp only
 by_cases hne:rt rs a=rt rs b
 ·rw[hne,Int.max_self,Int.min_self,tY];exact h
 rcases Int.le_total (rt rs a) (rt rs b) with hle|hle
 ·rw[Int.max_eq_right hle,Int.min_eq_left hle];exact h.link a0 a1 a2 hne
 ·rw[Int.max_eq_left hle,Int.min_eq_right hle];exact h.link b0 b1 b2 (Ne.symm hne)
def inR(n:Nat)(l:List (Int×Int)):Prop:=∀p∈l,(0≤p.1∧p.1<n)∧0≤p.2∧p.2<n
theorem mn(a b:Int):(if b<a then b else a)=min a b:=by rw[Int.min_def];split<;>split<;>omega
theorem mxx(a b:Int):(if b > a then b else a)=max a b:=by rw[Int.max_def];split<;>split<;>omega
theorem aiC{R:GR}{k:Nat}{s s':Sv}{x y:Int}{b:Bool}(h:oneS k s x y=some (s',b)):Cw 130 [.one (sol R s),.one (iv x),.one (iv y)] [.val (.one (.v (.bool b)))] [sol R s']:=by
 refine agU fun⟨to,hu⟩=>?_;have hid:=hu.idem;clear hu to;obtain⟨ns',rs',had',hb,hs⟩:∃ns' rs' had',oneR k s.ns s.rs [] [(x,y)]=some (ns',rs',had',b)∧s'={ s with ns:=ns',rs:=if b=true then had'.foldl jV rs' else rs'}:=by
  unfold oneS at h;split at h
  ·rename_i ns rs had h1;cases h;exact⟨ns,rs,had,h1,rfl⟩
  ·rename_i ns rs had h1;cases h;exact⟨ns,rs,had,h1,rfl⟩
  ·cases h
 clear h;refine cwLe M130 (K:=fun rs cs=>rs=[.val (.one (.v (.bool b)))]∧LeL cs [sol R s']) Tryz.func130 (by kernel_rfl) eqLe ?_;conv=>whnf
 refine⟨fun j st=>∃ns1 rs1 had stk,Idem rs1∧rs1.length=s.rs.length∧inR s.rs.length had∧oneR j ns1 rs1 had stk=some (ns',rs',had',b)∧st=⟨(8,.one (.rref 23 0 (prs stk).length))::(7,.one (.mref 19 0))::(0,.one (.ptr 1500 0 0))::(OB+23,.ob 23 0 (.row 303 2 (prs stk)))::(OB+19,.ob 19 0 (.map (iW (0,0)) (keyP had) (had.map fun _=>tt)))::gobs R ns1 (.uf rs1.length (Uf rs1)),
  [gbox R (nds ns1).length rs1.length s.lv],aS 23::aS 19::fD⟩,
  ⟨k,_,ww [8,7,0] [1500] [23,19,100096,100097,100099,100101] [.tmp 8 23] rfl,s.ns,s.rs,[],[(x,y)],hid,rfl,(fun _ hp=>nomatch hp),hb,rfl⟩,?_⟩
 rintro j st ⟨ns1,rs1,had,stk,hi1,hl1,hin,h1,rfl⟩;have hrp:∀{R:GR} {ns:List Nd} {n x r:Int},gt rs1 x=some r→Cw 138 [.one (gJ R ns rs1.length (Uf rs1) n),.one (iv x)] [.val (.one (iv r))] [gJ R ns rs1.length (Uf rs1) n]:=fun h=>vb (fun _ h=>h) h;conv=>whnf
 have hsl:=mZ stk;cases j with
 |zero=>cases h1
 |succ j=>
 unfold oneR at h1;cases hl:stk.getLast? with
 |none=>
  rw[hl]at h1;cases h1;have hss:stk=[]:=by simpa using hl
  subst hss;have hd:decide (0<((prs ([]:List (Int×Int))).length:Int))=false:=rfl;rw[hd];conv=>whnf
  refine⟨fun m st=>∃seen out p,Least rs' (wS rs' had' seen) out∧Idem out∧(∀l,p l→Uf out l)∧m=mu had'.length seen∧st=⟨(133,.one (.iref 133 0))::(0,.one (.ptr 1500 0 0))::(OB+133,.ob 133 0 (.iter 19 0 (keyP had').length seen))::(OB+19,.ob 19 0 (.map (iW (0,0)) (keyP had') (had'.map fun _=>tt)))::gobs R ns' (.uf rs'.length p),
   [gbox R (nds ns').length rs'.length s.lv],aS 133::aS 19::fD⟩,
   ⟨_,_,ww [133,0] [1500] [133,19,100096,100097,100099,100101] [] rfl,[],rs',Uf rs',Least.init (fun a b ⟨j,hj,_⟩=>by cases hj),hi1,fun _ h=>h,rfl,rfl⟩,?_⟩
  rintro m st ⟨seen,out,p,hle,hio,hp,rfl,rfl⟩;have hkl:(keyP had').length=had'.length:=by simp[keyP]
  have hol:=hle.len;have hrq:∀{R:GR} {ns:List Nd} {n x r:Int},gt out x=some r→Cw 138 [.one (gJ R ns rs'.length p n),.one (iv x)] [.val (.one (iv r))] [gJ R ns rs'.length (Uf out) n]:=fun{R ns n x r} h=>by
   have:=vb (R:=R) (ns:=ns) (n:=n) hp h
   rwa [hol]at this
  have hrq2:∀{R:GR} {ns:List Nd} {n x r:Int},gt out x=some r→Cw 138 [.one (gJ R ns rs'.length (Uf out) n),.one (iv x)] [.val (.one (iv r))] [gJ R ns rs'.length (Uf out) n]:=fun{R ns n x r} h=>by
   have:=vb (R:=R) (ns:=ns) (n:=n) (rs:=out) (fun _ h=>h) h
   rwa [hol]at this
  conv=>whnf
  refine⟨rfl,?_⟩;conv=>whnf
  refine⟨fun hall=>?_,fun i hi hns=>?_⟩
  ·conv=>whnf
   have hj:=abt (fun p hp=>by have:=hin p hp;rw[←hl1]at this;exact this) (fun i hi=>hall i (by omega)) hle;rw[hs,if_pos rfl,←hj];refine⟨rfl,?_,trivial⟩;unfold sol;simp only[hol];exact wM hp
  ·have hi2:i<had'.length:=by omega
   conv=>whnf
   refine⟨rfl,?_⟩;conv=>whnf
   refine⟨_,(by rw[keyP,aG,ad hi2];rfl:(keyP had')[i]?=some (iW had'[i])),?_⟩;conv=>whnf
   refine⟨tt,by simp[hi2],?_⟩;conv=>whnf
   have hq:=hin _ (bp hi2);generalize hqe:had'[i]=q at hq;obtain⟨q1,q2⟩:=q;simp only at hq;rw[←hl1,←hol]at hq;have r1:=oB hq.1.1 hq.1.2;have r2:=oB hq.2.1 hq.2.2;refine⟨⟨by decide,by decide⟩,?_⟩;conv=>whnf
   refine⟨_,_,hrq r1,?_⟩;conv=>whnf
   refine⟨⟨by decide,by decide⟩,?_⟩;conv=>whnf
   refine⟨_,_,hrq2 r2,?_⟩;conv=>whnf
   refine⟨aN (by kernel_rfl),?_⟩;conv=>whnf
   have hst:=aaW (fun p hp=>by have:=hin p hp;rw[←hl1]at this;exact this) ((ad hi2).trans (congrArg some hqe)) hle;by_cases hxy:rt out q1=rt out q2
   ·rw[ag hxy];conv=>whnf
    refine⟨_,_,adh hns _ hi2,ww [133,0] [1500] [133,19,100096,100097,100099,100101] [] rfl,i::seen,out,Uf out,?_,hio,fun _ h=>h,rfl,rfl⟩;unfold jV at hst;simp only[hxy]at hst
    rwa [Int.max_self,Int.min_self,tY]at hst
   ·rw[af hxy];conv=>whnf
    have b1:=(lB hio r1).2;have b2:=(lB hio r2).2;refine⟨by show 0≤(if rt out q2 > rt out q1 then rt out q2 else rt out q1)∧(if rt out q2 > rt out q1 then rt out q2 else rt out q1)<(rs'.length:Int);rw[mxx];omega,?_⟩;conv=>whnf
    refine⟨_,_,adh hns _ hi2,ww [133,0] [1500] [133,19,100096,100097,100099,100101] [] rfl,i::seen,jV out (q1,q2),fun l=>∃l0,Uf out l0∧l=l0.set ((fun a b:Int=>if b > a then b else a) (rt out q1) (rt out q2)).toNat ((fun a b:Int=>if b<a then b else a) (rt out q1) (rt out q2)),hst,hio.join hq.1 hq.2,fun l ⟨l0,h0,h1⟩=>?_,rfl,rfl⟩
    rw[h1];simp only[mn,mxx];exact h0.join hq.1 hq.2 hxy
 |some y0=>
  obtain⟨a,b1⟩:=y0;rw[hl]at h1;obtain⟨st0,rfl⟩:∃st0,stk=st0++[(a,b1)]:=⟨stk.dropLast,by rw[eY]at hl;obtain⟨ys,rfl⟩:=hl;simp⟩;simp only[aH,aT,bJ]at hsl
  have hd:decide (0<((prs (st0++[(a,b1)])).length:Int))=true:=by rw[hsl];exact ag (by omega)
  rw[hd];simp only at h1;split at h1
  ·rename_i x1 y1 hlen hx1 hy1;have hlen:=aJ hlen;unfold LIM at hlen;simp only[aH,aT,bJ]at hlen;have hw:IntKind.i64.wrap (((prs (st0++[(a,b1)])).length:Int)-1)=(st0.length:Int):=by rw[hsl,i64w (by omega) (by omega)];omega
   conv=>whnf
   rw[hw];refine⟨⟨by omega,by omega⟩,?_⟩;conv=>whnf
   have e0:(prs (st0++[(a,b1)]))[st0.length]?=some [iv a,iv b1]:=by simp[prs]
   refine⟨_,⟨ae _,e0⟩,?_⟩;conv=>whnf
   rw[hw];refine⟨⟨by omega,by omega⟩,?_⟩;conv=>whnf
   have htk:List.take st0.length (prs (st0++[(a,b1)]))=prs st0:=by simp[prs]
   have hl3:(List.take st0.length (prs (st0++[(a,b1)]))).length=st0.length:=by rw[htk,mZ]
   simp only[jb]at h1;refine⟨⟨by decide,by decide⟩,?_⟩;conv=>whnf
   refine⟨_,_,hrp hx1,?_⟩;conv=>whnf
   refine⟨⟨by decide,by decide⟩,?_⟩;conv=>whnf
   refine⟨_,_,hrp hy1,?_⟩;conv=>whnf
   refine⟨aN (by kernel_rfl),?_⟩;conv=>whnf
   let pv:Value:=.agg #[.int .i64 (if y1<x1 then y1 else x1),.int .i64 (if y1 > x1 then y1 else x1)]
   have hpv:pv=iW (min x1 y1,max x1 y1):=by simp only[pv,iW];rw[mn,mxx]
   by_cases hxy:x1=y1
   ·rw[if_pos hxy]at h1;rw[ag hxy];conv=>whnf
    refine⟨j,_,ah j,ww [8,7,0] [1500] [23,19,100096,100097,100099,100101] [.tmp 8 23] rfl,ns1,rs1,had,st0,hi1,hl1,hin,h1,?_⟩;rw[←htk,hl3];rfl
   ·rw[if_neg hxy]at h1;rw[af hxy];conv=>whnf
    have hfk:bL pv (keyP had)=fidx (min x1 y1,max x1 y1) had:=by rw[hpv];exact lP _ _
    cases hf:fidx (min x1 y1,max x1 y1) had with
    |some ix=>
     rw[hf]at h1 hfk;have hix:ix<had.length:=iq hf;refine⟨some ix,hfk,?_⟩;conv=>whnf
     refine⟨tt,by simp[hix],?_⟩;conv=>whnf
     refine⟨j,_,ah j,ww [8,7,0] [1500] [23,19,100096,100097,100099,100101] [.tmp 8 23] rfl,ns1,rs1,had,st0,hi1,hl1,hin,h1,?_⟩;rw[←htk,hl3];rfl
    |none=>
     rw[hf]at h1 hfk;refine⟨none,hfk,?_⟩;conv=>whnf
     simp only at h1;split at h1
     ·rename_i m n hm hn;obtain⟨hx0,hxl,hm⟩:=bY hm;obtain⟨hy0,hyl,hn⟩:=bY hn;have hnl:=lG ns1;have em:=jA hm;have en:=jA hn;refine⟨⟨hx0,by omega⟩,?_⟩;conv=>whnf
      refine⟨_,⟨ae _,em⟩,?_⟩;conv=>whnf
      refine⟨⟨hy0,by omega⟩,?_⟩;conv=>whnf
      refine⟨_,⟨ae _,en⟩,?_⟩;conv=>whnf
      have hxr:=(lB hi1 hx1).2;have hyr:=(lB hi1 hy1).2;refine⟨aN (by kernel_rfl),?_⟩;conv=>whnf
      cases hmc:m.con with
      |true=>
       rw[hmc]at h1;conv=>whnf
       cases hnc:n.con with
       |true=>
        rw[hnc]at h1;conv=>whnf
        simp only at h1;by_cases hnm:m.name=n.name
        ·rw[ag hnm];conv=>whnf
         by_cases hkl:m.kids.length=n.kids.length
         ·rw[if_pos ⟨hnm,hkl⟩]at h1;rw[ag (p:=((ints m.kids).length:Int)=((ints n.kids).length:Int)) (by rw[bh,bh,hkl])];have hlen2:=acR h1;unfold LIM at hlen2;have hzl:(m.kids.zip n.kids).length=m.kids.length:=by rw[List.length_zip];omega
          rw[aH,hzl]at hlen2;conv=>whnf
          refine⟨none,hfk,?_⟩;conv=>whnf
          refine⟨fun jj st=>∃i,i+jj=m.kids.length∧st=⟨(106,.one (iv i))::(105,.one (iv (ints m.kids).length))::(14,.one (.ptr 14 0 0))::(13,.one (.ptr 13 0 0))::(8,.one (.rref 23 0 (prs (st0++(m.kids.zip n.kids).take i)).length))::(7,.one (.mref 19 0))::(0,.one (.ptr 1500 0 0))::(OB+23,.ob 23 0 (.row 303 2 (prs (st0++(m.kids.zip n.kids).take i))))::(OB+19,.ob 19 0 (.map (iW (0,0)) (keyP (had++[(min x1 y1,max x1 y1)])) ((had++[(min x1 y1,max x1 y1)]).map fun _=>tt)))::gobs R ns1 (.uf rs1.length (Uf rs1)),
           [gbox R (nds ns1).length rs1.length s.lv,(13,⟨0,263,[.v (.bool true),.v (.string m.name),.sl 3 1 (ints m.kids) none,iv m.lv]⟩),(14,⟨0,263,[.v (.bool true),.v (.string n.name),.sl 3 1 (ints n.kids) none,iv n.lv]⟩)],aS 23::aS 19::fD⟩,
           ⟨m.kids.length,_,ww [106,105,14,13,8,7,0] [1500,13,14] [23,19,100096,100097,100099,100101] [.tmp 8 23] rfl,0,by omega,?_⟩,?_⟩
          ·have ek:keyP had++[pv]=keyP (had++[(min x1 y1,max x1 y1)]):=by rw[hpv];simp[keyP]
           have et:List.map (fun _=>tt) had++[tt]=List.map (fun _=>tt) (had++[(min x1 y1,max x1 y1)]):=by simp
           rw[←ek,←et,ke,aX,←htk,hl3];rfl
          rintro jj st ⟨i,hij,rfl⟩;have hmk:=bh m.kids;have hnk:=bh n.kids;have hpl:=mZ (st0++(m.kids.zip n.kids).take i);rw[aH,dx]at hpl;conv=>whnf
          cases jj with
          |zero=>
           rw[af (p:=(i:Int)<((ints m.kids).length:Int)) (by omega)];conv=>whnf
           refine⟨j,_,ah j,ww [8,7,0] [1500] [23,19,100096,100097,100099,100101] [.tmp 8 23] rfl,ns1,rs1,had++[(min x1 y1,max x1 y1)],st0++m.kids.zip n.kids,hi1,hl1,?_,h1,?_⟩
           ·intro p hp;rcases aM.1 hp with hp|hp
            ·exact hin p hp
            ·simp only[ax]at hp;subst hp;simp only;omega
           ·rw[cU (by omega)];rfl
          |succ jj=>
           rw[ag (p:=(i:Int)<((ints m.kids).length:Int)) (by omega)];conv=>whnf
           have him:i<m.kids.length:=by omega
           have hin2:i<n.kids.length:=by omega
           refine⟨_,⟨ae _,bD (ad (l:=m.kids) (i:=i) him)⟩,?_⟩;conv=>whnf
           refine⟨_,⟨ae _,bD (ad (l:=n.kids) (i:=i) hin2)⟩,?_⟩;conv=>whnf
           refine⟨by show(prs (st0++(m.kids.zip n.kids).take i)).length+1≤lim 16;simp[lim];omega,?_⟩;conv=>whnf
           refine⟨aN (by kernel_rfl),?_⟩;conv=>whnf
           rw[i64s i (by omega)];refine⟨jj,_,ah jj,ww [106,105,14,13,8,7,0] [1500,13,14] [23,19,100096,100097,100099,100101] [.tmp 8 23] rfl,i+1,by omega,?_⟩;have e5:prs (st0++(m.kids.zip n.kids).take (i+1))=prs (st0++(m.kids.zip n.kids).take i)++[[iv m.kids[i],iv n.kids[i]]]:=by
            rw[cq (by omega),List.getElem_zip,←fp];simp[prs]
           rw[e5,aH];rfl
         ·rw[if_neg (fun h=>hkl h.2)]at h1;rw[af (p:=((ints m.kids).length:Int)=((ints n.kids).length:Int)) (by rw[bh,bh];omega)];cases h1;conv=>whnf
          rw[hs];exact⟨rfl,fun _ _ _ _ h=>h,trivial⟩
        ·rw[af hnm];rw[if_neg (fun h=>hnm h.1)]at h1;cases h1;conv=>whnf
         rw[hs];exact⟨rfl,fun _ _ _ _ h=>h,trivial⟩
       |false=>
        rw[hnc]at h1;conv=>whnf
        simp only at h1;cases hbr:jv y1 rs1 j ns1 [] [x1] with
        |none=>rw[hbr]at h1;cases h1
        |some q=>
         obtain⟨ns2,bb⟩:=q;rw[hbr]at h1;refine⟨_,_,aey (s:=⟨ns1,rs1,s.lv⟩) (yf hbr (by rw[oB hxr.1 hxr.2.1,hxr.2.2])) ⟨hyr.1,hyr.2.1⟩ hyr.2.2,?_⟩;cases bb with
         |true=>
          conv=>whnf
          refine⟨j,_,ah j,ww [8,7,0] [1500] [23,19,100096,100097,100099,100101] [.tmp 8 23] rfl,ns2,link rs1 y1 x1,had,st0,hi1.link hxr.1 hxr.2.1 hxr.2.2 hxy,by rw[jT];exact hl1,hin,h1,?_⟩;rw[←htk,hl3];rfl
         |false=>
          cases h1;conv=>whnf
          rw[hs];exact⟨rfl,fun _ _ _ _ h=>h,trivial⟩
      |false=>
       rw[hmc]at h1;conv=>whnf
       simp only at h1;cases hbr:jv x1 rs1 j ns1 [] [y1] with
       |none=>rw[hbr]at h1;cases h1
       |some q=>
        obtain⟨ns2,bb⟩:=q;rw[hbr]at h1;refine⟨_,_,aey (s:=⟨ns1,rs1,s.lv⟩) (yf hbr (by rw[oB hyr.1 hyr.2.1,hyr.2.2])) ⟨hxr.1,hxr.2.1⟩ hxr.2.2,?_⟩;cases bb with
        |true=>
         conv=>whnf
         refine⟨j,_,ah j,ww [8,7,0] [1500] [23,19,100096,100097,100099,100101] [.tmp 8 23] rfl,ns2,link rs1 x1 y1,had,st0,hi1.link hyr.1 hyr.2.1 hyr.2.2 (Ne.symm hxy),by rw[jT];exact hl1,hin,h1,?_⟩;rw[←htk,hl3];rfl
        |false=>
         cases h1;conv=>whnf
         rw[hs];exact⟨rfl,fun _ _ _ _ h=>h,trivial⟩
     ·cases h1
  ·cases h1
theorem Ty.ind{P:Ty→Prop}(h:∀k n s kids,(∀t∈kids,P t)→P (.mk k n s kids))(t:Ty):P t:=
 Ty.rec (motive_1:=P) (motive_2:=fun l=>∀t∈l,P t) (fun k n s kids ih=>h k n s kids ih) (by simp) (fun t l h1 h2=>by simp;exact⟨h1,h2⟩) t
theorem rO{vars:List Int}:∀{l:List Ty} {s s':Sv} {ks:List Int},oE vars l s=some (s',ks)→ks.length=l.length
 | [],_,_,_,h=>by cases h;rfl
 |t::l,s,s',ks,h=>by
  unfold oE at h;split at h
  ·split at h
   ·rename_i h2;cases h;simp[rO h2]
   ·cases h
  ·cases h
def M183:Md:={ mt:=[31],fz:=[36],fb:=[4]}
theorem tN(t:Ty):∀{R:GR} {vars:List Int} {s s':Sv} {x:Int},putR vars t s=some (s',x)→
 Cw 183 [.one (sol R s),.agg (tyC t),.one (.sl 3 1 (ints vars) none)] [.val (.one (iv x))] [sol R s']:=by
 induction t using Ty.ind with
 |h kd n nm kids ih=>
 intro R vars s s' x h;unfold putR at h;refine cw M183 Tryz.func183 (by kernel_rfl) ?_;unfold tyC;conv=>whnf
 by_cases hk:kd=1
 ·rw[if_pos hk]at h;rw[ag hk];conv=>whnf
  rw[ar]at h;obtain⟨y,hy,he⟩:=h;cases he;obtain⟨h0,hl,hv⟩:=bY hy;refine⟨_,⟨h0,bD hv⟩,?_⟩;conv=>whnf
  exact⟨rfl,rfl⟩
 ·rw[if_neg hk]at h;rw[af hk];split at h
  ·rename_i s1 ks hlen hp;have hlen:=aJ hlen;unfold LIM at hlen;have htl:=bU kids;have hkl:=rO hp;conv=>whnf
   refine⟨fun j st=>∃i s2 a ks2,i+j=kids.length∧a.length=i∧a++ks2=ks∧oE vars (kids.drop i) s2=some (s1,ks2)∧st=⟨(21,.one (iv i))::(20,.one (iv (tysC kids).length))::(19,.one (.sl 88 4 (tysC kids) none))::(7,.one (.rref 31 0 a.length))::(4,.one (.ref [.v (.int .i64 kd),.v (.int .i64 n),.v (.string nm),.sl 88 4 (tysC kids) none] 0))::(2,.one (.sl 3 1 (ints vars) none))::(0,.one (.ptr 1500 0 0))::(OB+31,.ob 31 0 (.row 3 1 (ints a)))::gobs R s2.ns (.uf s2.rs.length (Uf s2.rs)),
    [gbox R (nds s2.ns).length s2.rs.length s2.lv],aS 31::fD⟩,
    ⟨kids.length,_,ww [21,20,19,7,4,2,0] [1500] [31,100096,100097,100099,100101] [.nilT 7 31 3 1] rfl,0,s,[],ks,by omega,rfl,rfl,hp,rfl⟩,?_⟩
   rintro j st ⟨i,s2,a,ks2,hij,ha,hks,hp2,rfl⟩;conv=>whnf
   cases j with
   |zero=>
    rw[af (p:=(i:Int)<((tysC kids).length:Int)) (by omega)];rw[ap (by omega)]at hp2;cases hp2;simp only[aX]at hks;subst hks;conv=>whnf
    refine⟨_,_,aee h,?_⟩;conv=>whnf
    exact⟨rfl,rfl⟩
   |succ j=>
    rw[ag (p:=(i:Int)<((tysC kids).length:Int)) (by omega)];have him:i<kids.length:=by omega
    rw[aj him]at hp2;unfold oE at hp2;split at hp2
    ·rename_i s3 y h3;split at hp2
     ·rename_i s4 ks3 h4;cases hp2;have eg:=ga (ad him);conv=>whnf
      refine⟨_,⟨ae _,eg⟩,?_⟩;generalize hti:kids[i]=ti at h3;obtain⟨tk,tn,ts,tks⟩:=ti;have hm:Ty.mk tk tn ts tks∈kids:=hti▸bp him;unfold tyC;conv=>whnf
      refine⟨_,_,ih _ hm h3,?_⟩;conv=>whnf
      have hal:=bh a;have hl3:a.length<kids.length:=by omega
      refine⟨by show(ints a).length+1≤lim 8;simp[lim];omega,?_⟩;conv=>whnf
      rw[i64s i (by omega)];refine⟨j,_,ah j,ww [21,20,19,7,4,2,0] [1500] [31,100096,100097,100099,100101] [.tmp 7 31] rfl,i+1,s3,a++[y],ks3,by omega,by simp[ha],by simp[←hks],h4,?_⟩;have e1:ints (a++[y])=ints a++[[iv y]]:=by simp[ints]
      have e2:(a++[y]).length=(ints a).length+1:=by simp[hal]
      rw[e1,e2];rfl
     ·cases hp2
    ·cases hp2
  ·cases h
theorem aji(k:Nat):∀{R:GR} {s s':Sv} {x:Int},genR k s x=some s'→Cw 185 [.one (sol R s),.one (iv x)] [] [sol R s']:=by
 induction k using Nat.strongRecOn with
 |ind k ih=>
 intro R s s' x h;cases k with
 |zero=>simp[genR]at h
 |succ k=>
 unfold genR at h;split at h
 ·rename_i y hy;split at h
  ·rename_i n hn;obtain⟨cn,nm,kids,lv⟩:=n;simp only at h;split at h
   ·rename_i hlen;have hlen:=aJ hlen;unfold LIM at hlen;obtain⟨y0,yl,hn⟩:=bY hn;have en:=jA hn;have hnl:=lG s.ns;have hkl:=bh kids
    have h3:(cn=true∧nL k s kids=some s')∨(cn=false∧lv > s.lv∧nL k { s with ns:=s.ns.set y.toNat ⟨cn,nm,kids,GEN⟩} kids=some s')∨(cn=false∧¬lv > s.lv∧nL k s kids=some s'):=by
     by_cases hc:cn=true
     ·rw[if_neg (fun e=>by rw[hc]at e;cases e.1)]at h;exact .inl ⟨hc,h⟩
     ·have hc:cn=false:=by simpa using hc
      by_cases hl:lv > s.lv
      ·rw[if_pos ⟨hc,hl⟩]at h;exact .inr (.inl ⟨hc,hl,h⟩)
      ·rw[if_neg (fun e=>hl e.2)]at h;exact .inr (.inr ⟨hc,hl,h⟩)
    clear h;refine cw {} Tryz.func185 (by kernel_rfl) ?_;conv=>whnf
    refine⟨_,_,rM hy,?_⟩;conv=>whnf
    refine⟨⟨y0,by omega⟩,?_⟩;conv=>whnf
    refine⟨_,⟨ae _,en⟩,?_⟩;rcases h3 with⟨hc,hg⟩|⟨hc,hl,hg⟩|⟨hc,hl,hg⟩
    case' inl=>
     subst hc;conv=>whnf
     refine⟨aN (by kernel_rfl),?_⟩;conv=>whnf
     refine⟨_,⟨ae _,en⟩,?_⟩;conv=>whnf
     refine⟨fun j st=>∃i s2,i≤kids.length∧j≤k∧nL j s2 (kids.drop i)=some s'∧st=⟨(40,.one (iv i))::(39,.one (iv (ints kids).length))::(38,.one (.sl 3 1 (ints kids) none))::(0,.one (.ptr 1500 0 0))::gobs R s2.ns (.uf s2.rs.length (Uf s2.rs)),[gbox R (nds s2.ns).length s2.rs.length s2.lv],fD⟩,
      ⟨k,_,ww [40,39,38,0] [1500] [100096,100097,100099,100101] [] rfl,0,s,aR _,au _,hg,rfl⟩,?_⟩
    case' inr.inl=>
     subst hc;conv=>whnf
     refine⟨_,⟨ae _,en⟩,?_⟩;conv=>whnf
     refine⟨aN (by kernel_rfl),?_⟩;rw[ag (p:=s.lv<lv) hl];conv=>whnf
     have e6:(nds s.ns).set y.toNat (over (ndC ⟨false,nm,kids,lv⟩) (0+3) [AC.v (Value.int IntKind.i64 1073741824)])=nds (s.ns.set y.toNat ⟨false,nm,kids,GEN⟩):=by
      simp only[nds,bX];rfl
     have e8:(nds (s.ns.set y.toNat ⟨false,nm,kids,GEN⟩))[y.toNat]?=some (ndC ⟨false,nm,kids,GEN⟩):=jA (by simp[yl]);refine⟨_,⟨ae _,en⟩,?_⟩;conv=>whnf
     refine⟨_,⟨ae _,(congrArg (fun l=>l[y.toNat]?) e6).trans e8⟩,?_⟩;conv=>whnf
     have e7:(nds (s.ns.set y.toNat ⟨false,nm,kids,GEN⟩)).length=(nds s.ns).length:=by simp[nds]
     refine⟨fun j st=>∃i s2,i≤kids.length∧j≤k∧nL j s2 (kids.drop i)=some s'∧st=⟨(40,.one (iv i))::(39,.one (iv (ints kids).length))::(38,.one (.sl 3 1 (ints kids) none))::(0,.one (.ptr 1500 0 0))::gobs R s2.ns (.uf s2.rs.length (Uf s2.rs)),[gbox R (nds s2.ns).length s2.rs.length s2.lv],fD⟩,
      ⟨k,_,ww [40,39,38,0] [1500] [100096,100097,100099,100101] [] rfl,0,{ s with ns:=s.ns.set y.toNat ⟨false,nm,kids,GEN⟩},aR _,au _,hg,?_⟩,?_⟩
     ·unfold gobs;rw[e7,←e6];rfl
    case' inr.inr=>
     subst hc;conv=>whnf
     refine⟨_,⟨ae _,en⟩,?_⟩;conv=>whnf
     refine⟨aN (by kernel_rfl),?_⟩;rw[af (p:=s.lv<lv) hl];conv=>whnf
     refine⟨_,⟨ae _,en⟩,?_⟩;conv=>whnf
     refine⟨fun j st=>∃i s2,i≤kids.length∧j≤k∧nL j s2 (kids.drop i)=some s'∧st=⟨(40,.one (iv i))::(39,.one (iv (ints kids).length))::(38,.one (.sl 3 1 (ints kids) none))::(0,.one (.ptr 1500 0 0))::gobs R s2.ns (.uf s2.rs.length (Uf s2.rs)),[gbox R (nds s2.ns).length s2.rs.length s2.lv],fD⟩,
      ⟨k,_,ww [40,39,38,0] [1500] [100096,100097,100099,100101] [] rfl,0,s,aR _,au _,hg,rfl⟩,?_⟩
    all_goals
     rintro j st ⟨i,s2,hi,hj,hg2,rfl⟩;conv=>whnf
     cases j with
     |zero=>simp[nL]at hg2
     |succ j=>
     by_cases him:i<kids.length
     ·rw[ag (p:=(i:Int)<((ints kids).length:Int)) (by omega)];rw[aj him]at hg2;unfold nL at hg2;split at hg2
      ·rename_i s3 h3;conv=>whnf
       refine⟨_,⟨ae _,bD (ad him)⟩,?_⟩;conv=>whnf
       refine⟨_,_,ih j (by omega) h3,?_⟩;conv=>whnf
       rw[i64s i (by omega)];exact⟨j,_,ah j,ww [40,39,38,0] [1500] [100096,100097,100099,100101] [] rfl,i+1,s3,him,by omega,hg2,rfl⟩
      ·cases hg2
     ·rw[af (p:=(i:Int)<((ints kids).length:Int)) (by omega)];rw[ap (by omega)]at hg2;cases hg2;conv=>whnf
      exact⟨rfl,rfl⟩
   ·cases h
  ·cases h
 ·cases h
def kE{β:Type}(had:List (Int×β)):List Value:=keyI (had.map Prod.fst)
def vE{β:Type}(enc:β→MV)(had:List (Int×β)):List MV:=had.map fun p=>enc p.2
theorem lH{β:Type}(x:Int)(had:List (Int×β)):bL (.int .i64 x) (kE had)=fidx x (had.map Prod.fst):=ic _ _
theorem kV{β:Type}{enc:β→MV}{x:Int}{y:β}{had:List (Int×β)}(h:fidx x (had.map Prod.fst)=none):kE (putA x y had)=kE had++[.int .i64 x]∧vE enc (putA x y had)=vE enc had++[enc y]:=by
 rw[iE h];simp[kE,vE,keyI]
theorem jY{α:Type}[DecidableEq α]{x:α}:∀{l:List α} {i:Nat},fidx x l=some i→l[i]?=some x
 | [],_,h=>by cases h
 |y::l,i,h=>by
  unfold fidx at h;split at h
  ·rename_i e;cases h;simp[e]
  ·rw[ar]at h;obtain⟨j,h1,rfl⟩:=h;simpa using jY h1
theorem xH{α:Type}[DecidableEq α]{x:α}:∀{l:List α},fidx x l=none→fidx x (l++[x])=some l.length
 | [],_=>by simp[fidx]
 |y::l,h=>by
  unfold fidx at h;split at h
  ·cases h
  ·rename_i hne;have h:fidx x l=none:=by simpa using h
   simp[fidx,hne,xH h]
theorem kU{β:Type}{enc:β→MV}{x:Int}{y:β}{had:List (Int×β)}{i:Nat}(h:fidx x (had.map Prod.fst)=some i):kE (putA x y had)=kE had∧vE enc (putA x y had)=(vE enc had).set i (enc y):=by
 rw[iD h];refine⟨?_,by simp[vE,bX]⟩;unfold kE;rw[bX];have:=jY h
 congr 1
 apply ce;intro j;rw[bf];split
 ·rename_i e;subst e;split
  ·exact this.symm
  ·rename_i hl;rw[bI (by omega)]
 ·rfl
theorem getE{β:Type}{enc:β→MV}{x:Int}{had:List (Int×β)}:(∃i v,bL (.int .i64 x) (kE had)=some i∧(vE enc had)[i]?=some (enc v)∧getA x had=some v)∨(bL (.int .i64 x) (kE had)=none∧getA x had=none):=by
 rw[lH];rcases iG (x:=x) (l:=had) with⟨i,v,h1,h2,h3⟩|h
 ·refine .inl ⟨i,v,h1,?_,h3⟩;rw[aG]at h2;unfold vE;rw[aG];rw[ar]at h2 ⊢;obtain⟨p,q1,q2⟩:=h2;exact⟨p,q1,by rw[q2]⟩
 ·exact .inr h
def ms(p:Int×Int):MV:=(true,[iv p.1,iv p.2])
def z0:Value:=.int .i64 0
def M88:Md:={ mt:=[19]}
theorem ze{R:GR}{k:Nat}{s:Sv}{x:Int}{b:Bool}(h:aaL k s x=some b):Cw 88 [.one (sol R s),.one (iv x)] [.val (.one (.v (.bool b)))] [sol R s]:=by
 unfold aaL at h;split at h
 ·rename_i x1 hx;split at h
  ·rename_i hadF hF;split at h
   ·rename_i sa sb hg;cases h;have hrp:∀{R:GR} {ns:List Nd} {n x r:Int},gt s.rs x=some r→Cw 138 [.one (gJ R ns s.rs.length (Uf s.rs) n),.one (iv x)] [.val (.one (iv r))] [gJ R ns s.rs.length (Uf s.rs) n]:=fun h=>vb (fun _ h=>h) h;refine cw M88 Tryz.func88 (by kernel_rfl) ?_;conv=>whnf
    refine⟨_,_,hrp hx,?_⟩;conv=>whnf
    refine⟨fun j st=>∃had stk,sF s j stk had=some hadF∧st=⟨(6,.one (.rref 19 0 (ints stk).length))::(5,.one (.mref 14 0))::(1,.one (iv x1))::(0,.one (.ptr 1500 0 0))::(OB+19,.ob 19 0 (.row 3 1 (ints stk)))::(OB+14,.ob 14 0 (.map z0 (kE had) (vE ms had)))::gobs R s.ns (.uf s.rs.length (Uf s.rs)),
     [gbox R (nds s.ns).length s.rs.length s.lv],aS 19::aS 14::fD⟩,
     ⟨k,_,ww [6,5,1,0] [1500] [19,14,100096,100097,100099,100101] [.tmp 6 19] rfl,[],[x1],hF,rfl⟩,?_⟩
    rintro j st ⟨had,stk,h1,rfl⟩;conv=>whnf
    have hsl:=bh stk;cases j with
    |zero=>cases h1
    |succ j=>
    unfold sF at h1;cases hl:stk.getLast? with
    |none=>
     rw[hl]at h1;cases h1;have hss:stk=[]:=by simpa using hl
     subst hss;have hd:decide (0<((ints ([]:List Int)).length:Int))=false:=rfl;rw[hd];conv=>whnf
     rcases getE (enc:=ms) (x:=x1) (had:=hadF) with⟨i,v,q1,q2,q3⟩|⟨q1,q2⟩
     ·rw[hg]at q3;cases q3;refine⟨some i,q1,?_⟩;conv=>whnf
      refine⟨_,q2,?_⟩;conv=>whnf
      by_cases ha:sa≤400
      ·rw[ag ha];conv=>whnf
       refine⟨some i,q1,?_⟩;conv=>whnf
       refine⟨_,q2,?_⟩;conv=>whnf
       exact⟨by simp,rfl⟩
      ·rw[af ha];conv=>whnf
       exact⟨by simp,rfl⟩
     ·rw[hg]at q2;cases q2
    |some y0=>
     rw[hl]at h1;obtain⟨st0,rfl⟩:∃st0,stk=st0++[y0]:=⟨stk.dropLast,by rw[eY]at hl;obtain⟨ys,rfl⟩:=hl;simp⟩;simp only[aH,aT,bJ]at hsl;have hd:decide (0<((ints (st0++[y0])).length:Int))=true:=by rw[hsl];exact ag (by omega)
     rw[hd];simp only at h1;split at h1
     ·rename_i n hn;obtain⟨y00,yl,hn⟩:=bY hn;obtain⟨cn,nm,kids,lv⟩:=n;have en:=jA hn;have hnl:=lG s.ns;have hkl:=bh kids;simp only at h1
      obtain⟨m,l,hkf,hlen,hcont⟩:∃m l,tZ s.rs had kids (1,1)=some (m,l)∧st0.length+1+kids.length≤LIM∧(match l with| []=>sF s j st0 (putA y0 m had)|_=>sF s j (st0++[y0]++l) had)=some hadF:=by
       split at h1
       ·rename_i m q1 q2;have q2:=aJ q2;simp only[aH,aT,bJ]at q2;simp only[jb]at h1;exact⟨m,[],q1,by omega,h1⟩
       ·rename_i m l hne q1 q2;have q2:=aJ q2;simp only[aH,aT,bJ]at q2;refine⟨m,l,q1,by omega,?_⟩;cases l with
        |nil=>exact absurd rfl hne
        |cons=>exact h1
       ·cases h1
      clear h1;unfold LIM at hlen;have hw:IntKind.i64.wrap (((ints (st0++[y0])).length:Int)-1)=(st0.length:Int):=by rw[hsl,i64w (by omega) (by omega)];omega
      conv=>whnf
      rw[hw];refine⟨⟨by omega,by omega⟩,?_⟩;conv=>whnf
      have e0:(ints (st0++[y0]))[st0.length]?=some [iv y0]:=by simp[ints]
      refine⟨_,⟨ae _,e0⟩,?_⟩;conv=>whnf
      refine⟨⟨y00,by omega⟩,?_⟩;conv=>whnf
      refine⟨_,⟨ae _,en⟩,?_⟩;conv=>whnf
      refine⟨fun jj st=>∃i a b l1 l2,i+jj=kids.length∧tZ s.rs had (kids.drop i) (a,b)=some (m,l2)∧l1++l2=l∧l1.length≤i∧st=⟨(39,.one (iv i))::(38,.one (iv (ints kids).length))::(37,.one (.sl 3 1 (ints kids) none))::(9,.one (.v (.bool l1.isEmpty)))::(8,.one (.ptr 8 0 0))::(7,.one (iv y0))::(6,.one (.rref 19 0 (ints (st0++[y0]++l1)).length))::(5,.one (.mref 14 0))::(1,.one (iv x1))::(0,.one (.ptr 1500 0 0))::(OB+19,.ob 19 0 (.row 3 1 (ints (st0++[y0]++l1))))::(OB+14,.ob 14 0 (.map z0 (kE had) (vE ms had)))::gobs R s.ns (.uf s.rs.length (Uf s.rs)),
       [gbox R (nds s.ns).length s.rs.length s.lv,(8,⟨0,261,[iv a,iv b]⟩)],aS 19::aS 14::fD⟩,
       ⟨kids.length,_,ww [39,38,37,9,8,7,6,5,1,0] [1500,8] [19,14,100096,100097,100099,100101] [.tmp 6 19] rfl,0,1,1,[],l,by omega,hkf,rfl,au _,by rw[aX];rfl⟩,?_⟩
      rintro jj st ⟨i,a,b,l1,l2,hij,hk2,hl12,hl1i,rfl⟩;have hsl2:=bh (st0++[y0]++l1);simp only[aH,aT,bJ]at hsl2;conv=>whnf
      cases jj with
      |zero=>
       rw[af (p:=(i:Int)<((ints kids).length:Int)) (by omega)];rw[ap (by omega)]at hk2;cases hk2;rw[aX]at hl12;subst hl12;conv=>whnf
       cases l1 with
       |nil=>
        conv=>whnf
        rw[aX]at hsl2 ⊢;have hw2:IntKind.i64.wrap (((ints (st0++[y0])).length:Int)-1)=(st0.length:Int):=hw;have htk:List.take st0.length (ints (st0++[y0]))=ints st0:=by simp[ints]
        have hl3:(List.take st0.length (ints (st0++[y0]))).length=st0.length:=by rw[htk,bh]
        cases hf:fidx y0 (had.map Prod.fst) with
        |none=>
         refine⟨none,(lH _ _).trans hf,?_⟩;conv=>whnf
         rw[hw2];refine⟨⟨by omega,by omega⟩,?_⟩;conv=>whnf
         obtain⟨p1,p2⟩:=kV (enc:=ms) (y:=(a,b)) hf;refine⟨j,_,ah j,ww [6,5,1,0] [1500] [19,14,100096,100097,100099,100101] [.tmp 6 19] rfl,putA y0 (a,b) had,st0,hcont,?_⟩;rw[p1,p2,←htk,hl3];rfl
        |some ix=>
         refine⟨some ix,(lH _ _).trans hf,?_⟩;conv=>whnf
         rw[hw2];refine⟨⟨by omega,by omega⟩,?_⟩;conv=>whnf
         obtain⟨p1,p2⟩:=kU (enc:=ms) (y:=(a,b)) hf;refine⟨j,_,ah j,ww [6,5,1,0] [1500] [19,14,100096,100097,100099,100101] [.tmp 6 19] rfl,putA y0 (a,b) had,st0,hcont,?_⟩;rw[p1,p2,←htk,hl3];rfl
       |cons c l1=>
        conv=>whnf
        exact⟨j,_,ah j,ww [6,5,1,0] [1500] [19,14,100096,100097,100099,100101] [.tmp 6 19] rfl,had,st0++[y0]++(c::l1),hcont,rfl⟩
      |succ jj=>
       rw[ag (p:=(i:Int)<((ints kids).length:Int)) (by omega)];have him:i<kids.length:=by omega
       rw[aj him]at hk2;unfold tZ at hk2;split at hk2
       ·rename_i c hc;conv=>whnf
        refine⟨_,⟨ae _,bD (ad him)⟩,?_⟩;conv=>whnf
        refine⟨_,_,hrp hc,?_⟩;conv=>whnf
        rcases getE (enc:=ms) (x:=c) (had:=had) with⟨ix,v,q1,q2,q3⟩|⟨q1,q2⟩
        ·obtain⟨u,w⟩:=v;rw[q3]at hk2;simp only at hk2;split at hk2
         ·rename_i m2 l3 hb hk3;have hb:=aJ hb;unfold LIM at hb;cases hk2;refine⟨some ix,q1,?_⟩;conv=>whnf
          refine⟨_,q2,?_⟩;conv=>whnf
          refine⟨aN (by kernel_rfl),?_⟩;conv=>whnf
          rw[i64s i (by omega)];have ea:min (a+u) 401=(if(401:Int)<IntKind.i64.wrap (a+u) then 401 else IntKind.i64.wrap (a+u)):=by rw[i64w (by omega) (by omega),mn]
          have eb:max b (w+1)=(if IntKind.i64.wrap (w+1) > b then IntKind.i64.wrap (w+1) else b):=by rw[i64w (by omega) (by omega),mxx]
          rw[ea,eb]at hk3;refine⟨jj,_,ah jj,ww [39,38,37,9,8,7,6,5,1,0] [1500,8] [19,14,100096,100097,100099,100101] [.tmp 6 19] rfl,i+1,_,_,l1,l2,by omega,hk3,hl12,by omega,?_⟩;rfl
         ·cases hk2
        ·rw[q2]at hk2;simp only at hk2;split at hk2
         ·rename_i m2 l3 hb hk3;have hb:=aJ hb;cases hk2;refine⟨none,q1,?_⟩;conv=>whnf
          refine⟨by show(ints (st0++[y0]++l1)).length+1≤lim 8;rw[hsl2];simp[lim];omega,?_⟩;conv=>whnf
          refine⟨aN (by kernel_rfl),?_⟩;conv=>whnf
          rw[i64s i (by omega)];have ea:min a 401=(if(401:Int)<IntKind.i64.wrap (a+0) then 401 else IntKind.i64.wrap (a+0)):=by rw[i64w (by omega) (by omega),mn,Int.add_zero]
          have eb:max b 1=(if IntKind.i64.wrap (0+1) > b then IntKind.i64.wrap (0+1) else b):=by rw[i64w (by omega) (by omega),mxx];rfl
          rw[ea,eb]at hk3;refine⟨jj,_,ah jj,ww [39,38,37,9,8,7,6,5,1,0] [1500,8] [19,14,100096,100097,100099,100101] [.tmp 6 19] rfl,i+1,_,_,l1++[c],l3,by omega,hk3,by rw[←hl12];simp,by simp;omega,?_⟩;have e1:ints (st0++[y0]++(l1++[c]))=ints (st0++[y0]++l1)++[[iv c]]:=by simp[ints]
          have e2:(l1++[c]).isEmpty=false:=by simp
          rw[e1,aH,e2];rfl
         ·cases hk2
       ·cases hk2
     ·cases h1
   ·cases h
  ·cases h
 ·cases h
def mi(n:Int):MV:=(false,[iv n])
def nK(had:List (Int×Int)):AC:=.omap z0 (kE had) (vE mi had)
def M182:Md:={ mt:=[71],fz:=[77]}
theorem ahJ(k:Nat):∀{R:GR} {s s':Sv} {x y:Int} {had had':List (Int×Int)},xu k s x had=some (s',had',y)→Cw 182 [.one (sol R s),.one (iv x),.one (nK had)] [.val (.one (iv y))] [sol R s',nK had']:=by
 induction k using Nat.strongRecOn with
 |ind k ih=>
 intro R s s' x y had had' h;cases k with
 |zero=>simp[xu]at h
 |succ k=>
 unfold xu at h;split at h
 ·rename_i x1 hx;refine cw M182 Tryz.func182 (by kernel_rfl) ?_;conv=>whnf
  refine⟨_,_,rM hx,?_⟩;conv=>whnf
  rcases getE (enc:=mi) (x:=x1) (had:=had) with⟨ix,v,q1,q2,q3⟩|⟨q1,q2⟩
  ·rw[q3]at h;cases h;refine⟨some ix,q1,?_⟩;conv=>whnf
   refine⟨_,q2,?_⟩;conv=>whnf
   exact⟨rfl,rfl⟩
  ·rw[q2]at h;refine⟨none,q1,?_⟩;conv=>whnf
   simp only at h;split at h
   ·rename_i n hn;obtain⟨x0,xl,hn⟩:=bY hn;have en:=jA hn;have hnl:=lG s.ns;obtain⟨cn,nm,kids,lv⟩:=n;simp only at h;refine⟨⟨x0,by omega⟩,?_⟩;conv=>whnf
    refine⟨_,⟨ae _,en⟩,?_⟩;cases cn with
    |false=>
     conv=>whnf
     simp only at h;by_cases hg:lv=GEN
     ·rw[if_pos hg]at h;rw[ag (p:=lv=1073741824) hg];split at h
      ·rename_i s1 z h1;cases h;conv=>whnf
       refine⟨_,_,nS h1,?_⟩;conv=>whnf
       have hfk:=lH (β:=Int) x1 had;cases hf:fidx x1 (had.map Prod.fst) with
       |none=>
        rw[hf]at hfk;refine⟨none,hfk,?_⟩;conv=>whnf
        obtain⟨p1,p2⟩:=kV (enc:=mi) (y:=y) hf;refine⟨rfl,?_⟩;unfold nK;rw[p1,p2];rfl
       |some ix=>
        rw[hf]at hfk;refine⟨some ix,hfk,?_⟩;conv=>whnf
        obtain⟨p1,p2⟩:=kU (enc:=mi) (y:=y) hf;refine⟨rfl,?_⟩;unfold nK;rw[p1,p2];rfl
      ·cases h
     ·rw[if_neg hg]at h;rw[af (p:=lv=1073741824) hg];cases h;conv=>whnf
      have hfk:=lH (β:=Int) y had;cases hf:fidx y (had.map Prod.fst) with
      |none=>
       rw[hf]at hfk;refine⟨none,hfk,?_⟩;conv=>whnf
       obtain⟨p1,p2⟩:=kV (enc:=mi) (y:=y) hf;refine⟨rfl,?_⟩;unfold nK;rw[p1,p2];rfl
      |some ix=>
       rw[hf]at hfk;refine⟨some ix,hfk,?_⟩;conv=>whnf
       obtain⟨p1,p2⟩:=kU (enc:=mi) (y:=y) hf;refine⟨rfl,?_⟩;unfold nK;rw[p1,p2];rfl
    |true=>
     conv=>whnf
     simp only at h;split at h
     ·rename_i s1 had1 ks other hlen hi;have hlen:=aJ hlen;unfold LIM at hlen;have hkl:=bh kids
      refine⟨fun j st=>∃i s2 had2 a ks2 acc o2,i≤kids.length∧j≤k∧a.length=i∧a++ks2=ks∧(acc|| o2)=other∧qf j s2 (kids.drop i) had2=some (s1,had1,ks2,o2)∧st=⟨(52,.one (iv i))::(51,.one (iv (ints kids).length))::(50,.one (.sl 3 1 (ints kids) none))::(12,.one (.v (.bool acc)))::(11,.one (.rref 71 0 (ints a).length))::(10,.one (.ptr 10 0 0))::(9,.one (iv x1))::(2,.one (.mref 3002 0))::(1,.one (iv x1))::(0,.one (.ptr 1500 0 0))::(OB+71,.ob 71 0 (.row 3 1 (ints a)))::(OB+3002,.ob 3002 0 (.map z0 (kE had2) (vE mi had2)))::gobs R s2.ns (.uf s2.rs.length (Uf s2.rs)),
       [gbox R (nds s2.ns).length s2.rs.length s2.lv,(10,⟨0,263,[.v (.bool true),.v (.string nm),.sl 3 1 (ints kids) none,iv lv]⟩)],aS 71::aS 3002::fD⟩,
       ⟨k,_,ww [52,51,50,12,11,10,9,2,1,0] [1500,10] [71,3002,100096,100097,100099,100101] [.nilT 11 71 3 1] rfl,0,s,had,[],ks,false,other,aR _,au _,rfl,rfl,rfl,hi,rfl⟩,?_⟩
      rintro j st ⟨i,s2,had2,a,ks2,acc,o2,hi2,hj,ha,hks,ho,hq,rfl⟩;conv=>whnf
      cases j with
      |zero=>simp[qf]at hq
      |succ j=>
      by_cases him:i<kids.length
      ·rw[ag (p:=(i:Int)<((ints kids).length:Int)) (by omega)];rw[aj him]at hq;unfold qf at hq;split at hq
       ·rename_i s3 had3 z h3;split at hq
        ·rename_i r hr;split at hq
         ·rename_i s4 had4 zs o3 h4;cases hq;have hal:=bh a;have e1:ints (a++[z])=ints a++[[iv z]]:=by simp[ints]
          conv=>whnf
          refine⟨_,⟨ae _,bD (ad him)⟩,?_⟩;conv=>whnf
          refine⟨_,_,ih j (by omega) h3,?_⟩;conv=>whnf
          cases acc with
          |true=>
           conv=>whnf
           refine⟨by show(ints a).length+1≤lim 8;simp[lim];omega,?_⟩;conv=>whnf
           rw[i64s i (by omega)];refine⟨j,_,ah j,ww [52,51,50,12,11,10,9,2,1,0] [1500,10] [71,3002,100096,100097,100099,100101] [.tmp 11 71] rfl,i+1,s3,had3,a++[z],zs,true,o3,him,by omega,by simp[ha],by simp[←hks],by simp[←ho],h4,?_⟩;rw[e1,aH];rfl
          |false=>
           conv=>whnf
           refine⟨_,_,rM hr,?_⟩;conv=>whnf
           refine⟨by show(ints a).length+1≤lim 8;simp[lim];omega,?_⟩;conv=>whnf
           rw[i64s i (by omega)];refine⟨j,_,ah j,ww [52,51,50,12,11,10,9,2,1,0] [1500,10] [71,3002,100096,100097,100099,100101] [.tmp 11 71] rfl,i+1,s3,had3,a++[z],zs,!decide (z=r),o3,him,by omega,by simp[ha],by simp[←hks],?_,h4,?_⟩
           ·rw[←ho,kQ,Bool.or_comm,decide_not]
           ·rw[e1,aH];rfl
         ·cases hq
        ·cases hq
       ·cases hq
      ·rw[af (p:=(i:Int)<((ints kids).length:Int)) (by omega)];rw[ap (by omega)]at hq;unfold qf at hq;cases hq;rw[aX]at hks;subst hks;rw[gP]at ho;subst ho;cases acc with
       |true=>
        simp only at h;split at h
        ·rename_i s5 z h5;cases h;conv=>whnf
         refine⟨_,_,aee h5,?_⟩;conv=>whnf
         have hfk:=lH (β:=Int) x1 had1;cases hf:fidx x1 (had1.map Prod.fst) with
         |none=>
          rw[hf]at hfk;refine⟨none,hfk,?_⟩;conv=>whnf
          obtain⟨p1,p2⟩:=kV (enc:=mi) (y:=y) hf;refine⟨rfl,?_⟩;unfold nK;rw[p1,p2];rfl
         |some ix=>
          rw[hf]at hfk;refine⟨some ix,hfk,?_⟩;conv=>whnf
          obtain⟨p1,p2⟩:=kU (enc:=mi) (y:=y) hf;refine⟨rfl,?_⟩;unfold nK;rw[p1,p2];rfl
        ·cases h
       |false=>
        cases h;conv=>whnf
        have hfk:=lH (β:=Int) y had1;cases hf:fidx y (had1.map Prod.fst) with
        |none=>
         rw[hf]at hfk;refine⟨none,hfk,?_⟩;conv=>whnf
         obtain⟨p1,p2⟩:=kV (enc:=mi) (y:=y) hf;refine⟨rfl,?_⟩;unfold nK;rw[p1,p2];rfl
        |some ix=>
         rw[hf]at hfk;refine⟨some ix,hfk,?_⟩;conv=>whnf
         obtain⟨p1,p2⟩:=kU (enc:=mi) (y:=y) hf;refine⟨rfl,?_⟩;unfold nK;rw[p1,p2];rfl
     ·cases h
   ·cases h
 ·cases h
def numV(n:Nat):List MV:=(List.range n).map fun(i:Nat)=>mi (i:Int)
def mapN(nums:List Int):AC:=.omap z0 (keyI nums) (numV nums.length)
theorem oL{n i:Nat}(h:i<n):(numV n)[i]?=some (mi (i:Int)):=by simp[numV,h]
theorem pX(n:Nat):numV (n+1)=numV n++[mi (n:Int)]:=by simp[numV,List.range_succ]
theorem ahe(k:Nat):∀{R:GR} {s:Sv} {x:Int} {nums nums':List Int} {t:Ty},qB k s x nums=some (nums',t)→Cw 90 [.one (sol R s),.one (iv x),.one (mapN nums)] [.val (.agg (tyC t))] [sol R s,mapN nums']:=by
 induction k using Nat.strongRecOn with
 |ind k ih=>
 intro R s x nums nums' t h;cases k with
 |zero=>simp[qB]at h
 |succ k=>
 unfold qB at h;split at h
 ·rename_i x1 hx;split at h
  ·rename_i n hn;obtain⟨x0,xl,hn⟩:=bY hn;have en:=jA hn;have hnl:=lG s.ns;obtain⟨cn,nm,kids,lv⟩:=n;simp only at h;refine cw {} Tryz.func90 (by kernel_rfl) ?_;conv=>whnf
   refine⟨_,_,rM hx,?_⟩;conv=>whnf
   refine⟨⟨x0,by omega⟩,?_⟩;conv=>whnf
   refine⟨_,⟨ae _,en⟩,?_⟩;have hfk:=ic x1 nums;cases cn with
   |false=>
    conv=>whnf
    simp only at h;cases hf:fidx x1 nums with
    |some ix=>
     rw[hf]at h hfk;cases h;refine⟨some ix,hfk,?_⟩;conv=>whnf
     refine⟨_,oL (iq hf),?_⟩;conv=>whnf
     refine⟨some ix,hfk,?_⟩;conv=>whnf
     refine⟨_,oL (iq hf),?_⟩;conv=>whnf
     exact⟨rfl,rfl⟩
    |none=>
     rw[hf]at h hfk;cases h;have hk2:keyI (nums++[x1])=keyI nums++[.int .i64 x1]:=by simp[keyI]
     have hf2:fidx x1 (nums++[x1])=some nums.length:=xH hf;have hfk2:bL (.int .i64 x1) (keyI nums++[.int .i64 x1])=some nums.length:=by rw[←hk2,ic];exact hf2
     have hkl:(keyI nums).length=nums.length:=by simp[keyI]
     have hv2:(numV nums.length++[mi (nums.length:Int)])[nums.length]?=some (mi (nums.length:Int)):=by rw[←pX];exact oL (by omega)
     refine⟨none,hfk,?_⟩;conv=>whnf
     refine⟨none,hfk,?_⟩;conv=>whnf
     refine⟨some nums.length,hfk2,?_⟩;conv=>whnf
     rw[hkl];refine⟨_,hv2,?_⟩;conv=>whnf
     refine⟨rfl,?_⟩;unfold mapN;rw[hk2,aH,List.length_singleton,pX];rfl
   |true=>
    simp only at h;split at h
    ·rename_i nums1 l hlen hl;cases h;have hlen:=aJ hlen;unfold LIM at hlen;have hkl:=bh kids;conv=>whnf
     refine⟨fun j st=>∃i nums2 l1 l2 c pm,i≤kids.length∧j≤k∧l1.length=i∧l1++l2=l∧kD j s (kids.drop i) nums2=some (nums',l2)∧((l1=[]∧c= .nil 88 4∧pm=[])∨(c= .sl 88 4 (tysC l1) (some (59,0))∧pm=[(59,⟨0,88,4,true⟩)]))∧st=⟨(48,.one (iv i))::(47,.one (iv (ints kids).length))::(46,.one (.sl 3 1 (ints kids) none))::(10,.one (.ptr 10 0 0))::(6,.one (.ptr 6 0 0))::(2,.one (.mref 3002 0))::(0,.one (.ptr 1500 0 0))::(OB+3002,.ob 3002 0 (.map z0 (keyI nums2) (numV nums2.length)))::gobs R s.ns (.uf s.rs.length (Uf s.rs)),
      [gbox R (nds s.ns).length s.rs.length s.lv,(6,⟨0,88,[iv 0,iv 0,sv .empty,.nil 88 4]⟩),(10,⟨0,88,[iv 2,iv 0,sv nm,c]⟩)],pm++aS 3002::fD⟩,
      ⟨k,_,ww [48,47,46,10,6,2,0] [1500,6,10] [59,3002,100096,100097,100099,100101] [] rfl,0,nums,[],l,_,_,aR _,au _,rfl,rfl,hl,.inl ⟨rfl,rfl,rfl⟩,rfl⟩,?_⟩
     rintro j st ⟨i,nums2,l1,l2,c,pm,hi,hj,hl1,hl,hq,hc,rfl⟩;conv=>whnf
     cases j with
     |zero=>simp[kD]at hq
     |succ j=>
     by_cases him:i<kids.length
     ·rw[ag (p:=(i:Int)<((ints kids).length:Int)) (by omega)];rw[aj him]at hq;unfold kD at hq;split at hq
      ·rename_i nums3 t h3;split at hq
       ·rename_i nums4 l3 h4;cases hq;obtain⟨tk,tn,ts,tks⟩:=t;have htl:=bU l1;rcases hc with⟨hl0,rfl,rfl⟩|⟨rfl,rfl⟩
        ·subst hl0;conv=>whnf
         refine⟨_,⟨ae _,bD (ad him)⟩,?_⟩;conv=>whnf
         refine⟨_,_,ih j (by omega) h3,?_⟩;unfold tyC;conv=>whnf
         refine⟨by simp[lim],?_⟩;conv=>whnf
         refine⟨aN (by kernel_rfl),?_⟩;conv=>whnf
         rw[i64s i (by omega)];refine⟨j,_,ah j,ww [48,47,46,10,6,2,0] [1500,6,10] [59,3002,100096,100097,100099,100101] [] rfl,i+1,nums3,[]++[.mk tk tn ts tks],l3,_,_,him,by omega,by simp[hl1],by simp[←hl],h4,.inr ⟨rfl,rfl⟩,?_⟩;rw[fN];rfl
        ·conv=>whnf
         refine⟨_,⟨ae _,bD (ad him)⟩,?_⟩;conv=>whnf
         refine⟨_,_,ih j (by omega) h3,?_⟩;unfold tyC;conv=>whnf
         refine⟨by show(tysC l1).length+1≤lim 56;simp[lim];omega,?_⟩;conv=>whnf
         refine⟨aN (by kernel_rfl),?_⟩;conv=>whnf
         rw[i64s i (by omega)];refine⟨j,_,ah j,ww [48,47,46,10,6,2,0] [1500,6,10] [59,3002,100096,100097,100099,100101] [] rfl,i+1,nums3,l1++[.mk tk tn ts tks],l3,_,_,him,by omega,by simp[hl1],by simp[←hl],h4,.inr ⟨rfl,rfl⟩,?_⟩;rw[fN];rfl
       ·cases hq
      ·cases hq
     ·rw[af (p:=(i:Int)<((ints kids).length:Int)) (by omega)];rw[ap (by omega)]at hq;unfold kD at hq;cases hq;rw[aX]at hl;subst hl;rcases hc with⟨hl0,rfl,rfl⟩|⟨rfl,rfl⟩
      ·subst hl0;conv=>whnf
       exact⟨rfl,rfl⟩
      ·conv=>whnf
       exact⟨rfl,rfl⟩
    ·cases h
  ·cases h
 ·cases h
structure Gs where
 R:GR
 s:Sv
def Gs.ac(g:Gs):AC:=sol g.R g.s
def rowN(nm:qR)(x:ByteArray):List (Int×Bool):=(getA x nm).getD []
def tQ(g:Gs)(x:ByteArray)(b:Int×Bool):Option Gs:=if(rowN g.R.nm x).length<LIM then some { g with R:={ g.R with nm:=putA x (rowN g.R.nm x++[b]) g.R.nm}} else none
def popR(g:Gs)(x:ByteArray):Option Gs:=match getA x g.R.nm with
 |some l=>if l≠[]∧l.length≤LIM then some { g with R:={ g.R with nm:=putA x l.dropLast g.R.nm}} else none
 |none=>none
def qC(k:Nat)(g:Gs)(x y:Int):Option Gs:=match g.R.bad with
 |true=>some g
 |false=>match oneS k g.s x y with
  |some (s,b)=>some ⟨{ g.R with bad:= !b},s⟩
  |none=>none
def nJ:Sch:=⟨0,.mk 0 0 .empty []⟩
def yU(k:Nat)(g:Gs)(x:ByteArray):Option (Gs×Int):=match(rowN g.R.nm x).getLast? with
 |some (y,true)=>match decide ((rowN g.R.nm x).length≤LIM),xu k g.s y [] with
  |true,some (s,_,z)=>some (⟨g.R,s⟩,z)
  |_,_=>none
 |some (y,false)=>if(rowN g.R.nm x).length≤LIM then some (g,y) else none
 |none=>match decide (0≤((getA x g.R.env).getD nJ).n),Sv.vars ((getA x g.R.env).getD nJ).n.toNat g.s with
  |true,some (s1,l)=>match putR l ((getA x g.R.env).getD nJ).t s1 with
   |some (s2,z)=>some (⟨g.R,s2⟩,z)
   |none=>none
  |_,_=>none
theorem ada(x:ByteArray)(nm:qR):bL (keyS x) (nmK nm)=fidx x (nm.map Prod.fst):=by
 have:=iI x (nm.map Prod.fst);rw[iu]at this;exact this
theorem abb{x:ByteArray}{y:List (Int×Bool)}{nm:qR}(h:fidx x (nm.map Prod.fst)=none):nmK (putA x y nm)=nmK nm++[keyS x]∧nmV (putA x y nm)=nmV nm++[y.map bdC]:=by
 rw[iE h];simp[nmK,nmV]
theorem tO{x:ByteArray}{y:List (Int×Bool)}{nm:qR}{i:Nat}(h:fidx x (nm.map Prod.fst)=some i):nmK (putA x y nm)=nmK nm∧nmV (putA x y nm)=(nmV nm).set i (y.map bdC):=by
 rw[iD h];refine⟨?_,by simp[nmV,bX]⟩;have:=jY h;rw[aG,ar]at this;obtain⟨p,h1,h2⟩:=this;unfold nmK;rw[bX];apply ce;intro j;rw[bf];split
 ·rename_i e;subst e;split
  ·rw[aG,h1,bW,h2]
  ·rename_i hl;rw[bI (by omega)]
 ·rfl
theorem getN{x:ByteArray}{nm:qR}:(∃i v,fidx x (nm.map Prod.fst)=some i∧bL (keyS x) (nmK nm)=some i∧(nmV nm)[i]?=some (v.map bdC)∧getA x nm=some v)∨(fidx x (nm.map Prod.fst)=none∧bL (keyS x) (nmK nm)=none∧getA x nm=none):=by
 rw[ada];rcases iG (x:=x) (l:=nm) with⟨i,v,h1,h2,h3⟩|⟨h1,h2⟩
 ·refine .inl ⟨i,v,h1,h1,?_,h3⟩;rw[aG,ar]at h2;obtain⟨p,q1,q2⟩:=h2;unfold nmV;rw[aG,q1,bW,q2]
 ·exact .inr ⟨h1,h1,h2⟩
theorem qg{x:ByteArray}{l:List (ByteArray×Sch)}:(∃i v,bL (keyS x) (envK l)=some i∧(envV l)[i]?=some (true,schC v)∧getA x l=some v)∨(bL (keyS x) (envK l)=none∧getA x l=none):=by
 have he:bL (keyS x) (envK l)=fidx x (l.map Prod.fst):=by
  have:=iI x (l.map Prod.fst);rw[iu]at this;exact this
 rw[he];rcases iG (x:=x) (l:=l) with⟨i,v,h1,h2,h3⟩|h
 ·refine .inl ⟨i,v,h1,?_,h3⟩;rw[aG,ar]at h2;obtain⟨p,q1,q2⟩:=h2;unfold envV;rw[aG,q1,bW,q2]
 ·exact .inr h
def M85:Md:={ tk:=[18],mt:=[21]}
theorem vo{g g':Gs}{x:ByteArray}{b:Int×Bool}(h:tQ g x b=some g'):Cw 85 [.one g.ac,.one (.v (.string x)),.agg (bdC b)] [] [g'.ac]:=by
 unfold tQ at h;split at h
 ·rename_i hlen;unfold LIM at hlen;cases h;obtain⟨b1,b2⟩:=b;refine cw M85 Tryz.func85 (by kernel_rfl) ?_;conv=>whnf
  rcases getN (x:=x) (nm:=g.R.nm) with⟨i,v,q0,q1,q2,q3⟩|⟨q0,q1,q3⟩
  ·obtain⟨p1,p2⟩:=tO (y:=v++[(b1,b2)]) q0;have hr:rowN g.R.nm x=v:=by simp[rowN,q3]
   rw[hr]at hlen ⊢;refine⟨some i,q1,?_⟩;conv=>whnf
   refine⟨_,q2,?_⟩;conv=>whnf
   refine⟨by show(v.map bdC).length+1≤lim 16;simp[lim];omega,?_⟩;conv=>whnf
   refine⟨some i,q1,?_⟩;conv=>whnf
   refine⟨rfl,?_⟩;conv=>whnf
   refine⟨aN (by kernel_rfl),?_⟩;conv=>whnf
   refine⟨rfl,?_⟩;simp only[Gs.ac,sol,gJ,sr,p1,p2,bw];rfl
  ·obtain⟨p1,p2⟩:=abb (y:=[(b1,b2)]) q0;have hr:rowN g.R.nm x=[]:=by simp[rowN,q3]
   rw[hr];refine⟨none,q1,?_⟩;conv=>whnf
   refine⟨by simp[lim],?_⟩;conv=>whnf
   refine⟨none,q1,?_⟩;conv=>whnf
   refine⟨aN (by kernel_rfl),?_⟩;conv=>whnf
   refine⟨rfl,?_⟩;simp only[Gs.ac,sol,gJ,sr,p1,p2,dG];rfl
 ·cases h
def M135:Md:={ tk:=[11]}
theorem acy{g g':Gs}{x:ByteArray}(h:popR g x=some g'):Cw 135 [.one g.ac,.one (.v (.string x))] [] [g'.ac]:=by
 unfold popR at h;split at h
 ·rename_i l hl;split at h
  ·rename_i hb;obtain⟨hne,hlen⟩:=hb;unfold LIM at hlen;cases h;have hpos:0<l.length:=eP.2 hne;refine cw M135 Tryz.func135 (by kernel_rfl) ?_;conv=>whnf
   rcases getN (x:=x) (nm:=g.R.nm) with⟨i,v,q0,q1,q2,q3⟩|⟨q0,q1,q3⟩
   ·rw[hl]at q3;cases q3;obtain⟨p1,p2⟩:=tO (y:=l.dropLast) q0;have hml:(l.map bdC).length=l.length:=by simp
    have hw:IntKind.i64.wrap (((l.map bdC).length:Int)-1)=((l.length-1:Nat):Int):=by rw[hml,i64w (by omega) (by omega)];omega
    refine⟨some i,q1,?_⟩;conv=>whnf
    refine⟨_,q2,?_⟩;conv=>whnf
    rw[hw];refine⟨⟨by omega,by omega⟩,?_⟩;conv=>whnf
    refine⟨some i,q1,?_⟩;conv=>whnf
    refine⟨rfl,?_⟩;conv=>whnf
    refine⟨aN (by kernel_rfl),?_⟩;conv=>whnf
    refine⟨rfl,?_⟩;simp only[Gs.ac,sol,gJ,sr,p1,p2];have:l.dropLast.map bdC=(l.map bdC).take (l.length-1):=by rw[iB,iQ]
    rw[this];rfl
   ·rw[hl]at q3;cases q3
  ·cases h
 ·cases h
theorem pN{k:Nat}{g g':Gs}{x y:Int}(h:qC k g x y=some g'):Cw 86 [.one g.ac,.one (iv x),.one (iv y)] [] [g'.ac]:=by
 obtain⟨⟨env,ds,fine,nm,bad⟩,s⟩:=g;unfold qC at h;simp only at h;refine cw {} Tryz.func86 (by kernel_rfl) ?_;cases bad with
 |true=>
  cases h;conv=>whnf
  exact⟨rfl,rfl⟩
 |false=>
  simp only at h;split at h
  ·rename_i s1 b h1;cases h;conv=>whnf
   refine⟨_,_,aiC h1,?_⟩;conv=>whnf
   exact⟨rfl,rfl⟩
  ·cases h
theorem tW{R:GR}{s:Sv}{x:ByteArray}{g':Gs}{z:Int}(h:(match decide (0≤((getA x R.env).getD nJ).n),Sv.vars ((getA x R.env).getD nJ).n.toNat s with
 |true,some (s1,l)=>match putR l ((getA x R.env).getD nJ).t s1 with
  |some (s2,z)=>some ((⟨R,s2⟩:Gs),z)
  |none=>none
 |_,_=>none)=some (g',z)):∃m s1 l s2,((getA x R.env).getD nJ).n=((m:Nat):Int)∧Sv.vars m s=some (s1,l)∧putR l ((getA x R.env).getD nJ).t s1=some (s2,z)∧g'=⟨R,s2⟩:=by
 split at h
 ·rename_i s1 l hd hv;have hd:=aJ hd;split at h
  ·rename_i s2 z2 hp;cases h;exact⟨_,s1,l,s2,by omega,hv,hp,rfl⟩
  ·cases h
 ·cases h
theorem afw{k:Nat}{g g':Gs}{x:ByteArray}{z:Int}(h:yU k g x=some (g',z)):Cw 131 [.one g.ac,.one (.v (.string x))] [.val (.one (iv z))] [g'.ac]:=by
 obtain⟨R,s⟩:=g;unfold yU at h;simp only at h;rcases getN (x:=x) (nm:=R.nm) with⟨i,v,q0,q1,q2,q3⟩|⟨q0,q1,q3⟩
 ·have hr:rowN R.nm x=v:=by simp[rowN,q3]
  rw[hr]at h;cases hl:v.getLast? with
  |some p=>
   obtain⟨v0,rfl⟩:∃v0,v=v0++[p]:=by rw[eY]at hl;exact hl
   obtain⟨y,sc⟩:=p;rw[hl]at h;have hml:((v0++[(y,sc)]).map bdC).length=v0.length+1:=by simp
   have e0:((v0++[(y,sc)]).map bdC)[v0.length]?=some (bdC (y,sc)):=by simp
   have hlen:(v0++[(y,sc)]).length≤LIM:=by
    cases sc with
    |true=>
     simp only at h;split at h
     ·rename_i hd _;exact aJ hd
     ·cases h
    |false=>
     simp only at h;split at h
     ·assumption
     ·cases h
   unfold LIM at hlen;simp only[aH,aT,bJ]at hlen;have hw:IntKind.i64.wrap ((((v0++[(y,sc)]).map bdC).length:Int)-1)=(v0.length:Int):=by rw[hml,i64w (by omega) (by omega)];omega
   refine cw { tk:=[14],bk:=[(23,14,100101)]} Tryz.func131 (by kernel_rfl) ?_;conv=>whnf
   refine⟨some i,q1,?_⟩;conv=>whnf
   refine⟨_,q2,?_⟩;conv=>whnf
   rw[ag (p:=0<(((v0++[(y,sc)]).map bdC).length:Int)) (by omega)];conv=>whnf
   rw[hw];refine⟨⟨by omega,by omega⟩,?_⟩;conv=>whnf
   refine⟨_,⟨ae _,e0⟩,?_⟩;conv=>whnf
   refine⟨q2,?_⟩;cases sc with
   |true=>
    conv=>whnf
    simp only at h;split at h
    ·rename_i s1 had z1 hlen hi;cases h;refine⟨_,_,ahJ k (had:=[]) hi,?_⟩;conv=>whnf
     refine⟨aN (by kernel_rfl),?_⟩;conv=>whnf
     exact⟨rfl,rfl⟩
    ·cases h
   |false=>
    conv=>whnf
    simp only at h;split at h
    ·cases h;exact⟨rfl,rfl⟩
    ·cases h
  |none=>
   have hv:v=[]:=by simpa using hl
   subst hv;rw[hl]at h;obtain⟨m,s1,l,s2,h1,h2,h3,rfl⟩:=tW h;refine cw { tk:=[14],bk:=[(35,14,100101)]} Tryz.func131 (by kernel_rfl) ?_;conv=>whnf
   refine⟨some i,q1,?_⟩;conv=>whnf
   refine⟨_,q2,?_⟩;conv=>whnf
   refine⟨q2,?_⟩;conv=>whnf
   rcases qg (x:=x) (l:=R.env) with⟨ie,ve,e1,e2,e3⟩|⟨e1,e3⟩
   ·rw[e3]at h1 h3;obtain⟨sn,tk,tn,ts,tks⟩:=ve;simp only[bG]at h1 h3;subst h1;refine⟨some ie,e1,?_⟩;conv=>whnf
    refine⟨_,e2,?_⟩;conv=>whnf
    refine⟨_,_,hY h2,?_⟩;conv=>whnf
    refine⟨_,_,tN _ h3,?_⟩;conv=>whnf
    refine⟨aN (by kernel_rfl),?_⟩;conv=>whnf
    exact⟨rfl,rfl⟩
   ·rw[e3]at h1 h3;have hm:m=0:=by simp only[ed,nJ]at h1;omega
    subst hm;refine⟨none,e1,?_⟩;conv=>whnf
    refine⟨_,_,hY h2,?_⟩;conv=>whnf
    refine⟨_,_,tN _ h3,?_⟩;conv=>whnf
    refine⟨aN (by kernel_rfl),?_⟩;conv=>whnf
    exact⟨rfl,rfl⟩
 ·have hr:rowN R.nm x=[]:=by simp[rowN,q3]
  rw[hr]at h;obtain⟨m,s1,l,s2,h1,h2,h3,rfl⟩:=tW h;refine cw { tk:=[14]} Tryz.func131 (by kernel_rfl) ?_;conv=>whnf
  refine⟨none,q1,?_⟩;conv=>whnf
  rcases qg (x:=x) (l:=R.env) with⟨ie,ve,e1,e2,e3⟩|⟨e1,e3⟩
  ·rw[e3]at h1 h3;obtain⟨sn,tk,tn,ts,tks⟩:=ve;simp only[bG]at h1 h3;subst h1;refine⟨some ie,e1,?_⟩;conv=>whnf
   refine⟨_,e2,?_⟩;conv=>whnf
   refine⟨_,_,hY h2,?_⟩;conv=>whnf
   refine⟨_,_,tN _ h3,?_⟩;conv=>whnf
   refine⟨aN (by kernel_rfl),?_⟩;conv=>whnf
   exact⟨rfl,rfl⟩
  ·rw[e3]at h1 h3;have hm:m=0:=by simp only[ed,nJ]at h1;omega
   subst hm;refine⟨none,e1,?_⟩;conv=>whnf
   refine⟨_,_,hY h2,?_⟩;conv=>whnf
   refine⟨_,_,tN _ h3,?_⟩;conv=>whnf
   refine⟨aN (by kernel_rfl),?_⟩;conv=>whnf
   exact⟨rfl,rfl⟩
theorem sV{e sz:Nat}:∀rs' cs',((rs'=[WRes.own e sz []]∨rs'=[.val (.one (.v (.slice none 0 0)))])∧cs'=[])→LeRs rs' [.own e sz []]∧LeL cs' []:=by
 rintro rs cs ⟨h|h,rfl⟩
 ·subst h;exact⟨LeRs.refl _,trivial⟩
 ·subst h;refine⟨⟨fun H w u b h=>?_,trivial⟩,trivial⟩;obtain⟨h1,rfl⟩:=h;exact⟨by simp,.inl ⟨(cN h1).1,rfl,rfl⟩⟩
def M211:Md:={ mt:=[5],ro:=true}
theorem uC{xs:List (List AC)}(h:xs.length≤LIM)(hs:∀x∈xs,x.length=4):Cw 211 [.one (.sl 88 4 xs none)] [.own 88 4 xs] []:=by
 unfold LIM at h;cases xs with
 |nil=>
  refine cwLe M211 (K:=fun rs cs=>(rs=[.own 88 4 []]∨rs=[.val (.one (.v (.slice none 0 0)))])∧cs=[]) Tryz.func211 (by kernel_rfl) sV ?_;conv=>whnf
  refine⟨?_,?_⟩
  ·conv=>whnf
   exact⟨.inr rfl,rfl⟩
  ·conv=>whnf
   refine⟨by simp[lim],?_⟩;conv=>whnf
   exact⟨.inl rfl,rfl⟩
 |cons x xs=>
  refine cw M211 Tryz.func211 (by kernel_rfl) ?_;conv=>whnf
  refine⟨by show 0+(x::xs).length≤lim 56;simp only[lim,bA];omega,?_⟩;conv=>whnf
  exact⟨rfl,rfl⟩
def M171:Md:={ mt:=[5],ro:=true}
theorem abD{xs:List (List AC)}(h:xs.length≤LIM)(hs:∀x∈xs,x.length=1):Cw 171 [.one (.sl 3 1 xs none)] [.own 3 1 xs] []:=by
 unfold LIM at h;cases xs with
 |nil=>
  refine cwLe M171 (K:=fun rs cs=>(rs=[.own 3 1 []]∨rs=[.val (.one (.v (.slice none 0 0)))])∧cs=[]) Tryz.func171 (by kernel_rfl) sV ?_;conv=>whnf
  refine⟨?_,?_⟩
  ·conv=>whnf
   exact⟨.inr rfl,rfl⟩
  ·conv=>whnf
   refine⟨by simp[lim],?_⟩;conv=>whnf
   exact⟨.inl rfl,rfl⟩
 |cons x xs=>
  refine cw M171 Tryz.func171 (by kernel_rfl) ?_;conv=>whnf
  refine⟨by show 0+(x::xs).length≤lim 8;simp only[lim,bA];omega,?_⟩;conv=>whnf
  exact⟨rfl,rfl⟩
def M113:Md:={ mt:=[5],ro:=true}
theorem uD{xs:List (List AC)}(h:xs.length≤LIM)(hs:∀x∈xs,x.length=1):Cw 113 [.one (.sl 9 1 xs none)] [.own 9 1 xs] []:=by
 unfold LIM at h;cases xs with
 |nil=>
  refine cwLe M113 (K:=fun rs cs=>(rs=[.own 9 1 []]∨rs=[.val (.one (.v (.slice none 0 0)))])∧cs=[]) Tryz.func113 (by kernel_rfl) sV ?_;conv=>whnf
  refine⟨?_,?_⟩
  ·conv=>whnf
   exact⟨.inr rfl,rfl⟩
  ·conv=>whnf
   refine⟨by simp[lim],?_⟩;conv=>whnf
   exact⟨.inl rfl,rfl⟩
 |cons x xs=>
  refine cw M113 Tryz.func113 (by kernel_rfl) ?_;conv=>whnf
  refine⟨by show 0+(x::xs).length≤lim 16;simp only[lim,bA];omega,?_⟩;conv=>whnf
  exact⟨rfl,rfl⟩
theorem uP:∀(l:List Ty),∀x∈tysC l,x.length=4
 | [],x,h=>by cases h
 | .mk _ _ _ _::l,x,h=>by
  unfold tysC at h;rcases aV.1 h with rfl|h
  ·rfl
  ·exact uP l x h
theorem oc:∀{l:List Ty} {t:Ty},fF l→t∈l→ju t
 |t::l,x,h,hx=>by
  rcases aV.1 hx with rfl|hx
  ·exact h.1
  ·exact oc h.2 hx
theorem abA(t:Ty):ju t→Cw 210 [.agg (tyC t)] [.val (.agg (tyC t))] []:=by
 induction t using Ty.ind with
 |h kd n nm kids ih=>
 intro hf;obtain⟨hlen,hfk⟩:=hf;have htl:=bU kids;refine cw {} Tryz.func210 (by kernel_rfl) ?_;unfold tyC;conv=>whnf
 refine⟨_,_,uC (by unfold LIM;omega) (uP kids),?_⟩;conv=>whnf
 refine⟨fun j st=>∃i,i+j=kids.length∧st=⟨(12,.one (iv i))::(11,.one (iv (tysC kids).length))::(10,.one (.rref 7 0 (tysC kids).length))::(2,.one (.ptr 2 0 0))::(1,.one (.ptr 1 0 0))::[(OB+7,.ob 7 0 (.row 88 4 (tysC kids)))],[(1,⟨0,88,[iv kd,iv n,sv nm,.rref 7 0 (tysC kids).length]⟩),(2,⟨0,88,[iv 0,iv 0,sv .empty,.nil 88 4]⟩)],[aS 7]⟩,
  ⟨kids.length,_,ww [12,11,10,2,1] [1,2] [7] [] rfl,0,by omega,rfl⟩,?_⟩
 rintro j st ⟨i,hij,rfl⟩;conv=>whnf
 cases j with
 |zero=>
  rw[af (p:=(i:Int)<((tysC kids).length:Int)) (by omega)];conv=>whnf
  exact⟨rfl,rfl⟩
 |succ j=>
  rw[ag (p:=(i:Int)<((tysC kids).length:Int)) (by omega)];have him:i<kids.length:=by omega
  have eg:=ga (ad him);conv=>whnf
  refine⟨⟨by omega,by omega⟩,?_⟩;conv=>whnf
  refine⟨_,⟨ae _,eg⟩,?_⟩;have hm:=bp him;generalize kids[i]=ti at hm eg;obtain⟨tk,tn,ts,tks⟩:=ti;unfold tyC;conv=>whnf
  refine⟨_,_,ih _ hm (oc hfk hm),?_⟩;unfold tyC;conv=>whnf
  refine⟨⟨by omega,by omega⟩,?_⟩;conv=>whnf
  refine⟨_,⟨ae _,eg⟩,?_⟩;conv=>whnf
  refine⟨aN (by kernel_rfl),?_⟩;conv=>whnf
  rw[i64s i (by omega)];have es:(tysC kids).set i (tyC (.mk tk tn ts tks))=tysC kids:=by
   apply ce;intro m;rw[bf];split
   ·rename_i e;subst e;split
    ·exact eg.symm
    ·omega
   ·rfl
  refine⟨j,_,ah j,ww [12,11,10,2,1] [1,2] [7] [] rfl,i+1,by omega,?_⟩;have e2:(tysC kids).set (i:Int).toNat (over (tyC (.mk tk tn ts tks)) 0 [.v (.int .i64 tk),.v (.int .i64 tn),.v (.string ts),.sl 88 4 (tysC tks) none])=tysC kids:=es;rw[e2];rfl
def mJ(nm:ByteArray):List ConD→Nat→Int
 | [],_=> -1
 |c::l,i=>if c.s=nm then(i:Int) else mJ nm l (i+1)
theorem zm{nm:ByteArray}{c:ConD}{l:List ConD}{i:Nat}:mJ nm (c::l) i=if c.s=nm then(i:Int) else mJ nm l (i+1):=rfl
theorem afR{c:ConD}{nm:ByteArray}:Cw 156 [.agg (conC c),.one (.ref [sv nm] 0)] [.val (.one (bv (decide (c.s=nm))))] []:=by
 refine cw { fb:=[2]} Tryz.func156 (by kernel_rfl) ?_;conv=>whnf
 exact⟨rfl,rfl⟩
theorem aef{l:List ConD}{nm:ByteArray}(hl:l.length≤4294967296):Cw 155 [.one (.sl 163 3 (l.map conC) none),.one (.clo 156 [.ref [sv nm] 0])] [.val (.one (iv (mJ nm l 0)))] []:=by
 have hml:(l.map conC).length=l.length:=by simp
 refine cw {} Tryz.func155 (by kernel_rfl) ?_;conv=>whnf
 refine⟨fun j st=>∃i,i+j=l.length∧mJ nm l 0=mJ nm (l.drop i) i∧st=⟨[(8,.one (iv i)),(7,.one (iv (l.map conC).length)),(1,.one (.clo 156 [.ref [sv nm] 0])),(0,.one (.sl 163 3 (l.map conC) none))],[],[]⟩,
  ⟨l.length,_,ww [8,7,1,0] [] [] [] rfl,0,by omega,rfl,rfl⟩,?_⟩
 rintro j st ⟨i,hij,hc,rfl⟩;conv=>whnf
 cases j with
 |zero=>
  rw[af (p:=(i:Int)<((l.map conC).length:Int)) (by omega)];rw[ap (by omega)]at hc;conv=>whnf
  exact⟨by rw[hc];rfl,rfl⟩
 |succ j=>
  rw[ag (p:=(i:Int)<((l.map conC).length:Int)) (by omega)];have him:i<l.length:=by omega
  rw[aj him]at hc;have eg:(l.map conC)[i]?=some (conC l[i]):=by simp[him]
  conv=>whnf
  refine⟨_,⟨ae _,eg⟩,?_⟩;generalize l[i]=c at hc;rw[zm]at hc;conv=>whnf
  refine⟨_,_,afR (c:=c),?_⟩;conv=>whnf
  by_cases hn:c.s=nm
  ·rw[if_pos hn]at hc;rw[ag hn];conv=>whnf
   exact⟨by rw[hc];rfl,rfl⟩
  ·rw[if_neg hn]at hc;rw[af hn];conv=>whnf
   rw[i64s i (by omega)];exact⟨j,_,ah j,ww [8,7,1,0] [] [] [] rfl,i+1,by omega,hc,rfl⟩
def km(nm:ByteArray):List DataD→Nat→Int×Int
 | [],_=>(-1,-1)
 |d::l,i=>if 0≤mJ nm d.cons 0 then((i:Int),mJ nm d.cons 0) else km nm l (i+1)
theorem zn{nm:ByteArray}{d:DataD}{l:List DataD}{i:Nat}:km nm (d::l) i=if 0≤mJ nm d.cons 0 then((i:Int),mJ nm d.cons 0) else km nm l (i+1):=rfl
theorem xU{l:List DataD}{nm:ByteArray}(hf:FineDs l):Cw 118 [.one (.sl 158 4 (l.map bS) none),.one (sv nm)] [.val (.one (iv (km nm l 0).1)),.val (.one (iv (km nm l 0).2))] []:=by
 have hl:=hf.len;have hml:(l.map bS).length=l.length:=by simp
 refine cw { fb:=[3]} Tryz.func118 (by kernel_rfl) ?_;conv=>whnf
 refine⟨fun j st=>∃i,i+j=l.length∧km nm l 0=km nm (l.drop i) i∧st=⟨[(11,.one (iv i)),(10,.one (iv (l.map bS).length)),(9,.one (.sl 158 4 (l.map bS) none)),(3,.one (.ref [sv nm] 0))],[],[]⟩,
  ⟨l.length,_,ww [11,10,9,3] [] [] [] rfl,0,by omega,rfl,rfl⟩,?_⟩
 rintro j st ⟨i,hij,hc,rfl⟩;conv=>whnf
 cases j with
 |zero=>
  rw[af (p:=(i:Int)<((l.map bS).length:Int)) (by omega)];rw[ap (by omega)]at hc;conv=>whnf
  exact⟨by rw[hc];rfl,rfl⟩
 |succ j=>
  rw[ag (p:=(i:Int)<((l.map bS).length:Int)) (by omega)];have him:i<l.length:=by omega
  rw[aj him]at hc;have eg:(l.map bS)[i]?=some (bS l[i]):=by simp[him]
  have hd:=(hf.cons _ (bp him)).1;conv=>whnf
  refine⟨_,⟨ae _,eg⟩,?_⟩;generalize l[i]=d at hc hd;rw[zn]at hc;conv=>whnf
  refine⟨_,_,aef (nm:=nm) hd,?_⟩;conv=>whnf
  by_cases hn:0≤mJ nm d.cons 0
  ·rw[if_pos hn]at hc;rw[ag hn];conv=>whnf
   exact⟨by rw[hc];rfl,rfl⟩
  ·rw[if_neg hn]at hc;rw[af hn];conv=>whnf
   rw[i64s i (by omega)];exact⟨j,_,ah j,ww [11,10,9,3] [] [] [] rfl,i+1,by omega,hc,rfl⟩
def jc(n:Nat):List Ty:=(List.range n).map fun(i:Nat)=>.mk 1 (i:Int) .empty []
theorem wB(n:Nat):jc (n+1)=jc n++[.mk 1 (n:Int) .empty []]:=by simp[jc,List.range_succ]
def noTy:Ty:=.mk 0 0 .empty []
def ij(l:List DataD)(d c:Int):List Ty×Ty:=match at? l d with
 |some D=>match at? D.cons c with
  |some C=>(C.args,.mk 2 0 D.s (jc D.vars.length))
  |none=>([],noTy)
 |none=>([],noTy)
theorem agq{e sz:Nat}{r:List WRes}:LeRs (.val (.one (.v (.slice none 0 0)))::r) (.val (.one (.sl e sz [] none))::r):=
 ⟨fun H w u b h=>by
  obtain⟨h1,rfl⟩:=h;obtain rfl:=(cN h1).1;exact⟨.one _ _ (.nil e sz none none 0 (ka.none _ _)),rfl⟩,LeRs.refl _⟩
def M184:Md:={ mt:=[52,74]}
theorem aaT{l:List DataD}{d c:Int}(hf:FineDs l):Cw 184 [.one (.sl 158 4 (l.map bS) none),.one (iv d),.one (iv c)] [.val (.one (.sl 88 4 (tysC (ij l d c).1) none)),.val (.agg (tyC (ij l d c).2))] []:=by
 have hl:=hf.len;have hml:(l.map bS).length=l.length:=by simp
 refine cwLe M184 (K:=fun rs cs=>(rs=[.val (.one (.sl 88 4 (tysC (ij l d c).1) none)),.val (.agg (tyC (ij l d c).2))]∨(ij l d c=([],noTy)∧rs=[.val (.one (.v (.slice none 0 0))),.val (.agg (tyC noTy))]))∧cs=[]) Tryz.func184 (by kernel_rfl) ?_ ?_
 ·rintro rs cs ⟨h|⟨h1,h⟩,rfl⟩
  ·rw[h];exact⟨LeRs.refl _,trivial⟩
  ·rw[h,h1];exact⟨agq,trivial⟩
 conv=>whnf
 by_cases hd0:d<0
 ·rw[ag hd0];conv=>whnf
  refine⟨aN (by kernel_rfl),?_⟩;conv=>whnf
  refine⟨.inr ⟨?_,rfl⟩,rfl⟩;unfold ij at?;rw[if_neg (by omega)]
 rw[af hd0];conv=>whnf
 by_cases hdl:((l.map bS).length:Int)≤d
 ·rw[ag hdl];conv=>whnf
  refine⟨aN (by kernel_rfl),?_⟩;conv=>whnf
  refine⟨.inr ⟨?_,rfl⟩,rfl⟩;unfold ij at?;rw[if_pos (by omega),bI (by omega)]
 rw[af hdl];have hdn:d.toNat<l.length:=by omega
 have eD:(l.map bS)[d.toNat]?=some (bS l[d.toNat]):=by simp[hdn]
 have hfd:=(hf.cons _ (bp hdn));have hfa:=hf.args _ (bp hdn);have hat:at? l d=some l[d.toNat]:=by unfold at?;rw[if_pos (by omega),ad hdn]
 have hty:ij l d c=match at? (l[d.toNat]).cons c with
  |some C=>(C.args,.mk 2 0 (l[d.toNat]).s (jc (l[d.toNat]).vars.length))
  |none=>([],noTy):=by unfold ij;rw[hat]
 generalize l[d.toNat]=D at eD hfd hfa hat hty;conv=>whnf
 by_cases hc0:c<0
 ·rw[ag hc0];conv=>whnf
  refine⟨aN (by kernel_rfl),?_⟩;conv=>whnf
  refine⟨.inr ⟨?_,rfl⟩,rfl⟩;rw[hty];unfold at?;rw[if_neg (by omega)]
 rw[af hc0];conv=>whnf
 refine⟨_,⟨by omega,eD⟩,?_⟩;conv=>whnf
 have hcl:(D.cons.map conC).length=D.cons.length:=by simp
 by_cases hcl2:((D.cons.map conC).length:Int)≤c
 ·rw[ag hcl2];conv=>whnf
  refine⟨aN (by kernel_rfl),?_⟩;conv=>whnf
  refine⟨.inr ⟨?_,rfl⟩,rfl⟩;rw[hty];unfold at?;rw[if_pos (by omega),bI (by omega)]
 rw[af hcl2];have hcn:c.toNat<D.cons.length:=by omega
 have eC:(D.cons.map conC)[c.toNat]?=some (conC D.cons[c.toNat]):=by simp[hcn]
 have hfc:=hfa _ (bp hcn);have hty2:ij l d c=((D.cons[c.toNat]).args,.mk 2 0 D.s (jc D.vars.length)):=by
  rw[hty];unfold at?;rw[if_pos (by omega),ad hcn]
 rw[hty2];generalize D.cons[c.toNat]=C at eC hfc;have htl:=bU C.args;conv=>whnf
 refine⟨_,⟨by omega,eD⟩,?_⟩;conv=>whnf
 refine⟨_,⟨by omega,eC⟩,?_⟩;conv=>whnf
 refine⟨fun j st=>∃i,i+j=C.args.length∧st=⟨(44,.one (iv i))::(43,.one (iv (tysC C.args).length))::(42,.one (.sl 88 4 (tysC C.args) none))::(7,.one (.ptr 7 0 0))::(6,.one (.rref 52 0 (tysC (C.args.take i)).length))::(1,.one (iv d))::(0,.one (.sl 158 4 (l.map bS) none))::[(OB+52,.ob 52 0 (.row 88 4 (tysC (C.args.take i))))],[(7,⟨0,88,[iv 0,iv 0,sv .empty,.nil 88 4]⟩)],[aS 52]⟩,
  ⟨C.args.length,_,ww [44,43,42,7,6,1,0] [7] [52] [.nilT 6 52 88 4] rfl,0,by omega,rfl⟩,?_⟩
 rintro j st ⟨i,hij,rfl⟩;have htk:=bU (C.args.take i);rw[dx]at htk;conv=>whnf
 cases j with
 |zero=>
  rw[af (p:=(i:Int)<((tysC C.args).length:Int)) (by omega)];rw[cU (by omega)];have hvl:(D.vars.map str).length=D.vars.length:=by simp
  conv=>whnf
  refine⟨_,⟨by omega,eD⟩,?_⟩;conv=>whnf
  refine⟨_,⟨by omega,eD⟩,?_⟩;conv=>whnf
  refine⟨fun j st=>∃i,i+j=D.vars.length∧st=⟨(66,.one (iv i))::(65,.one (iv (D.vars.map str).length))::(7,.one (.ptr 7 0 0))::(6,.one (.rref 52 0 (tysC C.args).length))::[(OB+52,.ob 52 0 (.row 88 4 (tysC C.args))),(OB+74,.ob 74 0 (.row 88 4 (tysC (jc i))))],[(7,⟨0,88,[iv 2,iv 0,sv D.s,.rref 74 0 (tysC (jc i)).length]⟩)],[aS 52,aS 74]⟩,
   ⟨D.vars.length,_,ww [66,65,7,6] [7] [52,74] [.box 7 3 74] rfl,0,by omega,rfl⟩,?_⟩
  rintro j st ⟨i,hij,rfl⟩;have htv:=bU (jc i);have hvn:(jc i).length=i:=by simp[jc]
  conv=>whnf
  cases j with
  |zero=>
   rw[af (p:=(i:Int)<((D.vars.map str).length:Int)) (by omega)];have:i=D.vars.length:=by omega
   subst this;conv=>whnf
   refine⟨aN (by kernel_rfl),?_⟩;conv=>whnf
   exact⟨.inl rfl,rfl⟩
  |succ j=>
   rw[ag (p:=(i:Int)<((D.vars.map str).length:Int)) (by omega)];conv=>whnf
   refine⟨by show(tysC (jc i)).length+1≤lim 56;simp[lim];omega,?_⟩;conv=>whnf
   rw[i64s i (by omega)];refine⟨j,_,ah j,ww [66,65,7,6] [7] [52,74] [.box 7 3 74] rfl,i+1,by omega,?_⟩;rw[wB,fN,aH];rfl
 |succ j=>
  rw[ag (p:=(i:Int)<((tysC C.args).length:Int)) (by omega)];have him:i<C.args.length:=by omega
  have eg:=ga (ad him);have htk2:C.args.take (i+1)=C.args.take i++[C.args[i]]:=cq him;have hft:=oc hfc.2 (bp him);generalize C.args[i]=ti at eg htk2 hft;obtain⟨tk,tn,ts,tks⟩:=ti;conv=>whnf
  refine⟨_,⟨ae _,eg⟩,?_⟩;unfold tyC;conv=>whnf
  refine⟨_,_,abA _ hft,?_⟩;unfold tyC;conv=>whnf
  refine⟨by show(tysC (C.args.take i)).length+1≤lim 56;simp[lim];omega,?_⟩;conv=>whnf
  rw[i64s i (by omega)];refine⟨j,_,ah j,ww [44,43,42,7,6,1,0] [7] [52] [.tmp 6 52] rfl,i+1,by omega,?_⟩;rw[htk2,fN,aH];rfl
def Ty.kids:Ty→List Ty
 | .mk _ _ _ l=>l
def aav(g:Gs)(nm:ByteArray):Option (Gs×List Int×Int):=match ij g.R.ds (km nm g.R.ds 0).1 (km nm g.R.ds 0).2 with
 |(l,t)=>match Sv.vars t.kids.length g.s with
  |some (s1,vars)=>match oE vars l s1 with
   |some (s2,args)=>match putR vars t s2 with
    |some (s3,x)=>some (⟨g.R,s3⟩,args,x)
    |none=>none
   |none=>none
  |none=>none
theorem yy{l:List DataD}{d c:Int}(hf:FineDs l):(ij l d c).1.length≤4294967296:=by
 unfold ij;split
 ·rename_i D hD;obtain⟨-,-,hD⟩:=bY hD;split
  ·rename_i C hC;obtain⟨-,-,hC⟩:=bY hC;exact(hf.args _ (bi hD) _ (bi hC)).1
  ·simp
 ·simp
def M132:Md:={ mt:=[53]}
theorem adk{g g':Gs}{nm:ByteArray}{args:List Int}{x:Int}(h:aav g nm=some (g',args,x)):Cw 132 [.one g.ac,.one (sv nm)] [.val (.one (.sl 3 1 (ints args) none)),.val (.one (iv x))] [g'.ac]:=by
 obtain⟨R,s⟩:=g;have hf:=R.fine;unfold aav at h;simp only at h;have hcon:=xU (nm:=nm) hf;generalize km nm R.ds 0=dc at h hcon;have hty:=aaT (d:=dc.1) (c:=dc.2) hf;have hlen:=yy (d:=dc.1) (c:=dc.2) hf;generalize ij R.ds dc.1 dc.2=lt at h hty hlen;obtain⟨l,kd,tn,ts,kids⟩:=lt
 simp only at h hlen hty;have hkl:=bU kids;have htl:=bU l;split at h
 ·rename_i s1 vars h1;split at h
  ·rename_i s2 agN h2;split at h
   ·rename_i s3 y h3;cases h;have hpl:=rO h2;have h1':Sv.vars (tysC kids).length s=some (s1,vars):=by rw[hkl];exact h1
    refine cw M132 Tryz.func132 (by kernel_rfl) ?_;conv=>whnf
    refine⟨_,_,hcon,?_⟩;conv=>whnf
    refine⟨_,_,hty,?_⟩;unfold tyC;conv=>whnf
    refine⟨_,_,hY h1',?_⟩;conv=>whnf
    refine⟨aN (by kernel_rfl),?_⟩;conv=>whnf
    refine⟨fun j st=>∃i s4 a ks2,i+j=l.length∧a.length=i∧a++ks2=args∧oE vars (l.drop i) s4=some (s2,ks2)∧st=⟨(41,.one (iv i))::(40,.one (iv (tysC l).length))::(39,.one (.sl 88 4 (tysC l) none))::(10,.one (.sl 3 1 (ints vars) none))::(9,.one (.ptr 9 0 0))::(4,.one (.rref 53 0 (ints a).length))::(0,.one (.ptr 1500 0 0))::(OB+53,.ob 53 0 (.row 3 1 (ints a)))::gobs R s4.ns (.uf s4.rs.length (Uf s4.rs)),
     [gbox R (nds s4.ns).length s4.rs.length s4.lv,(9,⟨0,88,[iv kd,iv tn,sv ts,.sl 88 4 (tysC kids) none]⟩)],aS 53::fD⟩,
     ⟨l.length,_,ww [41,40,39,10,9,4,0] [1500,9] [53,100096,100097,100099,100101] [.nilT 4 53 3 1] rfl,0,s1,[],args,by omega,rfl,rfl,h2,rfl⟩,?_⟩
    rintro j st ⟨i,s4,a,ks2,hij,ha,hks,hp2,rfl⟩;have hal:=bh a;conv=>whnf
    cases j with
    |zero=>
     rw[af (p:=(i:Int)<((tysC l).length:Int)) (by omega)];rw[ap (by omega)]at hp2;cases hp2;simp only[aX]at hks;subst hks;conv=>whnf
     refine⟨_,_,tN (.mk kd tn ts kids) h3,?_⟩;conv=>whnf
     refine⟨aN (by kernel_rfl),?_⟩;conv=>whnf
     exact⟨rfl,rfl⟩
    |succ j=>
     rw[ag (p:=(i:Int)<((tysC l).length:Int)) (by omega)];have him:i<l.length:=by omega
     rw[aj him]at hp2;unfold oE at hp2;split at hp2
     ·rename_i s5 z h5;split at hp2
      ·rename_i s6 ks3 h6;cases hp2;have eg:=ga (ad him);generalize l[i]=ti at h5 eg;obtain⟨tk,tn,ts,tks⟩:=ti;conv=>whnf
       refine⟨_,⟨ae _,eg⟩,?_⟩;unfold tyC;conv=>whnf
       refine⟨_,_,tN (.mk tk tn ts tks) h5,?_⟩;conv=>whnf
       refine⟨by show(ints a).length+1≤lim 8;simp[lim];omega,?_⟩;conv=>whnf
       refine⟨aN (by kernel_rfl),?_⟩;conv=>whnf
       rw[i64s i (by omega)];refine⟨j,_,ah j,ww [41,40,39,10,9,4,0] [1500,9] [53,100096,100097,100099,100101] [.tmp 4 53] rfl,i+1,s5,a++[z],ks3,by omega,by simp[ha],by simp[←hks],h6,?_⟩;have e1:ints (a++[z])=ints a++[[iv z]]:=by simp[ints]
       rw[e1,aH];rfl
      ·cases hp2
     ·cases hp2
   ·cases h
  ·cases h
 ·cases h
def intT:ByteArray:=⟨#[73,110,116]⟩
def qN:ByteArray:=⟨#[66,111,111,108]⟩
def Gs.var(g:Gs):Option (Gs×Int):=match g.s.var with
 |some (s,x)=>some (⟨g.R,s⟩,x)
 |none=>none
def Gs.con(g:Gs)(nm:ByteArray)(kids:List Int):Option (Gs×Int):=match g.s.con nm kids with
 |some (s,x)=>some (⟨g.R,s⟩,x)
 |none=>none
def lV(g:Gs)(x:Int):List Int→Option (Gs×Int)
 | []=>some (g,x)
 |a::l=>match lV g x l with
  |some (g1,y)=>g1.con ot [a,y]
  |none=>none
def ki(g:Gs):List ByteArray→List Int→Option Gs
 | [],_=>some g
 |s::l,x::xs=>match tQ g s (x,false) with
  |some g1=>ki g1 l xs
  |none=>none
 |_::_,[]=>none
def aaf(g:Gs):List ByteArray→Option Gs
 | []=>some g
 |s::l=>match popR g s with
  |some g1=>aaf g1 l
  |none=>none
def lvUp(g:Gs)(d:Int):Option Gs:=if -LIM<g.s.lv∧g.s.lv<LIM then some ⟨g.R,{ g.s with lv:=g.s.lv+d}⟩ else none
def letB(K:Nat)(g:Gs)(x:Int):Option Gs:=match g.R.bad with
 |true=>some g
 |false=>match aaL K g.s x with
  |some b=>some ⟨{ g.R with bad:= !b},g.s⟩
  |none=>none
mutual
def ofR(K:Nat):Nat→Gs→Exp→Option (Gs×Int)
 |0,_,_=>none
 |k+1,g,.mk kd _ nm _ kids alts=>match g.R.bad with
  |true=>g.var
  |false=>
   if kd=1 then yU K g nm
   else if kd=2 then match aav g nm with
    |some (g1,args,x)=>if args.length≤LIM then lV g1 x args else none
    |none=>none
   else if kd=3 then g.con intT []
   else if kd=4 then g.con qN []
   else if kd=5 then match qD K k g kids with
    |some (g1,l)=>match g1.var with
     |some (g2,x)=>match l[0]?,l[1]? with
      |some a,some b=>match g2.con ot [b,x] with
       |some (g3,y)=>match qC K g3 a y with
        |some g4=>some (g4,x)
        |none=>none
       |none=>none
      |_,_=>none
     |none=>none
    |none=>none
   else if kd=6 then match g.var with
    |some (g1,x)=>match tQ g1 nm (x,false),kids[0]? with
     |some g2,some e=>match ofR K k g2 e with
      |some (g3,y)=>match popR g3 nm with
       |some g4=>g4.con ot [x,y]
       |none=>none
      |none=>none
     |_,_=>none
    |none=>none
   else if kd=7 then match lvUp g 1,kids[0]?,kids[1]? with
    |some g1,some e0,some e1=>match ofR K k g1 e0 with
     |some (g2,x)=>match lvUp g2 (-1) with
      |some g3=>match letB K g3 x with
       |some g4=>match g4.R.bad with
        |true=>some (g4,x)
        |false=>match genR K g4.s x with
         |some s5=>match tQ ⟨g4.R,s5⟩ nm (x,true) with
          |some g6=>match ofR K k g6 e1 with
           |some (g7,y)=>match popR g7 nm with
            |some g8=>some (g8,y)
            |none=>none
           |none=>none
          |none=>none
         |none=>none
       |none=>none
      |none=>none
     |none=>none
    |_,_,_=>none
   else if kd=8 then match qD K k g kids with
    |some (g1,l)=>g1.con oi l
    |none=>none
   else if kd=9 then match kids[0]?,kids[1]?,kids[2]? with
    |some e0,some e1,some e2=>match ofR K k g e0 with
     |some (g1,a)=>match g1.con qN [] with
      |some (g2,b)=>match qC K g2 a b with
       |some g3=>match ofR K k g3 e1 with
        |some (g4,x)=>match ofR K k g4 e2 with
         |some (g5,y)=>match qC K g5 x y with
          |some g6=>some (g6,x)
          |none=>none
         |none=>none
        |none=>none
       |none=>none
      |none=>none
     |none=>none
    |_,_,_=>none
   else if kd=10 then match g.var,kids[0]? with
    |some (g1,told),some e=>match ofR K k g1 e with
     |some (g2,what)=>match tm K k g2 what told alts with
      |some g3=>some (g3,told)
      |none=>none
     |none=>none
    |_,_=>none
   else none
def qD(K:Nat):Nat→Gs→List Exp→Option (Gs×List Int)
 |0,_,_=>none
 |_+1,g,[]=>some (g,[])
 |k+1,g,e::l=>match ofR K k g e with
  |some (g1,x)=>match qD K k g1 l with
   |some (g2,xs)=>some (g2,x::xs)
   |none=>none
  |none=>none
def tm(K:Nat):Nat→Gs→Int→Int→List Alt→Option Gs
 |0,_,_,_,_=>none
 |_+1,g,_,_,[]=>some g
 |k+1,g,what,told,a::l=>match g.R.bad with
  |true=>tm K k g what told l
  |false=>match altR K k g what told a with
   |some g1=>tm K k g1 what told l
   |none=>none
def altR(K:Nat):Nat→Gs→Int→Int→Alt→Option Gs
 |0,_,_,_,_=>none
 |k+1,g,what,told,.mk _ con names body=>match aav g con with
  |some (g1,args,x)=>match qC K g1 x what with
   |some g2=>match g2.R.bad with
    |true=>some g2
    |false=>match ki g2 names args with
     |some g3=>match ofR K k g3 body with
      |some (g4,y)=>match qC K g4 y told with
       |some g5=>aaf g5 names
       |none=>none
      |none=>none
     |none=>none
   |none=>none
  |none=>none
end
def OfE(K k:Nat):Prop:=∀(g:Gs) (e:Exp) (g':Gs) (x:Int),dJ e→ofR K k g e=some (g',x)→Cw 87 [.one g.ac,.agg (exC e)] [.val (.one (iv x))] [g'.ac]
theorem vK{g g':Gs}{x:Int}(h:g.var=some (g',x)):Cw 129 [.one g.ac] [.val (.one (iv x))] [g'.ac]:=by
 unfold Gs.var at h;split at h
 ·rename_i h1;cases h;exact nS h1
 ·cases h
theorem sA{g g':Gs}{nm:ByteArray}{kids:List Int}{x:Int}(h:g.con nm kids=some (g',x)):Cw 133 [.one g.ac,.one (.v (.string nm)),.one (.sl 3 1 (ints kids) none)] [.val (.one (iv x))] [g'.ac]:=by
 unfold Gs.con at h;split at h
 ·rename_i h1;cases h;exact aee h1
 ·cases h
theorem vM{g g':Gs}{nm:ByteArray}{x:Int}(h:g.con nm []=some (g',x)):Cw 133 [.one g.ac,.one (.v (.string nm)),.one (.v (.slice none 0 0))] [.val (.one (iv x))] [g'.ac]:=
 zH (xs':=[.one g.ac,.one (.v (.string nm)),.one (.sl 3 1 (ints []) none)]) ⟨⟨rfl,fun _ _ _ _ h=>h⟩,⟨rfl,fun _ _ _ _ h=>h⟩,adb,trivial⟩ (sA h)
def M134:Md:={ mt:=[20]}
theorem aaz{K k:Nat}(ih:∀j,j<k→OfE K j){g g':Gs}{kd a n:Int}{nm:ByteArray}{kids:List Exp}{alts:List Alt}{l:List Int}(hf:kK kids)(hlen:kids.length≤4294967296)(h:qD K k g kids=some (g',l)):
 Cw 134 [.one g.ac,.agg (exC (.mk kd a nm n kids alts))] [.val (.one (.sl 3 1 (ints l) none))] [g'.ac]:=by
 have hel:=eR kids;refine cw M134 Tryz.func134 (by kernel_rfl) ?_;unfold exC;conv=>whnf
 refine⟨fun j st=>∃i g2 l1 l2,i≤kids.length∧j≤k∧l1.length=i∧l1++l2=l∧qD K j g2 (kids.drop i)=some (g',l2)∧st=⟨(11,.one (iv i))::(10,.one (iv (exsC kids).length))::(9,.one (.sl 78 6 (exsC kids) none))::(5,.one (.rref 20 0 (ints l1).length))::(0,.one (.ptr 1500 0 0))::(OB+20,.ob 20 0 (.row 3 1 (ints l1)))::gobs g2.R g2.s.ns (.uf g2.s.rs.length (Uf g2.s.rs)),
  [gbox g2.R (nds g2.s.ns).length g2.s.rs.length g2.s.lv],aS 20::fD⟩,
  ⟨k,_,ww [11,10,9,5,0] [1500] [20,100096,100097,100099,100101] [.nilT 5 20 3 1] rfl,0,g,[],l,aR _,au _,rfl,rfl,h,rfl⟩,?_⟩
 rintro j st ⟨i,g2,l1,l2,hi,hj,hl1,hl,hq,rfl⟩;have hil:=bh l1;conv=>whnf
 cases j with
 |zero=>simp[qD]at hq
 |succ j=>
 by_cases him:i<kids.length
 ·rw[ag (p:=(i:Int)<((exsC kids).length:Int)) (by omega)];rw[aj him]at hq;unfold qD at hq;split at hq
  ·rename_i g3 x h3;split at hq
   ·rename_i g4 xs h4;cases hq;have eg:=dB (ad him);have hfe:=cP hf (ad him);generalize kids[i]=e at h3 eg hfe;obtain⟨ek,ea,es,en,ekids,ealts⟩:=e;conv=>whnf
    refine⟨_,⟨ae _,eg⟩,?_⟩;unfold exC;conv=>whnf
    refine⟨_,_,ih j (by omega) _ _ _ _ hfe h3,?_⟩;conv=>whnf
    refine⟨by show(ints l1).length+1≤lim 8;simp[lim];omega,?_⟩;conv=>whnf
    rw[i64s i (by omega)];refine⟨j,_,ah j,ww [11,10,9,5,0] [1500] [20,100096,100097,100099,100101] [.tmp 5 20] rfl,i+1,g3,l1++[x],xs,him,by omega,by simp[hl1],by simp[←hl],h4,?_⟩;have e1:ints (l1++[x])=ints l1++[[iv x]]:=by simp[ints]
    rw[e1,aH];rfl
   ·cases hq
  ·cases hq
 ·rw[af (p:=(i:Int)<((exsC kids).length:Int)) (by omega)];rw[ap (by omega)]at hq;unfold qD at hq;cases hq;rw[aX]at hl;subst hl;conv=>whnf
  exact⟨rfl,rfl⟩
theorem ahE{K k:Nat}(ih:OfE K k){g g':Gs}{kd a n:Int}{nm:ByteArray}{kids:List Exp}{alts:List Alt}{z:Int}(hf:kK kids)
 (h:(match lvUp g 1,kids[0]?,kids[1]? with
  |some g1,some e0,some e1=>match ofR K k g1 e0 with
   |some (g2,x)=>match lvUp g2 (-1) with
    |some g3=>match letB K g3 x with
     |some g4=>match g4.R.bad with
      |true=>some (g4,x)
      |false=>match genR K g4.s x with
       |some s5=>match tQ ⟨g4.R,s5⟩ nm (x,true) with
        |some g6=>match ofR K k g6 e1 with
         |some (g7,y)=>match popR g7 nm with
          |some g8=>some (g8,y)
          |none=>none
         |none=>none
        |none=>none
       |none=>none
     |none=>none
    |none=>none
   |none=>none
  |_,_,_=>none)=some (g',z)):
 Cw 136 [.one g.ac,.agg (exC (.mk kd a nm n kids alts))] [.val (.one (iv z))] [g'.ac]:=by
 split at h
 ·rename_i g1 e0 e1 h1 he0 he1;split at h
  ·rename_i g2 x h2;split at h
   ·rename_i g3 h3;split at h
    ·rename_i g4 h4;have eg0:=dB he0;have eg1:=dB he1;have hf0:=cP hf he0;have hf1:=cP hf he1;obtain⟨k0,a0,s0,n0,kids0,alts0⟩:=e0;obtain⟨k1,a1,s1,n1,kids1,alts1⟩:=e1;unfold lvUp at h1 h3;split at h1
     ·rename_i hl1;cases h1;split at h3
      ·rename_i hl3;cases h3;unfold LIM at hl1 hl3;refine cw { fb:=[3]} Tryz.func136 (by kernel_rfl) ?_;unfold exC;conv=>whnf
       rw[show IntKind.i64.wrap (g.s.lv+1)=g.s.lv+1 from i64w (by omega) (by omega)];refine⟨_,⟨fP _,eg0⟩,?_⟩;unfold exC;conv=>whnf
       refine⟨_,_,ih _ _ _ _ hf0 h2,?_⟩;obtain⟨⟨env,ds,fine,nm2,bad⟩,s2⟩:=g2;have hw2:IntKind.i64.wrap (s2.lv-1)=s2.lv+ -1:=i64w (by simp only at hl3;omega) (by simp only at hl3;omega);cases bad with
       |true=>
        cases h4;cases h;conv=>whnf
        refine⟨rfl,?_⟩;show [AC.obox 198 (.own 263 4 (nds s2.ns):: .uf s2.rs.length (Uf s2.rs)::iv (IntKind.i64.wrap (s2.lv-1))::sr ⟨env,ds,fine,nm2,true⟩)]=_;rw[hw2];rfl
       |false=>
        unfold letB at h4;simp only at h4;split at h4
        ·rename_i b hb;cases h4;conv=>whnf
         rw[hw2];refine⟨_,_,ze hb,?_⟩;cases b with
         |false=>
          cases h;conv=>whnf
          exact⟨rfl,rfl⟩
         |true=>
          simp only[Bool.not_true]at h;apply wcut
          ·conv=>whnf
          apply ma;apply me _ rfl rfl
          ·conv=>whnf
          apply agV
          ·conv=>whnf
           rfl
          apply agT;split at h
          ·rename_i s5 h5;split at h
           ·rename_i g6 h6;split at h
            ·rename_i g7 y h7;split at h
             ·rename_i g8 h8;cases h;apply ma;apply me _ rfl rfl
              ·repeat((with_reducible apply di);(· conv=>whnf))
               apply di;(· (conv=>whnf);refine⟨_,_,aji K (R:=⟨env,ds,fine,nm2,false⟩) h5,?_⟩;(conv=>whnf));apply nG;rfl
              apply ma;apply me _ rfl rfl
              ·repeat((with_reducible apply di);(· conv=>whnf))
               apply di;(· (conv=>whnf);refine⟨_,_,vo (b:=(x,true)) h6,?_⟩;(conv=>whnf));apply nG;rfl
              apply ma;apply me _ rfl rfl
              ·repeat((with_reducible apply di);(· conv=>whnf))
               apply di;(· (conv=>whnf);refine⟨_,⟨by decide,eg1⟩,?_⟩;(conv=>whnf));unfold exC
               repeat((with_reducible apply di);(· conv=>whnf))
               apply di;(· (conv=>whnf);refine⟨_,_,ih _ _ _ _ hf1 h7,?_⟩;(conv=>whnf))
               repeat((with_reducible apply di);(· conv=>whnf))
               apply nG;rfl
              apply ma;apply me _ rfl rfl
              ·repeat((with_reducible apply di);(· conv=>whnf))
               apply di;(· (conv=>whnf);refine⟨_,_,acy h8,?_⟩;(conv=>whnf));apply nG;rfl
              conv=>whnf
              exact⟨rfl,rfl⟩
             ·cases h
            ·cases h
           ·cases h
          ·cases h
        ·cases h4
      ·cases h3
     ·cases h1
    ·cases h
   ·cases h
  ·cases h
 ·cases h
end
end Go.Proofs.YtgkenhpfiempbaaGreatDoor.V
