/-
  Part M15: P8, P11, F94, F95, F49, F50, F51, F52, F33, F31, F34, F20, F9, L1, L2, L3, LS, L4, L1b. Conditions stand in the theorems.
-/
import Derived.Test.YtgkenhpfiempbaaGreatDoorM09
import Derived.Test.YtgkenhpfiempbaaGreatDoorM13
import Derived.Test.YtgkenhpfiempbaaGreatDoorM14
import Derived.Shelf.Spec.TrailingZeros
import Derived.Test.YtgkenhpfiempbaaGreatDoorM12
import Derived.Lib.Strings
import Derived.Lib.Bytealg
import Derived.Lib.SmallJoins
import Derived.Lib.IndexBytes
import Derived.Shelf.Small.Strs
import Derived.Shelf.Strings.Search1
import Derived.Test.YtgkenhpfiempbaaGreatDoorProg
set_option linter.all false
set_option maxRecDepth 1000000
set_option maxHeartbeats 8000000
namespace Go.Proofs.YtgkenhpfiempbaaGreatDoor.V
open Go Go.Proofs
noncomputable section
def W64:Nat:=18446744073709551616
theorem u64w{n:Nat}(h:n<W64):IntKind.u64.wrap (n:Int)=(n:Int):=by
 unfold W64 at h;simp only[IntKind.wrap,IntKind.bits,IntKind.signed];simp;omega
theorem ofN(a:Nat):BitVec.ofInt 64 (a:Int)=BitVec.ofNat 64 a:=by simp
theorem toN{a:Nat}(h:a<W64):(BitVec.ofNat 64 a).toNat=a:=by
 unfold W64 at h;rw[BitVec.toNat_ofNat];exact Nat.mod_eq_of_lt h
theorem ajm(x:BitVec 64):x.toNat<W64:=x.isLt
theorem bvw(x:BitVec 64):IntKind.u64.wrap ((x.toNat:Nat):Int)=(x.toNat:Int):=u64w (ajm x)
theorem andW{a b:Nat}(ha:a<W64)(hb:b<W64):IntKind.u64.wrap (((BitVec.ofInt 64 (a:Int)&&&BitVec.ofInt 64 (b:Int)).toNat:Nat):Int)=((a&&&b:Nat):Int):=by
 rw[bvw,ofN,ofN,BitVec.toNat_and,toN ha,toN hb]
theorem orW{a b:Nat}(ha:a<W64)(hb:b<W64):IntKind.u64.wrap (((BitVec.ofInt 64 (a:Int)||| BitVec.ofInt 64 (b:Int)).toNat:Nat):Int)=((a||| b:Nat):Int):=by
 rw[bvw,ofN,ofN,BitVec.toNat_or,toN ha,toN hb]
theorem agw{a b:Nat}(ha:a<W64)(hb:b<W64):a||| b<W64:=Nat.or_lt_two_pow (n:=64) ha hb
theorem shrW(a k:Nat):((a:Int).fdiv ((2:Int) ^ k))=((a >>> k:Nat):Int):=by
 rw[Nat.shiftRight_eq_div_pow];have:((2:Int) ^ k)=((2 ^ k:Nat):Int):=by simp
 rw[this,Int.fdiv_eq_ediv_of_nonneg _ (ae _)];simp
theorem mP(a b:Nat):a&&&b=256*((a / 256)&&&(b / 256))+((a % 256)&&&(b % 256)):=by
 have h1:(a&&&b) / 256=(a / 256)&&&(b / 256):=by
  have:=Nat.and_div_two_pow (a:=a) (b:=b) (n:=8);simpa using this
 have h2:(a&&&b) % 256=(a % 256)&&&(b % 256):=by
  have:=Nat.and_mod_two_pow (a:=a) (b:=b) (n:=8);simpa using this
 have:=Nat.div_add_mod (a&&&b) 256;rw[h1,h2]at this;exact this.symm
def msk(m:Nat):Nat→Nat
 |0=>0
 |k+1=>256*msk m k+m
def bits:Nat→Nat→Nat
 |0,_=>0
 |n+1,x=>bits n (x / 2)+x % 2
theorem ye:∀(m n x:Nat),bits (m+n) x=bits m x+bits n (x / 2 ^ m)
 |0,n,x=>by simp[bits]
 |m+1,n,x=>by
  rw[show m+1+n=(m+n)+1 by omega];have e1:bits ((m+n)+1) x=bits (m+n) (x / 2)+x % 2:=rfl;have e2:bits (m+1) x=bits m (x / 2)+x % 2:=rfl;rw[e1,e2,ye m n (x / 2),Nat.div_div_eq_div_mul,show 2*2 ^ m=2 ^ (m+1) by rw[eu];omega];omega
theorem yd:∀(n x:Nat),bits n (x % 2 ^ n)=bits n x
 |0,x=>rfl
 |n+1,x=>by
  unfold bits;have h1:x % 2 ^ (n+1) / 2=(x / 2) % 2 ^ n:=by
   rw[eu,Nat.mul_comm,Nat.mod_mul_right_div_self]
  have h2:x % 2 ^ (n+1) % 2=x % 2:=by
   rw[eu,Nat.mul_comm,Nat.mod_mul_right_mod]
  rw[h1,h2,yd n (x / 2)]
def popK:Nat→Nat→Nat
 |0,_=>0
 |k+1,x=>popK k (x / 256)+bits 8 (x % 256)
theorem tS:∀(k x:Nat),popK k x=bits (8*k) x
 |0,x=>rfl
 |k+1,x=>by
  unfold popK;have e2:bits 8 (x % 256)=bits 8 x:=yd 8 x;rw[tS k (x / 256),e2,show 8*(k+1)=8+8*k by omega,ye];have:(2:Nat) ^ 8=256:=rfl;rw[this,Nat.add_comm]
def st1(k x:Nat):Nat:=((x / 2)&&&msk 85 k)+(x&&&msk 85 k)
def st2(k x:Nat):Nat:=((x / 4)&&&msk 51 k)+(x&&&msk 51 k)
def st3(k x:Nat):Nat:=(x / 16+x)&&&msk 15 k
theorem wK(k x:Nat):st1 (k+1) x=256*st1 k (x / 256)+st1 1 (x % 256):=by
 have h0:∀y,y<512→((y / 2) % 256)&&&85=((y % 256) / 2)&&&85:=by decide
 have h1:=h0 (x % 512) (gZ _ (by decide));have e1:(x % 512) / 2 % 256=x / 2 % 256:=by omega
 have e2:x % 512 % 256=x % 256:=by omega
 rw[e1,e2]at h1;unfold st1;simp only[msk];rw[mP (x / 2),mP x];have a1:(256*msk 85 k+85) / 256=msk 85 k:=by omega
 have a2:(256*msk 85 k+85) % 256=85:=by omega
 rw[a1,a2,h1,show x / 2 / 256=x / 256 / 2 by omega];simp only[Nat.mul_zero,bA];omega
theorem wJ(k x:Nat):st2 (k+1) x=256*st2 k (x / 256)+st2 1 (x % 256):=by
 have h0:∀y,y<1024→((y / 4) % 256)&&&51=((y % 256) / 4)&&&51:=by decide
 have h1:=h0 (x % 1024) (gZ _ (by decide));have e1:(x % 1024) / 4 % 256=x / 4 % 256:=by omega
 have e2:x % 1024 % 256=x % 256:=by omega
 rw[e1,e2]at h1;unfold st2;simp only[msk];rw[mP (x / 4),mP x];have a1:(256*msk 51 k+51) / 256=msk 51 k:=by omega
 have a2:(256*msk 51 k+51) % 256=51:=by omega
 rw[a1,a2,h1,show x / 4 / 256=x / 256 / 4 by omega];simp only[Nat.mul_zero,bA];omega
def Nib:Nat→Nat→Prop
 |0,x=>x=0
 |k+1,x=>(x % 16≤4∧x % 256 / 16≤4)∧Nib k (x / 256)
theorem afu{k x:Nat}(h:Nib k x):x % 16≤4:=by
 cases k with
 |zero=>have:x=0:=h;omega
 |succ k=>exact h.1.1
theorem ajr(y:Nat):y&&&15=y % 16:=ee (n:=4) y
theorem abV{k x:Nat}(h:Nib (k+1) x):st3 (k+1) x=256*st3 k (x / 256)+(x % 256 / 16+x % 16):=by
 obtain⟨⟨h1,h2⟩,h3⟩:=h;have h4:=afu h3;unfold st3;simp only[msk];rw[mP];have a1:(256*msk 15 k+15) / 256=msk 15 k:=by omega
 have a2:(256*msk 15 k+15) % 256=15:=by omega
 rw[a1,a2,ajr,show(x / 16+x) / 256=x / 256 / 16+x / 256 by omega];omega
theorem st12:∀(k x:Nat),x<256 ^ k→Nib k (st2 k (st1 k x))∧∀y,st3 k (st2 k (st1 k x))=y→popK k x=popK k x
 |0,x,_=>by
  refine⟨?_,fun _ _=>rfl⟩;show st2 0 (st1 0 x)=0;simp[st2,st1,msk]
 |k+1,x,h=>by
  refine⟨?_,fun _ _=>rfl⟩;have hb:∀b,b<256→st1 1 b<256∧(st2 1 (st1 1 b)<256∧st2 1 (st1 1 b) % 16≤4∧st2 1 (st1 1 b) / 16≤4):=by decide
  have hx:=hb (x % 256) (gZ _ (by decide));have ih:=(st12 k (x / 256) (by rw[eu]at h;omega)).1;rw[wK,wJ];rw[show(256*st1 k (x / 256)+st1 1 (x % 256)) / 256=st1 k (x / 256) by omega,show(256*st1 k (x / 256)+st1 1 (x % 256)) % 256=st1 1 (x % 256) by omega]
  generalize st2 k (st1 k (x / 256))=q at ih;generalize st2 1 (st1 1 (x % 256))=r at hx;refine⟨⟨by omega,by omega⟩,?_⟩;rw[show(256*q+r) / 256=q by omega];exact ih
def cnts:Nat→Nat→Nat
 |0,_=>0
 |k+1,x=>256*cnts k (x / 256)+bits 8 (x % 256)
theorem zR:∀(k x:Nat),x<256 ^ k→st3 k (st2 k (st1 k x))=cnts k x
 |0,x,_=>by simp[st3,msk,cnts]
 |k+1,x,h=>by
  have hb:∀b,b<256→st1 1 b<256∧(st2 1 (st1 1 b)<256∧st2 1 (st1 1 b) / 16+st2 1 (st1 1 b) % 16=bits 8 b):=by decide
  have hx:=hb (x % 256) (gZ _ (by decide));have ih:=zR k (x / 256) (by rw[eu]at h;omega);have hn:=(st12 (k+1) x h).1;rw[abV hn];rw[wK,wJ]
  rw[show(256*st1 k (x / 256)+st1 1 (x % 256)) / 256=st1 k (x / 256) by omega,show(256*st1 k (x / 256)+st1 1 (x % 256)) % 256=st1 1 (x % 256) by omega];unfold cnts;rw[←ih];generalize st2 k (st1 k (x / 256))=q at*;generalize st2 1 (st1 1 (x % 256))=r at*
  rw[show(256*q+r) / 256=q by omega,show(256*q+r) % 256=r by omega,show(256*q+r) % 16=r % 16 by omega];omega
theorem qO(b:Nat):bits 8 b≤8:=by
 simp only[bits];omega
def swar(x:Nat):Nat:=
 let t:=st3 8 (st2 8 (st1 8 x))
 let a:=t+t / 256
 let b:=a+a / 65536
 (b+b / 4294967296) % 128
theorem aeX{x:Nat}(h:x<W64):swar x=bits 64 x:=by
 have h1:=zR 8 x h;have h2:bits 64 x=popK 8 x:=(tS 8 x).symm;unfold swar;simp only[h1,h2,cnts,popK];have b0:=qO (x % 256);have b1:=qO (x / 256 % 256);have b2:=qO (x / 256 / 256 % 256);have b3:=qO (x / 256 / 256 / 256 % 256);have b4:=qO (x / 256 / 256 / 256 / 256 % 256)
 have b5:=qO (x / 256 / 256 / 256 / 256 / 256 % 256);have b6:=qO (x / 256 / 256 / 256 / 256 / 256 / 256 % 256);have b7:=qO (x / 256 / 256 / 256 / 256 / 256 / 256 / 256 % 256);generalize bits 8 (x % 256)=c0 at*;generalize bits 8 (x / 256 % 256)=c1 at*
 generalize bits 8 (x / 256 / 256 % 256)=c2 at*;generalize bits 8 (x / 256 / 256 / 256 % 256)=c3 at*;generalize bits 8 (x / 256 / 256 / 256 / 256 % 256)=c4 at*;generalize bits 8 (x / 256 / 256 / 256 / 256 / 256 % 256)=c5 at*;generalize bits 8 (x / 256 / 256 / 256 / 256 / 256 / 256 % 256)=c6 at*
 generalize bits 8 (x / 256 / 256 / 256 / 256 / 256 / 256 / 256 % 256)=c7 at*;clear h1 h2;have e1:(256*(256*(256*(256*(256*(256*(256*(256*0+c7)+c6)+c5)+c4)+c3)+c2)+c1)+c0) / 256=256*(256*(256*(256*(256*(256*c7+c6)+c5)+c4)+c3)+c2)+c1:=by omega
 rw[e1];generalize ha:256*(256*(256*(256*(256*(256*(256*(256*0+c7)+c6)+c5)+c4)+c3)+c2)+c1)+c0+(256*(256*(256*(256*(256*(256*c7+c6)+c5)+c4)+c3)+c2)+c1)=a;have ea:a=256*(256*(256*(256*(256*(256*(256*c7+(c6+c7))+(c5+c6))+(c4+c5))+(c3+c4))+(c2+c3))+(c1+c2))+(c0+c1):=by omega
 clear ha e1;have e2:a / 65536=256*(256*(256*(256*(256*c7+(c6+c7))+(c5+c6))+(c4+c5))+(c3+c4))+(c2+c3):=by omega
 rw[e2];generalize hb:a+(256*(256*(256*(256*(256*c7+(c6+c7))+(c5+c6))+(c4+c5))+(c3+c4))+(c2+c3))=b;have eb:b=4294967296*(256*(256*(256*c7+(c6+c7))+(c5+c6+c7))+(c4+c5+c6+c7))+(16777216*(c3+c4+c5+c6)+65536*(c2+c3+c4+c5)+256*(c1+c2+c3+c4)+(c0+c1+c2+c3)):=by omega
 clear hb e2 ea;have e3:b / 4294967296=256*(256*(256*c7+(c6+c7))+(c5+c6+c7))+(c4+c5+c6+c7):=by omega
 rw[e3,eb];omega
theorem pC(a b:Nat):a&&&b=2*((a / 2)&&&(b / 2))+((a % 2)&&&(b % 2)):=by
 have h1:(a&&&b) / 2=(a / 2)&&&(b / 2):=by
  have:=Nat.and_div_two_pow (a:=a) (b:=b) (n:=1);simpa using this
 have h2:(a&&&b) % 2=(a % 2)&&&(b % 2):=by
  have:=Nat.and_mod_two_pow (a:=a) (b:=b) (n:=1);simpa using this
 have:=Nat.div_add_mod (a&&&b) 2;rw[h1,h2]at this;exact this.symm
def clr(x:Nat):Nat:=x&&&(x-1)
theorem afS{x:Nat}(h:x % 2=1):clr x=2*(x / 2):=by
 unfold clr;rw[pC,show(x-1) / 2=x / 2 by omega,show(x-1) % 2=0 by omega,Nat.and_self,Nat.and_zero];rfl
theorem aeh{x:Nat}(h:x % 2=0)(h0:x≠0):clr x=2*clr (x / 2):=by
 unfold clr;rw[pC,show(x-1) / 2=x / 2-1 by omega,h,Nat.zero_and];rfl
theorem ph:∀(n x:Nat),x≠0→x<2 ^ n→bits n (clr x)+1=bits n x
 |0,x,h0,h=>by simp at h;omega
 |n+1,x,h0,h=>by
  have hb:∀y,bits (n+1) y=bits n (y / 2)+y % 2:=fun _=>rfl;rw[hb,hb];rcases eW x with hx|hx
  ·rw[aeh hx h0,show 2*clr (x / 2) / 2=clr (x / 2) by omega];have:=ph n (x / 2) (by omega) (by rw[eu]at h;omega);omega
  ·rw[afS hx,show 2*(x / 2) / 2=x / 2 by omega];omega
theorem iK:∀n,bits n 0=0
 |0=>rfl
 |n+1=>by
  have hb:bits (n+1) 0=bits n (0 / 2)+0 % 2:=rfl;rw[hb];simpa using iK n
theorem po:∀n x,bits n x≤n
 |0,_=>au _
 |n+1,x=>by
  have hb:bits (n+1) x=bits n (x / 2)+x % 2:=rfl;have:=po n (x / 2);omega
theorem aew:∀(n x:Nat),x≠0→x<2 ^ n→0<bits n x:=fun n x h0 h=>by
 have:=ph n x h0 h;omega
def clrN:Nat→Nat→Nat
 |0,x=>x
 |k+1,x=>clrN k (clr x)
theorem zo{x:Nat}(h:x<W64):clr x<W64:=hE Nat.and_le_left h
theorem vX:∀(k x:Nat),x<W64→k<bits 64 x→clrN k x≠0∧clrN k x<W64∧∀i,(clrN k x).testBit i=true→x.testBit i=true
 |0,x,h,hk=>⟨fun e=>by
  have e:x=0:=e;subst e;rw[iK]at hk;omega,h,fun _ h=>h⟩
 |k+1,x,h,hk=>by
  have h0:x≠0:=fun e=>by subst e;rw[iK]at hk;omega
  have hc:=ph 64 x h0 h;obtain⟨h1,h2,h3⟩:=vX k (clr x) (zo h) (by omega);refine⟨h1,h2,fun i hi=>?_⟩;have:=h3 i hi;unfold clr at this;rw[Nat.testBit_and,aw]at this;exact this.1
def tz:Nat→Nat→Nat
 |0,_=>0
 |n+1,x=>if x % 2=1 then 0 else tz n (x / 2)+1
theorem uz:∀(n y:Nat),y<2 ^ n→y&&&(2 ^ n-1-y)=0
 |0,y,h=>by
  have:y=0:=by simpa using h
  subst this;rfl
 |n+1,y,h=>by
  rw[eu]at h ⊢;rw[pC,show(2 ^ n*2-1-y) / 2=2 ^ n-1-y / 2 by omega,uz n (y / 2) (by omega)];rcases eW y with hy|hy
  ·rw[hy,Nat.zero_and]
  ·rw[show(2 ^ n*2-1-y) % 2=0 by omega,Nat.and_zero]
theorem rb:∀(n x:Nat),x≠0→x<2 ^ n→x&&&(2 ^ n-x)=2 ^ tz n x∧tz n x<n∧x.testBit (tz n x)=true
 |0,x,h0,h=>by simp at h;omega
 |n+1,x,h0,h=>by
  rw[eu]at h ⊢;unfold tz;rcases eW x with hx|hx
  ·rw[if_neg (by omega)];obtain⟨h1,h2,h3⟩:=rb n (x / 2) (by omega) (by omega);refine⟨?_,by omega,?_⟩
   ·rw[pC,show(2 ^ n*2-x) / 2=2 ^ n-x / 2 by omega,h1,hx,Nat.zero_and,eu];omega
   ·rw[Nat.testBit_succ];exact h3
  ·rw[if_pos hx];refine⟨?_,by omega,?_⟩
   ·rw[pC,show(2 ^ n*2-x) / 2=2 ^ n-1-x / 2 by omega,uz n (x / 2) (by omega),hx,show(2 ^ n*2-x) % 2=1 by omega];rfl
   ·rw[Nat.testBit_zero];simp[hx]
def setZ(ws:List Nat)(i:Nat):List Nat:=ws.set (i / 64) (ws.getD (i / 64) 0||| 2 ^ (i % 64))
def enZ:List Bool→Nat→List Nat→List Nat
 | [],_,ws=>ws
 |b::l,i,ws=>enZ l (i+1) (if b then setZ ws i else ws)
def nN(ws:List Nat)(i:Nat):Bool:=(ws.getD (i / 64) 0).testBit (i % 64)
theorem wQ(ws:List Nat)(i:Nat):(setZ ws i).length=ws.length:=by simp[setZ]
theorem acf{ws:List Nat}{i j:Nat}(hi:i / 64<ws.length):nN (setZ ws i) j=(nN ws j|| decide (j=i)):=by
 unfold nN setZ;by_cases h:i / 64=j / 64
 ·rw[h,aC,cV (by omega),bG,kc,fy]
  congr 1
  apply decide_eq_decide.2;omega
 ·rw[aC,eG h,←aC,af (by intro e;exact h (by rw[e])),gP]
theorem zU{ws:List Nat}{i:Nat}(h:∀w∈ws,w<W64):∀w∈setZ ws i,w<W64:=by
 intro w hw;unfold setZ at hw;rcases List.mem_or_eq_of_mem_set hw with h1|rfl
 ·exact h _ h1
 ·refine agw ?_ ?_
  ·rw[aC];cases hq:ws[i / 64]? with
   |none=>decide
   |some x=>exact h _ (bi hq)
  ·exact fk (by decide) (gZ _ (by decide))
theorem adY:∀(l:List Bool) (i:Nat) (ws:List Nat),(∀w∈ws,w<W64)→(i+l.length) / 64<ws.length→
 (∀w∈enZ l i ws,w<W64)∧(enZ l i ws).length=ws.length∧∀j,nN (enZ l i ws) j=(nN ws j|| (decide (i≤j)&&l.getD (j-i) false))
 | [],i,ws,h1,h2=>⟨h1,rfl,fun j=>by simp[enZ]⟩
 |b::l,i,ws,h1,h2=>by
  rw[aT]at h2;have ih:=adY l (i+1) (if b then setZ ws i else ws) (by cases b;exact h1;exact zU h1) (by cases b;(show _<ws.length;omega);(show _<(setZ ws i).length;rw[wQ];omega));obtain⟨a1,a2,a3⟩:=ih;refine⟨a1,by rw[enZ,a2];split<;>simp only[wQ],fun j=>?_⟩;rw[enZ,a3]
  have hs:=acf (ws:=ws) (i:=i) (j:=j) (by omega);rcases db j i with hj|hj|hj
  ·cases b<;>simp[hs,show ¬i≤j by omega,show ¬i+1≤j by omega,show ¬j=i by omega]
  ·subst hj;cases b<;>simp[hs,show ¬j+1≤j by omega]
  ·rw[show j-i=(j-(i+1))+1 by omega,List.getD_cons_succ];cases b<;>simp[hs,show i≤j by omega,show i+1≤j by omega,show ¬j=i by omega]
def dP:List Nat→Nat
 | []=>0
 |w::ws=>dP ws+bits 64 w
def kP(i lim:Int):Nat→Nat→Int→Int
 |0,_,c=>c
 |f+1,w,c=>kP i lim f (clr w) (if i*64+(tz 64 w:Int)≤lim then c+1 else c)
def fT(lim:Int):List Nat→Nat→Int→Int
 | [],_,c=>c
 |w::ws,i,c=>fT lim ws (i+1) (kP i lim (bits 64 w) w c)
theorem qt(i lim:Int):∀(f w:Nat) (c:Int),c≤kP i lim f w c∧kP i lim f w c≤c+f
 |0,w,c=>by simp[kP]
 |f+1,w,c=>by
  unfold kP;have:=qt i lim f (clr w) (if i*64+(tz 64 w:Int)≤lim then c+1 else c);split at this<;>split<;>omega
theorem jZ(lim:Int):∀(ws:List Nat) (i:Nat) (c:Int),c≤fT lim ws i c∧fT lim ws i c≤c+64*ws.length
 | [],i,c=>by simp[fT]
 |w::ws,i,c=>by
  unfold fT;have h1:=qt i lim (bits 64 w) w c;have h2:=po 64 w;have h3:=jZ lim ws (i+1) (kP i lim (bits 64 w) w c);rw[aT];omega
def atZ:List Nat→Nat→Nat→Int
 | [],_,_=> -1
 |w::ws,n,i=>if bits 64 w≤n then atZ ws (n-bits 64 w) (i+1) else((i*64+tz 64 (clrN n w):Nat):Int)
theorem aeD:∀(ws:List Nat) (n i:Nat),(∀w∈ws,w<W64)→n<dP ws→∃k m,atZ ws n i=(((i+k)*64+m:Nat):Int)∧m<64∧k<ws.length∧(ws.getD k 0).testBit m=true
 | [],n,i,_,h=>by simp[dP]at h
 |w::ws,n,i,hw,h=>by
  unfold atZ;have hb:dP (w::ws)=dP ws+bits 64 w:=rfl;split
  ·rename_i hle;obtain⟨k,m,h1,h2,h3,h4⟩:=aeD ws (n-bits 64 w) (i+1) (fun x hx=>hw x (aD _ hx)) (by omega);refine⟨k+1,m,?_,h2,by simp;omega,by simpa using h4⟩;rw[h1]
   congr 1
   omega
  ·rename_i hlt;have hww:=hw w (aI ..);obtain⟨h1,h2,h3⟩:=vX n w hww (by omega);obtain⟨-,g2,g3⟩:=rb 64 (clrN n w) h1 h2;exact⟨0,tz 64 (clrN n w),by simp,g2,by simp,by simpa using h3 _ g3⟩
theorem sS:∀{ws:List Nat} {k:Nat},(∀w∈ws,w<W64)→ws.getD k 0≠0→0<dP ws
 | [],k,_,h=>by simp at h
 |w::ws,0,hw,h=>by
  have:=aew 64 w (by simpa using h) (hw w (aI ..));unfold dP;omega
 |w::ws,k+1,hw,h=>by
  have:=sS (ws:=ws) (k:=k) (fun x hx=>hw x (aD _ hx)) (by simpa using h);unfold dP;omega
theorem nz:∀ws:List Nat,dP ws≤64*ws.length
 | []=>au _
 |w::ws=>by
  have:=nz ws;have:=po 64 w;unfold dP;rw[aT];omega
def dU(en:List Bool):List Nat:=enZ en 0 (List.replicate (en.length / 64+1) 0)
theorem zD(n j:Nat):nN (List.replicate n 0) j=false:=by
 unfold nN;rw[aC,eI];split<;>simp
theorem pH(en:List Bool):(∀w∈dU en,w<W64)∧(dU en).length=en.length / 64+1∧∀j,nN (dU en) j=en.getD j false:=by
 obtain⟨h1,h2,h3⟩:=adY en 0 (List.replicate (en.length / 64+1) 0) (fun w hw=>by rw[(fX.1 hw).2];decide) (by simp);refine⟨h1,by rw[dU,h2];simp,fun j=>?_⟩;rw[dU,h3,zD];simp
def kH(en:List Bool)(picks:List Int)(at_ last:Int):Nat:=
 let c:=dP (dU en)
 match at? picks at_ with
 |some k=>(((k.tmod c+c).tmod c)).toNat
 |none=>((fT last (dU en) 0 0).tmod c).toNat
def sd(en:List Bool)(picks:List Int)(at_ last:Int):Int:=atZ (dU en) (kH en picks at_ last) 0
theorem kR{a c:Int}(h:0<c): -c<a.tmod c∧a.tmod c<c:=by
 have h1:=Int.tmod_lt_of_pos a h;have h2: -c<a.tmod c:=by
  have:=Int.neg_tmod a c;have h3:=Int.tmod_lt_of_pos (-a) h;rw[this]at h3;omega
 exact⟨h2,h1⟩
theorem tV{en:List Bool}{picks:List Int}{at_ last:Int}(h:0<dP (dU en)):kH en picks at_ last<dP (dU en):=by
 unfold kH;generalize dP (dU en)=c at*;simp only;have hc:(0:Int)<c:=by omega
 split
 ·rename_i k hk;obtain⟨h1,h2⟩:=kR (a:=k) hc;obtain⟨h3,h4⟩:=kR (a:=k.tmod c+c) hc;have:=jn (a:=k.tmod c+c) c (by omega);omega
 ·have:=jZ last (dU en) 0 0;obtain⟨h3,h4⟩:=kR (a:=fT last (dU en) 0 0) hc;have:=jn (a:=fT last (dU en) 0 0) c (by omega);omega
theorem tM{en:List Bool}{j:Nat}(h:en[j]?=some true):0<dP (dU en):=by
 obtain⟨h1,h2,h3⟩:=pH en;refine sS (k:=j / 64) h1 fun e=>?_;have:=h3 j;unfold nN at this;rw[e,aC,h]at this;simp at this
theorem adc{en:List Bool}{picks:List Int}{at_ last:Int}{j:Nat}(h:en[j]?=some true):0≤sd en picks at_ last∧en[(sd en picks at_ last).toNat]?=some true:=by
 obtain⟨h1,h2,h3⟩:=pH en;obtain⟨k,m,a1,a2,a3,a4⟩:=aeD (dU en) (kH en picks at_ last) 0 h1 (tV (tM h));unfold sd;rw[a1];refine⟨ae _,?_⟩;rw[cv];have:=h3 ((0+k)*64+m);unfold nN at this
 rw[show((0+k)*64+m) / 64=k by omega,show((0+k)*64+m) % 64=m by omega,a4,aC]at this;cases hq:en[(0+k)*64+m]? with
 |none=>rw[hq]at this;cases this
 |some b=>rw[hq]at this;simp at this;rw[←this]
theorem m85:msk 85 8=6148914691236517205:=by decide
theorem m51:msk 51 8=3689348814741910323:=by decide
theorem m15:msk 15 8=1085102592571150095:=by decide
theorem aix{n:Nat}(h:n<W64):IntKind.u64.wrap (IntKind.u64.wrap ↑(BitVec.ofInt IntKind.u64.bits ↑(n / 2)&&&BitVec.ofInt IntKind.u64.bits 6148914691236517205).toNat+IntKind.u64.wrap ↑(BitVec.ofInt IntKind.u64.bits ↑n&&&BitVec.ofInt IntKind.u64.bits 6148914691236517205).toNat)=((st1 8 n:Nat):Int):=by
 show IntKind.u64.wrap (IntKind.u64.wrap (((BitVec.ofInt 64 ((n / 2:Nat):Int)&&&BitVec.ofInt 64 ((6148914691236517205:Nat):Int)).toNat:Nat):Int)+IntKind.u64.wrap (((BitVec.ofInt 64 (n:Int)&&&BitVec.ofInt 64 ((6148914691236517205:Nat):Int)).toNat:Nat):Int))=_
 have e1:=@dL (n / 2) 6148914691236517205;have e2:=@dL n 6148914691236517205;rw[andW (by unfold W64 at h ⊢;omega) (by decide),andW h (by decide),←jo,u64w (by unfold W64;omega)];unfold st1;rw[m85]
theorem aiw{n:Nat}(h:n<W64):IntKind.u64.wrap (IntKind.u64.wrap ↑(BitVec.ofInt IntKind.u64.bits ↑(n / 4)&&&BitVec.ofInt IntKind.u64.bits 3689348814741910323).toNat+IntKind.u64.wrap ↑(BitVec.ofInt IntKind.u64.bits ↑n&&&BitVec.ofInt IntKind.u64.bits 3689348814741910323).toNat)=((st2 8 n:Nat):Int):=by
 show IntKind.u64.wrap (IntKind.u64.wrap (((BitVec.ofInt 64 ((n / 4:Nat):Int)&&&BitVec.ofInt 64 ((3689348814741910323:Nat):Int)).toNat:Nat):Int)+IntKind.u64.wrap (((BitVec.ofInt 64 (n:Int)&&&BitVec.ofInt 64 ((3689348814741910323:Nat):Int)).toNat:Nat):Int))=_
 have e1:=@dL (n / 4) 3689348814741910323;have e2:=@dL n 3689348814741910323;rw[andW (by unfold W64 at h ⊢;omega) (by decide),andW h (by decide),←jo,u64w (by unfold W64;omega)];unfold st2;rw[m51]
theorem aiv{n:Nat}(h:n / 16+n<W64):IntKind.u64.wrap ↑(BitVec.ofInt IntKind.u64.bits (IntKind.u64.wrap (↑(n / 16)+ ↑n))&&&BitVec.ofInt IntKind.u64.bits 1085102592571150095).toNat=((st3 8 n:Nat):Int):=by
 rw[←jo,u64w h];show IntKind.u64.wrap (((BitVec.ofInt 64 ((n / 16+n:Nat):Int)&&&BitVec.ofInt 64 ((1085102592571150095:Nat):Int)).toNat:Nat):Int)=_;rw[andW h (by decide)];unfold st3;rw[m15]
theorem fdv(n k:Nat):(n:Int).fdiv (2 ^ k)=((n / 2 ^ k:Nat):Int):=by rw[shrW,Nat.shiftRight_eq_div_pow]
theorem ahh(n:Nat):st2 8 n≤7378697629483820646:=by
 have e1:=@dL (n / 4) (msk 51 8);have e2:=@dL n (msk 51 8);rw[m51]at e1 e2;unfold st2;rw[m51];omega
theorem ahg(n:Nat):st3 8 n≤1085102592571150095:=by
 have e1:=@dL (n / 16+n) (msk 15 8);rw[m15]at e1;unfold st3;rw[m15];exact e1
theorem ahi(n:Nat):st1 8 n<W64:=by
 have e1:=@dL (n / 2) (msk 85 8);have e2:=@dL n (msk 85 8);rw[m85]at e1 e2;unfold st1 W64;rw[m85];omega
theorem addW{a b:Nat}(h:a+b<W64):IntKind.u64.wrap (↑a+ ↑b)=((a+b:Nat):Int):=by rw[←jo,u64w h]
theorem aal{n:Nat}(h:n<W64):Cw 94 [.one (.v (.int .u64 n))] [.val (.one (iv (bits 64 n)))] []:=by
 have hs:=aeX h;unfold swar at hs;simp only at hs;refine cw {} Tryz.func94 (by kernel_rfl) ?_;conv=>whnf
 rw[show(n:Int).fdiv (2 ^ min (Int.toNat 1) IntKind.u64.bits)=((n / 2:Nat):Int) from fdv n 1];refine⟨by decide,?_⟩;conv=>whnf
 rw[aix h];have h1:=ahi n;generalize st1 8 n=a at*;rw[show(a:Int).fdiv (2 ^ min (Int.toNat 2) IntKind.u64.bits)=((a / 4:Nat):Int) from fdv a 2];refine⟨by decide,?_⟩;conv=>whnf
 rw[aiw h1];have h2:=ahh a;generalize st2 8 a=b at*;rw[show(b:Int).fdiv (2 ^ min (Int.toNat 4) IntKind.u64.bits)=((b / 16:Nat):Int) from fdv b 4];refine⟨by decide,?_⟩;conv=>whnf
 rw[aiv (by unfold W64;omega)];have h3:=ahg b;generalize st3 8 b=c at*;rw[show(c:Int).fdiv (2 ^ min (Int.toNat 8) IntKind.u64.bits)=((c / 256:Nat):Int) from fdv c 8];refine⟨by decide,?_⟩;conv=>whnf
 rw[addW (by unfold W64;omega)];generalize hd:c+c / 256=d at*;rw[show(d:Int).fdiv (2 ^ min (Int.toNat 16) IntKind.u64.bits)=((d / 65536:Nat):Int) from fdv d 16];refine⟨by decide,?_⟩;conv=>whnf
 rw[addW (by unfold W64;omega)];generalize he:d+d / 65536=e at*;rw[show(e:Int).fdiv (2 ^ min (Int.toNat 32) IntKind.u64.bits)=((e / 4294967296:Nat):Int) from fdv e 32];refine⟨by decide,?_⟩;conv=>whnf
 refine⟨?_,rfl⟩;have hf:e+e / 4294967296<2305843009213693952:=by omega
 have e1:IntKind.i64.wrap (((BitVec.ofInt 64 (IntKind.i64.wrap (IntKind.u64.wrap (((e:Nat):Int)+((e / 4294967296:Nat):Int))))&&&BitVec.ofInt 64 127).toNat:Nat):Int)=(bits 64 n:Int):=by
  rw[addW (by unfold W64;omega)];generalize e+e / 4294967296=f at*;rw[show IntKind.i64.wrap (f:Int)=(f:Int) from i64w (by omega) (by omega),show((127:Int))=((127:Nat):Int) from rfl,ofN,ofN,BitVec.toNat_and,toN (by unfold W64;omega),toN (by decide)]
  have:f&&&127=f % 128:=ee (n:=7) f;rw[this,hs];have:=po 64 n;exact i64w (by omega) (by omega)
 exact congrArg (fun x=>[WRes.val (.one (iv x))]) e1
end
end Go.Proofs.YtgkenhpfiempbaaGreatDoor.V
namespace Go.Proofs
open Go.Shelf
def Tryz.lays29_ren:Go.Shelf.Ren:=⟨fun|29=>95|n=>n,fun|22=>95|25=>112|54=>267|n=>n,fun|1=>2|n=>n⟩
theorem Tryz.lays29:Go.Proofs.Lays7.n29 Tryz.prog Tryz.lays29_ren:={
 mixed:=by kernel_rfl
 f29:=Tryz.func95.trans (congrArg some (by kernel_rfl))
 t0:=Tryz.underlying0
 a0:=Tryz.isAgg0
 z0:=Tryz.sizeOf0
 v0:=Tryz.zeroValue0
 i0:=by kernel_rfl
 t3:=Tryz.underlying3
 a3:=Tryz.isAgg3
 z3:=Tryz.sizeOf3
 v3:=Tryz.zeroValue3
 i3:=by kernel_rfl
 t4:=Tryz.underlying4
 a4:=Tryz.isAgg4
 z4:=Tryz.sizeOf4
 v4:=Tryz.zeroValue4
 i4:=by kernel_rfl
 t5:=Tryz.underlying5
 a5:=Tryz.isAgg5
 z5:=Tryz.sizeOf5
 v5:=Tryz.zeroValue5
 i5:=by kernel_rfl
 t22:=Tryz.underlying95
 a22:=Tryz.isAgg95
 z22:=Tryz.sizeOf95
 v22:=Tryz.zeroValue95
 i22:=by kernel_rfl
 t25:=Tryz.underlying112
 a25:=Tryz.isAgg112
 z25:=Tryz.sizeOf112
 v25:=Tryz.zeroValue112
 i25:=by kernel_rfl
 t54:=Tryz.underlying267
 a54:=Tryz.isAgg267
 z54:=Tryz.sizeOf267
 g1:=by kernel_rfl}
end Go.Proofs
namespace Go.Proofs.YtgkenhpfiempbaaGreatDoor.V
open Go Go.Proofs
set_option maxRecDepth 100000
set_option maxHeartbeats 4000000
theorem ctzF:∀n x:Nat,Lib.ctzFrom n x=tz n x
 |0,_=>rfl
 |n+1,x=>by unfold Lib.ctzFrom tz;rw[ctzF n (x / 2),Nat.add_comm 1]
theorem afY:∀j,j<64→bruT[j]?=some (.v (.int .u8 (Lib.deBruijn64tab.getD j 0))):=by
 intro j hj;have e:bruT=Lib.deBruijn64tab.map (fun n:Nat=>AC.v (.int .u8 (n:Int))):=rfl;have hl:j<Lib.deBruijn64tab.length:=hj;rw[e,aG,ad hl,aC,ad hl];rfl
theorem acv{κ:Con}{H:Fz}{x u:Value}(h:ACr κ H (.v x) u):u=x:=by cases h;rfl
theorem agl{n:Nat}(h:n<W64)(h0:n≠0):Cw 95 [.one (.v (.int .u64 n))] [.val (.one (iv (tz 64 n)))] []:=by
 intro H w us bss hfz hG hargs hnd;obtain⟨u1,b1,rfl,rfl,h1⟩:=agO hargs
 ·have h1:TrR H w (.v (.int .u64 n)) u1 b1:=h1;cases h1 with|pers _ _ h2=>
  obtain rfl:=acv h2;have hT:TabAt 2 Lib.deBruijn64tab w:=fun j hj=>by
   have hg:=hG 2 bruT rfl;generalize hp:(⟨2,0,none⟩:Addr)=p at hg;cases hg with|ref _ _ b off us hl hu hr=>
   have e:=afY j hj;have hjl:j<us.length:=by rw[hl];exact(aq.1 e).1
   have hju:=ad hjl;obtain hv:=acv (hr j _ _ e hju);have:=hfz _ _ _ (hu j _ hju);rw[hv]at this;injection hp with q1 q2
   have q2:off=0:=by omega
   subst q1;subst q2;rw[bA]at this;exact this
  refine(Any7.bits_TrailingZeros64 Tryz.lays29 n h w fun _=>hT).mono fun e w' ⟨he,hw⟩=>⟨_,H,he,?_⟩;subst hw;refine⟨Fz.le_refl H,hfz,fun b hb hn=>⟨rfl,rfl⟩,au _,rfl,rfl,rfl,[_],[],[[]],?_,?_,rfl,by simp,by simp⟩
  ·exact .inl ⟨rfl,trivial⟩
  ·refine⟨⟨?_,rfl⟩,trivial⟩;unfold Lib.ctz;rw[if_neg h0,ctzF];exact .one _ _ (.v _ rfl)
end Go.Proofs.YtgkenhpfiempbaaGreatDoor.V
namespace Go.Proofs.YtgkenhpfiempbaaGreatDoor.V
open Go Go.Proofs
noncomputable section
def u64v(n:Nat):AC:=.v (.int .u64 (n:Int))
def dV(ws:List Nat):List (List AC):=ws.map fun n=>[u64v n]
theorem lu(ws:List Nat):(dV ws).length=ws.length:=by simp[dV]
theorem jL{ws:List Nat}{i:Nat}{n:Nat}(h:ws[i]?=some n):(dV ws)[i]?=some [u64v n]:=by simp[dV,h]
theorem ajq{i:Nat}(h:i<9223372036854775808):IntKind.i64.wrap (((BitVec.ofInt IntKind.i64.bits (i:Int)&&&BitVec.ofInt IntKind.i64.bits 63).toNat:Nat):Int)=((i % 64:Nat):Int):=by
 show IntKind.i64.wrap (((BitVec.ofInt 64 (i:Int)&&&BitVec.ofInt 64 ((63:Nat):Int)).toNat:Nat):Int)=_;rw[ofN,ofN,BitVec.toNat_and,toN (by unfold W64;omega),toN (by decide),show i&&&63=i % 64 from ee (n:=6) i];exact i64w (by omega) (by omega)
theorem shl1{m:Nat}(h:m<64):IntKind.u64.wrap (1*2 ^ min ((m:Nat):Int).toNat IntKind.u64.bits)=((2 ^ m:Nat):Int):=by
 have e:min ((m:Nat):Int).toNat IntKind.u64.bits=m:=by
  rw[cv];show min m 64=m;omega
 rw[e,Int.one_mul,show((2:Int) ^ m)=((2 ^ m:Nat):Int) by simp];exact u64w (fk (by decide) h)
theorem orWu{a b:Nat}(ha:a<W64)(hb:b<W64):IntKind.u64.wrap (((BitVec.ofInt IntKind.u64.bits (a:Int)||| BitVec.ofInt IntKind.u64.bits (b:Int)).toNat:Nat):Int)=((a||| b:Nat):Int):=orW ha hb
theorem yr(ws:List Nat)(i n:Nat):(dV ws).set i [u64v n]=dV (ws.set i n):=by simp[dV,bX]
def M49:Md:={}
theorem aiM{en:List Bool}(hl:en.length≤4294967296):Cw 49 [.one (.own 4 1 (dh en))] [.val (.one (.sl 95 1 (dV (dU en)) none))] [.own 4 1 (dh en)]:=by
 have hbl:=jJ en;refine cw M49 Tryz.func49 (by kernel_rfl) ?_;conv=>whnf
 refine⟨by decide,?_⟩;conv=>whnf
 have hd:(((dh en).length:Int)).tdiv 64=((en.length / 64:Nat):Int):=by rw[hbl,Int.tdiv_eq_ediv_of_nonneg (ae _)];omega
 have hd2:IntKind.i64.wrap (IntKind.i64.wrap (((dh en).length:Int).tdiv 64)+1)=((en.length / 64+1:Nat):Int):=by
  rw[hd,i64w (x:=((en.length / 64:Nat):Int)) (by omega) (by omega),i64w (by omega) (by omega)];omega
 rw[hd2];refine⟨⟨rfl,ae _,by show((en.length / 64+1:Nat):Int)≤(lim 8:Nat);simp[lim];omega⟩,?_⟩;conv=>whnf
 refine⟨fun j st=>∃i ws,i+j=en.length∧ws.length=en.length / 64+1∧(∀w∈ws,w<W64)∧enZ (en.drop i) i ws=dU en∧st=⟨[(13,.one (iv i)),(12,.one (iv (dh en).length)),(11,.one (.rref 3000 0 (dh en).length)),(3,.one (.rref 10 0 (dV ws).length)),(0,.one (.rref 3000 0 (dh en).length)),(OB+10,.ob 10 0 (.row 95 1 (dV ws))),(OB+3000,.ob 3000 0 (.row 4 1 (dh en)))],[],[aS 10,aS 3000]⟩,
  ⟨en.length,_,ww [13,12,11,3,0] [] [10,3000] [] rfl,0,List.replicate (en.length / 64+1) 0,by omega,by simp,fun w hw=>by rw[(fX.1 hw).2];decide,rfl,?_⟩,?_⟩
 ·have q:dV (List.replicate (en.length / 64+1) 0)=List.replicate (en.length / 64+1) [u64v 0]:=by simp[dV]
  rw[q,gl];rfl
 rintro j st ⟨i,ws,hij,hwl,hwz,hq,rfl⟩;have hcl:=lu ws;conv=>whnf
 cases j with
 |zero=>
  rw[af (p:=(i:Int)<((dh en).length:Int)) (by omega)];rw[ap (by omega)]at hq;have hq:ws=dU en:=hq;subst hq;conv=>whnf
  exact⟨rfl,rfl⟩
 |succ j=>
  rw[ag (p:=(i:Int)<((dh en).length:Int)) (by omega)];have him:i<en.length:=by omega
  rw[aj him]at hq;have eg:=gd (ad him);generalize en[i]=b at hq eg;unfold enZ at hq;have hw1:IntKind.i64.wrap ((i:Int)+1)=((i+1:Nat):Int):=by rw[i64w (by omega) (by omega)];omega
  conv=>whnf
  refine⟨⟨ae _,by omega⟩,?_⟩;conv=>whnf
  refine⟨_,⟨ae _,eg⟩,?_⟩;conv=>whnf
  cases b with
  |false=>
   conv=>whnf
   rw[hw1];exact⟨j,_,ah j,ww [13,12,11,3,0] [] [10,3000] [] rfl,i+1,ws,by omega,hwl,hwz,hq,rfl⟩
  |true=>
   have hk:i / 64<ws.length:=by omega
   have ew:=ad hk;have hs:setZ ws i=ws.set (i / 64) (ws[i / 64]||| 2 ^ (i % 64)):=by
    unfold setZ;rw[aC,ew];rfl
   have hz:=hwz _ (bp hk);have hz2:=zU (i:=i) hwz;rw[if_pos rfl,hs]at hq;rw[hs]at hz2;generalize ws[i / 64]=x at*;conv=>whnf
   rw[show(i:Int).fdiv (2 ^ min (Int.toNat 6) IntKind.i64.bits)=((i / 64:Nat):Int) from fdv i 6];rw[show IntKind.i64=IntKind.i64 from rfl];refine⟨by decide,?_⟩;conv=>whnf
   refine⟨⟨ae _,by omega⟩,?_⟩;conv=>whnf
   refine⟨_,⟨ae _,jL ew⟩,?_⟩;conv=>whnf
   rw[ajq (by omega)];refine⟨ae _,?_⟩;conv=>whnf
   rw[shl1 (gZ _ (by decide))];have hp:2 ^ (i % 64)<W64:=fk (by decide) (gZ _ (by decide));rw[orWu hz hp];refine⟨⟨ae _,by omega⟩,?_⟩;conv=>whnf
   refine⟨_,⟨ae _,jL ew⟩,?_⟩;conv=>whnf
   refine⟨aN (by kernel_rfl),?_⟩;conv=>whnf
   rw[hw1];refine⟨j,_,ah j,ww [13,12,11,3,0] [] [10,3000] [] rfl,i+1,ws.set (i / 64) (x||| 2 ^ (i % 64)),by omega,by simp[hwl],hz2,hq,?_⟩;rw[←yr,dt];rfl
theorem qM{ws:List Nat}{i w:Nat}(h:ws[i]?=some w):dP (ws.drop i)=dP (ws.drop (i+1))+bits 64 w:=by
 obtain⟨hi,rfl⟩:=aq.1 h;rw[aj hi];rfl
theorem aed{ws:List Nat}(hw:∀w∈ws,w<W64)(hl:ws.length≤4294967296):Cw 50 [.one (.sl 95 1 (dV ws) none)] [.val (.one (iv (dP ws)))] []:=by
 have hcl:=lu ws;refine cw {} Tryz.func50 (by kernel_rfl) ?_;conv=>whnf
 refine⟨fun j st=>∃i c,i+j=ws.length∧c+dP (ws.drop i)=dP ws∧st=⟨[(8,.one (iv i)),(7,.one (iv (dV ws).length)),(6,.one (.sl 95 1 (dV ws) none)),(3,.one (iv (c:Nat)))],[],[]⟩,
  ⟨ws.length,_,ww [8,7,6,3] [] [] [] rfl,0,0,by omega,by simp,rfl⟩,?_⟩
 rintro j st ⟨i,c,hij,hc,rfl⟩;conv=>whnf
 cases j with
 |zero=>
  rw[af (p:=(i:Int)<((dV ws).length:Int)) (by omega)];rw[ap (by omega)]at hc;have hc:c=dP ws:=hc;subst hc;conv=>whnf
  exact⟨rfl,rfl⟩
 |succ j=>
  rw[ag (p:=(i:Int)<((dV ws).length:Int)) (by omega)];have him:i<ws.length:=by omega
  have ew:=ad him;have hwm:=hw _ (bp him);have hle:=nz ws;generalize ws[i]=x at*;rw[qM ew]at hc;conv=>whnf
  refine⟨_,⟨ae _,jL ew⟩,?_⟩;conv=>whnf
  refine⟨_,_,aal hwm,?_⟩;conv=>whnf
  rw[i64s i (by omega)];rw[show IntKind.i64.wrap ((c:Int)+(bits 64 x:Nat))=((c+bits 64 x:Nat):Int) by rw[i64w (by omega) (by omega)];omega];exact⟨j,_,ah j,ww [8,7,6,3] [] [] [] rfl,i+1,c+bits 64 x,by omega,by omega,rfl⟩
theorem clrW{x:Nat}(h:x<W64)(h0:x≠0):IntKind.u64.wrap (((BitVec.ofInt IntKind.u64.bits (x:Int)&&&BitVec.ofInt IntKind.u64.bits (IntKind.u64.wrap ((x:Int)-1))).toNat:Nat):Int)=((clr x:Nat):Int):=by
 rw[show(x:Int)-1=((x-1:Nat):Int) by omega,u64w (n:=x-1) (by omega)];exact andW (b:=x-1) h (by omega)
theorem place{i m:Nat}(hi:i<4294967296)(hm:m<64):IntKind.i64.wrap (((BitVec.ofInt IntKind.i64.bits (IntKind.i64.wrap ((i:Int)*2 ^ min (Int.toNat 6) IntKind.i64.bits))||| BitVec.ofInt IntKind.i64.bits (m:Int)).toNat:Nat):Int)=((i*64+m:Nat):Int):=by
 have e1:IntKind.i64.wrap ((i:Int)*2 ^ min (Int.toNat 6) IntKind.i64.bits)=((i*64:Nat):Int):=by
  rw[show(2:Int) ^ min (Int.toNat 6) IntKind.i64.bits=64 from rfl,i64w (by omega) (by omega)];omega
 rw[e1];show IntKind.i64.wrap (((BitVec.ofInt 64 ((i*64:Nat):Int)||| BitVec.ofInt 64 (m:Int)).toNat:Nat):Int)=_;rw[ofN,ofN,BitVec.toNat_or,toN (by unfold W64;omega),toN (by unfold W64;omega)];have:i*64||| m=i*64+m:=by
  have:=Nat.shiftLeft_add_eq_or_of_lt (b:=m) (i:=6) hm i;rw[Nat.shiftLeft_eq]at this;exact this.symm
 rw[this];exact i64w (by omega) (by omega)
theorem aig{ws:List Nat}{lim:Int}(hw:∀w∈ws,w<W64)(hl:ws.length≤4294967296):Cw 51 [.one (.sl 95 1 (dV ws) none),.one (iv lim)] [.val (.one (iv (fT lim ws 0 0)))] []:=by
 have hcl:=lu ws;have hle:=jZ lim ws 0 0;generalize hR:fT lim ws 0 0=R at*;refine cw {} Tryz.func51 (by kernel_rfl) ?_;conv=>whnf
 refine⟨fun j st=>∃i c,i+j=ws.length∧0≤c∧fT lim (ws.drop i) i c=R∧st=⟨[(10,.one (iv i)),(9,.one (iv (dV ws).length)),(8,.one (.sl 95 1 (dV ws) none)),(5,.one (iv c)),(1,.one (iv lim))],[],[]⟩,
  ⟨ws.length,_,ww [10,9,8,5,1] [] [] [] rfl,0,0,by omega,by omega,hR,rfl⟩,?_⟩
 rintro j st ⟨i,c,hij,hc0,hc,rfl⟩;conv=>whnf
 cases j with
 |zero=>
  rw[af (p:=(i:Int)<((dV ws).length:Int)) (by omega)];rw[ap (by omega)]at hc;have hc:c=R:=hc;conv=>whnf
  exact⟨by rw[hc];rfl,rfl⟩
 |succ j=>
  rw[ag (p:=(i:Int)<((dV ws).length:Int)) (by omega)];have him:i<ws.length:=by omega
  have ew:=ad him;have hwm:=hw _ (bp him);rw[aj him]at hc;generalize ws[i]=x at*;unfold fT at hc;generalize hr:kP (i:Int) lim (bits 64 x) x c=r at hc;have hr2:=jZ lim (ws.drop (i+1)) (i+1) r;conv=>whnf
  refine⟨_,⟨ae _,jL ew⟩,?_⟩;conv=>whnf
  refine⟨fun m st=>∃y d,m=bits 64 y∧y<W64∧0≤d∧kP (i:Int) lim (bits 64 y) y d=r∧st=⟨[(5,.one (iv d)),(7,.one (u64v y)),(6,.one (iv i)),(10,.one (iv i)),(9,.one (iv (dV ws).length)),(8,.one (.sl 95 1 (dV ws) none)),(1,.one (iv lim))],[],[]⟩,
   ⟨bits 64 x,_,ww [5,7,6,10,9,8,1] [] [] [] rfl,x,c,rfl,hwm,hc0,hr,rfl⟩,?_⟩
  rintro m st ⟨y,d,hm,hy,hd,hrd,rfl⟩;conv=>whnf
  by_cases h0:y=0
  ·subst h0;rw[iK]at hrd;have hrd:d=r:=hrd;conv=>whnf
   rw[i64s i (by omega)];exact⟨j,_,ah j,ww [10,9,8,5,1] [] [] [] rfl,i+1,d,by omega,hd,by rw[hrd];exact hc,rfl⟩
  ·rw[af (p:=(y:Int)=0) (by omega)];have hb:=ph 64 y h0 hy;rw[←hb]at hrd;unfold kP at hrd;obtain⟨-,hz,-⟩:=rb 64 y h0 hy;have hdr:=qt (i:Int) lim (bits 64 (clr y)) (clr y) (if(i:Int)*64+(tz 64 y:Int)≤lim then d+1 else d);conv=>whnf
   refine⟨by decide,?_⟩;conv=>whnf
   refine⟨_,_,agl hy h0,?_⟩;conv=>whnf
   rw[place (by omega) hz];by_cases hlm:((i*64+tz 64 y:Nat):Int)≤lim
   ·rw[ag hlm];rw[if_pos (by push_cast at hlm;exact hlm)]at hrd hdr;conv=>whnf
    rw[clrW hy h0,show IntKind.i64.wrap (d+1)=d+1 from i64w (by omega) (by omega)];exact⟨_,_,by omega,ww [5,7,6,10,9,8,1] [] [] [] rfl,clr y,d+1,rfl,zo hy,by omega,hrd,rfl⟩
   ·rw[af hlm];rw[if_neg (by push_cast at hlm;exact hlm)]at hrd hdr;conv=>whnf
    rw[clrW hy h0];exact⟨_,_,by omega,ww [5,7,6,10,9,8,1] [] [] [] rfl,clr y,d,rfl,zo hy,hd,hrd,rfl⟩
theorem uA:∀(k x:Nat),clrN (k+1) x=clr (clrN k x)
 |0,_=>rfl
 |k+1,x=>uA k (clr x)
theorem ajo{ws:List Nat}{n:Nat}(hw:∀w∈ws,w<W64)(hl:ws.length≤4294967296)(hn:n<dP ws):Cw 52 [.one (.sl 95 1 (dV ws) none),.one (iv n)] [.val (.one (iv (atZ ws n 0)))] []:=by
 have hcl:=lu ws;have hle:=nz ws;generalize hR:atZ ws n 0=R at*;refine cw {} Tryz.func52 (by kernel_rfl) ?_;conv=>whnf
 refine⟨fun j st=>∃i p,i+j=ws.length∧p≤n∧p<dP (ws.drop i)∧atZ (ws.drop i) p i=R∧st=⟨[(10,.one (iv i)),(9,.one (iv (dV ws).length)),(8,.one (.sl 95 1 (dV ws) none)),(1,.one (iv (p:Nat)))],[],[]⟩,
  ⟨ws.length,_,ww [10,9,8,1] [] [] [] rfl,0,n,by omega,au _,hn,hR,rfl⟩,?_⟩
 rintro j st ⟨i,p,hij,hpn,hp,hq,rfl⟩;conv=>whnf
 cases j with
 |zero=>
  rw[ap (by omega)]at hp;exact absurd hp (jk _)
 |succ j=>
  rw[ag (p:=(i:Int)<((dV ws).length:Int)) (by omega)];have him:i<ws.length:=by omega
  have ew:=ad him;have hwm:=hw _ (bp him);rw[qM ew]at hp;rw[aj him]at hq;generalize ws[i]=x at*;unfold atZ at hq;conv=>whnf
  refine⟨_,⟨ae _,jL ew⟩,?_⟩;conv=>whnf
  refine⟨_,_,aal hwm,?_⟩;conv=>whnf
  by_cases hb:bits 64 x≤p
  ·rw[if_pos hb]at hq;rw[ag (p:=((bits 64 x:Nat):Int)≤(p:Int)) (by omega)];conv=>whnf
   rw[i64s i (by omega)];rw[show IntKind.i64.wrap ((p:Int)-(bits 64 x:Nat))=((p-bits 64 x:Nat):Int) by rw[i64w (by omega) (by omega)];omega];exact⟨j,_,ah j,ww [10,9,8,1] [] [] [] rfl,i+1,p-bits 64 x,by omega,by omega,by omega,hq,rfl⟩
  ·rw[if_neg hb]at hq;rw[af (p:=((bits 64 x:Nat):Int)≤(p:Int)) (by omega)];conv=>whnf
   refine⟨fun m st=>∃k,k+m=p∧st=⟨[(24,.one (iv (k:Nat))),(23,.one (iv (p:Nat))),(6,.one (u64v (clrN k x))),(5,.one (iv i))],[],[]⟩,
    ⟨p,_,ww [24,23,6,5] [] [] [] rfl,0,by omega,rfl⟩,?_⟩
   rintro m st ⟨k,hkm,rfl⟩;obtain⟨c1,c2,-⟩:=vX k x hwm (by omega);conv=>whnf
   cases m with
   |zero=>
    rw[af (p:=(k:Int)<(p:Int)) (by omega)];obtain rfl:k=p:=by omega
    obtain⟨-,hz,-⟩:=rb 64 _ c1 c2;conv=>whnf
    refine⟨by decide,?_⟩;conv=>whnf
    refine⟨_,_,agl c2 c1,?_⟩;conv=>whnf
    rw[place (by omega) hz,hq];exact⟨rfl,rfl⟩
   |succ m=>
    rw[ag (p:=(k:Int)<(p:Int)) (by omega)];conv=>whnf
    rw[clrW c2 c1,←uA,show IntKind.i64.wrap ((k:Int)+1)=((k+1:Nat):Int) by rw[i64w (by omega) (by omega)];omega];exact⟨m,_,ah m,ww [24,23,6,5] [] [] [] rfl,k+1,by omega,rfl⟩
def M32:Md:={ mt:=[4]}
def pst(picks:List Int)(at_ last:Int):AV:=.agg [.sl 3 1 (ints picks) none,iv at_,iv last]
theorem abU{picks:List Int}(hl:picks.length≤LIM):Cw 32 [.one (.sl 3 1 (ints picks) none)] [.val (pst picks 0 (-1))] []:=by
 have hil:=bh picks;unfold LIM at hl;refine cw M32 Tryz.func32 (by kernel_rfl) ?_;conv=>whnf
 refine⟨by show(ints picks).length≤lim 8;simp[lim];omega,?_⟩;conv=>whnf
 exact⟨rfl,rfl⟩
theorem afv{en:List Bool}{picks:List Int}{at_ last:Int}{j:Nat}(hl:en.length≤4294967296)(hp:picks.length≤LIM)(h0:0≤at_)(h1:at_≤picks.length)(hj:en[j]?=some true):
 ∃i at2:Int,0≤i∧en[i.toNat]?=some true∧0≤at2∧at2≤picks.length∧Cw 33 [pst picks at_ last,.one (.own 4 1 (dh en))] [.val (.one (iv i)),.val (pst picks at2 i)] [.own 4 1 (dh en)]:=by
 obtain⟨w1,w2,w3⟩:=pH en;have hz:=adc (picks:=picks) (at_:=at_) (last:=last) hj;have hpos:=tM hj;have hlt:=tV (picks:=picks) (at_:=at_) (last:=last) hpos;have hil:=bh picks;have hle:=nz (dU en);have hof:=aiM hl;have hco:=aed w1 (by omega)
 have hbe:=aig (lim:=last) w1 (by omega);have hat:=ajo w1 (by omega) hlt;have hbl:=jZ last (dU en) 0 0;unfold LIM at hp;by_cases hc:at_<picks.length
 ·obtain⟨k,hk⟩:∃k,picks[at_.toNat]?=some k:=⟨_,ad (by omega)⟩;have hn:kH en picks at_ last=(((k.tmod (dP (dU en))+dP (dU en)).tmod (dP (dU en)))).toNat:=by
   unfold kH at?;rw[if_pos h0,hk]
  refine⟨sd en picks at_ last,at_+1,hz.1,hz.2,by omega,by omega,?_⟩;unfold sd at*;generalize kH en picks at_ last=n at*;generalize dU en=ws at*;generalize dP ws=c at*;generalize atZ ws n 0=r at*;generalize fT last ws 0 0=b at*;have hc0:(0:Int)<c:=by omega
  have t1:=kR (a:=k) hc0;have t2:=kR (a:=k.tmod c+c) hc0;have t3:=jn (a:=k.tmod c+c) c (by omega);refine cw {} Tryz.func33 (by kernel_rfl) ?_;conv=>whnf
  refine⟨_,_,hof,?_⟩;conv=>whnf
  refine⟨_,_,hco,?_⟩;conv=>whnf
  rw[af (p:=(c:Int)=0) (by omega)];conv=>whnf
  refine⟨_,_,hbe,?_⟩;conv=>whnf
  refine⟨by omega,?_⟩;conv=>whnf
  rw[ag h0];conv=>whnf
  rw[ag (p:=at_<((ints picks).length:Int)) (by omega)];conv=>whnf
  refine⟨_,⟨h0,bD hk⟩,?_⟩;conv=>whnf
  refine⟨by omega,?_⟩;conv=>whnf
  rw[show IntKind.i64.wrap (k.tmod c+c)=k.tmod c+c from i64w (by omega) (by omega)];refine⟨by omega,?_⟩;conv=>whnf
  rw[show IntKind.i64.wrap (at_+1)=at_+1 from i64w (by omega) (by omega)];rw[show(k.tmod c+c).tmod c=((n:Nat):Int) by omega];refine⟨_,_,hat,?_⟩;conv=>whnf
  refine⟨aN (by kernel_rfl),?_⟩;conv=>whnf
  exact⟨rfl,rfl⟩
 ·have hn:kH en picks at_ last=((fT last (dU en) 0 0).tmod (dP (dU en))).toNat:=by
   unfold kH at?;rw[if_pos h0,bI (by omega)]
  refine⟨sd en picks at_ last,at_,hz.1,hz.2,by omega,by omega,?_⟩;unfold sd at*;generalize kH en picks at_ last=n at*;generalize dU en=ws at*;generalize dP ws=c at*;generalize atZ ws n 0=r at*;generalize fT last ws 0 0=b at*;have hc0:(0:Int)<c:=by omega
  have t1:=kR (a:=b) hc0;have t3:=jn (a:=b) c (by omega);refine cw {} Tryz.func33 (by kernel_rfl) ?_;conv=>whnf
  refine⟨_,_,hof,?_⟩;conv=>whnf
  refine⟨_,_,hco,?_⟩;conv=>whnf
  rw[af (p:=(c:Int)=0) (by omega)];conv=>whnf
  refine⟨_,_,hbe,?_⟩;conv=>whnf
  refine⟨by omega,?_⟩;conv=>whnf
  rw[ag h0];conv=>whnf
  rw[af (p:=at_<((ints picks).length:Int)) (by omega)];conv=>whnf
  rw[show b.tmod c=((n:Nat):Int) by omega];refine⟨_,_,hat,?_⟩;conv=>whnf
  refine⟨aN (by kernel_rfl),?_⟩;conv=>whnf
  exact⟨rfl,rfl⟩
structure Po where
 ws:List (List Int)
 wv:Int
 rd:List Int
 left:Int
 busy:Nat
 ts:List (Int×Int×Int)
def tsk3(t:Int×Int×Int):List AC:=[iv t.1,iv t.2.1,iv t.2.2]
def tsk(l:List (Int×Int×Int)):List (List AC):=l.map tsk3
theorem zN(l:List (Int×Int×Int)):(tsk l).length=l.length:=by simp[tsk]
theorem aeV(l:List (Int×Int×Int))(i:Nat)(t:Int×Int×Int):(tsk l).set i (tsk3 t)=tsk (l.set i t):=by simp[tsk,bX]
theorem zO{l:List (Int×Int×Int)}{i:Nat}{t:Int×Int×Int}(h:l[i]?=some t):(tsk l)[i]?=some (tsk3 t):=by simp[tsk,h]
def poA(p:Po):AC:=.obox 97 [.sl 24 1 (aW p.ws) none,iv p.wv,.sl 3 1 (ints p.rd) none,iv p.left,u64v p.busy,.own 105 3 (tsk p.ts)]
def poB(p:Po):Nat×Box:=(1500,⟨0,97,[.sl 24 1 (aW p.ws) none,iv p.wv,.sl 3 1 (ints p.rd) none,iv p.left,u64v p.busy,.rref 100101 0 (tsk p.ts).length]⟩)
def poO(p:Po):Nat×AV:=(OB+100101,.ob 100101 0 (.row 105 3 (tsk p.ts)))
def refR:List (List Int)→Po→Po
 | [],p=>p
 |l::ws,p=>if p.left=0 then refR ws { p with ws:=ws,wv:=p.wv+1,rd:=l,left:=l.length} else p
def poSt(p:Po):St:=⟨[(0,.one (.ptr 1500 0 0)),poO p],[poB p],[aS 100101]⟩
theorem tL{p:Po}(hl:p.ws.length≤LIM)(hw:∀l∈p.ws,l.length≤LIM)(h0: -1≤p.wv)(h1:p.wv+p.ws.length≤LIM):Cw 31 [.one (poA p)] [] [poA (refR p.ws p)]:=by
 generalize hR:refR p.ws p=R;refine cw {} Tryz.func31 (by kernel_rfl) ?_;conv=>whnf
 refine⟨fun j st=>∃p:Po,p.ws.length=j∧p.ws.length≤LIM∧(∀l∈p.ws,l.length≤LIM)∧ -1≤p.wv∧p.wv+p.ws.length≤LIM∧refR p.ws p=R∧st=poSt p,
  ⟨p.ws.length,_,ww [0] [1500] [100101] [] rfl,p,rfl,hl,hw,h0,h1,hR,rfl⟩,?_⟩
 clear hl hw h0 h1 hR;rintro j st ⟨⟨ws,wv,rd,left,busy,ts⟩,hj,hl,hw,h0,h1,hq,rfl⟩;simp only at hj hl hw h0 h1 hq;have hrl:=dS ws;unfold LIM at*;unfold poSt poO poB;simp only;conv=>whnf
 by_cases hz:left=0
 ·rw[ag hz];conv=>whnf
  cases ws with
  |nil=>
   have hq:(⟨[],wv,rd,left,busy,ts⟩:Po)=R:=hq;subst hq;conv=>whnf
   exact⟨rfl,rfl⟩
  |cons l ws=>
   have hll:=hw l (aI ..);unfold refR at hq;simp only at hq;rw[if_pos hz]at hq;have hrl:((aW (l::ws)).length:Int)=ws.length+1:=by rw[dS];rfl
   rw[ag (p:=(0:Int)<((aW (l::ws)).length:Int)) (by omega)];have e0:(aW (l::ws))[(0:Int).toNat]?=some [.sl 3 1 (ints l) none]:=rfl;have hln:=bh l;rw[aT]at hl h1;conv=>whnf
   refine⟨_,⟨fP 0,e0⟩,?_⟩;conv=>whnf
   refine⟨_,⟨fP 0,e0⟩,?_⟩;conv=>whnf
   refine⟨aN (by kernel_rfl),?_⟩;conv=>whnf
   refine⟨⟨by omega,by omega,by omega⟩,?_⟩;conv=>whnf
   rw[show IntKind.i64.wrap (wv+1)=wv+1 from i64w (by omega) (by omega)];refine⟨ws.length,_,?_,ww [0] [1500] [100101] [] rfl,⟨ws,wv+1,l,l.length,busy,ts⟩,rfl,?_,?_,?_,?_,hq,?_⟩
   ·rw[←hj,aT];omega
   ·show ws.length≤_;omega
   ·exact fun l hl=>hw l (aD _ hl)
   ·show -1≤wv+1;omega
   ·show wv+1+(ws.length:Int)≤_;omega
   ·rw[hln];rfl
 ·rw[af hz];conv=>whnf
  have hq:(⟨ws,wv,rd,left,busy,ts⟩:Po)=R:=by
   rw[←hq];cases ws with
   |nil=>rfl
   |cons l ws=>unfold refR;simp only;rw[if_neg hz]
  subst hq;exact⟨rfl,rfl⟩
theorem sZ:∀(n i x:Nat),i<n→x.testBit i=false→bits n (x||| 2 ^ i)=bits n x+1
 |0,i,_,h,_=>absurd h (jk _)
 |n+1,0,x,_,hb=>by
  have e:∀y,bits (n+1) y=bits n (y / 2)+y % 2:=fun _=>rfl;rw[Nat.testBit_zero]at hb;have hx:x % 2=0:=by have:=ca hb;omega
  have h1:(x||| 2 ^ 0) / 2=x / 2:=by
   have:=Nat.or_div_two_pow (a:=x) (b:=1) (n:=1);simpa using this
  have h2:(x||| 2 ^ 0) % 2=1:=by
   have:=Nat.or_mod_two_pow (a:=x) (b:=1) (n:=1);rw[show(2:Nat) ^ 1=2 from rfl]at this;rw[show(2:Nat) ^ 0=1 from rfl,this,hx];rfl
  rw[e,e,h1,h2,hx]
 |n+1,i+1,x,h,hb=>by
  have e:∀y,bits (n+1) y=bits n (y / 2)+y % 2:=fun _=>rfl;rw[Nat.testBit_succ]at hb;have h1:(x||| 2 ^ (i+1)) / 2=x / 2||| 2 ^ i:=by
   have:=Nat.or_div_two_pow (a:=x) (b:=2 ^ (i+1)) (n:=1);rw[show(2:Nat) ^ 1=2 from rfl]at this;rw[this,show 2 ^ (i+1) / 2=2 ^ i by rw[eu];omega]
  have h2:(x||| 2 ^ (i+1)) % 2=x % 2:=by
   have:=Nat.or_mod_two_pow (a:=x) (b:=2 ^ (i+1)) (n:=1);rw[show(2:Nat) ^ 1=2 from rfl]at this;rw[this,show 2 ^ (i+1) % 2=0 by rw[eu];omega];simp
  rw[e,e,h1,h2,sZ n i (x / 2) (by omega) hb];omega
def iJ(x i:Nat):Nat:=(BitVec.ofNat 64 x&&& ~~~ BitVec.ofNat 64 (2 ^ i)).toNat
theorem uB(x i:Nat):iJ x i<W64:=(BitVec.ofNat 64 x&&& ~~~ BitVec.ofNat 64 (2 ^ i)).isLt
theorem om{x i k:Nat}(hx:x<W64)(hi:i<64):(iJ x i).testBit k=(x.testBit k&& !decide (i=k)):=by
 by_cases hk:k<64
 ·unfold iJ;rw[BitVec.testBit_toNat,BitVec.getLsbD_and,BitVec.getLsbD_not,BitVec.getLsbD_ofNat,BitVec.getLsbD_ofNat,fy];simp[hk]
 ·rw[Nat.testBit_lt_two_pow (bd (uB x i) (Nat.pow_le_pow_right (n:=2) (by decide) (show 64≤k by omega))),Nat.testBit_lt_two_pow (bd hx (Nat.pow_le_pow_right (n:=2) (by decide) (show 64≤k by omega)))];rfl
theorem aex{x i:Nat}(hx:x<W64)(hi:i<64)(hb:x.testBit i=true):bits 64 (iJ x i)+1=bits 64 x:=by
 have h1:=sZ 64 i (iJ x i) hi (by rw[om hx hi];simp);rw[←h1]
 congr 1
 refine Nat.eq_of_testBit_eq fun k=>?_;rw[kc,om hx hi,fy];by_cases hk:i=k
 ·subst hk;simp[hb]
 ·simp[hk]
theorem bitW{b i:Nat}(hb:b<W64)(hi:i<64):IntKind.u64.wrap (((BitVec.ofInt IntKind.u64.bits ((b:Int).fdiv (2 ^ min ((i:Nat):Int).toNat IntKind.u64.bits))&&&BitVec.ofInt IntKind.u64.bits 1).toNat:Nat):Int)=((cond (b.testBit i) 1 0:Nat):Int):=by
 have e:min ((i:Nat):Int).toNat IntKind.u64.bits=i:=by
  rw[cv];show min i 64=i;omega
 have e2:b / 2 ^ i<W64:=hE (Nat.div_le_self _ _) hb;rw[e,fdv];have:=andW (b:=1) e2 (by decide);refine Eq.trans this ?_;rw[show b / 2 ^ i&&&1=b / 2 ^ i % 2 from ee (n:=1) _,Nat.testBit_eq_decide_div_mod_eq]
 rcases eW (b / 2 ^ i) with h|h<;>rw[h]<;>rfl
theorem afT{b i:Nat}:IntKind.u64.wrap (((BitVec.ofInt IntKind.u64.bits (b:Int)&&& ~~~ BitVec.ofInt IntKind.u64.bits ((2 ^ i:Nat):Int)).toNat:Nat):Int)=((iJ b i:Nat):Int):=by
 show IntKind.u64.wrap (((BitVec.ofInt 64 (b:Int)&&& ~~~ BitVec.ofInt 64 ((2 ^ i:Nat):Int)).toNat:Nat):Int)=_;rw[bvw,ofN,ofN];rfl
def uR(p:Po)(i:Nat)(l:Int)(now:Int)(rd:List Int):Po:=⟨p.ws,p.wv,rd,p.left,p.busy||| 2 ^ i,p.ts.set i (l,p.wv,now)⟩
def yz(p:Po)(i:Nat):Po:=refR p.ws ⟨p.ws,p.wv,p.rd,p.left-1,iJ p.busy i,p.ts⟩
theorem aiD{p:Po}{i:Nat}{now l:Int}{rd:List Int}(hi:i<p.ts.length)(hi2:i<64)(hb:p.busy<W64)(hlo:p.busy.testBit i=false)(hrd:p.rd=l::rd):
 Cw 34 [.one (poA p),.one (iv i),.one (iv now)] [.val (.one (bv false))] [poA (uR p i l now rd)]:=by
 obtain⟨ws,wv,rd0,left,busy,ts⟩:=p;simp only at hi hb hlo hrd;subst hrd;have htl:=zN ts;have hrl:=bh (l::rd);rw[aT]at hrl;obtain⟨t0,et⟩:∃t0,ts[i]?=some t0:=⟨_,ad hi⟩;unfold poA uR;dsimp only;refine cw {} Tryz.func34 (by kernel_rfl) ?_;conv=>whnf
 refine⟨ae _,?_⟩;conv=>whnf
 rw[bitW hb hi2,hlo];conv=>whnf
 refine⟨_,⟨fP 0,(rfl:(ints (l::rd))[(0:Int).toNat]?=some [iv l])⟩,?_⟩;conv=>whnf
 refine⟨⟨ae _,by omega⟩,?_⟩;conv=>whnf
 refine⟨_,⟨ae _,zO et⟩,?_⟩;conv=>whnf
 refine⟨aN (by kernel_rfl),?_⟩;conv=>whnf
 refine⟨⟨by omega,by omega,by omega⟩,?_⟩;conv=>whnf
 refine⟨ae _,?_⟩;conv=>whnf
 rw[shl1 hi2,orWu hb (fk (by decide) hi2)];refine⟨aN (by kernel_rfl),?_⟩;conv=>whnf
 refine⟨rfl,?_⟩;have e2:(tsk ts).set (i:Int).toNat (over (tsk3 t0) 0 [iv l,iv wv,iv now])=tsk (ts.set i (l,wv,now)):=by
  rw[←aeV];rfl
 exact congrArg (fun z=>[AC.obox 97 [.sl 24 1 (aW ws) none,iv wv,.sl 3 1 (ints rd) none,iv left,u64v (busy||| 2 ^ i),.own 105 3 z]]) e2
theorem ahu{p:Po}{i:Nat}{now:Int}(hi2:i<64)(hb:p.busy<W64)(hlo:p.busy.testBit i=true)(h1:1≤p.left)(h2:p.left≤LIM)(hl:p.ws.length≤LIM)(hw:∀l∈p.ws,l.length≤LIM)(h3: -1≤p.wv)(h4:p.wv+p.ws.length≤LIM):
 Cw 34 [.one (poA p),.one (iv i),.one (iv now)] [.val (.one (bv true))] [poA (yz p i)]:=by
 obtain⟨ws,wv,rd,left,busy,ts⟩:=p;have hr:=tL (p:=⟨ws,wv,rd,left-1,iJ busy i,ts⟩) hl hw h3 h4;simp only at hb hlo h1 h2;unfold LIM at h2;unfold yz;generalize refR _ _=R at*;unfold poA at hr ⊢;dsimp only at hr ⊢;refine cw {} Tryz.func34 (by kernel_rfl) ?_;conv=>whnf
 refine⟨ae _,?_⟩;conv=>whnf
 rw[bitW hb hi2,hlo];conv=>whnf
 refine⟨ae _,?_⟩;conv=>whnf
 rw[shl1 hi2,afT];refine⟨aN (by kernel_rfl),?_⟩;conv=>whnf
 rw[show IntKind.i64.wrap (left-1)=left-1 from i64w (by omega) (by omega)];refine⟨_,_,hr,?_⟩;conv=>whnf
 exact⟨rfl,rfl⟩
def lens:List (List Int)→Nat
 | []=>0
 |l::ws=>lens ws+l.length
theorem si:∀{ws:List (List Int)} {l:List Int},l∈ws→l.length≤lens ws
 |l0::ws,l,h=>by
  unfold lens;rcases aV.1 h with rfl|h
  ·omega
  ·have:=si h;omega
def wkP(p:Po):Nat:=2*(lens p.ws+p.rd.length)+bits 64 p.busy
structure PoOk(n:Nat)(p:Po):Prop where
 left:p.left=p.rd.length+bits 64 p.busy
 busy:p.busy<W64
 bit:∀k,p.busy.testBit k=true→k<n
 ts:p.ts.length=n
 wv: -1≤p.wv
 wl:p.wv+p.ws.length≤LIM
 wn:p.ws.length≤LIM
theorem vj{n:Nat}:∀{ws:List (List Int)} {p:Po},p.ws=ws→PoOk n p→PoOk n (refR ws p)∧wkP (refR ws p)=wkP p∧((refR ws p).left=0→(refR ws p).ws=[])
 | [],p,hw,h=>⟨h,rfl,fun _=>hw⟩
 |l::ws,p,hw,h=>by
  unfold refR;split
  ·rename_i h0;have hl:=h.left;have h1:p.rd.length=0:=by omega
   have h2:bits 64 p.busy=0:=by omega
   have hwl:=h.wl;rw[hw,aT]at hwl;have:=vj (n:=n) (ws:=ws) (p:={ p with ws:=ws,wv:=p.wv+1,rd:=l,left:=l.length}) rfl
    {left:=by show(l.length:Int)=l.length+bits 64 p.busy;omega,busy:=h.busy,bit:=h.bit,ts:=h.ts,wv:=by have:=h.wv;show -1≤p.wv+1;omega,wl:=by show p.wv+1+(ws.length:Int)≤LIM;omega,wn:=by have:=h.wn;rw[hw,aT]at this;show ws.length≤LIM;omega}
   refine⟨this.1,?_,this.2.2⟩;rw[this.2.1];unfold wkP;rw[hw];show 2*(lens ws+l.length)+bits 64 p.busy=2*(lens ws+l.length+p.rd.length)+bits 64 p.busy;omega
  ·rename_i h0;exact⟨h,rfl,fun e=>absurd e h0⟩
theorem agY{a:AV}{r:List WRes}:LeRs (.val a::r) (.val .undef::r):=⟨fun _ _ _ _ h=>⟨.undef _,h.2⟩,LeRs.refl _⟩
def M20:Md:={ mt:=[111]}
def plSt(n:Nat)(p:Po)(en:List Bool)(picks:List Int)(at_ last:Int)(evs:List (List AC))(steps:Nat):St:=
 ⟨[(7,.one (iv steps)),(6,.one (.rref 111 0 evs.length)),(11,.one (.ptr 42 0 0)),(12,.one (.ptr 12 0 0)),(13,.one (.rref 48 0 n)),(OB+111,.ob 111 0 (.row 110 8 evs)),(OB+6789,.ob 6789 0 (.row 105 3 (tsk p.ts))),(OB+48,.ob 48 0 (.row 4 1 (dh en)))],
  [(42,⟨0,97,[.sl 24 1 (aW p.ws) none,iv p.wv,.sl 3 1 (ints p.rd) none,iv p.left,u64v p.busy,.rref 6789 0 (tsk p.ts).length]⟩),(12,⟨0,99,[.sl 3 1 (ints picks) none,iv at_,iv last]⟩)],[aS 111,aS 6789,aS 48]⟩
def inSt(i n:Nat)(p:Po)(en:List Bool)(picks:List Int)(at_ last:Int)(evs:List (List AC))(steps:Nat):St:=
 ⟨[(56,.one (iv i)),(55,.one (iv n)),(7,.one (iv steps)),(6,.one (.rref 111 0 evs.length)),(11,.one (.ptr 42 0 0)),(12,.one (.ptr 12 0 0)),(13,.one (.rref 48 0 n)),(OB+111,.ob 111 0 (.row 110 8 evs)),(OB+6789,.ob 6789 0 (.row 105 3 (tsk p.ts))),(OB+48,.ob 48 0 (.row 4 1 (dh en)))],
  [(42,⟨0,97,[.sl 24 1 (aW p.ws) none,iv p.wv,.sl 3 1 (ints p.rd) none,iv p.left,u64v p.busy,.rref 6789 0 (tsk p.ts).length]⟩),(12,⟨0,99,[.sl 3 1 (ints picks) none,iv at_,iv last]⟩)],[aS 111,aS 6789,aS 48]⟩
def plS2(n:Nat)(p:Po)(en:List Bool)(picks:List Int)(at_ last:Int)(evs:List (List AC))(steps:Nat):St:=
 ⟨(57,.one (bv false))::(inSt n n p en picks at_ last evs steps).tmps,(inSt n n p en picks at_ last evs steps).boxes,[aS 111,aS 6789,aS 48]⟩
theorem xx(i n:Nat)(p:Po)(en:List Bool)(k:Nat)(b:Bool)(picks:List Int)(at_ last:Int)(evs:List (List AC))(steps:Nat):inSt i n p (en.set k b) picks at_ last evs steps=
 ⟨[(56,.one (iv i)),(55,.one (iv n)),(7,.one (iv steps)),(6,.one (.rref 111 0 evs.length)),(11,.one (.ptr 42 0 0)),(12,.one (.ptr 12 0 0)),(13,.one (.rref 48 0 n)),(OB+111,.ob 111 0 (.row 110 8 evs)),(OB+6789,.ob 6789 0 (.row 105 3 (tsk p.ts))),(OB+48,.ob 48 0 (.row 4 1 ((dh en).set k [bv b])))],
  [(42,⟨0,97,[.sl 24 1 (aW p.ws) none,iv p.wv,.sl 3 1 (ints p.rd) none,iv p.left,u64v p.busy,.rref 6789 0 (tsk p.ts).length]⟩),(12,⟨0,99,[.sl 3 1 (ints picks) none,iv at_,iv last]⟩)],[aS 111,aS 6789,aS 48]⟩:=by
 unfold inSt;rw[←nC]
theorem acz(n:Nat)(p:Po)(en:List Bool)(picks:List Int)(at_ last:Int)(evs:List (List AC))(ev:List AC)(steps:Nat):plSt n p en picks at_ last (evs++[ev]) steps=
 ⟨[(7,.one (iv steps)),(6,.one (.rref 111 0 (evs.length+1))),(11,.one (.ptr 42 0 0)),(12,.one (.ptr 12 0 0)),(13,.one (.rref 48 0 n)),(OB+111,.ob 111 0 (.row 110 8 (evs++[ev]))),(OB+6789,.ob 6789 0 (.row 105 3 (tsk p.ts))),(OB+48,.ob 48 0 (.row 4 1 (dh en)))],
  [(42,⟨0,97,[.sl 24 1 (aW p.ws) none,iv p.wv,.sl 3 1 (ints p.rd) none,iv p.left,u64v p.busy,.rref 6789 0 (tsk p.ts).length]⟩),(12,⟨0,99,[.sl 3 1 (ints picks) none,iv at_,iv last]⟩)],[aS 111,aS 6789,aS 48]⟩:=by
 unfold plSt;rw[aH];rfl
theorem aag{ws:List (List Int)}{n:Nat}{picks:List Int}(hn:1≤n)(hn2:n≤64)(hp:picks.length≤LIM)(ht:lens ws≤4096)(hw:ws.length≤LIM):
 Cw 20 [.one (.sl 24 1 (aW ws) none),.one (iv n),.one (.sl 3 1 (ints picks) none)] [.val .undef,.val (.one (iv (2*lens ws:Nat)))] []:=by
 have hrl:=dS ws;unfold LIM at hw;have hil:=bh picks;refine cwLe M20 (K:=fun rs cs=>((∃a,rs=[.val a,.val (.one (iv (2*lens ws:Nat)))]))∧cs=[]) Tryz.func20 (by kernel_rfl) (fun rs cs h=>by obtain⟨⟨a,rfl⟩,rfl⟩:=h;exact⟨agY,trivial⟩) ?_;conv=>whnf
 refine⟨fun j st=>∃i s,i+j=ws.length∧s+lens (ws.drop i)=lens ws∧st=⟨[(19,.one (iv i)),(18,.one (iv (aW ws).length)),(17,.one (.sl 24 1 (aW ws) none)),(8,.one (iv (s:Nat))),(6,.one (.v (.slice none 0 0))),(7,.one (iv 0)),(2,.one (.sl 3 1 (ints picks) none)),(1,.one (iv n)),(0,.one (.sl 24 1 (aW ws) none))],[],[]⟩,
  ⟨ws.length,_,ww [19,18,17,8,6,7,2,1,0] [] [] [] rfl,0,0,by omega,by simp,rfl⟩,?_⟩
 rintro j st ⟨i,s,hij,hs,rfl⟩;conv=>whnf
 cases j with
 |succ j=>
  rw[ag (p:=(i:Int)<((aW ws).length:Int)) (by omega)];have him:i<ws.length:=by omega
  rw[aj him]at hs;have eg:=dz (ad him);generalize ws[i]=l at hs eg;have hln:=bh l;have el:lens (l::ws.drop (i+1))=lens (ws.drop (i+1))+l.length:=rfl;rw[el]at hs;conv=>whnf
  refine⟨_,⟨ae _,eg⟩,?_⟩;conv=>whnf
  rw[i64s i (by omega)];rw[show IntKind.i64.wrap ((s:Int)+(ints l).length)=((s+l.length:Nat):Int) by rw[i64w (by omega) (by omega)];omega];exact⟨j,_,ah j,ww [19,18,17,8,6,7,2,1,0] [] [] [] rfl,i+1,s+l.length,by omega,by omega,rfl⟩
 |zero=>
 rw[af (p:=(i:Int)<((aW ws).length:Int)) (by omega)];rw[ap (by omega)]at hs;have hs:s=lens ws:=hs;subst hs;conv=>whnf
 rw[af (p:=(n:Int)<1) (by omega)];conv=>whnf
 rw[af (p:=(64:Int)<(n:Int)) (by omega)];conv=>whnf
 rw[af (p:=(4096:Int)<((lens ws:Nat):Int)) (by omega)];conv=>whnf
 refine⟨⟨rfl,by omega,by show(n:Int)≤(lim 24:Nat);simp[lim];omega⟩,?_⟩;conv=>whnf
 have e0:tsk (List.replicate n (0,0,0))=List.replicate n [iv 0,iv 0,iv 0]:=by simp[tsk,tsk3]
 have hok:PoOk n ⟨ws,-1,[],0,0,List.replicate n (0,0,0)⟩:={ left:=by simp[iK],busy:=by show(0:Nat)<W64;decide,bit:=fun k h=>by simp at h,ts:=by simp,wv:=by simp,wl:=by show(-1:Int)+(ws.length:Int)≤(LIM:Nat);unfold LIM;omega,wn:=by show ws.length≤LIM;unfold LIM;exact hw}
 have hrf:=tL (p:=⟨ws,-1,[],0,0,List.replicate n (0,0,0)⟩) (by unfold LIM;exact hw) (fun l hl=>by have:=si (ws:=ws) hl;unfold LIM;omega) (by simp) hok.wl;obtain⟨hok2,hwk,hwe⟩:=vj (n:=n) (ws:=ws) rfl hok
 have hk0:wkP ⟨ws,-1,[],0,0,List.replicate n (0,0,0)⟩=2*lens ws:=by simp[wkP,iK]
 rw[hk0]at hwk;clear hk0 hok;simp only at hrf;unfold poA at hrf;simp only at hrf;rw[e0]at hrf;generalize refR ws ⟨ws,-1,[],0,0,List.replicate n (0,0,0)⟩=R at*;refine⟨_,_,hrf,?_⟩;obtain⟨ws2,wv,rd,left,busy,ts⟩:=R;conv=>whnf
 refine⟨_,_,abU hp,?_⟩;conv=>whnf
 refine⟨⟨rfl,by omega,by show(n:Int)≤(lim 1:Nat);simp[lim];omega⟩,?_⟩;conv=>whnf
 refine⟨fun j st=>∃(p:Po) (en:List Bool) (at_ last:Int) (evs:List (List AC)),wkP p=j∧j≤2*lens ws∧PoOk n p∧(p.left=0→p.ws=[])∧en.length=n∧0≤at_∧at_≤picks.length∧evs.length≤8192-j∧st=plSt n p en picks at_ last evs (2*lens ws-j:Nat),
  ⟨2*lens ws,_,ww [7,6,11,12,13] [42,12] [111,6789,48] [.nilT 6 111 110 8] rfl,⟨ws2,wv,rd,left,busy,ts⟩,List.replicate n false,0,-1,[],hwk,au _,hok2,hwe,by simp,fP 0,ae _,by simp,?_⟩,?_⟩
 ·rw[ch];have eb:dh (List.replicate n false)=List.replicate n [bv false]:=by simp[dh]
  unfold plSt;rw[eb];rfl
 clear hok2 hwk hwe hrf ws2 wv rd left busy ts;rintro j st ⟨⟨ws2,wv,rd,left,busy,ts⟩,en,at_,last,evs,hwk,hj,hok,hwe,hen,ha0,ha1,hev,rfl⟩;unfold plSt;simp only;have hleft:=hok.left;simp only at hleft hwe;conv=>whnf
 by_cases h0:left=0
 ·subst h0;have h1:rd.length=0:=by omega
  have h2:bits 64 busy=0:=by omega
  have h3:=hwe rfl;subst h3;have hj0:j=0:=by rw[←hwk];unfold wkP;simp only[h1,h2];rfl
  subst hj0;conv=>whnf
  exact⟨⟨_,rfl⟩,rfl⟩
 rw[ag (p:=0<left) (by omega)];conv=>whnf
 refine(pI (fun m st=>∃i en2,i+m=n∧en2.length=n∧(∀k,k<i→en2[k]?=some (busy.testBit k|| decide (0<rd.length)))∧st=inSt i n ⟨ws2,wv,rd,left,busy,ts⟩ en2 picks at_ last evs (2*lens ws-j:Nat))
  (fun e st=>e= .exit 4∧∃en2,en2.length=n∧(∀k,k<n→en2[k]?=some (busy.testBit k|| decide (0<rd.length)))∧st=plS2 n ⟨ws2,wv,rd,left,busy,ts⟩ en2 picks at_ last evs (2*lens ws-j:Nat))
  ?_ ?_ ?_:evCW Tryz.prog T J M20 G (.loop _) _ _)
 ·exact⟨n,_,ww [56,55,7,6,11,12,13] [42,12] [111,6789,48] [] rfl,0,en,by omega,hen,fun k hk=>by omega,rfl⟩
 ·rintro m st ⟨i,en2,him,hen2,hval,rfl⟩;have hbl:=jJ en2;unfold inSt;simp only;conv=>whnf
  cases m with
  |zero=>
   rw[af (p:=(i:Int)<(n:Int)) (by omega)];obtain rfl:i=n:=by omega
   conv=>whnf
   exact⟨rfl,en2,hen2,hval,rfl⟩
  |succ m=>
   rw[ag (p:=(i:Int)<(n:Int)) (by omega)];have hi64:i<64:=by omega
   have hbz:=hok.busy;simp only at hbz;have hrn:=bh rd;obtain⟨x0,ex0⟩:∃x0,en2[i]?=some x0:=⟨_,ad (by omega)⟩;have hsw:∀b,busy.testBit i=b→(∀k,k<i+1→(en2.set i (b|| decide (0<rd.length)))[k]?=some (busy.testBit k|| decide (0<rd.length))):=by
    intro b hb k hk;by_cases e:k=i
    ·subst e;rw[cV (by omega),hb]
    ·rw[eG (by omega)];exact hval k (by omega)
   have hw1:IntKind.i64.wrap ((i:Int)+1)=((i+1:Nat):Int):=by rw[i64w (by omega) (by omega)];omega
   conv=>whnf
   refine⟨ae _,?_⟩;conv=>whnf
   rw[bitW hbz hi64];cases hb:busy.testBit i with
   |true=>
    have hs1:=hsw true hb;rw[Bool.true_or]at hs1;conv=>whnf
    refine⟨⟨ae _,by omega⟩,?_⟩;conv=>whnf
    refine⟨_,⟨ae _,gd ex0⟩,?_⟩;conv=>whnf
    rw[hw1];refine⟨m,_,ah m,ww [56,55,7,6,11,12,13] [42,12] [111,6789,48] [] rfl,i+1,en2.set i true,by omega,by simp[hen2],hs1,?_⟩;exact(xx (i+1) n ⟨ws2,wv,rd,left,busy,ts⟩ en2 i true picks at_ last evs (2*lens ws-j)).symm
   |false=>
    have hs1:=hsw false hb;rw[kQ]at hs1;have hdr:decide ((0:Int)<((ints rd).length:Int))=decide (0<rd.length):=decide_eq_decide.2 (by omega);conv=>whnf
    rw[hdr];generalize decide (0<rd.length)=d at*;refine⟨⟨ae _,by omega⟩,?_⟩;conv=>whnf
    refine⟨_,⟨ae _,gd ex0⟩,?_⟩;conv=>whnf
    rw[hw1];refine⟨m,_,ah m,ww [56,55,7,6,11,12,13] [42,12] [111,6789,48] [] rfl,i+1,en2.set i d,by omega,by simp[hen2],hs1,?_⟩;exact(xx (i+1) n ⟨ws2,wv,rd,left,busy,ts⟩ en2 i d picks at_ last evs (2*lens ws-j)).symm
 rintro e st ⟨rfl,en2,hen2,hval,rfl⟩;unfold plS2 inSt;simp only;obtain⟨x,hx⟩:∃x,en2[x]?=some true:=by
  have hbz:=hok.bit;simp only at hbz;by_cases hr:0<rd.length
  ·exact⟨0,by rw[hval 0 (by omega),ag hr,Bool.or_true]⟩
  ·have hp:busy≠0:=fun e=>by rw[e,iK]at hleft;omega
   obtain⟨k,hk⟩:=Nat.exists_testBit_of_ne_zero hp;exact⟨k,by rw[hval k (hbz k hk),hk,Bool.true_or]⟩
 obtain⟨i,at2,hi0,hi1,hb0,hb1,hnx⟩:=afv (last:=last) (by omega) hp ha0 ha1 hx;have hilt:i.toNat<n:=by rw[←hen2];exact(aq.1 hi1).1
 obtain⟨q,rfl⟩:∃q:Nat,i=q:=⟨i.toNat,by omega⟩;rw[cv]at hilt hi1;have htl:=zN ts;have hts:=hok.ts;have hbz:=hok.busy;simp only at hts hbz;obtain⟨⟨ta,tb,tc⟩,et⟩:∃t0,ts[q]?=some t0:=⟨_,ad (by omega)⟩;conv=>whnf
 refine⟨_,_,hnx,?_⟩;conv=>whnf
 rw[show IntKind.i64.wrap (((2*lens ws-j:Nat):Int)+1)=((2*lens ws-j+1:Nat):Int) by rw[i64w (by omega) (by omega)];omega];refine⟨⟨ae _,by omega⟩,?_⟩;conv=>whnf
 refine⟨_,⟨ae _,zO et⟩,?_⟩;conv=>whnf
 have hwv:=hok.wv;have hwl:=hok.wl;have hbit:=hok.bit;have hwn:=hok.wn;simp only at hwv hwl hbit hwn;have hlens:lens ws2≤4096:=by unfold wkP at hwk;simp only at hwk;omega
 have hbl:=po 64 busy;have hj1:1≤j:=by rw[←hwk];unfold wkP;simp only;omega
 have hrdl:rd.length≤4096:=by unfold wkP at hwk;simp only at hwk;omega
 cases hbq:busy.testBit q with
 |true=>
  have hbc:=aex hbz (by omega) hbq;have hof:=ahu (p:=⟨ws2,wv,rd,left,busy,ts⟩) (i:=q) (now:=((2*lens ws-j+1:Nat):Int)) (by omega) hbz hbq (by show 1≤left;omega) (by show left≤(LIM:Nat);unfold LIM;omega)
   hwn (fun l hl=>by have:=si (ws:=ws2) hl;unfold LIM;omega) hwv hwl
  have hb3:∀k,(iJ busy q).testBit k=true→k<n:=fun k hk=>by
   rw[om hbz (by omega),aw]at hk;exact hbit k hk.1
  have hok3:PoOk n ⟨ws2,wv,rd,left-1,iJ busy q,ts⟩:={ left:=by show left-1=(rd.length:Int)+(bits 64 (iJ busy q):Nat);omega,busy:=uB busy q,bit:=hb3,ts:=hts,wv:=hwv,wl:=hwl,wn:=hwn};obtain⟨r1,r2,r3⟩:=vj (n:=n) (ws:=ws2) rfl hok3
  have r4:wkP ⟨ws2,wv,rd,left-1,iJ busy q,ts⟩+1=j:=by rw[←hwk];unfold wkP;simp only;omega
  rw[←r2]at r4;unfold yz at hof;simp only at hof;generalize refR ws2 ⟨ws2,wv,rd,left-1,iJ busy q,ts⟩=R2 at*;obtain⟨ws3,wv3,rd3,left3,busy3,ts3⟩:=R2;refine⟨_,_,hof,?_⟩;conv=>whnf
  refine⟨by show evs.length+1≤lim 64;simp[lim];omega,?_⟩;conv=>whnf
  refine⟨j-1,_,by omega,ww [7,6,11,12,13] [42,12] [111,6789,48] [] rfl,⟨ws3,wv3,rd3,left3,busy3,ts3⟩,en2,at2,q,evs++[[iv q,iv 0,iv ta,iv 0,iv tb,iv tc,iv (2*lens ws-j+1:Nat),iv (2*lens ws-j+1:Nat)]],by omega,by omega,r1,r3,hen2,hb0,hb1,by simp;omega,?_⟩;have es:2*lens ws-(j-1)=2*lens ws-j+1:=by omega
  rw[es];exact(acz n ⟨ws3,wv3,rd3,left3,busy3,ts3⟩ en2 picks at2 q evs _ (2*lens ws-j+1)).symm
 |false=>
  obtain⟨l,rd2,rfl⟩:∃l rd2,rd=l::rd2:=by
   rw[hval q hilt,hbq,kQ,am]at hi1;have:=aJ hi1;cases rd with
   |nil=>simp at this
   |cons l rd2=>exact⟨l,rd2,rfl⟩
  have hbs:=sZ 64 q busy (by omega) hbq;have hof:=aiD (p:=⟨ws2,wv,l::rd2,left,busy,ts⟩) (i:=q) (now:=((2*lens ws-j+1:Nat):Int)) (by show q<ts.length;omega) (by omega) hbz hbq rfl;have hb3:∀k,(busy||| 2 ^ q).testBit k=true→k<n:=fun k hk=>by
   rw[kc,fy]at hk;rcases fe _ _ |>.mp hk with hk|hk
   ·exact hbit k hk
   ·have:=aJ hk;omega
  rw[aT]at hleft
  have hok3:PoOk n ⟨ws2,wv,rd2,left,busy||| 2 ^ q,ts.set q (l,wv,((2*lens ws-j+1:Nat):Int))⟩:={ left:=by show left=(rd2.length:Int)+(bits 64 (busy||| 2 ^ q):Nat);omega,busy:=agw hbz (show 2 ^ q<2 ^ 64 from fk (by decide) (by omega)),bit:=hb3,ts:=by show(ts.set q _).length=n;rw[dt];exact hts,wv:=hwv,wl:=hwl,wn:=hwn}
  have r4:wkP ⟨ws2,wv,rd2,left,busy||| 2 ^ q,ts.set q (l,wv,((2*lens ws-j+1:Nat):Int))⟩+1=j:=by rw[←hwk];unfold wkP;simp only[aT];omega
  unfold uR at hof;simp only at hof;refine⟨_,_,hof,?_⟩;conv=>whnf
  refine⟨j-1,_,by omega,ww [7,6,11,12,13] [42,12] [111,6789,48] [] rfl,_,en2,at2,q,evs,(by rw[←r4];rfl),by omega,hok3,fun e=>absurd e h0,hen2,hb0,hb1,by omega,?_⟩;have es:2*lens ws-(j-1)=2*lens ws-j+1:=by omega
  rw[es];rfl
theorem rZ{n:Int}:Cw 12 [.one (iv n)] [.val (.one (iv n))] []:=by
 refine cw {} Tryz.func12 (by kernel_rfl) ?_;conv=>whnf
 exact⟨rfl,rfl⟩
def bigA(n:Nat)(c:AC):AV:=.agg [iv n,iv 1073741824,iv 1048576,iv 8,.v (.slice none 0 0),c]
theorem wd{n:Nat}{picks:List Int}:Cw 11 [.one (iv n),.one (.v (.slice none 0 0)),.one (.sl 3 1 (ints picks) none)] [.val (bigA n (.sl 3 1 (ints picks) none))] []:=by
 refine cw {} Tryz.func11 (by kernel_rfl) ?_;conv=>whnf
 exact⟨rfl,rfl⟩
theorem aaQ{n:Nat}:Cw 11 [.one (iv n),.one (.v (.slice none 0 0)),.one (.v (.slice none 0 0))] [.val (bigA n (.v (.slice none 0 0)))] []:=by
 refine cw {} Tryz.func11 (by kernel_rfl) ?_;conv=>whnf
 exact⟨rfl,rfl⟩
theorem uZ{src:ByteArray}{n:Nat}{picks:List Int}{e q:Int}{t:ByteArray}{w:Gr}(hn:1≤n)(hn2:n≤64)(hp:picks.length≤LIM)(hs:src.size≤65536)
 (hc:Cw 19 [.one (sv src)] [.val (resA e q t),grO (some w)] []) (ht:lens w≤4096) (hw:w.length≤LIM):
 ∃m:Int,Cw 9 [.one (sv src),bigA n (.sl 3 1 (ints picks) none)] [.val (.agg [iv e,iv q,sv t,iv m,iv n,iv 0])] []:=by
 have hpl:=aag (ws:=w) hn hn2 hp ht hw;have hst:=wI (n:=src.size) (w:=n) hs ⟨hn,hn2⟩;refine⟨(fun a b=>if b<a then b else a) ((2*lens w:Nat):Int) (((src.size+1)*1048576+n*4096:Nat):Int),?_⟩;refine cw {} Tryz.func9 (by kernel_rfl) ?_;conv=>whnf
 rw[af (p:=(n:Int)<1) (by omega)];conv=>whnf
 rw[af (p:=(64:Int)<(n:Int)) (by omega)];conv=>whnf
 refine⟨_,_,hc,?_⟩;conv=>whnf
 refine⟨_,_,hpl,?_⟩;conv=>whnf
 refine⟨_,_,hst,?_⟩;conv=>whnf
 refine⟨aN (by kernel_rfl),?_⟩;conv=>whnf
 exact⟨rfl,rfl⟩
theorem zY{src:ByteArray}{n:Nat}{e q:Int}{t:ByteArray}{w:Gr}(hn:1≤n)(hn2:n≤64)(hs:src.size≤65536)
 (hc:Cw 19 [.one (sv src)] [.val (resA e q t),grO (some w)] []) (ht:lens w≤4096) (hw:w.length≤LIM):
 ∃m:Int,Cw 9 [.one (sv src),bigA n (.v (.slice none 0 0))] [.val (.agg [iv e,iv q,sv t,iv m,iv n,iv 0])] []:=by
 have hpl:Cw 20 [.one (.sl 24 1 (aW w) none),.one (iv n),.one (.v (.slice none 0 0))] [.val .undef,.val (.one (iv (2*lens w:Nat)))] []:=zH (xs':=[.one (.sl 24 1 (aW w) none),.one (iv n),.one (.sl 3 1 (ints []) none)]) ⟨⟨rfl,fun _ _ _ _ h=>h⟩,⟨rfl,fun _ _ _ _ h=>h⟩,adb,trivial⟩ (aag (ws:=w) (picks:=[]) hn hn2 (aR _) ht hw)
 have hst:=wI (n:=src.size) (w:=n) hs ⟨hn,hn2⟩;refine⟨(fun a b=>if b<a then b else a) ((2*lens w:Nat):Int) (((src.size+1)*1048576+n*4096:Nat):Int),?_⟩;refine cw {} Tryz.func9 (by kernel_rfl) ?_;conv=>whnf
 rw[af (p:=(n:Int)<1) (by omega)];conv=>whnf
 rw[af (p:=(64:Int)<(n:Int)) (by omega)];conv=>whnf
 refine⟨_,_,hc,?_⟩;conv=>whnf
 refine⟨_,_,hpl,?_⟩;conv=>whnf
 refine⟨_,_,hst,?_⟩;conv=>whnf
 refine⟨aN (by kernel_rfl),?_⟩;conv=>whnf
 exact⟨rfl,rfl⟩
end
end Go.Proofs.YtgkenhpfiempbaaGreatDoor.V
namespace Go.Proofs.YtgkenhpfiempbaaGreatDoor.Lx
set_option linter.unusedVariables false
set_option linter.unusedSimpArgs false
def ofL(l:List UInt8):ByteArray:=⟨l.toArray⟩
theorem ofL_data(l:List UInt8):(ofL l).data.toList=l:=rfl
theorem ofL_size(l:List UInt8):(ofL l).size=l.length:=by
 show(l.toArray).size=l.length;simp
theorem ext_of{a b:ByteArray}(h:a.data.toList=b.data.toList):a=b:=by
 cases a;cases b;simpa [Array.toList_inj]using h
theorem ofL_extract(l:List UInt8)(a b:Nat):(ofL l).extract a b=ofL ((l.drop a).take (b-a)):=ext_of (by rw[Lib.extract_data];rfl)
theorem extract_end(l:List UInt8)(a:Nat):(ofL l).extract a (ofL l).size=ofL (l.drop a):=by
 rw[ofL_extract,ofL_size,List.take_of_length_le (by simp)]
theorem extract_to(l:List UInt8)(b:Nat):(ofL l).extract 0 b=ofL (l.take b):=by
 rw[ofL_extract];simp
def isLow(c:UInt8):Bool:=decide (97≤c.toNat)&&decide (c.toNat≤122)
def isUp(c:UInt8):Bool:=decide (65≤c.toNat)&&decide (c.toNat≤90)
def isDig(c:UInt8):Bool:=decide (48≤c.toNat)&&decide (c.toNat≤57)
def isGap(c:UInt8):Bool:=c==32|| c==9|| c==10
def isRest(c:UInt8):Bool:=isLow c|| isUp c|| isDig c|| c==95
def hd(n:UInt8):List UInt8→Bool
 | []=>false
 |c::_=>c==n
def skipL:Bool→List UInt8→Nat
 |_,[]=>0
 |false,c::r=>if isGap c then skipL false r+1 else if c==45&&hd 45 r then skipL true r+1 else 0
 |true,c::r=>if c==10 then skipL false r+1 else skipL true r+1
theorem skipL_le:∀(b:Bool) (l:List UInt8),skipL b l≤l.length
 |b,[]=>by simp[skipL]
 |false,c::r=>by
  have h1:=skipL_le false r;have h2:=skipL_le true r;simp only[skipL,List.length_cons];split
  ·omega
  ·split<;>omega
 |true,c::r=>by
  have h1:=skipL_le false r;have h2:=skipL_le true r;simp only[skipL,List.length_cons];split<;>omega
def words:List (List UInt8):=[[100,97,116,97],[108,101,116],[105,110],[105,102],[116,104,101,110],[101,108,115,101],[99,97,115,101],[111,102],[116,114,117,101],[102,97,108,115,101]]
def isWord(w:List UInt8):Bool:=words.contains w
def rowOf(p:UInt8→Bool)(w:List UInt8):Bool:=(match w with| []=>false|c::_=>p c)&&w.all isRest&&decide (w.length≤30)
def isName(w:List UInt8):Bool:=rowOf isLow w&& !isWord w
def isCon(w:List UInt8):Bool:=rowOf isUp w
def numFrom:Int→List UInt8→Option Int
 |n,[]=>some n
 |n,c::r=>if 2147483647<n*10+((c.toNat:Int)-48) then none else numFrom (n*10+((c.toNat:Int)-48)) r
def numL(l:List UInt8):Option Int:=match numFrom 0 l with
 |none=>none
 |some n=>if l.length=1∨hd 48 l=false then some n else none
structure Tk where
 kind:Int
 pos:Nat
 s:List UInt8
 n:Int
deriving DecidableEq
def signs1:List UInt8:=[92,61,59,124,40,41,44,123,125]
def tokL:List UInt8→Tk×Nat
 | []=>(⟨0,0,[],0⟩,0)
 |c::r=>
  if isLow c|| isUp c then
   let w:=(c::r).takeWhile isRest
   if isWord w then(⟨4,0,w,0⟩,w.length) else if isName w then(⟨1,0,w,0⟩,w.length) else if isCon w then(⟨2,0,w,0⟩,w.length) else(⟨0,0,w,0⟩,0)
  else if isDig c then
   let w:=(c::r).takeWhile isDig
   match numL w with
   |some n=>(⟨3,0,[],n⟩,w.length)
   |none=>(⟨0,0,[],0⟩,0)
  else if c==45&&hd 62 r then(⟨5,0,[45,62],0⟩,2)
  else if signs1.contains c then(⟨5,0,[c],0⟩,1)
  else(⟨0,0,[],0⟩,0)
theorem takeWhile_le{p:UInt8→Bool}(l:List UInt8):(l.takeWhile p).length≤l.length:=(List.takeWhile_sublist p).length_le
theorem tokL_le(l:List UInt8):(tokL l).2≤l.length:=by
 cases l with
 |nil=>simp[tokL]
 |cons c r=>
  have h1:=takeWhile_le (p:=isRest) (c::r);have h2:=takeWhile_le (p:=isDig) (c::r);simp only[tokL];split
  ·split
   ·exact h1
   ·split
    ·exact h1
    ·split
     ·exact h1
     ·simp
  ·split
   ·split
    ·exact h2
    ·simp
   ·split
    ·rename_i h;cases r with
     |nil=>simp[hd]at h
     |cons d r=>simp
    ·split<;>simp
def lexA(pos:Nat)(l:List UInt8):Except Nat (List Tk):=
 if hl:l=[] then .ok [] else
 if h0:(tokL l).2=0 then .error pos else
 let l':=l.drop (tokL l).2
 match lexA (pos+(tokL l).2+skipL false l') (l'.drop (skipL false l')) with
 | .error e=>.error e
 | .ok ts=>.ok ({ (tokL l).1 with pos:=pos}::ts)
termination_by l.length
decreasing_by
 have:0<l.length:=List.length_pos_iff.2 hl;simp only[List.length_drop];omega
def lexL(l:List UInt8):Except Nat (List Tk):=lexA (skipL false l) (l.drop (skipL false l))
theorem lexA_nil(pos:Nat):lexA pos []= .ok []:=by rw[lexA];simp
theorem lexA_err{pos:Nat}{l:List UInt8}(hl:l≠[])(h:(tokL l).2=0):lexA pos l= .error pos:=by
 rw[lexA,dif_neg hl,dif_pos h]
theorem lexA_cons{pos:Nat}{l:List UInt8}(h:(tokL l).2≠0):lexA pos l=
 match lexA (pos+(tokL l).2+skipL false (l.drop (tokL l).2)) ((l.drop (tokL l).2).drop (skipL false (l.drop (tokL l).2))) with
 | .error e=>.error e
 | .ok ts=>.ok ({ (tokL l).1 with pos:=pos}::ts):=by
 have hl:l≠[]:=by intro h0;rw[h0]at h;simp[tokL]at h
 rw[lexA,dif_neg hl,dif_neg h]
theorem skip_gaps(l:List UInt8):skipL false l=(l.takeWhile isGap).length+skipL false (l.dropWhile isGap):=by
 induction l with
 |nil=>simp[skipL]
 |cons c r ih=>
  by_cases h:isGap c=true
  ·rw[List.takeWhile_cons_of_pos h,List.dropWhile_cons_of_pos h,skipL,if_pos h,ih,List.length_cons];omega
  ·rw[List.takeWhile_cons_of_neg h,List.dropWhile_cons_of_neg h];simp
theorem dropWhile_eq(p:UInt8→Bool)(l:List UInt8):l.dropWhile p=l.drop (l.takeWhile p).length:=by
 induction l with
 |nil=>simp
 |cons c r ih=>
  by_cases h:p c=true
  ·rw[List.takeWhile_cons_of_pos h,List.dropWhile_cons_of_pos h,ih];simp
  ·rw[List.takeWhile_cons_of_neg h,List.dropWhile_cons_of_neg h];simp
theorem skip_true(l:List UInt8):skipL true l=if Lib.indexByte l 10= -1 then l.length else(Lib.indexByte l 10).toNat+skipL false (l.drop (Lib.indexByte l 10).toNat):=by
 induction l with
 |nil=>simp[skipL,Lib.indexByte]
 |cons c r ih=>
  have hge:=Lib.indexByte_ge r 10;by_cases h:(c==10)=true
  ·have hc:c=10:=by simpa using h
   subst hc;simp[skipL,Lib.indexByte,isGap]
  ·have h':(c==10)=false:=by simpa using h
   simp only[skipL,Lib.indexByte,h',Bool.false_eq_true,if_false];rw[ih];by_cases h1:Lib.indexByte r 10= -1
   ·simp[h1]
   ·have h2:(Lib.indexByte r 10== -1)=false:=by simpa using h1
    have e:(Lib.indexByte r 10+1).toNat=(Lib.indexByte r 10).toNat+1:=by omega
    simp only[h1,h2,if_false,Bool.false_eq_true];rw[if_neg (by omega),e];simp;omega
end Go.Proofs.YtgkenhpfiempbaaGreatDoor.Lx
namespace Go.Proofs.YtgkenhpfiempbaaGreatDoor.V
open Go Go.Proofs
noncomputable section
section
open Go.Proofs.YtgkenhpfiempbaaGreatDoor.Lx
def clZ(c:Int):Int:=match decide ((97:Int)≤c)&&decide (c≤(122:Int)) with
 |true=>1
 |false=>match decide ((65:Int)≤c)&&decide (c≤(90:Int)) with
  |true=>2
  |false=>match decide ((48:Int)≤c)&&decide (c≤(57:Int)) with
   |true=>4
   |false=>match decide (c=(95:Int)) with
    |true=>8
    |false=>match decide (c=(32:Int))|| decide (c=(9:Int))|| decide (c=(10:Int)) with
     |true=>16
     |false=>0
theorem qr(c:Int):Ct 99 [.val (.one (.v (.int .u8 c)))] [.val (.one (.v (.int .i64 (clZ c))))] []:=by
 refine ct Tryz.func99 (by kernel_rfl) ?_;conv=>whnf
 cases h0a:decide ((97:Int)≤c)
 ·conv=>whnf
  cases h1a:decide ((65:Int)≤c)
  ·conv=>whnf
   cases h2a:decide ((48:Int)≤c)
   ·conv=>whnf
    cases h3:decide (c=(95:Int))
    ·conv=>whnf
     cases h4:decide (c=(32:Int))
     ·conv=>whnf
      cases h5:decide (c=(9:Int))
      ·conv=>whnf
       cases h6:decide (c=(10:Int))
       ·conv=>whnf
        exact⟨by rw[show clZ c=0 from by simp only[clZ,h0a,h1a,h2a,h3,h4,h5,h6];rfl],rfl⟩
       ·conv=>whnf
        exact⟨by rw[show clZ c=16 from by simp only[clZ,h0a,h1a,h2a,h3,h4,h5,h6];rfl],rfl⟩
      ·conv=>whnf
       exact⟨by rw[show clZ c=16 from by simp only[clZ,h0a,h1a,h2a,h3,h4,h5];rfl],rfl⟩
     ·conv=>whnf
      exact⟨by rw[show clZ c=16 from by simp only[clZ,h0a,h1a,h2a,h3,h4];rfl],rfl⟩
    ·conv=>whnf
     exact⟨by rw[show clZ c=8 from by simp only[clZ,h0a,h1a,h2a,h3];rfl],rfl⟩
   ·conv=>whnf
    cases h2b:decide (c≤(57:Int))
    ·conv=>whnf
     cases h3:decide (c=(95:Int))
     ·conv=>whnf
      cases h4:decide (c=(32:Int))
      ·conv=>whnf
       cases h5:decide (c=(9:Int))
       ·conv=>whnf
        cases h6:decide (c=(10:Int))
        ·conv=>whnf
         exact⟨by rw[show clZ c=0 from by simp only[clZ,h0a,h1a,h2a,h2b,h3,h4,h5,h6];rfl],rfl⟩
        ·conv=>whnf
         exact⟨by rw[show clZ c=16 from by simp only[clZ,h0a,h1a,h2a,h2b,h3,h4,h5,h6];rfl],rfl⟩
       ·conv=>whnf
        exact⟨by rw[show clZ c=16 from by simp only[clZ,h0a,h1a,h2a,h2b,h3,h4,h5];rfl],rfl⟩
      ·conv=>whnf
       exact⟨by rw[show clZ c=16 from by simp only[clZ,h0a,h1a,h2a,h2b,h3,h4];rfl],rfl⟩
     ·conv=>whnf
      exact⟨by rw[show clZ c=8 from by simp only[clZ,h0a,h1a,h2a,h2b,h3];rfl],rfl⟩
    ·conv=>whnf
     exact⟨by rw[show clZ c=4 from by simp only[clZ,h0a,h1a,h2a,h2b];rfl],rfl⟩
  ·conv=>whnf
   cases h1b:decide (c≤(90:Int))
   ·conv=>whnf
    cases h2a:decide ((48:Int)≤c)
    ·conv=>whnf
     cases h3:decide (c=(95:Int))
     ·conv=>whnf
      cases h4:decide (c=(32:Int))
      ·conv=>whnf
       cases h5:decide (c=(9:Int))
       ·conv=>whnf
        cases h6:decide (c=(10:Int))
        ·conv=>whnf
         exact⟨by rw[show clZ c=0 from by simp only[clZ,h0a,h1a,h1b,h2a,h3,h4,h5,h6];rfl],rfl⟩
        ·conv=>whnf
         exact⟨by rw[show clZ c=16 from by simp only[clZ,h0a,h1a,h1b,h2a,h3,h4,h5,h6];rfl],rfl⟩
       ·conv=>whnf
        exact⟨by rw[show clZ c=16 from by simp only[clZ,h0a,h1a,h1b,h2a,h3,h4,h5];rfl],rfl⟩
      ·conv=>whnf
       exact⟨by rw[show clZ c=16 from by simp only[clZ,h0a,h1a,h1b,h2a,h3,h4];rfl],rfl⟩
     ·conv=>whnf
      exact⟨by rw[show clZ c=8 from by simp only[clZ,h0a,h1a,h1b,h2a,h3];rfl],rfl⟩
    ·conv=>whnf
     cases h2b:decide (c≤(57:Int))
     ·conv=>whnf
      cases h3:decide (c=(95:Int))
      ·conv=>whnf
       cases h4:decide (c=(32:Int))
       ·conv=>whnf
        cases h5:decide (c=(9:Int))
        ·conv=>whnf
         cases h6:decide (c=(10:Int))
         ·conv=>whnf
          exact⟨by rw[show clZ c=0 from by simp only[clZ,h0a,h1a,h1b,h2a,h2b,h3,h4,h5,h6];rfl],rfl⟩
         ·conv=>whnf
          exact⟨by rw[show clZ c=16 from by simp only[clZ,h0a,h1a,h1b,h2a,h2b,h3,h4,h5,h6];rfl],rfl⟩
        ·conv=>whnf
         exact⟨by rw[show clZ c=16 from by simp only[clZ,h0a,h1a,h1b,h2a,h2b,h3,h4,h5];rfl],rfl⟩
       ·conv=>whnf
        exact⟨by rw[show clZ c=16 from by simp only[clZ,h0a,h1a,h1b,h2a,h2b,h3,h4];rfl],rfl⟩
      ·conv=>whnf
       exact⟨by rw[show clZ c=8 from by simp only[clZ,h0a,h1a,h1b,h2a,h2b,h3];rfl],rfl⟩
     ·conv=>whnf
      exact⟨by rw[show clZ c=4 from by simp only[clZ,h0a,h1a,h1b,h2a,h2b];rfl],rfl⟩
   ·conv=>whnf
    exact⟨by rw[show clZ c=2 from by simp only[clZ,h0a,h1a,h1b];rfl],rfl⟩
 ·conv=>whnf
  cases h0b:decide (c≤(122:Int))
  ·conv=>whnf
   cases h1a:decide ((65:Int)≤c)
   ·conv=>whnf
    cases h2a:decide ((48:Int)≤c)
    ·conv=>whnf
     cases h3:decide (c=(95:Int))
     ·conv=>whnf
      cases h4:decide (c=(32:Int))
      ·conv=>whnf
       cases h5:decide (c=(9:Int))
       ·conv=>whnf
        cases h6:decide (c=(10:Int))
        ·conv=>whnf
         exact⟨by rw[show clZ c=0 from by simp only[clZ,h0a,h0b,h1a,h2a,h3,h4,h5,h6];rfl],rfl⟩
        ·conv=>whnf
         exact⟨by rw[show clZ c=16 from by simp only[clZ,h0a,h0b,h1a,h2a,h3,h4,h5,h6];rfl],rfl⟩
       ·conv=>whnf
        exact⟨by rw[show clZ c=16 from by simp only[clZ,h0a,h0b,h1a,h2a,h3,h4,h5];rfl],rfl⟩
      ·conv=>whnf
       exact⟨by rw[show clZ c=16 from by simp only[clZ,h0a,h0b,h1a,h2a,h3,h4];rfl],rfl⟩
     ·conv=>whnf
      exact⟨by rw[show clZ c=8 from by simp only[clZ,h0a,h0b,h1a,h2a,h3];rfl],rfl⟩
    ·conv=>whnf
     cases h2b:decide (c≤(57:Int))
     ·conv=>whnf
      cases h3:decide (c=(95:Int))
      ·conv=>whnf
       cases h4:decide (c=(32:Int))
       ·conv=>whnf
        cases h5:decide (c=(9:Int))
        ·conv=>whnf
         cases h6:decide (c=(10:Int))
         ·conv=>whnf
          exact⟨by rw[show clZ c=0 from by simp only[clZ,h0a,h0b,h1a,h2a,h2b,h3,h4,h5,h6];rfl],rfl⟩
         ·conv=>whnf
          exact⟨by rw[show clZ c=16 from by simp only[clZ,h0a,h0b,h1a,h2a,h2b,h3,h4,h5,h6];rfl],rfl⟩
        ·conv=>whnf
         exact⟨by rw[show clZ c=16 from by simp only[clZ,h0a,h0b,h1a,h2a,h2b,h3,h4,h5];rfl],rfl⟩
       ·conv=>whnf
        exact⟨by rw[show clZ c=16 from by simp only[clZ,h0a,h0b,h1a,h2a,h2b,h3,h4];rfl],rfl⟩
      ·conv=>whnf
       exact⟨by rw[show clZ c=8 from by simp only[clZ,h0a,h0b,h1a,h2a,h2b,h3];rfl],rfl⟩
     ·conv=>whnf
      exact⟨by rw[show clZ c=4 from by simp only[clZ,h0a,h0b,h1a,h2a,h2b];rfl],rfl⟩
   ·conv=>whnf
    cases h1b:decide (c≤(90:Int))
    ·conv=>whnf
     cases h2a:decide ((48:Int)≤c)
     ·conv=>whnf
      cases h3:decide (c=(95:Int))
      ·conv=>whnf
       cases h4:decide (c=(32:Int))
       ·conv=>whnf
        cases h5:decide (c=(9:Int))
        ·conv=>whnf
         cases h6:decide (c=(10:Int))
         ·conv=>whnf
          exact⟨by rw[show clZ c=0 from by simp only[clZ,h0a,h0b,h1a,h1b,h2a,h3,h4,h5,h6];rfl],rfl⟩
         ·conv=>whnf
          exact⟨by rw[show clZ c=16 from by simp only[clZ,h0a,h0b,h1a,h1b,h2a,h3,h4,h5,h6];rfl],rfl⟩
        ·conv=>whnf
         exact⟨by rw[show clZ c=16 from by simp only[clZ,h0a,h0b,h1a,h1b,h2a,h3,h4,h5];rfl],rfl⟩
       ·conv=>whnf
        exact⟨by rw[show clZ c=16 from by simp only[clZ,h0a,h0b,h1a,h1b,h2a,h3,h4];rfl],rfl⟩
      ·conv=>whnf
       exact⟨by rw[show clZ c=8 from by simp only[clZ,h0a,h0b,h1a,h1b,h2a,h3];rfl],rfl⟩
     ·conv=>whnf
      cases h2b:decide (c≤(57:Int))
      ·conv=>whnf
       cases h3:decide (c=(95:Int))
       ·conv=>whnf
        cases h4:decide (c=(32:Int))
        ·conv=>whnf
         cases h5:decide (c=(9:Int))
         ·conv=>whnf
          cases h6:decide (c=(10:Int))
          ·conv=>whnf
           exact⟨by rw[show clZ c=0 from by simp only[clZ,h0a,h0b,h1a,h1b,h2a,h2b,h3,h4,h5,h6];rfl],rfl⟩
          ·conv=>whnf
           exact⟨by rw[show clZ c=16 from by simp only[clZ,h0a,h0b,h1a,h1b,h2a,h2b,h3,h4,h5,h6];rfl],rfl⟩
         ·conv=>whnf
          exact⟨by rw[show clZ c=16 from by simp only[clZ,h0a,h0b,h1a,h1b,h2a,h2b,h3,h4,h5];rfl],rfl⟩
        ·conv=>whnf
         exact⟨by rw[show clZ c=16 from by simp only[clZ,h0a,h0b,h1a,h1b,h2a,h2b,h3,h4];rfl],rfl⟩
       ·conv=>whnf
        exact⟨by rw[show clZ c=8 from by simp only[clZ,h0a,h0b,h1a,h1b,h2a,h2b,h3];rfl],rfl⟩
      ·conv=>whnf
       exact⟨by rw[show clZ c=4 from by simp only[clZ,h0a,h0b,h1a,h1b,h2a,h2b];rfl],rfl⟩
    ·conv=>whnf
     exact⟨by rw[show clZ c=2 from by simp only[clZ,h0a,h0b,h1a,h1b];rfl],rfl⟩
  ·conv=>whnf
   exact⟨by rw[show clZ c=1 from by simp only[clZ,h0a,h0b];rfl],rfl⟩
end
section
open Go.Proofs.YtgkenhpfiempbaaGreatDoor.Lx
theorem jK{P:UInt8→Prop}[DecidablePred P](h:∀i:Fin 256,P (UInt8.ofNat i.val))(c:UInt8):P c:=by
 have:=h ⟨c.toNat,c.toNat_lt⟩;simpa using this
def andZ(a b:Int):Int:=IntKind.i64.wrap ((BitVec.ofInt IntKind.i64.bits a&&&BitVec.ofInt IntKind.i64.bits b).toNat)
def inC(m:Int)(c:UInt8):Bool:= !decide (andZ (clZ (c.toNat:Int)) m=0)
theorem aaD(c:UInt8):inC 15 c=isRest c:=jK (P:=fun c=>inC 15 c=isRest c) (by decide+kernel) c
theorem ahL(c:UInt8):inC 4 c=isDig c:=jK (P:=fun c=>inC 4 c=isDig c) (by decide+kernel) c
theorem ahK(c:UInt8):inC 16 c=isGap c:=jK (P:=fun c=>inC 16 c=isGap c) (by decide+kernel) c
theorem abw(c:UInt8):inC 3 c=(isLow c|| isUp c):=jK (P:=fun c=>inC 3 c=(isLow c|| isUp c)) (by decide+kernel) c
theorem aaI{α:Type}{l:List α}{i:Nat}{d:α}(h:i<l.length):l.getD i d=l[i]:=by
 rw[aC,ad h];rfl
theorem va(m:Int)(p:UInt8→Bool)(hp:∀c,inC m c=p c)(s:ByteArray)(hB:s.size≤4294967296):
 Ct 96 [.val (.one (.v (.string s))),.val (.one (.v (.int .i64 m)))] [.val (.one (.v (.int .i64 (((s.data.toList.takeWhile p).length:Nat):Int))))] []:=by
 refine ct Tryz.func96 (by kernel_rfl) ?_;have hsz:s.size=s.data.toList.length:=by rw[bO];rfl
 conv=>whnf
 refine⟨fun n st=>∃i x,n=s.size-i∧i≤s.size∧x=((i:Nat):Int)∧(s.data.toList.takeWhile p).length=i+((s.data.toList.drop i).takeWhile p).length∧
  st=⟨[(0,.one (.v (.string s))),(1,.one (.v (.int .i64 m))),(5,.one (.v (.int .i64 x)))],[],[]⟩,
  ⟨_,_,wk [0,1,5] [] [] [] [] [] rfl,0,0,rfl,aR _,rfl,by simp,rfl⟩,?_⟩
 rintro n st ⟨i,x,rfl,hi,rfl,hx,rfl⟩;cases hlt:decide (((i:Nat):Int)<(s.size:Int))
 ·have:i=s.size:=by have:=ca hlt;omega
  conv=>whnf
  rw[hlt];conv=>whnf
  rw[hx,ap (by omega)];exact⟨by simp,rfl⟩
 ·have hi2:i<s.data.toList.length:=by have:=aJ hlt;omega
  rw[aj hi2]at hx;conv=>whnf
  rw[hlt];conv=>whnf
  refine⟨by omega,?_⟩;conv=>whnf
  refine⟨_,_,qr _,?_⟩;have hb:kO s (i:Int).toNat=s.data.toList[i]:=by unfold kO;rw[cv];exact aaI hi2
  rw[hb];have hc:=hp s.data.toList[i];conv=>whnf
  cases hd:decide (IntKind.i64.wrap (((BitVec.ofInt IntKind.i64.bits (clZ (s.data.toList[i].toNat:Int))&&&BitVec.ofInt IntKind.i64.bits m).toNat:Nat):Int)=0)
  ·have hp2:p s.data.toList[i]=true:=by rw[←hc];unfold inC andZ;rw[hd];rfl
   rw[cH hp2]at hx;conv=>whnf
   refine⟨_,_,?_,wk [0,1,5] [] [] [] [] [] rfl,i+1,_,rfl,by omega,eJ (x:=(i:Int)+1) (by omega) (by omega),by rw[hx];simp;omega,rfl⟩;omega
  ·have hp2:¬p s.data.toList[i]=true:=by rw[←hc];unfold inC andZ;rw[hd];simp
   rw[cT hp2]at hx;conv=>whnf
   rw[hx];exact⟨rfl,rfl⟩
theorem yK(s q:ByteArray):Ct 142 [.val (.one (.v (.string s))),.val (.one (.v (.string q)))] [.val (.one (.v (.bool (q.data.toList.isPrefixOf s.data.toList))))] []:=by
 refine ct Tryz.func142 (by kernel_rfl) ?_;have hs:s.size=s.data.toList.length:=by rw[bO];rfl
 have hq:q.size=q.data.toList.length:=by rw[bO];rfl
 conv=>whnf
 cases h1:decide ((q.size:Int)≤(s.size:Int))
 ·have:q.data.toList.isPrefixOf s.data.toList=false:=by
   have:=ca h1;cases h:q.data.toList.isPrefixOf s.data.toList
   ·rfl
   ·have:=(List.isPrefixOf_iff_prefix.1 h).length_le;omega
  rw[this];conv=>whnf
  exact⟨rfl,rfl⟩
 ·have h2:=aJ h1;conv=>whnf
  refine⟨by omega,?_⟩;conv=>whnf
  have:(decide (s.extract (0:Int).toNat (q.size:Int).toNat=q))=q.data.toList.isPrefixOf s.data.toList:=by
   rw[dH,bC,List.isPrefixOf_iff_prefix,List.prefix_iff_eq_take,cv];constructor
   ·intro h;have:=congrArg (fun b=>b.data.toList) h;simp only[Lib.extract_data]at this;rw[←hq];simpa using this.symm
   ·intro h;apply ext_of;rw[Lib.extract_data,hq];simpa using h.symm
  rw[←this];exact⟨rfl,rfl⟩
theorem tR(s q:ByteArray):Ct 97 [.val (.one (.v (.string s))),.val (.one (.v (.string q)))] [.val (.one (.v (.bool (q.data.toList.isPrefixOf s.data.toList))))] []:=by
 refine ct Tryz.func97 (by kernel_rfl) ?_;conv=>whnf
 refine⟨_,_,yK s q,?_⟩;conv=>whnf
 exact⟨rfl,rfl⟩
end
end
end Go.Proofs.YtgkenhpfiempbaaGreatDoor.V
namespace Go.Proofs
open Go.Shelf
def Tryz.lays137_ren:Go.Shelf.Ren:=⟨fun|137=>98|217=>143|266=>191|n=>n,fun|9=>9|5=>5|3=>3|n=>n,fun|n=>n⟩
theorem Tryz.lays137:Go.Proofs.Lays.n137 Tryz.prog Tryz.lays137_ren:={
 mixed:=by kernel_rfl
 f137:=Tryz.func98.trans (congrArg some (by kernel_rfl))
 f217:=Tryz.func143.trans (congrArg some (by kernel_rfl))
 f266:=Tryz.func191.trans (congrArg some (by kernel_rfl))
 t3:=Tryz.underlying3
 a3:=Tryz.isAgg3
 z3:=Tryz.sizeOf3
 v3:=Tryz.zeroValue3
 t5:=Tryz.underlying5
 a5:=Tryz.isAgg5
 z5:=Tryz.sizeOf5
 v5:=Tryz.zeroValue5
 t9:=Tryz.underlying9
 a9:=Tryz.isAgg9
 z9:=Tryz.sizeOf9
 v9:=Tryz.zeroValue9}
open Go.RowKit in
theorem Tryz.strings_IndexByte(s:ByteArray)(c:Int)(w:World):
 Calls Tryz.prog 98 #[.string s,.int .u8 c] w fun e w'=>e= .returned (.int .i64 (Lib.indexByte s.data.toList c.toNat.toUInt8))∧w'=w:=Any.strings_IndexByte Tryz.lays137 s c w
end Go.Proofs
namespace Go.Proofs.YtgkenhpfiempbaaGreatDoor.V
open Go Go.Proofs
noncomputable section
section
open Go.Proofs.YtgkenhpfiempbaaGreatDoor.Lx
theorem ACr.v_inv{κ:Con}{H:Fz}{x u:Value}(h:ACr κ H (.v x) u):u=x:=by cases h;rfl
theorem AVr.v_inv{κ:Con}{H:Fz}{x u:Value}(h:AVr κ H (.one (.v x)) u):u=x:=by
 cases h with|one _ _ h=>exact h.v_inv
theorem vI(s:ByteArray)(c:Int):Ct 98 [.val (.one (.v (.string s))),.val (.one (.v (.int .u8 c)))] [.val (.one (.v (.int .i64 (Lib.indexByte s.data.toList c.toNat.toUInt8))))] []:=by
 intro H w us hfz hG hargs hnd
 match us,hargs with
 | [u1,u2],⟨h1,h2,_⟩=>
  obtain rfl:=h1.v_inv;obtain rfl:=h2.v_inv;refine(Tryz.strings_IndexByte s c w).mono fun e w' ⟨he,hw⟩=>⟨_,H,he,?_⟩;subst hw;exact⟨Fz.le_refl H,hfz,fun b hb hn=>⟨rfl,rfl⟩,trivial,au _,rfl,rfl,rfl,[_],⟨.one _ _ (.v _ rfl),trivial⟩,rfl⟩
end
end
end Go.Proofs.YtgkenhpfiempbaaGreatDoor.V
namespace Go.Proofs.YtgkenhpfiempbaaGreatDoor.Lx
open Go
set_option linter.unusedVariables false
set_option linter.unusedSimpArgs false
theorem prefix2(a b:UInt8)(l:List UInt8):[a,b].isPrefixOf l=(match l with| []=>false|c::r=>c==a&&hd b r):=by
 rcases l with _|⟨c,_|⟨d,r⟩⟩
 ·rfl
 ·simp[List.isPrefixOf,hd]
 ·simp only[List.isPrefixOf,hd,Bool.and_true];rw[Bool.eq_iff_iff];simp only[Bool.and_eq_true,beq_iff_eq];constructor<;>(rintro⟨h1,h2⟩;exact⟨h1.symm,h2.symm⟩)
theorem skip_run{l:List UInt8}{g:Nat}(hg:g=(l.takeWhile isGap).length)(hp:([45,45]:List UInt8).isPrefixOf (l.drop g)=true):
 skipL false l=g+skipL true (l.drop g)∧0<(l.drop g).length:=by
 rw[skip_gaps,dropWhile_eq,←hg];rw[prefix2]at hp;generalize hr:l.drop g=r at*;cases r with
 |nil=>simp at hp
 |cons c r=>
  simp only[Bool.and_eq_true,beq_iff_eq]at hp;obtain⟨rfl,h2⟩:=hp;refine⟨?_,by simp⟩;rw[show skipL false (45::r)=skipL true r+1 by simp[skipL,isGap,h2],show skipL true (45::r)=skipL true r+1 by simp[skipL]]
theorem gap_stop(l:List UInt8):∀c r,l.drop (l.takeWhile isGap).length=c::r→isGap c=false:=by
 induction l with
 |nil=>intro c r h;simp at h
 |cons a l ih=>
  intro c r h;by_cases ha:isGap a=true
  ·rw[List.takeWhile_cons_of_pos ha]at h;exact ih c r (by simpa using h)
  ·rw[List.takeWhile_cons_of_neg ha]at h;simp at h;obtain⟨rfl,_⟩:=h;simpa using ha
theorem skip_end{l:List UInt8}{g:Nat}(hg:g=(l.takeWhile isGap).length)(hp:([45,45]:List UInt8).isPrefixOf (l.drop g)=false):
 skipL false l=g:=by
 rw[skip_gaps,dropWhile_eq,←hg];rw[prefix2]at hp;have hs:=gap_stop l;rw[←hg]at hs;generalize l.drop g=r at*;cases r with
 |nil=>simp[skipL]
 |cons c r=>
  have:=hs c r rfl;simp only at hp;simp[skipL,this,hp]
theorem index_lt(l:List UInt8)(c:UInt8):Lib.indexByte l c<l.length∨l=[]:=by
 induction l with
 |nil=>right;rfl
 |cons b l ih=>
  left;simp only[Lib.indexByte];split
  ·simp<;>omega
  ·split
   ·simp<;>omega
   ·rcases ih with h|h
    ·simp<;>omega
    ·subst h;simp[Lib.indexByte]at*
theorem all_take(p:UInt8→Bool)(l:List UInt8):((l.takeWhile p).length=l.length)=(l.all p=true):=by
 induction l with
 |nil=>simp
 |cons c r ih=>
  by_cases h:p c=true
  ·rw[List.takeWhile_cons_of_pos h];simp[h];simpa using ih
  ·rw[List.takeWhile_cons_of_neg h];simp[h]
theorem dig_val(c:UInt8)(h:isDig c=true):((c.toNat:Int)-48) % 256=(c.toNat:Int)-48∧0≤(c.toNat:Int)-48∧(c.toNat:Int)-48≤9:=by
 simp only[isDig,Bool.and_eq_true,decide_eq_true_eq]at h;omega
def numT(l r:List UInt8)(n:Int):Int×Bool:=match numFrom n r with
 |none=>(0,false)
 |some v=>(v,decide (l.length=1∨hd 48 l=false))
theorem numT_numL(l:List UInt8):(∃v,numL l=some v∧numT l l 0=(v,true))∨(numL l=none∧∃v,numT l l 0=(v,false)):=by
 unfold numL numT;cases numFrom 0 l with
 |none=>right;simp
 |some v=>
  by_cases h:l.length=1∨hd 48 l=false
  ·left;exact⟨v,by simp[h],by simp[h]⟩
  ·right;exact⟨by simp[h],v,by simp[h]⟩
def signs:List (List UInt8):=[[45,62],[92],[61],[59],[124],[40],[41],[44],[123],[125]]
def signF(l:List UInt8)(ss:List (List UInt8)):Tk×Nat:=match ss with
 | []=>(⟨0,0,[],0⟩,0)
 |s::ss=>if s.isPrefixOf l then(⟨5,0,s,0⟩,s.length) else signF l ss
theorem prefix1(a:UInt8)(c:UInt8)(r:List UInt8):[a].isPrefixOf (c::r)=(c==a):=by
 simp only[List.isPrefixOf,Bool.and_true];rw[Bool.eq_iff_iff,beq_iff_eq,beq_iff_eq];exact eq_comm
theorem tokL_sign(c:UInt8)(r:List UInt8)(h1:(isLow c|| isUp c)=false)(h2:isDig c=false):
 tokL (c::r)=if(c==45&&hd 62 r)=true then(⟨5,0,[45,62],0⟩,2) else if signs1.contains c=true then(⟨5,0,[c],0⟩,1) else(⟨0,0,[],0⟩,0):=by
 simp only[tokL];rw[if_neg (by simp[h1]),if_neg (by simp[h2])]
theorem sign_tok(c:UInt8)(r:List UInt8)(h1:(isLow c|| isUp c)=false)(h2:isDig c=false):signF (c::r) signs=tokL (c::r):=by
 rw[tokL_sign c r h1 h2,signs,signF,prefix2];by_cases h:(c==45&&hd 62 r)=true
 ·rw[if_pos h,if_pos h];rfl
 ·rw[if_neg h,if_neg h];simp only[signF,prefix1,beq_iff_eq,List.length_cons,List.length_nil];by_cases g0:c=92
  ·subst g0;rfl
  rw[if_neg g0];by_cases g1:c=61
  ·subst g1;rfl
  rw[if_neg g1];by_cases g2:c=59
  ·subst g2;rfl
  rw[if_neg g2];by_cases g3:c=124
  ·subst g3;rfl
  rw[if_neg g3];by_cases g4:c=40
  ·subst g4;rfl
  rw[if_neg g4];by_cases g5:c=41
  ·subst g5;rfl
  rw[if_neg g5];by_cases g6:c=44
  ·subst g6;rfl
  rw[if_neg g6];by_cases g7:c=123
  ·subst g7;rfl
  rw[if_neg g7];by_cases g8:c=125
  ·subst g8;rfl
  rw[if_neg g8];rw[if_neg (by simp[signs1,g0,g1,g2,g3,g4,g5,g6,g7,g8])]
theorem take_take(p:UInt8→Bool)(l:List UInt8):l.take (l.takeWhile p).length=l.takeWhile p:=by
 have:=List.takeWhile_prefix p (l:=l);exact(List.prefix_iff_eq_take.1 this).symm
def shift(d:Nat)(t:Tk):Tk:={ t with pos:=t.pos+d}
theorem lexA_len:∀(n pos:Nat) (l:List UInt8) (ts:List Tk),l.length≤n→lexA pos l= .ok ts→ts.length≤l.length:=by
 intro n
 induction n with
 |zero=>
  intro pos l ts hn hx;have:l=[]:=List.length_eq_zero_iff.1 (by omega);subst this;rw[lexA_nil]at hx;cases hx;simp
 |succ n ih=>
  intro pos l ts hn hx;by_cases hne:l=[]
  ·subst hne;rw[lexA_nil]at hx;cases hx;simp
  ·by_cases h0:(tokL l).2=0
   ·rw[lexA_err hne h0]at hx;cases hx
   ·rw[lexA_cons h0]at hx;split at hx
    ·cases hx
    ·rename_i ts' hts;cases hx;have:=List.length_pos_iff.2 hne;have h2:=ih _ _ ts' (by simp;omega) hts;simp at h2 ⊢;omega
theorem lexL_len(l:List UInt8)(ts:List Tk)(h:lexL l= .ok ts):ts.length≤l.length:=by
 have:=lexA_len _ _ _ _ (Nat.le_refl _) h;simp at this;omega
end Go.Proofs.YtgkenhpfiempbaaGreatDoor.Lx
