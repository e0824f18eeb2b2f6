/-
  Part M16: L5, L6, L7, L8, L9, U13, W1, E1, F7, F4. Conditions stand in the theorems.
-/
import Derived.Test.YtgkenhpfiempbaaGreatDoorM15
import Derived.Test.YtgkenhpfiempbaaGreatDoorM07
import Derived.Test.YtgkenhpfiempbaaGreatDoorM14
set_option linter.all false
set_option maxRecDepth 1000000
set_option maxHeartbeats 8000000
namespace Go.Proofs.YtgkenhpfiempbaaGreatDoor.V
open Go Go.Proofs
noncomputable section
section
open Go.Proofs.YtgkenhpfiempbaaGreatDoor.Lx
theorem vR{s:ByteArray}{l:List UInt8}(hs:s=ofL l)(n:Nat):s.extract ((n:Int)).toNat ((s.size:Int)).toNat=ofL (l.drop n):=by
 subst hs;rw[cv,cv];exact extract_end l n
theorem ahU{s:ByteArray}{l:List UInt8}(hs:s=ofL l)(n:Nat):s.extract ((0:Int)).toNat ((n:Int)).toNat=ofL (l.take n):=by
 subst hs;rw[cv];exact extract_to l n
theorem yC(l:List UInt8)(hB:l.length≤4294967296):Ct 55 [.val (.one (.v (.string (ofL l))))] [.val (.one (.v (.int .i64 ((skipL false l:Nat):Int))))] []:=by
 refine ct Tryz.func55 (by kernel_rfl) ?_;generalize hs:ofL l=s;have hsz:s.size=l.length:=by rw[←hs];exact ofL_size l
 conv=>whnf
 refine⟨fun j st=>∃n x,j=l.length-n∧n≤l.length∧x=((n:Nat):Int)∧skipL false l=n+skipL false (l.drop n)∧
  st=⟨[(0,.one (.v (.string s))),(3,.one (.v (.int .i64 x)))],[],[]⟩,
  ⟨_,_,wk [0,3] [] [] [] [] [] rfl,0,0,rfl,aR _,rfl,by simp,rfl⟩,?_⟩
 rintro j st ⟨n,x,rfl,hn,rfl,hx,rfl⟩;have hg:=takeWhile_le (p:=isGap) (l.drop n);rw[cr]at hg;conv=>whnf
 refine⟨by omega,?_⟩;rw[vR hs.symm n];conv=>whnf
 refine⟨_,_,va 16 isGap ahK (ofL (l.drop n)) (by rw[ofL_size,cr];omega),?_⟩;rw[ofL_data];generalize hge:((l.drop n).takeWhile isGap).length=g at hg;conv=>whnf
 have hw:IntKind.i64.wrap ((n:Int)+(g:Int))=((n+g:Nat):Int):=by rw[eJ (by omega) (by omega)];omega
 have hdd:(l.drop n).drop g=l.drop (n+g):=by rw[dD]
 rw[hw];refine⟨by omega,?_⟩;rw[vR hs.symm (n+g)];conv=>whnf
 have pc:=tR (ofL (l.drop (n+g))) ⟨#[45,45]⟩;cases hp:([45,45]:List UInt8).isPrefixOf (l.drop (n+g))
 ·rw[show(⟨#[45,45]⟩:ByteArray).data.toList.isPrefixOf (ofL (l.drop (n+g))).data.toList=false from hp]at pc;refine⟨_,_,pc,?_⟩;conv=>whnf
  rw[hx,skip_end (l:=l.drop n) hge.symm (by rw[hdd];exact hp)];exact⟨rfl,rfl⟩
 ·rw[show(⟨#[45,45]⟩:ByteArray).data.toList.isPrefixOf (ofL (l.drop (n+g))).data.toList=true from hp]at pc;refine⟨_,_,pc,?_⟩;obtain⟨h1,h2⟩:=skip_run (l:=l.drop n) hge.symm (by rw[hdd];exact hp);rw[hdd]at h1 h2;rw[cr]at h2;have hix:=index_lt (l.drop (n+g)) 10
  have hge':=Lib.indexByte_ge (l.drop (n+g)) 10;rw[skip_true]at h1;conv=>whnf
  refine⟨by omega,?_⟩;rw[vR hs.symm (n+g)];conv=>whnf
  refine⟨_,_,vI (ofL (l.drop (n+g))) 10,?_⟩;rw[show Lib.indexByte (ofL (l.drop (n+g))).data.toList (10:Int).toNat.toUInt8=Lib.indexByte (l.drop (n+g)) 10 from rfl];by_cases hi:Lib.indexByte (l.drop (n+g)) 10= -1
  ·rw[if_pos hi]at h1;rw[hi];conv=>whnf
   refine⟨_,_,?_,wk [0,3] [] [] [] [] [] rfl,l.length,_,rfl,au _,by rw[hsz],?_,rfl⟩
   ·omega
   ·rw[hx,h1];simp[skipL];omega
  ·rw[if_neg hi]at h1;have hil:Lib.indexByte (l.drop (n+g)) 10<((l.drop (n+g)).length:Int):=by
    rcases hix with h|h
    ·exact h
    ·rw[h]at hp;simp[List.isPrefixOf]at hp
   rw[cr]at hil;have hpos:0<Lib.indexByte (l.drop (n+g)) 10:=by
    rw[prefix2]at hp;generalize l.drop (n+g)=r at hp hi hge';cases r with
    |nil=>simp at hp
    |cons c r=>
     simp only[aw,fw]at hp;obtain⟨rfl,_⟩:=hp;have:=Lib.indexByte_ge r 10;simp only[Lib.indexByte]at hi ⊢;rw[if_neg (by decide)]at hi ⊢;split
     ·rename_i h3;rw[if_pos h3]at hi;exact absurd rfl hi
     ·rename_i h3;have:¬Lib.indexByte r 10= -1:=by simpa using h3
      omega
   have hdd2:(l.drop (n+g)).drop (Lib.indexByte (l.drop (n+g)) 10).toNat=l.drop (n+g+(Lib.indexByte (l.drop (n+g)) 10).toNat):=by rw[dD]
   rw[hdd2]at h1;generalize Lib.indexByte (l.drop (n+g)) 10=ix at hil hpos h1;obtain⟨m,rfl⟩:∃m:Nat,ix=(m:Int):=⟨ix.toNat,by omega⟩;rw[cv]at h1;conv=>whnf
   cases hz:decide ((0:Int)≤(m:Int))
   ·have:=ca hz;omega
   conv=>whnf
   have hw2:IntKind.i64.wrap (((n+g:Nat):Int)+(m:Int))=((n+g+m:Nat):Int):=by rw[eJ (by omega) (by omega)];omega
   refine⟨_,_,?_,wk [0,3] [] [] [] [] [] rfl,n+g+m,_,rfl,by omega,hw2,?_,rfl⟩
   ·omega
   ·rw[hx,h1];omega
end
section
open Go.Proofs.YtgkenhpfiempbaaGreatDoor.Lx
def isB(s:ByteArray)(w:List UInt8):Bool:=decide (s=ofL w)
theorem ahH(s:ByteArray)(w:List UInt8):isB s w=(s.data.toList==w):=by
 unfold isB;rw[dH,bC,fw];exact⟨fun h=>by rw[h];rfl,fun h=>ext_of h⟩
theorem abu(s:ByteArray):isWord s.data.toList=(words.any fun w=>isB s w):=by
 unfold isWord;simp only[List.contains_eq_any_beq,ahH]
theorem wy(s:ByteArray):Ct 100 [.val (.one (.v (.string s)))] [.val (.one (.v (.bool (isWord s.data.toList))))] []:=by
 rw[abu];refine ct Tryz.func100 (by kernel_rfl) ?_;conv=>whnf
 cases h0:decide (s=(⟨#[100,97,116,97]⟩:ByteArray))
 rotate_left
 ·rw[show(words.any fun w=>isB s w)=true from by simp[words,isB,ofL,aJ h0]];conv=>whnf
  exact⟨rfl,rfl⟩
 conv=>whnf
 cases h1:decide (s=(⟨#[108,101,116]⟩:ByteArray))
 rotate_left
 ·rw[show(words.any fun w=>isB s w)=true from by simp[words,isB,ofL,aJ h1]];conv=>whnf
  exact⟨rfl,rfl⟩
 conv=>whnf
 cases h2:decide (s=(⟨#[105,110]⟩:ByteArray))
 rotate_left
 ·rw[show(words.any fun w=>isB s w)=true from by simp[words,isB,ofL,aJ h2]];conv=>whnf
  exact⟨rfl,rfl⟩
 conv=>whnf
 cases h3:decide (s=(⟨#[105,102]⟩:ByteArray))
 rotate_left
 ·rw[show(words.any fun w=>isB s w)=true from by simp[words,isB,ofL,aJ h3]];conv=>whnf
  exact⟨rfl,rfl⟩
 conv=>whnf
 cases h4:decide (s=(⟨#[116,104,101,110]⟩:ByteArray))
 rotate_left
 ·rw[show(words.any fun w=>isB s w)=true from by simp[words,isB,ofL,aJ h4]];conv=>whnf
  exact⟨rfl,rfl⟩
 conv=>whnf
 cases h5:decide (s=(⟨#[101,108,115,101]⟩:ByteArray))
 rotate_left
 ·rw[show(words.any fun w=>isB s w)=true from by simp[words,isB,ofL,aJ h5]];conv=>whnf
  exact⟨rfl,rfl⟩
 conv=>whnf
 cases h6:decide (s=(⟨#[99,97,115,101]⟩:ByteArray))
 rotate_left
 ·rw[show(words.any fun w=>isB s w)=true from by simp[words,isB,ofL,aJ h6]];conv=>whnf
  exact⟨rfl,rfl⟩
 conv=>whnf
 cases h7:decide (s=(⟨#[111,102]⟩:ByteArray))
 rotate_left
 ·rw[show(words.any fun w=>isB s w)=true from by simp[words,isB,ofL,aJ h7]];conv=>whnf
  exact⟨rfl,rfl⟩
 conv=>whnf
 cases h8:decide (s=(⟨#[116,114,117,101]⟩:ByteArray))
 rotate_left
 ·rw[show(words.any fun w=>isB s w)=true from by simp[words,isB,ofL,aJ h8]];conv=>whnf
  exact⟨rfl,rfl⟩
 conv=>whnf
 cases h9:decide (s=(⟨#[102,97,108,115,101]⟩:ByteArray))
 rotate_left
 ·rw[show(words.any fun w=>isB s w)=true from by simp[words,isB,ofL,aJ h9]];conv=>whnf
  exact⟨rfl,rfl⟩
 have g0:isB s [100,97,116,97]=false:=h0;have g1:isB s [108,101,116]=false:=h1;have g2:isB s [105,110]=false:=h2;have g3:isB s [105,102]=false:=h3;have g4:isB s [116,104,101,110]=false:=h4;have g5:isB s [101,108,115,101]=false:=h5;have g6:isB s [99,97,115,101]=false:=h6
 have g7:isB s [111,102]=false:=h7;have g8:isB s [116,114,117,101]=false:=h8;have g9:isB s [102,97,108,115,101]=false:=h9;rw[show(words.any fun w=>isB s w)=false from by simp only[words,List.any_cons,List.any_nil,g0,g1,g2,g3,g4,g5,g6,g7,g8,g9,gP]];conv=>whnf
 exact⟨rfl,rfl⟩
theorem xn(first:Int)(p:UInt8→Bool)(hp:∀c:UInt8,decide (clZ (c.toNat:Int)=first)=p c)(l:List UInt8)(hB:l.length≤4294967296):
 Ct 144 [.val (.one (.v (.string (ofL l)))),.val (.one (.v (.int .i64 first)))] [.val (.one (.v (.bool (rowOf p l))))] []:=by
 refine ct Tryz.func144 (by kernel_rfl) ?_;have hsz:=ofL_size l;have hrow:=va 15 isRest aaD (ofL l) (by rw[hsz];exact hB);rw[ofL_data]at hrow;apply ahV rfl;apply seqC;apply regS;apply kh
 ·conv=>whnf
 apply endS;apply seqC;apply regS;apply kh
 ·conv=>whnf
 apply kh
 ·conv=>whnf
 cases l with
 |nil=>
  rw[show decide (ofL []=(⟨#[]⟩:ByteArray))=true from rfl]
  repeat(apply kh;(· conv=>whnf))
  apply endS;conv=>whnf
  exact⟨rfl,rfl⟩
 |cons c r=>
  rw[show decide (ofL (c::r)=(⟨#[]⟩:ByteArray))=false from af fun h=>by
   have:=congrArg ByteArray.size h;rw[hsz]at this;have h3:(⟨#[]⟩:ByteArray).size=0:=rfl;rw[h3]at this;simp at this]
  have hb:kO (ofL (c::r)) (0:Int).toNat=c:=rfl;generalize ofL (c::r)=s at hsz hb hrow;rw[show rowOf p (c::r)=(p c&&(c::r).all isRest&&decide ((c::r).length≤30)) from rfl]
  repeat(apply kh;(· conv=>whnf))
  have hc:=hp c;cases h1:decide ((s.size:Int)≤30)
  ·rw[show decide ((c::r).length≤30)=false from by rw[hsz]at h1;have:=ca h1;exact af (by omega),Bool.and_false]
   repeat(apply kh;(· conv=>whnf))
   apply endS;conv=>whnf
   exact⟨rfl,rfl⟩
  ·rw[show decide ((c::r).length≤30)=true from by rw[hsz]at h1;have:=aJ h1;exact ag (by omega),gQ]
   repeat(apply kh;(· conv=>whnf))
   apply kh
   ·conv=>whnf
    refine⟨by
     have:0<(c::r).length:=by simp
     omega,?_⟩
    conv=>whnf
   rw[hb];apply kh
   ·conv=>whnf
    refine⟨_,_,qr _,?_⟩;conv=>whnf
   repeat(apply kh;(· conv=>whnf))
   cases h2:decide (clZ (c.toNat:Int)=first)
   ·rw[h2]at hc;rw[←hc,fM]
    repeat(apply kh;(· conv=>whnf))
    apply endS;conv=>whnf
    exact⟨rfl,rfl⟩
   ·rw[h2]at hc;rw[←hc,iR];rw[show(c::r).all isRest=decide ((((c::r).takeWhile isRest).length:Int)=(s.size:Int)) from by
     rw[hsz,dH,bC,←all_take];omega]
    repeat(apply kh;(· conv=>whnf))
    apply kh
    ·conv=>whnf
     refine⟨_,_,hrow,?_⟩;conv=>whnf
    repeat(apply kh;(· conv=>whnf))
    apply endS;conv=>whnf
    exact⟨rfl,rfl⟩
theorem ahB(c:UInt8):decide (clZ (c.toNat:Int)=1)=isLow c:=jK (P:=fun c=>decide (clZ (c.toNat:Int)=1)=isLow c) (by decide+kernel) c
theorem air(c:UInt8):decide (clZ (c.toNat:Int)=2)=isUp c:=jK (P:=fun c=>decide (clZ (c.toNat:Int)=2)=isUp c) (by decide+kernel) c
theorem ahX(l:List UInt8)(hB:l.length≤4294967296):Ct 102 [.val (.one (.v (.string (ofL l))))] [.val (.one (.v (.bool (isCon l))))] []:=by
 refine ct Tryz.func102 (by kernel_rfl) ?_;conv=>whnf
 refine⟨_,_,xn 2 isUp air l hB,?_⟩;conv=>whnf
 exact⟨rfl,rfl⟩
theorem afx(l:List UInt8)(hB:l.length≤4294967296):Ct 101 [.val (.one (.v (.string (ofL l))))] [.val (.one (.v (.bool (isName l))))] []:=by
 refine ct Tryz.func101 (by kernel_rfl) ?_;unfold isName;conv=>whnf
 refine⟨_,_,xn 1 isLow ahB l hB,?_⟩;cases h:rowOf isLow l
 ·conv=>whnf
  exact⟨rfl,rfl⟩
 ·conv=>whnf
  refine⟨_,_,wy (ofL l),?_⟩;conv=>whnf
  exact⟨rfl,rfl⟩
end
section
open Go.Proofs.YtgkenhpfiempbaaGreatDoor.Lx
theorem ais{x:Int}(h1:0≤x)(h2:x≤255):IntKind.u8.wrap x=x:=by
 simp only[IntKind.wrap,IntKind.bits,IntKind.signed];simp only[fM];split
 ·rename_i h;cases h
 ·omega
theorem sY{s:ByteArray}{l:List UInt8}(hs:s=ofL l){m:Nat}(hm:m<l.length):kO s ((m:Nat):Int).toNat=l[m]:=by
 subst hs;unfold kO;rw[cv,ofL_data];exact aaI hm
theorem abl(l:List UInt8)(hne:l≠[])(hd':l.all isDig=true)(hB:l.length≤4294967296):
 Ct 103 [.val (.one (.v (.string (ofL l))))] [.val (.one (.v (.int .i64 (numT l l 0).1))),.val (.one (.v (.bool (numT l l 0).2)))] []:=by
 refine ct Tryz.func103 (by kernel_rfl) ?_;generalize hs:ofL l=s;have hsz:s.size=l.length:=by rw[←hs];exact ofL_size l
 conv=>whnf
 refine⟨fun j st=>∃m i n,j=l.length-m∧m≤l.length∧i=((m:Nat):Int)∧(0≤n∧n≤2147483647)∧numT l l 0=numT l (l.drop m) n∧
  st=⟨[(0,.one (.v (.string s))),(4,.one (.v (.int .i64 n))),(7,.one (.v (.int .i64 (s.size:Int)))),(8,.one (.v (.int .i64 i)))],[],[]⟩,
  ⟨_,_,wk [0,4,7,8] [] [] [] [] [] rfl,0,0,0,rfl,aR _,rfl,by omega,rfl,rfl⟩,?_⟩
 rintro j st ⟨m,i,n,rfl,hm,rfl,hn,hx,rfl⟩;conv=>whnf
 cases hlt:decide (((m:Nat):Int)<(s.size:Int))
 ·have:m=l.length:=by have:=ca hlt;omega
  subst this;rw[cF]at hx;rw[hx];have hl0:0<l.length:=eP.2 hne;have hx2:numT l [] n=(n,decide ((s.size:Int)=1)|| !decide ((l[0].toNat:Int)=48)):=by
   unfold numT;simp only[numFrom];rw[ai];refine⟨rfl,?_⟩;cases l with
   |nil=>simp at hl0
   |cons c r=>
    rw[hsz,dH];simp only[hd,bC,fe,dg,beq_eq_false_iff_ne,decide_eq_false_iff_not,List.getElem_cons_zero];have:(c=48)↔((c.toNat:Int)=48):=by
     constructor
     ·intro h;subst h;rfl
     ·intro h;apply UInt8.toNat_inj.1;have:(48:UInt8).toNat=48:=rfl;omega
    rw[←this];constructor
    ·rintro(h|h)
     ·left;omega
     ·right;exact h
    ·rintro(h|h)
     ·left;omega
     ·right;exact h
  rw[hx2];conv=>whnf
  cases h1:decide ((s.size:Int)=1)
  ·conv=>whnf
   refine⟨by omega,?_⟩;have hb:kO s (0:Int).toNat=l[0]:=sY hs.symm (m:=0) hl0;rw[hb];conv=>whnf
   refine⟨by kernel_rfl,?_⟩;conv=>whnf
   exact⟨rfl,rfl⟩
  ·conv=>whnf
   refine⟨by kernel_rfl,?_⟩;conv=>whnf
   exact⟨rfl,rfl⟩
 ·have hm2:m<l.length:=by have:=aJ hlt;omega
  rw[aj hm2]at hx;have hdig:isDig l[m]=true:=cO.1 hd' _ (bp hm2);have hv:=dig_val _ hdig;conv=>whnf
  refine⟨by omega,?_⟩;rw[sY hs.symm hm2];generalize l[m]=c at hx hdig hv;conv=>whnf
  have e:IntKind.i64.wrap (IntKind.i64.wrap (n*10)+IntKind.i64.wrap (IntKind.u8.wrap ((c.toNat:Int)-48)))=n*10+((c.toNat:Int)-48):=by
   rw[ais (by omega) (by omega),eJ (x:=n*10) (by omega) (by omega),eJ (x:=(c.toNat:Int)-48) (by omega) (by omega),eJ (by omega) (by omega)]
  rw[e];cases hgt:decide (2147483647<n*10+((c.toNat:Int)-48))
  ·have hgt2:=ca hgt;have hx2:numT l (c::l.drop (m+1)) n=numT l (l.drop (m+1)) (n*10+((c.toNat:Int)-48)):=by
    unfold numT;rw[numFrom,if_neg hgt2]
   rw[hx2]at hx;conv=>whnf
   refine⟨_,_,?_,wk [0,4,7,8] [] [] [] [] [] rfl,m+1,_,_,rfl,hm2,eJ (x:=(m:Int)+1) (by omega) (by omega),by omega,hx,rfl⟩;omega
  ·have hgt2:=aJ hgt;have hx2:numT l (c::l.drop (m+1)) n=(0,false):=by
    unfold numT;rw[numFrom,if_pos hgt2]
   rw[hx2]at hx;rw[hx];conv=>whnf
   exact⟨rfl,rfl⟩
end
section
open Go.Proofs.YtgkenhpfiempbaaGreatDoor.Lx
theorem aeL(p:UInt8→Bool):∀l:List UInt8,(l.takeWhile p).all p=true
 | []=>rfl
 |c::l=>by
  cases h:p c
  ·rw[cT (by rw[h];simp)];rfl
  ·rw[cH h,gN,h,aeL p l];rfl
def toT(t:Tk):Tok:=⟨t.kind,(t.pos:Int),ofL t.s,t.n⟩
def uU:List (List AC):=signs.map fun w=>str (ofL w)
theorem abQ(l:List UInt8)(hne:l≠[])(hB:l.length≤4294967296):
 Ct 56 [.val (.one (.v (.string (ofL l))))] [.val (.agg (tok (toT (tokL l).1))),.val (.one (.v (.int .i64 (((tokL l).2:Nat):Int))))] []:=by
 refine ct Tryz.func56 (by kernel_rfl) ?_;have hrow:=va 15 isRest aaD (ofL l) (by rw[ofL_size];exact hB);have hrow2:=va 4 isDig ahL (ofL l) (by rw[ofL_size];exact hB);rw[ofL_data]at hrow hrow2;have ht1:=fun n=>ahU (s:=ofL l) rfl n;have hpre:=fun w=>tR (ofL l) (ofL w)
 simp only[ofL_data]at hpre;have hsz:=ofL_size l;cases l with
 |nil=>exact absurd rfl hne
 |cons c r=>
  have hb:kO (ofL (c::r)) (0:Int).toNat=c:=rfl;have hw1:=takeWhile_le (p:=isRest) (c::r);have hw2:=takeWhile_le (p:=isDig) (c::r);have hlen:0<(c::r).length:=by simp
  have hin:=abw c;generalize ofL (c::r)=s at hrow hrow2 ht1 hpre hsz hb;conv=>whnf
  refine⟨_,_,hrow,?_⟩;conv=>whnf
  refine⟨by omega,?_⟩;rw[hb];conv=>whnf
  refine⟨_,_,qr _,?_⟩;conv=>whnf
  cases hd3:decide (IntKind.i64.wrap (((BitVec.ofInt IntKind.i64.bits (clZ (c.toNat:Int))&&&BitVec.ofInt IntKind.i64.bits 3).toNat:Nat):Int)=0)
  ·have hl:(isLow c|| isUp c)=true:=by rw[←hin];unfold inC andZ;rw[hd3];rfl
   conv=>whnf
   refine⟨by omega,?_⟩;rw[ht1,take_take]
   have htok:tokL (c::r)=(if isWord ((c::r).takeWhile isRest) then(⟨4,0,(c::r).takeWhile isRest,0⟩,((c::r).takeWhile isRest).length) else if isName ((c::r).takeWhile isRest) then(⟨1,0,(c::r).takeWhile isRest,0⟩,((c::r).takeWhile isRest).length) else if isCon ((c::r).takeWhile isRest) then(⟨2,0,(c::r).takeWhile isRest,0⟩,((c::r).takeWhile isRest).length) else(⟨0,0,(c::r).takeWhile isRest,0⟩,0)):=by
    simp only[tokL,hl,if_true]
   rw[htok];generalize (c::r).takeWhile isRest=w at hw1;have hwB:w.length≤4294967296:=by omega
   have hword:=wy (ofL w);rw[ofL_data]at hword;conv=>whnf
   refine⟨_,_,hword,?_⟩;cases g1:isWord w
   ·conv=>whnf
    refine⟨_,_,afx w hwB,?_⟩;cases g2:isName w
    ·conv=>whnf
     refine⟨_,_,ahX w hwB,?_⟩;cases g3:isCon w
     ·conv=>whnf
      exact⟨rfl,rfl⟩
     ·conv=>whnf
      exact⟨rfl,rfl⟩
    ·conv=>whnf
     exact⟨rfl,rfl⟩
   ·conv=>whnf
    exact⟨rfl,rfl⟩
  ·have hl:(isLow c|| isUp c)=false:=by rw[←hin];unfold inC andZ;rw[hd3];rfl
   conv=>whnf
   refine⟨_,_,hrow2,?_⟩;conv=>whnf
   cases hdz:decide ((0:Int)<((((c::r).takeWhile isDig).length:Nat):Int))
   ·have hnd:isDig c=false:=by
     cases h:isDig c
     ·rfl
     ·have:=ca hdz;rw[cH h]at this;simp at this
    have hst:=sign_tok c r hl hnd;conv=>whnf
    refine⟨fun j st=>∃m i,j=10-m∧m≤10∧i=((m:Nat):Int)∧signF (c::r) (signs.drop m)=tokL (c::r)∧
     st=⟨[(0,.one (.v (.string s))),(57,.one (.sl 9 1 uU none)),(58,.one (.v (.int .i64 10))),(59,.one (.v (.int .i64 i))),(2,.one (.ptr 2 0 0))],[(2,⟨0,119,[.v (.int .i64 0),.v (.int .i64 0),.v (.string .empty),.v (.int .i64 0)]⟩)],[]⟩,
     ⟨_,_,wk [0,57,58,59,2] [2] [] [] [] [] rfl,0,0,rfl,by omega,rfl,hst,rfl⟩,?_⟩
    rintro j st ⟨m,i,rfl,hm,rfl,hx,rfl⟩;conv=>whnf
    cases hlt:decide (((m:Nat):Int)<10)
    ·have:m=10:=by have:=ca hlt;omega
     subst this;rw[←hx];conv=>whnf
     exact⟨rfl,rfl⟩
    ·have hm2:m<signs.length:=by have:=aJ hlt;have:signs.length=10:=rfl;omega
     rw[aj hm2]at hx;have hg:0≤(m:Int)∧uU[((m:Nat):Int).toNat]?=some (str (ofL signs[m])):=⟨by omega,by unfold uU;simp[ad hm2]⟩;generalize signs[m]=q at hx hg;conv=>whnf
     refine⟨_,hg,?_⟩;conv=>whnf
     refine⟨_,_,hpre q,?_⟩;simp only[signF]at hx;cases hq:q.isPrefixOf (c::r)
     ·rw[hq]at hx;conv=>whnf
      refine⟨_,_,?_,wk [0,57,58,59,2] [2] [] [] [] [] rfl,m+1,_,rfl,by have:signs.length=10:=rfl;omega,eJ (x:=(m:Int)+1) (by omega) (by omega),hx,rfl⟩;have:signs.length=10:=rfl;omega
     ·rw[hq]at hx;have hqs:(ofL q).size=q.length:=ofL_size q;rw[←hx];generalize hqq:ofL q=qs at hqs;conv=>whnf
      rw[hqs];refine⟨by rw[if_pos rfl,←hqq];rfl,rfl⟩
   ·have hdg:isDig c=true:=by
     cases h:isDig c
     ·have:=aJ hdz;rw[cT (by rw[h];simp)]at this;simp at this
     ·rfl
    have htok:tokL (c::r)=(match numL ((c::r).takeWhile isDig) with|some n=>((⟨3,0,[],n⟩:Tk),((c::r).takeWhile isDig).length)|none=>(⟨0,0,[],0⟩,0)):=by
     simp only[tokL,hl,hdg,if_true]
     first
      |(rw[if_neg (by simp)];done)
      |(rw[if_neg (by simp)];cases numL ((c::r).takeWhile isDig)<;>rfl)
    rw[htok];have hall:((c::r).takeWhile isDig).all isDig=true:=by
     exact aeL isDig (c::r)
    have hwne:(c::r).takeWhile isDig≠[]:=by rw[cH hdg];simp
    conv=>whnf
    refine⟨by omega,?_⟩;rw[ht1,take_take];generalize (c::r).takeWhile isDig=w at hw2 hall hwne;have hnum:=abl w hwne hall (by omega);conv=>whnf
    rcases numT_numL w with⟨v,g1,g2⟩|⟨g1,v,g2⟩
    ·rw[g2]at hnum;rw[g1];refine⟨_,_,hnum,?_⟩;conv=>whnf
     exact⟨rfl,rfl⟩
    ·rw[g2]at hnum;rw[g1];refine⟨_,_,hnum,?_⟩;conv=>whnf
     exact⟨rfl,rfl⟩
end
section
open Go.Proofs.YtgkenhpfiempbaaGreatDoor.Lx
def ahD:Except Nat (List Tk)→List Res
 | .ok ts=>[.row 119 4 ((ts.map toT).map tok),.val (.one (.v (.int .i64 0))),.val (.one (.v (.int .i64 0)))]
 | .error e=>[.val (.one (.v (.slice none 0 0))),.val (.one (.v (.int .i64 3))),.val (.one (.v (.int .i64 ((e:Nat):Int))))]
def preE(acc:List Tk):Except Nat (List Tk)→Except Nat (List Tk)
 | .ok ts=>.ok (acc++ts)
 | .error e=>.error e
theorem ahC(l:List UInt8)(hB:l.length≤65536):Ct 37 [.val (.one (.v (.string (ofL l))))] (ahD (lexL l)) []:=by
 refine ct Tryz.func37 (by kernel_rfl) ?_;have hskip:=fun n=>yC (l.drop n) (by rw[cr];omega);have hsk0:=hskip 0;rw[iw]at hsk0;have htk:=fun n h=>abQ (l.drop n) h (by rw[cr];omega);have hle:=skipL_le false l;unfold lexL;have hsz:=ofL_size l
 have hex:=fun n=>vR (s:=ofL l) rfl n;generalize ofL l=s at hsk0 hsz hex;conv=>whnf
 cases h1:decide ((65536:Int)<(s.size:Int))
 rotate_left
 ·have:=aJ h1;omega
 conv=>whnf
 refine⟨_,_,hsk0,?_⟩;conv=>whnf
 refine⟨fun j st=>∃i x acc,j=l.length-i∧i≤l.length∧acc.length≤i∧x=((i:Nat):Int)∧lexA (skipL false l) (l.drop (skipL false l))=preE acc (lexA i (l.drop i))∧
  st=⟨[(0,.one (.v (.string s))),(4,.one (.v (.int .i64 x))),(2,.one (.sl 119 4 ((acc.map toT).map tok) (some (37,0))))],[],[(37,⟨0,119,4,true⟩)]⟩,
  ⟨_,_,wk [0,4,2] [] [] [] [(2,37,119,4)] [] rfl,skipL false l,_,[],rfl,hle,by simp,rfl,by cases lexA (skipL false l) (l.drop (skipL false l))<;>rfl,rfl⟩,?_⟩
 rintro j st ⟨i,x,acc,rfl,hi,ha,rfl,hx,rfl⟩;rw[hx];conv=>whnf
 cases hlt:decide (((i:Nat):Int)<(s.size:Int))
 ·have:i=l.length:=by have:=ca hlt;omega
  subst this;rw[cF,lexA_nil,show preE acc (.ok [])= .ok acc from by simp[preE]];conv=>whnf
  exact⟨rfl,rfl⟩
 ·have hi2:i<l.length:=by have:=aJ hlt;omega
  have hne:l.drop i≠[]:=by intro h;have:=congrArg List.length h;simp at this;omega
  have htok:=htk i hne;have hcons:=fun pos=>@lexA_cons pos (l.drop i);have herr:=fun pos=>@lexA_err pos (l.drop i) hne;have hkle:=tokL_le (l.drop i);rw[cr]at hkle;generalize tokL (l.drop i)=tk at htok hcons herr hkle;obtain⟨⟨kind,pos,ts,nn⟩,k⟩:=tk;simp only at htok hcons herr hkle
  conv=>whnf
  refine⟨by omega,?_⟩;rw[hex];conv=>whnf
  refine⟨_,_,htok,?_⟩;conv=>whnf
  cases hk:decide (((k:Nat):Int)=0)
  ·have hk0:k≠0:=by have:=ca hk;omega
   have hcons:=hcons i hk0;rw[dD,dD]at hcons;have hsl:=skipL_le false (l.drop (i+k));rw[cr]at hsl;have hw:IntKind.i64.wrap ((i:Int)+(k:Int))=((i+k:Nat):Int):=by rw[eJ (by omega) (by omega)];omega
   conv=>whnf
   refine⟨by simp[lim];omega,?_⟩;conv=>whnf
   rw[hw];refine⟨by omega,?_⟩;rw[hex];conv=>whnf
   refine⟨_,_,hskip (i+k),?_⟩;conv=>whnf
   have hw2:IntKind.i64.wrap (((i+k:Nat):Int)+((skipL false (l.drop (i+k)):Nat):Int))=((i+k+skipL false (l.drop (i+k)):Nat):Int):=by rw[eJ (by omega) (by omega)];omega
   refine⟨_,_,?_,wk [0,4,2] [] [37] [] [] [] rfl,i+k+skipL false (l.drop (i+k)),_,acc++[⟨kind,i,ts,nn⟩],rfl,by omega,by simp;omega,hw2,?_,by rw[bw,bw];rfl⟩
   ·omega
   ·rw[←hx,hx,hcons];cases lexA (i+k+skipL false (l.drop (i+k))) (l.drop (i+k+skipL false (l.drop (i+k))))<;>simp[preE]
  ·have hk0:k=0:=by have:=aJ hk;omega
   rw[herr i hk0];conv=>whnf
   exact⟨rfl,rfl⟩
end
section
open Go.Proofs.YtgkenhpfiempbaaGreatDoor.Lx
def endT(n:Nat):Tok:=⟨0,(n:Int),.empty,0⟩
def uS:List Tok→Nat→PS
 | [],n=>⟨endT n,[],false,0⟩
 |t::r,n=>⟨t,r++[endT n],false,0⟩
theorem yA(l:List Tok)(n:Nat):par (uS l n)=[.sl 119 4 (l.map tok++[tok (endT n)]) none,.v (.bool false),.v (.int .i64 0)]:=by
 cases l with
 |nil=>rfl
 |cons t r=>simp[uS,par]
def jf(k:Nat)(l:List UInt8):Option (ProgD×Int×Int):=match lexL l with
 | .error e=>some (⟨[],[]⟩,3,((e:Nat):Int))
 | .ok ts=>match kW k ⟨[],[]⟩ (uS (ts.map toT) l.length) with
  |none=>none
  |some (p,s)=>match s.bad with
   |true=>some (⟨[],[]⟩,4,s.at_)
   |false=>match decide (0≤mG p) with
    |true=>some (⟨[],[]⟩,5,mG p)
    |false=>some (p,0,0)
theorem acA{k:Nat}(hk:k≤4294967296){l:List UInt8}(hB:l.length≤65536){p:ProgD}{e a:Int}(h:jf k l=some (p,e,a))
 (hf:∀ts p s,lexL l= .ok ts→kW k ⟨[],[]⟩ (uS (ts.map toT) l.length)=some (p,s)→FineP p):
 Ct 24 [.val (.one (.v (.string (ofL l))))] [.val (.agg (oF p)),.val (.one (.v (.int .i64 e))),.val (.one (.v (.int .i64 a)))] []:=by
 refine ct Tryz.func24 (by kernel_rfl) ?_;have hlex:=ahC l hB;have hll:=lexL_len l;unfold jf at h;have hsz:=ofL_size l;generalize ofL l=s at hlex hsz;conv=>whnf
 refine⟨_,_,hlex,?_⟩;cases hl:lexL l with
 |error x=>
  rw[hl]at h;simp only[am,ai]at h;obtain⟨rfl,rfl,rfl⟩:=h;conv=>whnf
  exact⟨rfl,rfl⟩
 |ok ts=>
  rw[hl]at h;have hll:=hll ts hl;simp only at h;split at h
  ·cases h
  ·rename_i p1 s1 h1;have hf1:=hf ts p1 s1 hl h1;conv=>whnf
   refine⟨by simp[lim];omega,?_⟩;conv=>whnf
   have hpar:=yA (ts.map toT) l.length;have hprog:=yJ hk h1;unfold parA at hprog;rw[hpar,←hsz]at hprog;refine⟨_,_,hprog,?_⟩;obtain⟨t2,r2,b2,a2⟩:=s1;obtain⟨ds,bs⟩:=p1;cases b2
   ·simp only at h;conv=>whnf
    refine⟨_,_,zk hf1,?_⟩;cases hd:decide (0≤mG ⟨ds,bs⟩)
    ·rw[hd]at h;simp only[am,ai]at h;obtain⟨rfl,rfl,rfl⟩:=h;conv=>whnf
     rw[hd];conv=>whnf
     exact⟨rfl,rfl⟩
    ·rw[hd]at h;simp only[am,ai]at h;obtain⟨rfl,rfl,rfl⟩:=h;conv=>whnf
     rw[hd];conv=>whnf
     exact⟨rfl,rfl⟩
   ·simp only[am,ai]at h;obtain⟨rfl,rfl,rfl⟩:=h;conv=>whnf
    refine⟨by kernel_rfl,?_⟩;conv=>whnf
    exact⟨rfl,rfl⟩
end
section
open Go.Proofs.YtgkenhpfiempbaaGreatDoor.Lx
theorem oe:∀{l:List Ty} {t:Ty},fF l→ju t→fF (l++[t])
 | [],_,_,h=>⟨h,trivial⟩
 |_::_,_,h,k=>⟨h.1,oe h.2 k⟩
theorem sG:∀{l:List Exp} {t:Exp},kK l→dJ t→kK (l++[t])
 | [],_,_,h=>⟨h,trivial⟩
 |_::_,_,h,k=>⟨h.1,sG h.2 k⟩
theorem sH:∀{l:List Alt} {t:Alt},lM l→aaM t→lM (l++[t])
 | [],_,_,h=>⟨h,trivial⟩
 |_::_,_,h,k=>⟨h.1,sH h.2 k⟩
structure FTy(k:Nat):Prop where
 a:∀vars s t s',mN k vars s=some (t,s')→ju t
 l:∀vars acc s l s',ku k vars acc s=some (l,s')→acc.length+k≤4294967296→fF acc→l.length≤4294967296∧fF l
 t:∀vars s t s',typP k vars s=some (t,s')→ju t
 u:∀vars t0 s t s',oy k vars t0 s=some (t,s')→ju t0→ju t
 q:∀vars acc s l s',lX k vars acc s=some (l,s')→acc.length+k≤4294967296→fF acc→l.length≤4294967296∧fF l
theorem fty:∀k,k≤4294967290→FTy k
 |0,_=>⟨fun _ _ _ _ h=>by simp[mN]at h,fun _ _ _ _ _ h=>by simp[ku]at h,fun _ _ _ _ h=>by simp[typP]at h,fun _ _ _ _ _ h=>by simp[oy]at h,fun _ _ _ _ _ h=>by simp[lX]at h⟩
 |k+1,hk=>by
  have ih:=fty k (by omega);refine⟨fun vars s t s' h=>?_,fun vars acc s l s' h hB hf=>?_,fun vars s t s' h=>?_,fun vars t0 s t s' h hf=>?_,fun vars acc s l s' h hB hf=>?_⟩
  ·unfold mN at h;split at h
   ·split at h<;>(cases h;simp[ju,fF])
   ·split at h
    ·cases h;simp[ju,fF]
    ·split at h
     ·cases h;simp[ju,fF]
     ·split at h
      ·cases h
      ·rename_i t1 s2 h1;have f1:=ih.t _ _ _ _ h1;split at h
       ·cases h
       ·rename_i l s3 h2;have f2:=ih.l _ _ _ _ _ h2 (by simp;omega) ⟨f1,trivial⟩;split at h
        ·cases h;exact f2.2.1
        ·cases h;exact f2
  ·unfold ku at h;split at h
   ·cases h;exact⟨by omega,hf⟩
   ·split at h
    ·cases h
    ·rename_i t1 s2 h1;exact ih.l _ _ _ _ _ h (by simp;omega) (oe hf (ih.t _ _ _ _ h1))
  ·unfold typP at h;split at h
   ·split at h
    ·cases h
    ·rename_i ks s1 h1;have f1:=ih.q _ _ _ _ _ h1 (by simp;omega) trivial;exact ih.u _ _ _ _ _ h f1
   ·split at h
    ·cases h
    ·rename_i t1 s1 h1;exact ih.u _ _ _ _ _ h (ih.a _ _ _ _ h1)
  ·unfold oy at h;split at h
   ·cases h;exact hf
   ·split at h
    ·cases h
    ·rename_i u s3 h1;cases h;exact⟨by simp,hf,ih.t _ _ _ _ h1,trivial⟩
  ·unfold lX at h;split at h
   ·cases h;exact⟨by omega,hf⟩
   ·split at h
    ·cases h
    ·rename_i t1 s2 h1;exact ih.q _ _ _ _ _ h (by simp;omega) (oe hf (ih.a _ _ _ _ h1))
theorem nY{a:Int}{b:Exp}(h:dJ b):∀l:List Tok,dJ (mA l a b)
 | []=>h
 |t::l=>⟨by simp,by simp,⟨nY h l,trivial⟩,trivial⟩
structure FEx(k:Nat):Prop where
 e:∀s e s',ig k s=some (e,s')→dJ e
 c:∀b acc s l s',pD k b acc s=some (l,s')→acc.length+k≤4294967296→lM acc→l.length≤4294967296∧lM l
 p:∀e0 s e s',appP k e0 s=some (e,s')→dJ e0→dJ e
 b:∀t s e s',lS k t s=some (e,s')→dJ e
 a:∀s e s',pw k s=some (e,s')→dJ e
 l:∀acc s l s',qE k acc s=some (l,s')→acc.length+k≤4294967296→kK acc→l.length≤4294967296∧kK l
theorem fex:∀k,k≤4294967290→FEx k
 |0,_=>⟨fun _ _ _ h=>by simp[ig]at h,fun _ _ _ _ _ h=>by simp[pD]at h,fun _ _ _ _ h=>by simp[appP]at h,fun _ _ _ _ h=>by simp[lS]at h,fun _ _ _ h=>by simp[pw]at h,fun _ _ _ _ h=>by simp[qE]at h⟩
 |k+1,hk=>by
  have ih:=fex k (by omega);have z:∀{k a s n},dJ (.mk k a s n [] []):=by simp[dJ,kK,lM]
  refine⟨fun s e s' h=>?_,fun b acc s l s' h hB hf=>?_,fun e0 s e s' h hf=>?_,fun t s e s' h=>?_,fun s e s' h=>?_,fun acc s l s' h hB hf=>?_⟩
  ·unfold ig at h;split at h
   ·cases h;exact z
   ·split at h
    ·split at h
     ·cases h
     ·split at h
      ·cases h
      ·rename_i b s4 h1;cases h;exact nY (ih.e _ _ _ h1) _
    ·split at h
     ·split at h
      ·cases h
      ·rename_i a s2 h1;split at h
       ·cases h
       ·rename_i b s3 h2;cases h;exact⟨by simp,by simp,⟨ih.b _ _ _ _ h1,ih.e _ _ _ h2,trivial⟩,trivial⟩
     ·split at h
      ·split at h
       ·cases h
       ·rename_i a s1 h1;split at h
        ·cases h
        ·rename_i b s2 h2;split at h
         ·cases h
         ·rename_i c s3 h3;cases h;exact⟨by simp,by simp,⟨ih.e _ _ _ h1,ih.e _ _ _ h2,ih.e _ _ _ h3,trivial⟩,trivial⟩
      ·split at h
       ·split at h
        ·cases h
        ·rename_i a s1 h1;split at h
         ·cases h
         ·rename_i l s2 h2;cases h;have:=ih.c _ _ _ _ _ h2 (by simp;omega) trivial;exact⟨by simp,this.1,⟨ih.e _ _ _ h1,trivial⟩,this.2⟩
       ·split at h
        ·cases h
        ·rename_i a s1 h1;exact ih.p _ _ _ _ h (ih.a _ _ _ h1)
  ·unfold pD at h;cases b with
   |false=>cases h;exact⟨by omega,hf⟩
   |true=>
    simp only at h;split at h
    ·cases h
    ·rename_i l1 s1 h1;split at h
     ·cases h
     ·rename_i b s2 h2;exact ih.c _ _ _ _ _ h (by simp;omega) (sH hf ⟨by simpa using gW h1,ih.e _ _ _ h2⟩)
  ·unfold appP at h;split at h
   ·cases h;exact hf
   ·split at h
    ·cases h
    ·rename_i a s1 h1;exact ih.p _ _ _ _ h ⟨by simp,by simp,⟨hf,ih.a _ _ _ h1,trivial⟩,trivial⟩
  ·unfold lS at h;split at h
   ·cases h
   ·split at h
    ·cases h
    ·rename_i b s2 h2;cases h;exact nY (ih.e _ _ _ h2) _
  ·unfold pw at h;split at h
   ·cases h;exact z
   ·repeat' (split at h;(cases h;exact z))
    split at h
    ·cases h
    ·rename_i e1 s2 h1;have f1:=ih.e _ _ _ h1;split at h
     ·cases h
     ·rename_i l s3 h2;have f2:=ih.l _ _ _ _ h2 (by simp;omega) ⟨f1,trivial⟩;split at h
      ·cases h;exact f2.2.1
      ·cases h;exact⟨f2.1,by simp,f2.2,trivial⟩
  ·unfold qE at h;split at h
   ·cases h;exact⟨by omega,hf⟩
   ·split at h
    ·cases h
    ·rename_i t1 s2 h1;exact ih.l _ _ _ _ h (by simp;omega) (sG hf (ih.e _ _ _ h1))
def aeO(c:ConD):Prop:=c.args.length≤4294967296∧fF c.args
def aeN(d:DataD):Prop:=d.cons.length≤4294967296∧d.vars.length≤4294967296∧∀c∈d.cons,aeO c
theorem sT:∀k,k≤4294967290→∀vars b acc s l s',pd k vars b acc s=some (l,s')→acc.length+k≤4294967296→(∀c∈acc,aeO c)→l.length≤4294967296∧∀c∈l,aeO c
 |0,_,_,_,_,_,_,_,h,_,_=>by simp[pd]at h
 |k+1,hk,vars,b,acc,s,l,s',h,hB,hf=>by
  unfold pd at h;cases b with
  |false=>cases h;exact⟨by omega,hf⟩
  |true=>
   simp only at h;split at h
   ·cases h
   ·rename_i l1 s1 h1;refine sT k (by omega) _ _ _ _ _ _ h (by simp;omega) fun c hc=>?_;rcases aM.1 hc with hc|hc
    ·exact hf c hc
    ·simp only[ax]at hc;subst hc;exact(fty k (by omega)).q _ _ _ _ _ h1 (by simp;omega) trivial
theorem zl{k:Nat}(hk:k≤4294967290){s s':PS}{d:DataD}(h:xO k s=some (d,s')):aeN d:=by
 unfold xO at h;split at h
 ·cases h
 ·rename_i l s1 h1;split at h
  ·cases h
  ·rename_i cs s3 h2;cases h;have:=sT k hk _ _ _ _ _ _ h2 (by simp;omega) (by simp);exact⟨this.1,by simpa using gW h1,this.2⟩
theorem lE:∀k,k≤4294967290→∀p s p' s',kW k p s=some (p',s')→p.datas.length+k≤4294967296→p.binds.length+k≤4294967296→(∀d∈p.datas,aeN d)→(∀b∈p.binds,dJ b.body)→
 p'.datas.length≤4294967296∧p'.binds.length≤4294967296∧(∀d∈p'.datas,aeN d)∧∀b∈p'.binds,dJ b.body
 |0,_,_,_,_,_,h,_,_,_,_=>by simp[kW]at h
 |k+1,hk,p,s,p',s',h,h1,h2,h3,h4=>by
  unfold kW at h;split at h
  ·cases h;exact⟨by omega,by omega,h3,h4⟩
  ·split at h
   ·cases h;exact⟨by omega,by omega,h3,h4⟩
   ·split at h
    ·split at h
     ·cases h
     ·rename_i d s1 hd;refine lE k (by omega) _ _ _ _ h (by simp;omega) (by simp;omega) (fun d' hd'=>?_) h4;rcases aM.1 hd' with hd'|hd'
      ·exact h3 d' hd'
      ·simp only[ax]at hd';subst hd';exact zl (by omega) hd
    ·split at h
     ·split at h
      ·cases h
      ·rename_i b s1 hb;refine lE k (by omega) _ _ _ _ h (by simp;omega) (by simp;omega) h3 (fun b' hb'=>?_);rcases aM.1 hb' with hb'|hb'
       ·exact h4 b' hb'
       ·simp only[ax]at hb';subst hb';exact(fex k (by omega)).b _ _ _ _ hb
     ·exact lE k (by omega) _ _ _ _ h (by omega) (by omega) h3 h4
theorem xF{k:Nat}(hk:k≤4294967290){s s':PS}{p:ProgD}(h:kW k ⟨[],[]⟩ s=some (p,s')):FineP p:=by
 obtain⟨h1,h2,h3,h4⟩:=lE k hk _ _ _ _ h (by simp;omega) (by simp;omega) (by simp) (by simp);exact⟨h2,h1,h4,fun d hd=>⟨(h3 d hd).1,(h3 d hd).2.1⟩,fun d hd c hc=>(h3 d hd).2.2 c hc⟩
theorem abe{k:Nat}(hk:k≤4294967290){l:List UInt8}(hB:l.length≤65536){p:ProgD}{e a:Int}(h:jf k l=some (p,e,a)):
 Ct 24 [.val (.one (.v (.string (ofL l))))] [.val (.agg (oF p)),.val (.one (.v (.int .i64 e))),.val (.one (.v (.int .i64 a)))] []:=
 acA (by omega) hB h fun _ _ _ _ hp=>xF hk hp
end
def prg(src:ByteArray):ProgD:=match jf 2000 src.data.toList with
 |some (p,_,_)=>p
 |none=>⟨[],[]⟩
def wav(src:ByteArray):Gr:=match chkR 200 200 (prg src) with
 |some (_,w)=>w
 |none=>[]
def src1:ByteArray:=⟨#[100,97,116,97,32,76,105,115,116,32,97,32,61,32,78,105,108,32,124,32,67,111,110,115,32,97,32,40,76,105,115,116,32,97,41,59,10,108,101,116,32,109,97,112,32,102,32,108,32,61,32,99,97,115,101,32,108,32,111,102,32,123,78,105,108,32,45,62,32,78,105,108,59,32,67,111,110,115,32,120,32,114,32,45,62,32,67,111,110,115,32,40,102,32,120,41,32,40,109,97,112,32,102,32,114,41,125,59,10,108,101,116,32,108,101,110,32,108,32,61,32,99,97,115,101,32,108,32,111,102,32,123,78,105,108,32,45,62,32,48,59,32,67,111,110,115,32,120,32,114,32,45,62,32,108,101,110,32,114,125,59,10,108,101,116,32,98,111,116,104,32,108,32,61,32,40,108,101,110,32,108,44,32,108,101,110,32,40,109,97,112,32,108,101,110,32,108,41,41,59,10]⟩
def src2:ByteArray:=⟨#[108,101,116,32,116,119,105,99,101,32,102,32,120,32,61,32,102,32,40,102,32,120,41,59,32,108,101,116,32,112,97,105,114,32,120,32,61,32,40,120,44,32,120,41,59,32,108,101,116,32,102,111,117,114,32,61,32,116,119,105,99,101,32,116,119,105,99,101,59]⟩
def src3:ByteArray:=⟨#[108,101,116,32,101,118,101,110,32,110,32,61,32,105,102,32,110,32,116,104,101,110,32,111,100,100,32,102,97,108,115,101,32,101,108,115,101,32,116,114,117,101,59,32,108,101,116,32,111,100,100,32,110,32,61,32,105,102,32,110,32,116,104,101,110,32,101,118,101,110,32,102,97,108,115,101,32,101,108,115,101,32,102,97,108,115,101,59,32,108,101,116,32,112,32,61,32,40,101,118,101,110,44,32,111,100,100,41,59]⟩
def src4:ByteArray:=⟨#[100,97,116,97,32,80,32,97,32,98,32,61,32,80,32,97,32,98,59,32,108,101,116,32,115,119,97,112,32,112,32,61,32,99,97,115,101,32,112,32,111,102,32,123,80,32,120,32,121,32,45,62,32,80,32,121,32,120,125,59,32,108,101,116,32,113,32,61,32,115,119,97,112,32,40,80,32,49,32,116,114,117,101,41,59]⟩
def src5:ByteArray:=⟨#[108,101,116,32,102,32,120,32,61,32,103,32,120,59,32,108,101,116,32,103,32,121,32,61,32,40,121,44,32,49,41,59,32,108,101,116,32,104,32,61,32,102,32,116,114,117,101,59]⟩
def src6:ByteArray:=⟨#[108,101,116,32,102,32,61,32,49,59,32,108,101,116,32,103,32,61,32,102,32,102,59,32,108,101,116,32,104,32,61,32,102,59]⟩
def txt1:ByteArray:=⟨#[109,97,112,32,58,32,40,97,32,45,62,32,98,41,32,45,62,32,76,105,115,116,32,97,32,45,62,32,76,105,115,116,32,98,10,108,101,110,32,58,32,76,105,115,116,32,97,32,45,62,32,73,110,116,10,98,111,116,104,32,58,32,76,105,115,116,32,40,76,105,115,116,32,97,41,32,45,62,32,40,73,110,116,44,32,73,110,116,41,10]⟩
def txt2:ByteArray:=⟨#[116,119,105,99,101,32,58,32,40,97,32,45,62,32,97,41,32,45,62,32,97,32,45,62,32,97,10,112,97,105,114,32,58,32,97,32,45,62,32,40,97,44,32,97,41,10,102,111,117,114,32,58,32,40,97,32,45,62,32,97,41,32,45,62,32,97,32,45,62,32,97,10]⟩
def txt3:ByteArray:=⟨#[101,118,101,110,32,58,32,66,111,111,108,32,45,62,32,66,111,111,108,10,111,100,100,32,58,32,66,111,111,108,32,45,62,32,66,111,111,108,10,112,32,58,32,40,66,111,111,108,32,45,62,32,66,111,111,108,44,32,66,111,111,108,32,45,62,32,66,111,111,108,41,10]⟩
def txt4:ByteArray:=⟨#[115,119,97,112,32,58,32,80,32,97,32,98,32,45,62,32,80,32,98,32,97,10,113,32,58,32,80,32,66,111,111,108,32,73,110,116,10]⟩
def txt5:ByteArray:=⟨#[102,32,58,32,97,32,45,62,32,40,97,44,32,73,110,116,41,10,103,32,58,32,97,32,45,62,32,40,97,44,32,73,110,116,41,10,104,32,58,32,40,66,111,111,108,44,32,73,110,116,41,10]⟩
theorem par1:jf 2000 src1.data.toList=some (prg src1,0,0):=by kernel_rfl
theorem all1(fd:FineDs (prg src1).datas):ir 100 200 (prg src1) fd=some (0,0,txt1,some (wav src1)):=by kernel_rfl
theorem wle1:lens (wav src1)≤4096∧(wav src1).length≤4096:=by decide+kernel
theorem par2:jf 2000 src2.data.toList=some (prg src2,0,0):=by kernel_rfl
theorem all2(fd:FineDs (prg src2).datas):ir 100 200 (prg src2) fd=some (0,0,txt2,some (wav src2)):=by kernel_rfl
theorem wle2:lens (wav src2)≤4096∧(wav src2).length≤4096:=by decide+kernel
theorem par3:jf 2000 src3.data.toList=some (prg src3,0,0):=by kernel_rfl
theorem all3(fd:FineDs (prg src3).datas):ir 100 200 (prg src3) fd=some (0,0,txt3,some (wav src3)):=by kernel_rfl
theorem wle3:lens (wav src3)≤4096∧(wav src3).length≤4096:=by decide+kernel
theorem par4:jf 2000 src4.data.toList=some (prg src4,0,0):=by kernel_rfl
theorem all4(fd:FineDs (prg src4).datas):ir 100 200 (prg src4) fd=some (0,0,txt4,some (wav src4)):=by kernel_rfl
theorem wle4:lens (wav src4)≤4096∧(wav src4).length≤4096:=by decide+kernel
theorem par5:jf 2000 src5.data.toList=some (prg src5,0,0):=by kernel_rfl
theorem all5(fd:FineDs (prg src5).datas):ir 100 200 (prg src5) fd=some (0,0,txt5,some (wav src5)):=by kernel_rfl
theorem wle5:lens (wav src5)≤4096∧(wav src5).length≤4096:=by decide+kernel
theorem par6:jf 2000 src6.data.toList=some (prg src6,0,0):=by kernel_rfl
theorem all6(fd:FineDs (prg src6).datas):ir 100 200 (prg src6) fd=some (8,15,.empty,some (wav src6)):=by kernel_rfl
theorem wle6:lens (wav src6)≤4096∧(wav src6).length≤4096:=by decide+kernel
section
open Go.Proofs.YtgkenhpfiempbaaGreatDoor.Lx
theorem jI{src:ByteArray}{e q:Int}{t:ByteArray}{w:Gr}(hs:src.size≤65536)(hpar:jf 2000 src.data.toList=some (prg src,0,0))
 (hall:∀fd:FineDs (prg src).datas,ir 100 200 (prg src) fd=some (e,q,t,some w)):Cw 19 [.one (sv src)] [.val (resA e q t),grO (some w)] []:=by
 have hsl:src.data.toList.length=src.size:=by rw[bO];rfl
 have hp:Cw 24 [.one (sv src)] [.val (.agg (oF (prg src))),.val (.one (iv 0)),.val (.one (iv 0))] []:=by
  have h1:=CTW.of (abe (k:=2000) (by omega) (by rw[hsl];exact hs) hpar) rfl;have e:ofL src.data.toList=src:=by cases src;simp[ofL]
  rw[e]at h1;exact h1
 have hfine:FineP (prg src):=by
  generalize prg src=p at hpar;unfold jf at hpar;split at hpar
  ·simp at hpar
  ·split at hpar
   ·cases hpar
   ·rename_i p1 s hpr;split at hpar
    ·simp at hpar
    ·split at hpar
     ·simp at hpar
     ·cases hpar;exact xF (by omega) hpr
 have fd:FineDs (prg src).datas:=⟨hfine.datas,hfine.cons,hfine.args⟩;exact zr (e:=0) fd hfine.binds hfine.bodies hp (fun g hg=>abx hfine.bodies hg) (hall fd)
theorem mL:Cw 7 [] [.val (.one (bv true))] []:=by
 obtain⟨m5,h5⟩:=zY (n:=3) (by omega) (by omega) (by decide) (jI (by decide) par5 all5) wle5.1 (by have:=wle5.2;unfold LIM;omega);obtain⟨m6,h6⟩:=zY (n:=2) (by omega) (by omega) (by decide) (jI (by decide) par6 all6) wle6.1 (by have:=wle6.2;unfold LIM;omega)
 refine cw {} Tryz.func7 (by kernel_rfl) ?_;conv=>whnf
 refine⟨_,_,aaQ (n:=3),?_⟩;conv=>whnf
 refine⟨_,_,h5,?_⟩;conv=>whnf
 refine⟨_,_,aaQ (n:=2),?_⟩;conv=>whnf
 refine⟨_,_,h6,?_⟩;conv=>whnf
 refine⟨_,_,rZ,?_⟩;conv=>whnf
 exact⟨rfl,rfl⟩
end
theorem adm{a b:Nat}(ha:a<256)(hb:b<256)(picks:List Int):Cw 4 [.one (.v (.int .u8 a)),.one (.v (.int .u8 b)),.one (.sl 3 1 (ints picks) none)] [.val (.one (bv true))] []:=by
 have hil:=bh picks;by_cases h100:100<picks.length
 ·refine cw {} Tryz.func4 (by kernel_rfl) ?_;conv=>whnf
  rw[ag (p:=(100:Int)<((ints picks).length:Int)) (by omega)];conv=>whnf
  refine⟨_,_,mL,?_⟩;conv=>whnf
  exact⟨rfl,rfl⟩
 have hp:picks.length≤LIM:=by unfold LIM;omega
 have hn1:1≤1+b % 64:=by omega
 have hn2:1+b % 64≤64:=by omega
 have hidx:((a:Int)).tmod ((4:Nat):Int)=((a % 4:Nat):Int):=by rw[gz (ae _)];omega
 refine cw {} Tryz.func4 (by kernel_rfl) ?_;conv=>whnf
 rw[af (p:=(100:Int)<((ints picks).length:Int)) (by omega)];conv=>whnf
 refine⟨by decide,?_⟩;conv=>whnf
 rw[show IntKind.i64.wrap (a:Int)=a from i64w (by omega) (by omega)];erw [hidx];have hb64:IntKind.i64.wrap (1+(IntKind.i64.wrap (b:Int)).tmod 64)=((1+b % 64:Nat):Int):=by
  rw[show IntKind.i64.wrap (b:Int)=b from i64w (by omega) (by omega),gz (ae _),i64w (by omega) (by omega)];omega
 have h4:a % 4=0∨a % 4=1∨a % 4=2∨a % 4=3:=by omega
 rcases h4 with hc|hc|hc|hc
 ·obtain⟨m,hm⟩:=uZ (n:=1+b % 64) hn1 hn2 hp (by decide) (jI (by decide) par1 all1) wle1.1 (by have:=wle1.2;unfold LIM;omega);rw[hc];refine⟨[sv src1,sv txt1],⟨by decide,by kernel_rfl⟩,?_⟩;conv=>whnf
  refine⟨by decide,?_⟩;conv=>whnf
  refine⟨by decide,?_⟩;conv=>whnf
  rw[hb64];refine⟨_,_,wd (n:=1+b % 64) (picks:=picks),?_⟩;conv=>whnf
  refine⟨_,_,hm,?_⟩;conv=>whnf
  refine⟨aN (by kernel_rfl),?_⟩;conv=>whnf
  refine⟨_,_,rZ,?_⟩;conv=>whnf
  refine⟨by decide,?_⟩;conv=>whnf
  refine⟨_,_,mL,?_⟩;conv=>whnf
  exact⟨rfl,rfl⟩
 ·obtain⟨m,hm⟩:=uZ (n:=1+b % 64) hn1 hn2 hp (by decide) (jI (by decide) par2 all2) wle2.1 (by have:=wle2.2;unfold LIM;omega);rw[hc];refine⟨[sv src2,sv txt2],⟨by decide,by kernel_rfl⟩,?_⟩;conv=>whnf
  refine⟨by decide,?_⟩;conv=>whnf
  refine⟨by decide,?_⟩;conv=>whnf
  rw[hb64];refine⟨_,_,wd (n:=1+b % 64) (picks:=picks),?_⟩;conv=>whnf
  refine⟨_,_,hm,?_⟩;conv=>whnf
  refine⟨aN (by kernel_rfl),?_⟩;conv=>whnf
  refine⟨_,_,rZ,?_⟩;conv=>whnf
  refine⟨by decide,?_⟩;conv=>whnf
  refine⟨_,_,mL,?_⟩;conv=>whnf
  exact⟨rfl,rfl⟩
 ·obtain⟨m,hm⟩:=uZ (n:=1+b % 64) hn1 hn2 hp (by decide) (jI (by decide) par3 all3) wle3.1 (by have:=wle3.2;unfold LIM;omega);rw[hc];refine⟨[sv src3,sv txt3],⟨by decide,by kernel_rfl⟩,?_⟩;conv=>whnf
  refine⟨by decide,?_⟩;conv=>whnf
  refine⟨by decide,?_⟩;conv=>whnf
  rw[hb64];refine⟨_,_,wd (n:=1+b % 64) (picks:=picks),?_⟩;conv=>whnf
  refine⟨_,_,hm,?_⟩;conv=>whnf
  refine⟨aN (by kernel_rfl),?_⟩;conv=>whnf
  refine⟨_,_,rZ,?_⟩;conv=>whnf
  refine⟨by decide,?_⟩;conv=>whnf
  refine⟨_,_,mL,?_⟩;conv=>whnf
  exact⟨rfl,rfl⟩
 ·obtain⟨m,hm⟩:=uZ (n:=1+b % 64) hn1 hn2 hp (by decide) (jI (by decide) par4 all4) wle4.1 (by have:=wle4.2;unfold LIM;omega);rw[hc];refine⟨[sv src4,sv txt4],⟨by decide,by kernel_rfl⟩,?_⟩;conv=>whnf
  refine⟨by decide,?_⟩;conv=>whnf
  refine⟨by decide,?_⟩;conv=>whnf
  rw[hb64];refine⟨_,_,wd (n:=1+b % 64) (picks:=picks),?_⟩;conv=>whnf
  refine⟨_,_,hm,?_⟩;conv=>whnf
  refine⟨aN (by kernel_rfl),?_⟩;conv=>whnf
  refine⟨_,_,rZ,?_⟩;conv=>whnf
  refine⟨by decide,?_⟩;conv=>whnf
  refine⟨_,_,mL,?_⟩;conv=>whnf
  exact⟨rfl,rfl⟩
end
end Go.Proofs.YtgkenhpfiempbaaGreatDoor.V
