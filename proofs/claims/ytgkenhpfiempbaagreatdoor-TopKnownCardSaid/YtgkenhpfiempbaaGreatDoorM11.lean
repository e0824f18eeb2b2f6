/-
  Part M11: F137, F87a, F87b, F87c, F87d, F87e, F87f, F87g, F87, F188, F139, F89, F46, F48a, F48, P6, P7, F158. Conditions stand in the theorems.
-/
import Derived.Test.YtgkenhpfiempbaaGreatDoorM10
set_option linter.all false
set_option maxRecDepth 1000000
set_option maxHeartbeats 8000000
namespace Go.Proofs.YtgkenhpfiempbaaGreatDoor.V
open Go Go.Proofs
noncomputable section
theorem aij{K k:Nat}(ih:∀j,j<k→OfE K j){g g':Gs}{a:Alt}{what told:Int}(hf:aaM a)(h:altR K k g what told a=some g'):Cw 137 [.one g.ac,.agg (altC a),.one (iv what),.one (iv told)] [] [g'.ac]:=by
 cases k with
 |zero=>simp[altR]at h
 |succ k=>
 obtain⟨at_,con,names,bk,ba,bs,bn,bkids,balts⟩:=a;unfold altR at h;split at h
 ·rename_i g1 args x h1;split at h
  ·rename_i g2 h2;have hnl:(names.map str).length=names.length:=by simp
   have hlen:=hf.1;refine cw { fb:=[5]} Tryz.func137 (by kernel_rfl) ?_;unfold altC exC;conv=>whnf
   refine⟨_,_,adk h1,?_⟩;conv=>whnf
   refine⟨_,_,pN h2,?_⟩;conv=>whnf
   obtain⟨⟨env2,ds2,fine2,nm2,bad2⟩,s2⟩:=g2;cases bad2 with
   |true=>
    cases h;conv=>whnf
    exact⟨rfl,rfl⟩
   |false=>
   simp only at h;split at h
   ·rename_i g3 h3;split at h
    ·rename_i g4 y h4;split at h
     ·rename_i g5 h5;conv=>whnf
      refine⟨fun j st=>∃i g6,i+j=names.length∧ki g6 (names.drop i) (args.drop i)=some g3∧st=⟨(32,.one (iv i))::(31,.one (iv (names.map str).length))::(30,.one (.sl 9 1 (names.map str) none))::(8,.one (.sl 3 1 (ints args) none))::(5,.one (.ref (.v (.int .i64 at_):: .v (.string con):: .sl 9 1 (names.map str) none::[.v (.int .i64 bk),.v (.int .i64 ba),.v (.string bs),.v (.int .i64 bn),.sl 78 6 (exsC bkids) none,.sl 226 9 (cf balts) none]) 0))::(3,.one (iv told))::(0,.one (.ptr 1500 0 0))::gobs g6.R g6.s.ns (.uf g6.s.rs.length (Uf g6.s.rs)),
       [gbox g6.R (nds g6.s.ns).length g6.s.rs.length g6.s.lv],fD⟩,
       ⟨names.length,_,ww [32,31,30,8,5,3,0] [1500] [100096,100097,100099,100101] [] rfl,0,_,by omega,h3,rfl⟩,?_⟩
      rintro j st ⟨i,g6,hij,hp,rfl⟩;conv=>whnf
      cases j with
      |zero=>
       rw[af (p:=(i:Int)<((names.map str).length:Int)) (by omega)];rw[ap (by omega)]at hp;cases hp;conv=>whnf
       refine⟨_,_,ih k (by omega) _ (.mk bk ba bs bn bkids balts) _ _ hf.2 h4,?_⟩;conv=>whnf
       refine⟨_,_,pN h5,?_⟩;conv=>whnf
       refine⟨fun j st=>∃i g6,i+j=names.length∧aaf g6 (names.drop i)=some g'∧st=⟨(56,.one (iv i))::(55,.one (iv (names.map str).length))::(54,.one (.sl 9 1 (names.map str) none))::(0,.one (.ptr 1500 0 0))::gobs g6.R g6.s.ns (.uf g6.s.rs.length (Uf g6.s.rs)),
        [gbox g6.R (nds g6.s.ns).length g6.s.rs.length g6.s.lv],fD⟩,
        ⟨names.length,_,ww [56,55,54,0] [1500] [100096,100097,100099,100101] [] rfl,0,_,by omega,h,rfl⟩,?_⟩
       rintro j st ⟨i,g6,hij,hp,rfl⟩;conv=>whnf
       cases j with
       |zero=>
        rw[af (p:=(i:Int)<((names.map str).length:Int)) (by omega)];rw[ap (by omega)]at hp;cases hp;conv=>whnf
        exact⟨rfl,rfl⟩
       |succ j=>
        rw[ag (p:=(i:Int)<((names.map str).length:Int)) (by omega)];have him:i<names.length:=by omega
        rw[aj him]at hp;unfold aaf at hp;split at hp
        ·rename_i g7 h7;have eg:(names.map str)[i]?=some (str names[i]):=by simp[him]
         conv=>whnf
         refine⟨_,⟨ae _,eg⟩,?_⟩;conv=>whnf
         refine⟨_,_,acy h7,?_⟩;conv=>whnf
         rw[i64s i (by omega)];exact⟨j,_,ah j,ww [56,55,54,0] [1500] [100096,100097,100099,100101] [] rfl,i+1,g7,by omega,hp,rfl⟩
        ·cases hp
      |succ j=>
       rw[ag (p:=(i:Int)<((names.map str).length:Int)) (by omega)];have him:i<names.length:=by omega
       rw[aj him]at hp;cases ha:args.drop i with
       |nil=>rw[ha]at hp;simp[ki]at hp
       |cons x2 xs2=>
        rw[ha]at hp;have hx2:args[i]?=some x2:=by
         have:=congrArg (fun l=>l[0]?) ha;simpa using this
        have hxs:args.drop (i+1)=xs2:=by rw[←dD,ha];rfl
        unfold ki at hp;split at hp
        ·rename_i g7 h7;have eg:(names.map str)[i]?=some (str names[i]):=by simp[him]
         conv=>whnf
         refine⟨_,⟨ae _,eg⟩,?_⟩;conv=>whnf
         refine⟨_,⟨ae _,bD hx2⟩,?_⟩;conv=>whnf
         refine⟨_,_,vo h7,?_⟩;conv=>whnf
         rw[i64s i (by omega)];exact⟨j,_,ah j,ww [32,31,30,8,5,3,0] [1500] [100096,100097,100099,100101] [] rfl,i+1,g7,by omega,by rw[hxs];exact hp,rfl⟩
        ·cases hp
     ·cases h
    ·cases h
   ·cases h
  ·cases h
 ·cases h
theorem of1{K k:Nat}(ih:∀j,j≤k→OfE K j){g g':Gs}(hb:g.R.bad=false){a n x:Int}{nm:ByteArray}{kids:List Exp}{alts:List Alt}(hf:dJ (.mk 1 a nm n kids alts))(h:ofR K (k+1) g (.mk 1 a nm n kids alts)=some (g',x)):
 Cw 87 [.one g.ac,.agg (exC (.mk 1 a nm n kids alts))] [.val (.one (iv x))] [g'.ac]:=by
 obtain⟨⟨env,ds,fine,nm2,bad⟩,s⟩:=g;simp only at hb;subst hb;unfold ofR at h;simp only[Int.reduceEq,if_true,if_false,↓reduceIte]at h;refine cw { fb:=[3]} Tryz.func87 (by kernel_rfl) ?_;unfold exC;conv=>whnf
 refine⟨_,_,afw h,?_⟩;conv=>whnf
 exact⟨rfl,rfl⟩
theorem of3{K k:Nat}(ih:∀j,j≤k→OfE K j){g g':Gs}(hb:g.R.bad=false){a n x:Int}{nm:ByteArray}{kids:List Exp}{alts:List Alt}(hf:dJ (.mk 3 a nm n kids alts))(h:ofR K (k+1) g (.mk 3 a nm n kids alts)=some (g',x)):
 Cw 87 [.one g.ac,.agg (exC (.mk 3 a nm n kids alts))] [.val (.one (iv x))] [g'.ac]:=by
 obtain⟨⟨env,ds,fine,nm2,bad⟩,s⟩:=g;simp only at hb;subst hb;unfold ofR at h;simp only[Int.reduceEq,if_true,if_false,↓reduceIte]at h;refine cw { fb:=[3]} Tryz.func87 (by kernel_rfl) ?_;unfold exC;conv=>whnf
 refine⟨_,_,vM h,?_⟩;conv=>whnf
 exact⟨rfl,rfl⟩
theorem of4{K k:Nat}(ih:∀j,j≤k→OfE K j){g g':Gs}(hb:g.R.bad=false){a n x:Int}{nm:ByteArray}{kids:List Exp}{alts:List Alt}(hf:dJ (.mk 4 a nm n kids alts))(h:ofR K (k+1) g (.mk 4 a nm n kids alts)=some (g',x)):
 Cw 87 [.one g.ac,.agg (exC (.mk 4 a nm n kids alts))] [.val (.one (iv x))] [g'.ac]:=by
 obtain⟨⟨env,ds,fine,nm2,bad⟩,s⟩:=g;simp only at hb;subst hb;unfold ofR at h;simp only[Int.reduceEq,if_true,if_false,↓reduceIte]at h;refine cw { fb:=[3]} Tryz.func87 (by kernel_rfl) ?_;unfold exC;conv=>whnf
 refine⟨_,_,vM h,?_⟩;conv=>whnf
 exact⟨rfl,rfl⟩
theorem of7{K k:Nat}(ih:∀j,j≤k→OfE K j){g g':Gs}(hb:g.R.bad=false){a n x:Int}{nm:ByteArray}{kids:List Exp}{alts:List Alt}(hf:dJ (.mk 7 a nm n kids alts))(h:ofR K (k+1) g (.mk 7 a nm n kids alts)=some (g',x)):
 Cw 87 [.one g.ac,.agg (exC (.mk 7 a nm n kids alts))] [.val (.one (iv x))] [g'.ac]:=by
 obtain⟨⟨env,ds,fine,nm2,bad⟩,s⟩:=g;simp only at hb;subst hb;unfold ofR at h;simp only[Int.reduceEq,if_true,if_false,↓reduceIte]at h;refine cw { fb:=[3]} Tryz.func87 (by kernel_rfl) ?_;unfold exC;conv=>whnf
 refine⟨_,_,ahE (ih k (au _)) hf.2.2.1 h,?_⟩;conv=>whnf
 exact⟨rfl,rfl⟩
theorem of5{K k:Nat}(ih:∀j,j≤k→OfE K j){g g':Gs}(hb:g.R.bad=false){a n x:Int}{nm:ByteArray}{kids:List Exp}{alts:List Alt}(hf:dJ (.mk 5 a nm n kids alts))(h:ofR K (k+1) g (.mk 5 a nm n kids alts)=some (g',x)):
 Cw 87 [.one g.ac,.agg (exC (.mk 5 a nm n kids alts))] [.val (.one (iv x))] [g'.ac]:=by
 obtain⟨⟨env,ds,fine,nm2,bad⟩,s⟩:=g;simp only at hb;subst hb;unfold ofR at h;simp only[Int.reduceEq,if_true,if_false,↓reduceIte]at h;split at h
 ·rename_i g1 l h1;split at h
  ·rename_i g2 y h2;split at h
   ·rename_i p q hp hq;split at h
    ·rename_i g3 z h3;split at h
     ·rename_i g4 h4;cases h;refine cw { fb:=[3]} Tryz.func87 (by kernel_rfl) ?_;unfold exC;conv=>whnf
      refine⟨_,_,aaz (fun j hj=>ih j (by omega)) hf.2.2.1 hf.1 h1,?_⟩;conv=>whnf
      refine⟨_,_,vK h2,?_⟩;conv=>whnf
      refine⟨_,⟨by decide,bD hp⟩,?_⟩;conv=>whnf
      refine⟨_,⟨by decide,bD hq⟩,?_⟩;conv=>whnf
      refine⟨_,_,sA h3,?_⟩;conv=>whnf
      refine⟨_,_,pN h4,?_⟩;conv=>whnf
      refine⟨aN (by kernel_rfl),?_⟩;conv=>whnf
      exact⟨rfl,rfl⟩
     ·cases h
    ·cases h
   ·cases h
  ·cases h
 ·cases h
theorem of6{K k:Nat}(ih:∀j,j≤k→OfE K j){g g':Gs}(hb:g.R.bad=false){a n x:Int}{nm:ByteArray}{kids:List Exp}{alts:List Alt}(hf:dJ (.mk 6 a nm n kids alts))(h:ofR K (k+1) g (.mk 6 a nm n kids alts)=some (g',x)):
 Cw 87 [.one g.ac,.agg (exC (.mk 6 a nm n kids alts))] [.val (.one (iv x))] [g'.ac]:=by
 obtain⟨⟨env,ds,fine,nm2,bad⟩,s⟩:=g;simp only at hb;subst hb;unfold ofR at h;simp only[Int.reduceEq,if_true,if_false,↓reduceIte]at h;split at h
 ·rename_i g1 y h1;split at h
  ·rename_i g2 e h2 he;split at h
   ·rename_i g3 z h3;split at h
    ·rename_i g4 h4;have eg:=dB he;have hfe:=cP hf.2.2.1 he;obtain⟨ek,ea,es,en,ekids,ealts⟩:=e;refine cw { fb:=[3]} Tryz.func87 (by kernel_rfl) ?_;unfold exC;conv=>whnf
     refine⟨_,_,vK h1,?_⟩;apply wcut
     ·conv=>whnf
     apply ma;apply me _ rfl rfl
     ·repeat((with_reducible apply di);(· conv=>whnf))
      apply di;(· (conv=>whnf);refine⟨_,_,vo (b:=(y,false)) h2,?_⟩;(conv=>whnf));apply nG;rfl
     apply ma;apply me _ rfl rfl
     ·repeat((with_reducible apply di);(· conv=>whnf))
      apply di;(· (conv=>whnf);refine⟨_,⟨by decide,eg⟩,?_⟩;(conv=>whnf));unfold exC
      repeat((with_reducible apply di);(· conv=>whnf))
      apply di;(· (conv=>whnf);refine⟨_,_,ih k (au _) _ _ _ _ hfe h3,?_⟩;(conv=>whnf))
      repeat((with_reducible apply di);(· conv=>whnf))
      apply nG;rfl
     apply ma;apply me _ rfl rfl
     ·repeat((with_reducible apply di);(· conv=>whnf))
      apply di;(· (conv=>whnf);refine⟨_,_,acy h4,?_⟩;(conv=>whnf));apply nG;rfl
     apply ma;apply me _ rfl rfl
     ·repeat((with_reducible apply di);(· conv=>whnf))
      apply di;(· (conv=>whnf);refine⟨_,_,sA h,?_⟩;(conv=>whnf))
      repeat((with_reducible apply di);(· conv=>whnf))
      apply nG;rfl
     conv=>whnf
     exact⟨rfl,rfl⟩
    ·cases h
   ·cases h
  ·cases h
 ·cases h
theorem of8{K k:Nat}(ih:∀j,j≤k→OfE K j){g g':Gs}(hb:g.R.bad=false){a n x:Int}{nm:ByteArray}{kids:List Exp}{alts:List Alt}(hf:dJ (.mk 8 a nm n kids alts))(h:ofR K (k+1) g (.mk 8 a nm n kids alts)=some (g',x)):
 Cw 87 [.one g.ac,.agg (exC (.mk 8 a nm n kids alts))] [.val (.one (iv x))] [g'.ac]:=by
 obtain⟨⟨env,ds,fine,nm2,bad⟩,s⟩:=g;simp only at hb;subst hb;unfold ofR at h;simp only[Int.reduceEq,if_true,if_false,↓reduceIte]at h;split at h
 ·rename_i g1 l h1;refine cw { fb:=[3]} Tryz.func87 (by kernel_rfl) ?_;unfold exC;conv=>whnf
  refine⟨_,_,aaz (fun j hj=>ih j (by omega)) hf.2.2.1 hf.1 h1,?_⟩;conv=>whnf
  refine⟨_,_,sA h,?_⟩;conv=>whnf
  refine⟨aN (by kernel_rfl),?_⟩;conv=>whnf
  exact⟨rfl,rfl⟩
 ·cases h
theorem px{g g1:Gs}{x y:Int}:∀{l:List Int},lV g x l=some (g1,y)→∀m,m≤l.length→∃r,lV g x (l.drop m)=some r
 |l,h,0,_=>⟨_,h⟩
 | [],_,m+1,hm=>by simp at hm
 |a::l,h,m+1,hm=>by
  unfold lV at h;split at h
  ·rename_i h1;exact px h1 m (by simpa using hm)
  ·cases h
theorem of2{K k:Nat}(ih:∀j,j≤k→OfE K j){g g':Gs}(hb:g.R.bad=false){a n x:Int}{nm:ByteArray}{kids:List Exp}{alts:List Alt}(hf:dJ (.mk 2 a nm n kids alts))(h:ofR K (k+1) g (.mk 2 a nm n kids alts)=some (g',x)):
 Cw 87 [.one g.ac,.agg (exC (.mk 2 a nm n kids alts))] [.val (.one (iv x))] [g'.ac]:=by
 obtain⟨⟨env,ds,fine,nm2,bad⟩,s⟩:=g;simp only at hb;subst hb;unfold ofR at h;simp only[Int.reduceEq,if_true,if_false,↓reduceIte]at h;split at h
 ·rename_i g1 args y h1;split at h
  ·rename_i hlen;unfold LIM at hlen;have hal:=bh args;refine cw { fb:=[3]} Tryz.func87 (by kernel_rfl) ?_;unfold exC;conv=>whnf
   refine⟨_,_,adk h1,?_⟩;conv=>whnf
   rw[show IntKind.i64.wrap (((ints args).length:Int)-1)=(args.length:Int)-1 by rw[hal,i64w (by omega) (by omega)]]
   refine⟨fun j st=>∃g2 z,j≤args.length∧lV g1 y (args.drop j)=some (g2,z)∧st=⟨(7,.one (iv ((j:Int)-1)))::(6,.one (iv z))::(5,.one (.sl 3 1 (ints args) none))::(0,.one (.ptr 1500 0 0))::gobs g2.R g2.s.ns (.uf g2.s.rs.length (Uf g2.s.rs)),
    [gbox g2.R (nds g2.s.ns).length g2.s.rs.length g2.s.lv],fD⟩,
    ⟨args.length,_,ww [7,6,5,0] [1500] [100096,100097,100099,100101] [] rfl,g1,y,au _,by rw[cF];rfl,rfl⟩,?_⟩
   rintro j st ⟨g2,z,hj,hq,rfl⟩;conv=>whnf
   cases j with
   |zero=>
    rw[af (p:=(0:Int)≤((0:Nat):Int)-1) (by omega)];rw[iw,h]at hq;cases hq;conv=>whnf
    exact⟨rfl,rfl⟩
   |succ j=>
    rw[ag (p:=(0:Int)≤((j+1:Nat):Int)-1) (by omega)];have hjl:j<args.length:=by omega
    obtain⟨r,hr⟩:=px h j (by omega);have hr2:=hr;rw[aj hjl]at hr2;unfold lV at hr2;rw[hq]at hr2;simp only at hr2;obtain⟨g3,z3⟩:=r;conv=>whnf
    have eg:(ints args)[(((j+1:Nat):Int)-1).toNat]?=some [iv args[j]]:=by
     rw[show(((j+1:Nat):Int)-1).toNat=j by omega];exact bD (ad hjl)
    refine⟨_,⟨by omega,eg⟩,?_⟩;conv=>whnf
    refine⟨_,_,sA hr2,?_⟩;conv=>whnf
    refine⟨aN (by kernel_rfl),?_⟩;conv=>whnf
    rw[show IntKind.i64.wrap (((j+1:Nat):Int)-1-1)=(j:Int)-1 by rw[i64w (by omega) (by omega)];omega];exact⟨j,_,ah j,ww [7,6,5,0] [1500] [100096,100097,100099,100101] [] rfl,g3,z3,by omega,hr,rfl⟩
  ·cases h
 ·cases h
theorem of9{K k:Nat}(ih:∀j,j≤k→OfE K j){g g':Gs}(hb:g.R.bad=false){a n x:Int}{nm:ByteArray}{kids:List Exp}{alts:List Alt}(hf:dJ (.mk 9 a nm n kids alts))(h:ofR K (k+1) g (.mk 9 a nm n kids alts)=some (g',x)):
 Cw 87 [.one g.ac,.agg (exC (.mk 9 a nm n kids alts))] [.val (.one (iv x))] [g'.ac]:=by
 obtain⟨⟨env,ds,fine,nm2,bad⟩,s⟩:=g;simp only at hb;subst hb;unfold ofR at h;simp only[Int.reduceEq,if_true,if_false,↓reduceIte]at h;split at h
 ·rename_i e0 e1 e2 he0 he1 he2;split at h
  ·rename_i g1 p h1;split at h
   ·rename_i g2 q h2;split at h
    ·rename_i g3 h3;split at h
     ·rename_i g4 y h4;split at h
      ·rename_i g5 z h5;split at h
       ·rename_i g6 h6;cases h;have eg0:=dB he0;have eg1:=dB he1;have eg2:=dB he2;have hf0:=cP hf.2.2.1 he0;have hf1:=cP hf.2.2.1 he1;have hf2:=cP hf.2.2.1 he2;obtain⟨k0,a0,s0,n0,kids0,alts0⟩:=e0;obtain⟨k1,a1,s1,n1,kids1,alts1⟩:=e1;obtain⟨k2,a2,s2,n2,kids2,alts2⟩:=e2
        refine cw { fb:=[3]} Tryz.func87 (by kernel_rfl) ?_;unfold exC;conv=>whnf
        refine⟨_,⟨by decide,eg0⟩,?_⟩;unfold exC;conv=>whnf
        refine⟨_,_,ih k (au _) _ _ _ _ hf0 h1,?_⟩;conv=>whnf
        refine⟨_,_,vM h2,?_⟩;conv=>whnf
        refine⟨_,_,pN h3,?_⟩;apply aiq
        ·conv=>whnf
         refine⟨aN (by kernel_rfl),?_⟩;conv=>whnf
        apply ma;apply me _ rfl rfl
        ·repeat((with_reducible apply di);(· conv=>whnf))
         apply di;(· (conv=>whnf);refine⟨_,⟨by decide,eg1⟩,?_⟩;(conv=>whnf));unfold exC
         repeat((with_reducible apply di);(· conv=>whnf))
         apply di;(· (conv=>whnf);refine⟨_,_,ih k (au _) _ _ _ _ hf1 h4,?_⟩;(conv=>whnf))
         repeat((with_reducible apply di);(· conv=>whnf))
         apply nG;rfl
        apply ma;apply me _ rfl rfl
        ·repeat((with_reducible apply di);(· conv=>whnf))
         apply di;(· (conv=>whnf);refine⟨_,⟨by decide,eg2⟩,?_⟩;(conv=>whnf));unfold exC
         repeat((with_reducible apply di);(· conv=>whnf))
         apply di;(· (conv=>whnf);refine⟨_,_,ih k (au _) _ _ _ _ hf2 h5,?_⟩;(conv=>whnf))
         repeat((with_reducible apply di);(· conv=>whnf))
         apply di;(· (conv=>whnf);refine⟨_,_,pN h6,?_⟩;(conv=>whnf))
         repeat((with_reducible apply di);(· conv=>whnf))
         apply nG;rfl
        conv=>whnf
        exact⟨rfl,rfl⟩
       ·cases h
      ·cases h
     ·cases h
    ·cases h
   ·cases h
  ·cases h
 ·cases h
theorem of10{K k:Nat}(ih:∀j,j≤k→OfE K j){g g':Gs}(hb:g.R.bad=false){a n x:Int}{nm:ByteArray}{kids:List Exp}{alts:List Alt}(hf:dJ (.mk 10 a nm n kids alts))(h:ofR K (k+1) g (.mk 10 a nm n kids alts)=some (g',x)):
 Cw 87 [.one g.ac,.agg (exC (.mk 10 a nm n kids alts))] [.val (.one (iv x))] [g'.ac]:=by
 obtain⟨⟨env,ds,fine,nm2,bad⟩,s⟩:=g;simp only at hb;subst hb;unfold ofR at h;simp only[Int.reduceEq,if_true,if_false,↓reduceIte]at h;split at h
 ·rename_i g1 told e h1 he;split at h
  ·rename_i g2 what h2;split at h
   ·rename_i g3 h3;cases h;have eg:=dB he;have hfe:=cP hf.2.2.1 he;have hal:=fU alts;have hlen:=hf.2.1;obtain⟨ek,ea,es,en,ekids,ealts⟩:=e;refine cw { fb:=[3]} Tryz.func87 (by kernel_rfl) ?_;unfold exC;conv=>whnf
    refine⟨_,_,vK h1,?_⟩;conv=>whnf
    refine⟨_,⟨by decide,eg⟩,?_⟩;unfold exC;conv=>whnf
    refine⟨_,_,ih k (au _) _ _ _ _ hfe h2,?_⟩;conv=>whnf
    refine⟨fun j st=>∃i g4,i≤alts.length∧j≤k∧tm K j g4 what x (alts.drop i)=some g'∧st=⟨(182,.one (iv i))::(181,.one (iv (cf alts).length))::(180,.one (.sl 226 9 (cf alts) none))::(14,.one (iv what))::(13,.one (iv x))::(0,.one (.ptr 1500 0 0))::gobs g4.R g4.s.ns (.uf g4.s.rs.length (Uf g4.s.rs)),
     [gbox g4.R (nds g4.s.ns).length g4.s.rs.length g4.s.lv],fD⟩,
     ⟨k,_,ww [182,181,180,14,13,0] [1500] [100096,100097,100099,100101] [] rfl,0,g2,aR _,au _,h3,rfl⟩,?_⟩
    rintro j st ⟨i,g4,hi,hj,hq,rfl⟩;conv=>whnf
    cases j with
    |zero=>simp[tm]at hq
    |succ j=>
    by_cases him:i<alts.length
    ·rw[ag (p:=(i:Int)<((cf alts).length:Int)) (by omega)];rw[aj him]at hq;unfold tm at hq;have eg2:=fa (ad him);have hfa:=eK hf.2.2.2 (ad him);generalize alts[i]=al at hq eg2 hfa
     obtain⟨aa,ac,ans,abk,aba,abs,abn,abkids,abalts⟩:=al;obtain⟨⟨env4,ds4,fine4,nm4,bad4⟩,s4⟩:=g4;cases bad4 with
     |true=>
      conv=>whnf
      refine⟨_,⟨ae _,eg2⟩,?_⟩;unfold altC exC;conv=>whnf
      rw[i64s i (by omega)];exact⟨j,_,ah j,ww [182,181,180,14,13,0] [1500] [100096,100097,100099,100101] [] rfl,i+1,_,him,by omega,hq,rfl⟩
     |false=>
      simp only at hq;split at hq
      ·rename_i g5 h5;conv=>whnf
       refine⟨_,⟨ae _,eg2⟩,?_⟩;unfold altC exC;conv=>whnf
       refine⟨_,_,aij (fun j hj=>ih j (by omega)) hfa h5,?_⟩;conv=>whnf
       rw[i64s i (by omega)];exact⟨j,_,ah j,ww [182,181,180,14,13,0] [1500] [100096,100097,100099,100101] [] rfl,i+1,g5,him,by omega,hq,rfl⟩
      ·cases hq
    ·rw[af (p:=(i:Int)<((cf alts).length:Int)) (by omega)];rw[ap (by omega)]at hq;unfold tm at hq;cases hq;conv=>whnf
     exact⟨rfl,rfl⟩
   ·cases h
  ·cases h
 ·cases h
theorem ahv{g g':Gs}(hb:g.R.bad=true){e:Exp}{x:Int}(h:g.var=some (g',x)):Cw 87 [.one g.ac,.agg (exC e)] [.val (.one (iv x))] [g'.ac]:=by
 obtain⟨⟨env,ds,fine,nm2,bad⟩,s⟩:=g;simp only at hb;subst hb;obtain⟨kd,a,nm,n,kids,alts⟩:=e;refine cw { fb:=[3]} Tryz.func87 (by kernel_rfl) ?_;unfold exC;conv=>whnf
 refine⟨_,_,vK h,?_⟩;conv=>whnf
 exact⟨rfl,rfl⟩
theorem of_u(K:Nat):∀k,OfE K k:=by
 intro k
 induction k using Nat.strongRecOn with
 |ind k ih=>
 intro g e g' x hf h;cases k with
 |zero=>simp[ofR]at h
 |succ k=>
 have ih:∀j,j≤k→OfE K j:=fun j hj=>ih j (by omega);obtain⟨kd,a,nm,n,kids,alts⟩:=e;cases hb:g.R.bad with
 |true=>
  unfold ofR at h;rw[hb]at h;exact ahv hb h
 |false=>
  by_cases h1:kd=1
  ·subst h1;exact of1 ih hb hf h
  by_cases h2:kd=2
  ·subst h2;exact of2 ih hb hf h
  by_cases h3:kd=3
  ·subst h3;exact of3 ih hb hf h
  by_cases h4:kd=4
  ·subst h4;exact of4 ih hb hf h
  by_cases h5:kd=5
  ·subst h5;exact of5 ih hb hf h
  by_cases h6:kd=6
  ·subst h6;exact of6 ih hb hf h
  by_cases h7:kd=7
  ·subst h7;exact of7 ih hb hf h
  by_cases h8:kd=8
  ·subst h8;exact of8 ih hb hf h
  by_cases h9:kd=9
  ·subst h9;exact of9 ih hb hf h
  by_cases h10:kd=10
  ·subst h10;exact of10 ih hb hf h
  unfold ofR at h;rw[hb]at h;simp only[h1,h2,h3,h4,h5,h6,h7,h8,h9,h10,if_false]at h;cases h
def tts(l:List Int):List MV:=l.map fun _=>tt
def cloV(l:List Int):AC:=.clo 189 [.obox 311 [.omap z0 (keyI l) (tts l)],.obox 24 [.own 3 1 (ints l)]]
def addV(n:Int)(l:List Int):Option (List Int):=match fidx n l with
 |some _=>some l
 |none=>if l.length<LIM then some (l++[n]) else none
mutual
def nH:Ty→List Int→Option (List Int)
 | .mk k n _ kids,l=>match(if k=1 then addV n l else some l) with
  |some l1=>pJ kids l1
  |none=>none
def pJ:List Ty→List Int→Option (List Int)
 | [],l=>some l
 |t::ts,l=>match nH t l with
  |some l1=>pJ ts l1
  |none=>none
end
mutual
def ik:Ty→Prop
 | .mk _ _ _ kids=>kids.length≤LIM∧lA kids
def lA:List Ty→Prop
 | []=>True
 |t::l=>ik t∧lA l
end
theorem iT:∀{l:List Ty} {t:Ty},lA l→t∈l→ik t
 |t::l,x,h,hx=>by
  rcases aV.1 hx with rfl|hx
  ·exact h.1
  ·exact iT h.2 hx
theorem aeU(l:List Int)(n:Int):tts (l++[n])=tts l++[tt]:=by simp[tts]
theorem xr(l:List Int)(n:Int):keyI (l++[n])=keyI l++[.int .i64 n]:=by simp[keyI]
theorem adw(l:List Int)(n:Int):ints (l++[n])=ints l++[[iv n]]:=by simp[ints]
theorem aaS{n:Int}{l l':List Int}(h:addV n l=some l'):Cw 189 [.one (iv n),.one (.obox 311 [.omap z0 (keyI l) (tts l)]),.one (.obox 24 [.own 3 1 (ints l)])] [] [.obox 311 [.omap z0 (keyI l') (tts l')],.obox 24 [.own 3 1 (ints l')]]:=by
 have hfk:=ic n l;have hil:=bh l;unfold addV at h;refine cw {} Tryz.func189 (by kernel_rfl) ?_;conv=>whnf
 cases hf:fidx n l with
 |some ix=>
  rw[hf]at h hfk;cases h;refine⟨some ix,hfk,?_⟩;conv=>whnf
  refine⟨tt,by simp[tts,iq hf],?_⟩;conv=>whnf
  exact⟨rfl,rfl⟩
 |none=>
  rw[hf]at h hfk;simp only at h;split at h
  ·rename_i hlen;unfold LIM at hlen;cases h;refine⟨none,hfk,?_⟩;conv=>whnf
   refine⟨none,hfk,?_⟩;conv=>whnf
   refine⟨by show(ints l).length+1≤lim 8;simp[lim];omega,?_⟩;conv=>whnf
   rw[aeU,xr,adw];exact⟨rfl,rfl⟩
  ·cases h
theorem afO(t:Ty):∀{l l':List Int},ik t→nH t l=some l'→Cw 188 [.agg (tyC t),.one (cloV l)] [] [cloV l']:=by
 induction t using Ty.ind with
 |h kd n nm kids ih=>
 intro l l' hs h;have hlen:=hs.1;unfold LIM at hlen;have htl:=bU kids;unfold nH at h;split at h
 ·rename_i l1 h1;have hh:(kd=1∧addV n l=some l1)∨(kd≠1∧l1=l):=by
   by_cases hk:kd=1
   ·rw[if_pos hk]at h1;exact .inl ⟨hk,h1⟩
   ·rw[if_neg hk]at h1;cases h1;exact .inr ⟨hk,rfl⟩
  clear h1;refine cw { fb:=[2]} Tryz.func188 (by kernel_rfl) ?_;unfold tyC;conv=>whnf
  rcases hh with⟨hk,h1⟩|⟨hk,rfl⟩
  case' inl=>
   rw[ag hk];conv=>whnf
   refine⟨_,_,aaS h1,?_⟩;conv=>whnf
  case' inr=>
   rw[af hk];conv=>whnf
  all_goals
   refine⟨fun j st=>∃i l2,i+j=kids.length∧pJ (kids.drop i) l2=some l'∧st=⟨(16,.one (iv i))::(15,.one (iv (tysC kids).length))::(14,.one (.sl 88 4 (tysC kids) none))::(1,.one (.clo 189 [.ptr 1516 0 0,.ptr 1517 0 0]))::[(OB+101120,.ob 101120 0 (.map z0 (keyI l2) (tts l2))),(OB+101184,.ob 101184 0 (.row 3 1 (ints l2)))],[(1516,⟨0,311,[.mref 101120 0]⟩),(1517,⟨0,24,[.rref 101184 0 (ints l2).length]⟩)],[aS 101120,aS 101184]⟩,
    ⟨kids.length,_,ww [16,15,14,1] [1516,1517] [101120,101184] [] rfl,0,l1,by omega,h,rfl⟩,?_⟩
   rintro j st ⟨i,l2,hij,hq,rfl⟩;conv=>whnf
   cases j with
   |zero=>
    rw[af (p:=(i:Int)<((tysC kids).length:Int)) (by omega)];rw[ap (by omega)]at hq;cases hq;conv=>whnf
    exact⟨rfl,rfl⟩
   |succ j=>
    rw[ag (p:=(i:Int)<((tysC kids).length:Int)) (by omega)];have him:i<kids.length:=by omega
    rw[aj him]at hq;unfold pJ at hq;split at hq
    ·rename_i l3 h3;have eg:=ga (ad him);have hm:=bp him;generalize kids[i]=ti at h3 eg hm;have hst:=iT hs.2 hm;have ihh:=ih _ hm hst h3;obtain⟨tk,tn,ts,tks⟩:=ti;conv=>whnf
     refine⟨_,⟨ae _,eg⟩,?_⟩;unfold tyC;conv=>whnf
     refine⟨_,_,ihh,?_⟩;conv=>whnf
     rw[i64s i (by omega)];exact⟨j,_,ah j,ww [16,15,14,1] [1516,1517] [101120,101184] [] rfl,i+1,l3,by omega,hq,rfl⟩
    ·cases hq
 ·cases h
theorem wF{t:Ty}{l:List Int}(hs:ik t)(h:nH t []=some l):Cw 140 [.agg (tyC t)] [.val (.one (.sl 3 1 (ints l) none))] []:=by
 refine cw { own:=[(24,0)]} Tryz.func140 (by kernel_rfl) ?_;have he:=afO t hs h;obtain⟨tk,tn,ts,tks⟩:=t;unfold tyC;conv=>whnf
 refine⟨_,_,he,?_⟩;conv=>whnf
 exact⟨rfl,rfl⟩
def cloN(l:List Int):AC:=.clo 187 [.obox 209 [mapN l]]
mutual
def renT(l:List Int):Ty→Ty
 | .mk k n s kids=>if k=1 then .mk 1 (((fidx n l).getD 0:Nat):Int) .empty [] else .mk k n s (oC l kids)
def oC(l:List Int):List Ty→List Ty
 | []=>[]
 |t::ts=>renT l t::oC l ts
end
theorem jF(l:List Int):∀ts,oC l ts=ts.map (renT l)
 | []=>rfl
 |t::ts=>by simp[oC,jF l ts]
theorem rG:∀ts:List Ty,tysC ts=ts.map tyC
 | []=>rfl
 |t::ts=>by simp[tysC,rG ts]
theorem zy{n:Int}{l:List Int}:Cw 187 [.one (iv n),.one (.obox 209 [mapN l])] [.val (.agg (tyC (.mk 1 (((fidx n l).getD 0:Nat):Int) .empty []))),.val (.one (.v (.bool true)))] [.obox 209 [mapN l]]:=by
 have hfk:=ic n l;refine cw {} Tryz.func187 (by kernel_rfl) ?_;conv=>whnf
 cases hf:fidx n l with
 |some ix=>
  rw[hf]at hfk;refine⟨some ix,hfk,?_⟩;conv=>whnf
  refine⟨_,oL (iq hf),?_⟩;conv=>whnf
  exact⟨rfl,rfl⟩
 |none=>
  rw[hf]at hfk;refine⟨none,hfk,?_⟩;conv=>whnf
  exact⟨rfl,rfl⟩
theorem aaU(t:Ty):∀{l:List Int},ik t→Cw 186 [.agg (tyC t),.one (cloN l)] [.val (.agg (tyC (renT l t)))] [cloN l]:=by
 induction t using Ty.ind with
 |h kd n nm kids ih=>
 intro l hs;have hlen:=hs.1;have hlen2:=hlen;unfold LIM at hlen2;have htl:=bU kids;by_cases hk:kd=1
 ·have hr:renT l (.mk kd n nm kids)= .mk 1 (((fidx n l).getD 0:Nat):Int) .empty []:=by unfold renT;rw[if_pos hk]
  rw[hr];refine cw {} Tryz.func186 (by kernel_rfl) ?_;unfold tyC;conv=>whnf
  rw[ag hk];conv=>whnf
  refine⟨_,_,zy (n:=n) (l:=l),?_⟩;conv=>whnf
  exact⟨rfl,rfl⟩
 ·have hr:renT l (.mk kd n nm kids)= .mk kd n nm (oC l kids):=by unfold renT;rw[if_neg hk]
  rw[hr];refine cw {} Tryz.func186 (by kernel_rfl) ?_;unfold tyC;conv=>whnf
  rw[af hk];conv=>whnf
  refine⟨_,_,uC (by rw[htl];exact hlen) (uP kids),?_⟩;conv=>whnf
  refine⟨fun j st=>∃i xs,i+j=kids.length∧xs=oC l (kids.take i)++kids.drop i∧st=⟨(29,.one (iv i))::(28,.one (iv (tysC kids).length))::(27,.one (.rref 24 0 (tysC kids).length))::(4,.one (.ptr 4 0 0))::(2,.one (.ptr 2 0 0))::(1,.one (.clo 187 [.ptr 1516 0 0]))::[(OB+24,.ob 24 0 (.row 88 4 (tysC xs))),(OB+101120,.ob 101120 0 (.map z0 (keyI l) (numV l.length)))],[(1516,⟨0,209,[.mref 101120 0]⟩),(2,⟨0,88,[iv kd,iv n,sv nm,.rref 24 0 (tysC kids).length]⟩),(4,⟨0,88,[iv 0,iv 0,sv .empty,.nil 88 4]⟩)],[aS 24,aS 101120]⟩,
   ⟨kids.length,_,ww [29,28,27,4,2,1] [1516,2,4] [24,101120] [] rfl,0,kids,by omega,rfl,rfl⟩,?_⟩
  rintro j st ⟨i,xs,hij,hxs,rfl⟩;have hxl:xs.length=kids.length:=by
   rw[hxs,aH,jF,cG,dx,cr];omega
  have hxl2:=bU xs;conv=>whnf
  cases j with
  |zero=>
   rw[af (p:=(i:Int)<((tysC kids).length:Int)) (by omega)];rw[ap (by omega),cU (by omega),aX]at hxs;subst hxs;conv=>whnf
   exact⟨rfl,rfl⟩
  |succ j=>
   rw[ag (p:=(i:Int)<((tysC kids).length:Int)) (by omega)];have him:i<kids.length:=by omega
   have hrl:(oC l (kids.take i)).length=i:=by rw[jF,cG,dx];omega
   have hxi:xs[i]?=some kids[i]:=by
    rw[hxs,cj (by omega),hrl,ch,cI,fl,ad him]
   have eg:=ga hxi;have hxs2:xs.set i (renT l kids[i])=oC l (kids.take (i+1))++kids.drop (i+1):=by
    rw[hxs,da _ _ (by omega),hrl,ch,aj him,eh,cq him,jF,jF,bw,fp];rfl
   have hm:=bp him;generalize kids[i]=ti at eg hm hxs2;have ihh:=ih _ hm (l:=l) (iT hs.2 hm);have hset:(tysC xs).set i (tyC (renT l ti))=tysC (xs.set i (renT l ti)):=by rw[rG,rG,bX]
   generalize renT l ti=ri at ihh hset hxs2;obtain⟨tk,tn,ts,tks⟩:=ti;obtain⟨rk,rn,rs,rks⟩:=ri;conv=>whnf
   refine⟨⟨by omega,by omega⟩,?_⟩;conv=>whnf
   refine⟨_,⟨ae _,eg⟩,?_⟩;unfold tyC;conv=>whnf
   refine⟨_,_,ihh,?_⟩;unfold tyC;conv=>whnf
   refine⟨⟨by omega,by omega⟩,?_⟩;conv=>whnf
   refine⟨_,⟨ae _,eg⟩,?_⟩;conv=>whnf
   refine⟨aN (by kernel_rfl),?_⟩;conv=>whnf
   rw[i64s i (by omega)];have e2:(tysC xs).set (i:Int).toNat (over (tyC (.mk tk tn ts tks)) 0 [.v (.int .i64 rk),.v (.int .i64 rn),.v (.string rs),.sl 88 4 (tysC rks) none])=tysC (xs.set i (.mk rk rn rs rks)):=hset
   refine⟨j,_,ah j,ww [29,28,27,4,2,1] [1516,2,4] [24,101120] [] rfl,i+1,xs.set i (.mk rk rn rs rks),by omega,hxs2,?_⟩;rw[←e2];rfl
theorem qi{α:Type}[DecidableEq α]{x:α}:∀{l:List α},fidx x l=none↔x∉l
 | []=>by simp[fidx]
 |y::l=>by
  by_cases h:x=y
  ·simp[fidx,h]
  ·simp[fidx,h,qi (l:=l)]
theorem zJ{n:Int}{l l':List Int}(h:addV n l=some l')(hl:l.Nodup∧l.length≤LIM):l'.Nodup∧l'.length≤LIM:=by
 unfold addV at h;split at h
 ·cases h;exact hl
 ·rename_i hf;split at h
  ·cases h;have:=qi.1 hf;refine⟨aU.2 ⟨hl.1,by simp,fun a ha b hb e=>?_⟩,by simp;omega⟩;simp at hb;subst hb;subst e;exact this ha
  ·cases h
theorem wD(t:Ty):∀{l l':List Int},nH t l=some l'→l.Nodup∧l.length≤LIM→l'.Nodup∧l'.length≤LIM:=by
 induction t using Ty.ind with
 |h kd n nm kids ih=>
 have hks:∀(ks:List Ty),(∀t∈ks,t∈kids)→∀{l l':List Int},pJ ks l=some l'→l.Nodup∧l.length≤LIM→l'.Nodup∧l'.length≤LIM:=by
  intro ks
  induction ks with
  |nil=>intro _ l l' h hl;cases h;exact hl
  |cons t ts iht=>
   intro hm l l' h hl;unfold pJ at h;split at h
   ·rename_i l1 h1;exact iht (fun t ht=>hm t (aD _ ht)) h (ih t (hm t (aI)) h1 hl)
   ·cases h
 intro l l' h hl;unfold nH at h;split at h
 ·rename_i l1 h1;refine hks kids (fun _ h=>h) h ?_;split at h1
  ·exact zJ h1 hl
  ·cases h1;exact hl
 ·cases h
theorem wC{t:Ty}{l:List Int}(h:nH t []=some l):l.length≤LIM:=(wD t h ⟨kf,aR _⟩).2
theorem wE{t:Ty}{l:List Int}(h:nH t []=some l)(i:Nat)(hi:i<l.length):fidx l[i] (l.take i)=none:=by
 have hn:=(wD t h ⟨kf,aR _⟩).1;rw[qi];rw[←List.take_append_drop i l,aj hi]at hn;have:=(aU.1 hn).2.2;exact fun hm=>this _ hm _ aI rfl
def wa(t:Ty):Option Ty:=match nH t [] with
 |some l=>some (renT l t)
 |none=>none
theorem aen{t u:Ty}(hs:ik t)(h:wa t=some u):Cw 139 [.agg (tyC t)] [.val (.agg (tyC u))] []:=by
 unfold wa at h;split at h
 ·rename_i l hl;cases h;have hv:=wF hs hl;have ht:=aaU t (l:=l) hs;have hll:=bh l;have hlim:=wC hl;unfold LIM at hlim;refine cw {} Tryz.func139 (by kernel_rfl) ?_;generalize renT l t=r at ht;obtain⟨tk,tn,ts,tks⟩:=t;obtain⟨rk,rn,rs,rks⟩:=r;unfold tyC;conv=>whnf
  refine⟨_,_,hv,?_⟩;conv=>whnf
  refine⟨fun j st=>∃i,i+j=l.length∧st=⟨(10,.one (iv i))::(9,.one (iv (ints l).length))::(8,.one (.sl 3 1 (ints l) none))::(3,.one (.ptr 3 0 0))::(2,.one (.ptr 2 0 0))::(1,.one (.ptr 1 0 0))::[(OB+6,.ob 6 0 (.map z0 (keyI (l.take i)) (numV i)))],[(1,⟨0,88,[iv tk,iv tn,sv ts,.sl 88 4 (tysC tks) none]⟩),(2,⟨0,88,[iv 0,iv 0,sv .empty,.nil 88 4]⟩),(3,⟨0,209,[.mref 6 0]⟩)],[aS 6]⟩,
   ⟨l.length,_,ww [10,9,8,3,2,1] [1,2,3] [6] [] rfl,0,by omega,rfl⟩,?_⟩
  rintro j st ⟨i,hij,rfl⟩;conv=>whnf
  cases j with
  |zero=>
   rw[af (p:=(i:Int)<((ints l).length:Int)) (by omega)];have hil:i=l.length:=by omega
   subst hil;rw[List.take_length];conv=>whnf
   refine⟨_,_,ht,?_⟩;unfold tyC;conv=>whnf
   exact⟨rfl,rfl⟩
  |succ j=>
   rw[ag (p:=(i:Int)<((ints l).length:Int)) (by omega)];have him:i<l.length:=by omega
   have hnf:fidx l[i] (l.take i)=none:=wE hl i him;have hfk:=ic l[i] (l.take i);rw[hnf]at hfk;conv=>whnf
   refine⟨_,⟨ae _,bD (ad him)⟩,?_⟩;conv=>whnf
   refine⟨none,hfk,?_⟩;conv=>whnf
   rw[i64s i (by omega)];refine⟨j,_,ah j,ww [10,9,8,3,2,1] [1,2,3] [6] [] rfl,i+1,by omega,?_⟩;rw[cq him,xr,pX];rfl
 ·cases h
theorem yI(l:List Int)(t:Ty):ik t→ik (renT l t):=by
 induction t using Ty.ind with
 |h kd n nm kids ih=>
 intro h;unfold renT;split
 ·exact⟨aR _,trivial⟩
 ·refine⟨by rw[jF,cG];exact h.1,?_⟩;have:∀ks:List Ty,(∀t∈ks,t∈kids)→lA ks→lA (oC l ks):=by
   intro ks
   induction ks with
   |nil=>intro _ _;trivial
   |cons t ts iht=>exact fun hm hs=>⟨ih t (hm t aI) hs.1,iht (fun t ht=>hm t (aD _ ht)) hs.2⟩
  exact this kids (fun _ h=>h) h.2
def aci(t:Ty):Option Sch:=match wa t with
 |some u=>match nH u [] with
  |some l=>some ⟨(l.length:Int),u⟩
  |none=>none
 |none=>none
theorem ach{t:Ty}{s:Sch}(hs:ik t)(h:aci t=some s):Cw 89 [.agg (tyC t)] [.val (.agg (schC s))] []:=by
 unfold aci at h;split at h
 ·rename_i u hu;split at h
  ·rename_i l hl;cases h;have hc:=aen hs hu;have hsu:ik u:=by
    unfold wa at hu;split at hu
    ·cases hu;exact yI _ _ hs
    ·cases hu
   have hv:=wF hsu hl;have hll:=bh l;refine cw {} Tryz.func89 (by kernel_rfl) ?_;unfold schC;obtain⟨tk,tn,ts,tks⟩:=t;obtain⟨uk,un,us,uks⟩:=u;unfold tyC at hc hv ⊢;conv=>whnf
   refine⟨_,_,hc,?_⟩;conv=>whnf
   refine⟨_,_,hv,?_⟩;conv=>whnf
   refine⟨aN (by kernel_rfl),?_⟩;conv=>whnf
   rw[hll];exact⟨rfl,rfl⟩
  ·cases h
 ·cases h
mutual
theorem qA:∀{k:Nat} {s:Sv} {x:Int} {nums nums':List Int} {t:Ty},qB k s x nums=some (nums',t)→ik t
 |0,_,_,_,_,_,h=>by simp[qB]at h
 |k+1,s,x,nums,nums',t,h=>by
  unfold qB at h;split at h
  ·split at h
   ·split at h
    ·split at h
     ·cases h;exact⟨aR _,trivial⟩
     ·cases h;exact⟨aR _,trivial⟩
    ·split at h
     ·rename_i hd hl;cases h;obtain⟨h1,h2⟩:=ox hl;exact⟨by rw[h2];exact aJ hd,h1⟩
     ·cases h
   ·cases h
  ·cases h
theorem ox:∀{k:Nat} {s:Sv} {l nums nums':List Int} {ts:List Ty},kD k s l nums=some (nums',ts)→lA ts∧ts.length=l.length
 |0,_,_,_,_,_,h=>by simp[kD]at h
 |k+1,s,[],nums,nums',ts,h=>by unfold kD at h;cases h;exact⟨trivial,rfl⟩
 |k+1,s,c::l,nums,nums',ts,h=>by
  unfold kD at h;split at h
  ·rename_i h1;split at h
   ·rename_i h2;cases h;obtain⟨q1,q2⟩:=ox h2;exact⟨⟨qA h1,q1⟩,by simp[q2]⟩
   ·cases h
  ·cases h
end
def qn(l:List (ByteArray×Sch))(n:ByteArray×Sch):List (ByteArray×Sch):=match getA n.1 l with
 |some _=>l
 |none=>l++[n]
def rx(K:Nat)(g:Gs):List BindD→List Int→Option Gs
 | [],_=>some g
 |b::l,x::xs=>match ofR K K g b.body with
  |some (g1,y)=>match qC K g1 y x with
   |some g2=>rx K g2 l xs
   |none=>none
  |none=>none
 |_::_,[]=>none
def xf(K:Nat)(g:Gs):List Int→List Sch→Option (List Sch×Int)
 | [],acc=>some (acc,0)
 |x::l,acc=>match g.R.bad with
  |true=>some ([],8)
  |false=>match aaL K g.s x with
   |some true=>match qB K g.s x [] with
    |some (_,t)=>match aci t with
     |some s=>if acc.length<4294967296 then xf K g l (acc++[s]) else none
     |none=>none
    |none=>none
   |some false=>some ([],8)
   |none=>none
def adE(env:List (ByteArray×Sch))(ds:List DataD)(fine:FineDs ds):Gs:=⟨⟨env.foldl qn [],ds,fine,[],false⟩,⟨[],[],0⟩⟩
def zc(K:Nat)(env:List (ByteArray×Sch))(ds:List DataD)(fine:FineDs ds)(bs:List BindD):Option (List Sch×Int):=match Sv.vars bs.length (adE env ds fine).s with
 |some (s1,vars)=>match ki ⟨(adE env ds fine).R,s1⟩ (bs.map BindD.s) vars with
  |some g2=>match rx K g2 bs vars with
   |some g3=>xf K g3 vars []
   |none=>none
  |none=>none
 |none=>none
def jS(p:ByteArray×Sch):List AC:=sv p.1::schC p.2
def jq(l:List Sch):List (List AC):=l.map schC
def hobs(R:GR)(ns:List Nd)(to:Ob):List (Nat×AV):=[(OB+5696,.ob 5696 0 (.row 263 4 (nds ns))),(OB+5697,.ob 5697 0 to),(OB+5699,.ob 5699 0 (.map kz (envK R.env) (envV R.env))),(OB+5701,.ob 5701 0 (.mrow kz 204 2 (nmK R.nm) (nmV R.nm)))]
def hbox(R:GR)(a b:Nat)(n:Int):Nat×Box:=(25,⟨0,198,[.rref 5696 0 a,.rref 5697 0 b,iv n,.mref 5699 0,.sl 158 4 (R.ds.map bS) none,.mref 5701 0,.v (.bool R.bad)]⟩)
def vJ:List (Nat×Perm):=[aS 5696,aS 5697,aS 5699,aS 5701]
theorem adU(l:List (ByteArray×Sch))(n:ByteArray×Sch):envK (l++[n])=envK l++[keyS n.1]∧envV (l++[n])=envV l++[(true,schC n.2)]:=by simp[envK,envV]
def M46:Md:={ mt:=[123],nest:=[23]}
theorem adC{l:List Sch}{e:Int}(K:List WRes→List AC→Prop)(hK:∀rs cs,K rs cs→(rs=[.val (.one (.sl 90 5 (jq l) none)),.val (.one (iv e))]∨(l=[]∧rs=[.val (.one (.v (.slice none 0 0))),.val (.one (iv e))]))∧cs=[]):∀rs cs,K rs cs→LeRs rs [.val (.one (.sl 90 5 (jq l) none)),.val (.one (iv e))]∧LeL cs []:=by
 intro rs cs hk;obtain⟨hr,rfl⟩:=hK rs cs hk;rcases hr with h|⟨h1,h⟩
 ·rw[h];exact⟨LeRs.refl _,trivial⟩
 ·rw[h,h1];exact⟨agq,trivial⟩
theorem adD{K:Nat}{env:List (ByteArray×Sch)}{ds:List DataD}{fine:FineDs ds}{bs:List BindD}{l:List Sch}{e:Int}(he:env.length≤LIM)(hb:bs.length≤LIM)(hfb:∀b∈bs,dJ b.body)(h:zc K env ds fine bs=some (l,e)):
 Cw 46 [.one (.sl 190 6 (env.map jS) none),.one (.sl 158 4 (ds.map bS) none),.one (.sl 80 8 (bs.map bz) none)] [.val (.one (.sl 90 5 (jq l) none)),.val (.one (iv e))] []:=by
 unfold zc at h;split at h
 ·rename_i s1 vars h1;split at h
  ·rename_i g2 h2;split at h
   ·rename_i g3 h3;unfold LIM at he hb;have hel:(env.map jS).length=env.length:=by simp
    have hbl:(bs.map bz).length=bs.length:=by simp
    have hvl:=wA h1;have hiv:=bh vars;refine cwLe M46 (K:=fun rs cs=>(rs=[.val (.one (.sl 90 5 (jq l) none)),.val (.one (iv e))]∨(l=[]∧rs=[.val (.one (.v (.slice none 0 0))),.val (.one (iv e))]))∧cs=[]) Tryz.func46 (by kernel_rfl) (adC _ fun _ _ h=>h) ?_;conv=>whnf
    refine⟨fun j st=>∃i env1,i+j=env.length∧(env.drop i).foldl qn env1=env.foldl qn []∧st=⟨(28,.one (iv i))::(27,.one (iv (env.map jS).length))::(26,.one (.sl 190 6 (env.map jS) none))::(8,.one (.ptr 25 0 0))::(2,.one (.sl 80 8 (bs.map bz) none))::hobs ⟨env1,ds,fine,[],false⟩ [] (.row 3 1 (ints [])),
     [hbox ⟨env1,ds,fine,[],false⟩ 0 0 0],vJ⟩,
     ⟨env.length,_,ww [28,27,26,8,2] [25] [5696,5697,5699,5701] [.box 25 0 5696,.box 25 1 5697,.box 25 3 5699,.box 25 5 5701] rfl,0,[],by omega,rfl,rfl⟩,?_⟩
    rintro j st ⟨i,env1,hij,hen,rfl⟩;conv=>whnf
    cases j with
    |succ j=>
     rw[ag (p:=(i:Int)<((env.map jS).length:Int)) (by omega)];have him:i<env.length:=by omega
     rw[aj him]at hen;have eg:(env.map jS)[i]?=some (jS env[i]):=by simp[him]
     generalize env[i]=p at hen eg;obtain⟨pn,pz,tk,tn,ts,tks⟩:=p;conv=>whnf
     refine⟨_,⟨ae _,eg⟩,?_⟩;unfold jS schC tyC;conv=>whnf
     rcases qg (x:=pn) (l:=env1) with⟨ie,ve,e1,e2,e3⟩|⟨e1,e3⟩
     ·refine⟨some ie,e1,?_⟩;obtain⟨vz,vk,vn,vs,vks⟩:=ve;conv=>whnf
      refine⟨_,e2,?_⟩;conv=>whnf
      refine⟨aN (by kernel_rfl),?_⟩;conv=>whnf
      rw[i64s i (by omega)];refine⟨j,_,ah j,ww [28,27,26,8,2] [25] [5696,5697,5699,5701] [] rfl,i+1,env1,by omega,?_,rfl⟩;rw[←hen,gT];simp only[qn,e3]
     ·refine⟨none,e1,?_⟩;conv=>whnf
      refine⟨aN (by kernel_rfl),?_⟩;conv=>whnf
      refine⟨none,e1,?_⟩;conv=>whnf
      refine⟨aN (by kernel_rfl),?_⟩;conv=>whnf
      rw[i64s i (by omega)];obtain⟨p1,p2⟩:=adU env1 (pn,⟨pz,.mk tk tn ts tks⟩);refine⟨j,_,ah j,ww [28,27,26,8,2] [25] [5696,5697,5699,5701] [] rfl,i+1,env1++[(pn,⟨pz,.mk tk tn ts tks⟩)],by omega,?_,?_⟩
      ·rw[←hen,gT];simp only[qn,e3]
      ·unfold hobs;rw[p1,p2];rfl
    |zero=>
     rw[af (p:=(i:Int)<((env.map jS).length:Int)) (by omega)];rw[ap (by omega)]at hen;have hen:env1=env.foldl qn []:=hen;have h1':Sv.vars (bs.map bz).length ⟨[],[],0⟩=some (s1,vars):=by rw[hbl];exact h1
     have hu:Uf [] []:=⟨rfl,fun i hi=>by simp at hi⟩;conv=>whnf
     refine⟨_,_,agP (qU (R:=⟨env1,ds,fine,[],false⟩) (ns:=[]) (to:=[]) (n:=0) rfl hu) rfl (hY (R:=⟨env1,ds,fine,[],false⟩) (s:=⟨[],[],0⟩) h1'),?_⟩;conv=>whnf
     refine⟨fun j st=>∃i g4,i+j=bs.length∧ki g4 ((bs.map BindD.s).drop i) (vars.drop i)=some g2∧st=⟨(63,.one (iv i))::(62,.one (iv (bs.map bz).length))::(61,.one (.sl 80 8 (bs.map bz) none))::(13,.one (.sl 3 1 (ints vars) none))::(8,.one (.ptr 25 0 0))::(2,.one (.sl 80 8 (bs.map bz) none))::hobs g4.R g4.s.ns (.uf g4.s.rs.length (Uf g4.s.rs)),
      [hbox g4.R (nds g4.s.ns).length g4.s.rs.length g4.s.lv],vJ⟩,
      ⟨bs.length,_,ww [63,62,61,13,8,2] [25] [5696,5697,5699,5701] [] rfl,0,⟨⟨env1,ds,fine,[],false⟩,s1⟩,by omega,by rw[hen];exact h2,rfl⟩,?_⟩
     rintro j st ⟨i,g4,hij,hp,rfl⟩;conv=>whnf
     cases j with
     |succ j=>
      rw[ag (p:=(i:Int)<((bs.map bz).length:Int)) (by omega)];have him:i<bs.length:=by omega
      have hiv2:i<vars.length:=by omega
      rw[aj (l:=bs.map BindD.s) (by simpa using him),aj hiv2,List.getElem_map]at hp;unfold ki at hp;have eg:(bs.map bz)[i]?=some (bz bs[i]):=by simp[him]
      generalize bs[i]=b at hp eg;obtain⟨bn,ba,ek,ea,es,en,ekids,ealts⟩:=b;split at hp
      ·rename_i g5 h5;conv=>whnf
       refine⟨_,⟨ae _,eg⟩,?_⟩
       try unfold exC
       conv=>whnf
       refine⟨_,⟨ae _,bD (ad hiv2)⟩,?_⟩;conv=>whnf
       refine⟨_,_,vo (b:=(vars[i],false)) h5,?_⟩;conv=>whnf
       refine⟨aN (by kernel_rfl),?_⟩;conv=>whnf
       rw[i64s i (by omega)];exact⟨j,_,ah j,ww [63,62,61,13,8,2] [25] [5696,5697,5699,5701] [] rfl,i+1,g5,by omega,hp,rfl⟩
      ·cases hp
     |zero=>
      rw[af (p:=(i:Int)<((bs.map bz).length:Int)) (by omega)];rw[ap (by simp;omega)]at hp;cases hp;conv=>whnf
      refine⟨fun j st=>∃i g5,i+j=bs.length∧rx K g5 (bs.drop i) (vars.drop i)=some g3∧st=⟨(80,.one (iv i))::(79,.one (iv (bs.map bz).length))::(78,.one (.sl 80 8 (bs.map bz) none))::(13,.one (.sl 3 1 (ints vars) none))::(8,.one (.ptr 25 0 0))::hobs g5.R g5.s.ns (.uf g5.s.rs.length (Uf g5.s.rs)),
       [hbox g5.R (nds g5.s.ns).length g5.s.rs.length g5.s.lv],vJ⟩,
       ⟨bs.length,_,ww [80,79,78,13,8] [25] [5696,5697,5699,5701] [] rfl,0,g2,by omega,h3,rfl⟩,?_⟩
      rintro j st ⟨i,g5,hij,hp,rfl⟩;conv=>whnf
      cases j with
      |succ j=>
       rw[ag (p:=(i:Int)<((bs.map bz).length:Int)) (by omega)];have him:i<bs.length:=by omega
       have hiv2:i<vars.length:=by omega
       rw[aj him,aj hiv2]at hp;unfold rx at hp;have eg:(bs.map bz)[i]?=some (bz bs[i]):=by simp[him]
       have hfe:=hfb _ (bp him);generalize bs[i]=b at hp eg hfe;obtain⟨bn,ba,ek,ea,es,en,ekids,ealts⟩:=b;split at hp
       ·rename_i g6 y h6;split at hp
        ·rename_i g7 h7;conv=>whnf
         refine⟨_,⟨ae _,eg⟩,?_⟩
         try unfold exC
         conv=>whnf
         refine⟨_,_,of_u K K _ (.mk ek ea es en ekids ealts) _ _ hfe h6,?_⟩;conv=>whnf
         refine⟨_,⟨ae _,bD (ad hiv2)⟩,?_⟩;conv=>whnf
         refine⟨_,_,pN h7,?_⟩;conv=>whnf
         refine⟨aN (by kernel_rfl),?_⟩;conv=>whnf
         rw[i64s i (by omega)];exact⟨j,_,ah j,ww [80,79,78,13,8] [25] [5696,5697,5699,5701] [] rfl,i+1,g7,by omega,hp,rfl⟩
        ·cases hp
       ·cases hp
      |zero=>
       rw[af (p:=(i:Int)<((bs.map bz).length:Int)) (by omega)];rw[ap (by omega)]at hp;cases hp;conv=>whnf
       refine⟨fun j st=>∃i acc,i+j=vars.length∧acc.length=i∧xf K g3 (vars.drop i) acc=some (l,e)∧st=⟨(98,.one (iv i))::(97,.one (iv (ints vars).length))::(96,.one (.sl 3 1 (ints vars) none))::(18,.one (.rref 123 0 (jq acc).length))::(8,.one (.ptr 25 0 0))::(OB+123,.ob 123 0 (.row 90 5 (jq acc)))::hobs g3.R g3.s.ns (.uf g3.s.rs.length (Uf g3.s.rs)),
        [hbox g3.R (nds g3.s.ns).length g3.s.rs.length g3.s.lv],aS 123::vJ⟩,
        ⟨vars.length,_,ww [98,97,96,18,8] [25] [123,5696,5697,5699,5701] [.nilT 18 123 90 5] rfl,0,[],by omega,rfl,h,rfl⟩,?_⟩
       rintro j st ⟨i,acc,hij,hai,ho,rfl⟩;have hal:(jq acc).length=acc.length:=by simp[jq]
       conv=>whnf
       cases j with
       |succ j=>
        rw[ag (p:=(i:Int)<((ints vars).length:Int)) (by omega)];have hiv2:i<vars.length:=by omega
        rw[aj hiv2]at ho;unfold xf at ho;obtain⟨⟨env3,ds3,fine3,nm3,bad3⟩,s3⟩:=g3;cases bad3 with
        |true=>
         cases ho;conv=>whnf
         refine⟨_,⟨ae _,bD (ad hiv2)⟩,?_⟩;conv=>whnf
         exact⟨.inr ⟨rfl,rfl⟩,rfl⟩
        |false=>
         simp only at ho;conv=>whnf
         refine⟨_,⟨ae _,bD (ad hiv2)⟩,?_⟩;conv=>whnf
         split at ho
         ·rename_i hfit;split at ho
          ·rename_i nums t ht;split at ho
           ·rename_i sc hsc;split at ho
            ·rename_i hlim;have hst:=qA ht;have hsw:=ach hst hsc;refine⟨_,_,ze (R:=⟨env3,ds3,fine3,nm3,false⟩) hfit,?_⟩;obtain⟨tk,tn,ts,tks⟩:=t;obtain⟨cz,ck,cn,cs,cks⟩:=sc;conv=>whnf
             refine⟨_,_,ahe K (R:=⟨env3,ds3,fine3,nm3,false⟩) (nums:=[]) ht,?_⟩;unfold tyC;conv=>whnf
             refine⟨_,_,hsw,?_⟩;conv=>whnf
             refine⟨by show(jq acc).length+1≤lim 64;simp[lim];omega,?_⟩;conv=>whnf
             rw[i64s i (by omega)];refine⟨j,_,ah j,ww [98,97,96,18,8] [25] [123,5696,5697,5699,5701] [.tmp 18 123] rfl,i+1,acc++[⟨cz,.mk ck cn cs cks⟩],by omega,by simp[hai],ho,?_⟩;have e1:jq (acc++[⟨cz,.mk ck cn cs cks⟩])=jq acc++[schC ⟨cz,.mk ck cn cs cks⟩]:=by simp[jq]
             rw[e1,aH];rfl
            ·cases ho
           ·cases ho
          ·cases ho
         ·rename_i hfit;cases ho;refine⟨_,_,ze (R:=⟨env3,ds3,fine3,nm3,false⟩) hfit,?_⟩;conv=>whnf
          exact⟨.inr ⟨rfl,rfl⟩,rfl⟩
         ·cases ho
       |zero=>
        rw[af (p:=(i:Int)<((ints vars).length:Int)) (by omega)];rw[ap (by omega)]at ho;unfold xf at ho;cases ho;conv=>whnf
        exact⟨.inl rfl,rfl⟩
   ·cases h
  ·cases h
 ·cases h
def digS:ByteArray:=⟨#[48,49,50,51,52,53,54,55,56,57,97,98,99,100,101,102,103,104,105,106,107,108,109,110,111,112,113,114,115,116,117,118,119,120,121,122]⟩
def smlS:ByteArray:=⟨#[48,48,48,49,48,50,48,51,48,52,48,53,48,54,48,55,48,56,48,57,49,48,49,49,49,50,49,51,49,52,49,53,49,54,49,55,49,56,49,57,50,48,50,49,50,50,50,51,50,52,50,53,50,54,50,55,50,56,50,57,51,48,51,49,51,50,51,51,51,52,51,53,51,54,51,55,51,56,51,57,52,48,52,49,52,50,52,51,52,52,52,53,52,54,52,55,52,56,52,57,53,48,53,49,53,50,53,51,53,52,53,53,53,54,53,55,53,56,53,57,54,48,54,49,54,50,54,51,54,52,54,53,54,54,54,55,54,56,54,57,55,48,55,49,55,50,55,51,55,52,55,53,55,54,55,55,55,56,55,57,56,48,56,49,56,50,56,51,56,52,56,53,56,54,56,55,56,56,56,57,57,48,57,49,57,50,57,51,57,52,57,53,57,54,57,55,57,56,57,57]⟩
def kF(n:Nat):ByteArray:=if n<10 then digS.extract n (n+1) else smlS.extract (2*n) (2*n+2)
theorem abZ{n:Nat}(h:n<100):Cw 219 [.one (iv n)] [.val (.one (sv (kF n)))] []:=by
 refine cw {} Tryz.func219 (by kernel_rfl) ?_;conv=>whnf
 by_cases h1:n<10
 ·rw[ag (p:=(n:Int)<10) (by omega)];have hw:IntKind.i64.wrap ((n:Int)+1)=((n+1:Nat):Int):=by rw[i64w (by omega) (by omega)];omega
  conv=>whnf
  rw[hw];refine⟨⟨by omega,by omega,by show((n+1:Nat):Int)≤((36:Nat):Int);omega⟩,?_⟩;conv=>whnf
  unfold kF;rw[if_pos h1];exact⟨rfl,rfl⟩
 ·rw[af (p:=(n:Int)<10) (by omega)];have hw1:IntKind.i64.wrap ((n:Int)*2)=((2*n:Nat):Int):=by rw[i64w (by omega) (by omega)];omega
  have hw2:IntKind.i64.wrap (((2*n:Nat):Int)+2)=((2*n+2:Nat):Int):=by rw[i64w (by omega) (by omega)];omega
  conv=>whnf
  rw[hw1,hw2];refine⟨⟨by omega,by omega,by show((2*n+2:Nat):Int)≤((200:Nat):Int);omega⟩,?_⟩;conv=>whnf
  unfold kF;rw[if_neg h1];exact⟨rfl,rfl⟩
theorem ahP{n:Nat}(h:n<100):Cw 212 [.one (iv n),.one (iv 10)] [.val (.one (sv (kF n)))] []:=by
 refine cw {} Tryz.func212 (by kernel_rfl) ?_;conv=>whnf
 rw[ag (p:=(0:Int)≤(n:Int)) (by omega)];conv=>whnf
 rw[ag (p:=(n:Int)<100) (by omega)];conv=>whnf
 refine⟨_,_,abZ h,?_⟩;conv=>whnf
 exact⟨rfl,rfl⟩
theorem ads{n:Nat}(h:n<100):Cw 190 [.one (iv n)] [.val (.one (sv (kF n)))] []:=by
 refine cw {} Tryz.func190 (by kernel_rfl) ?_;conv=>whnf
 refine⟨_,_,ahP h,?_⟩;conv=>whnf
 exact⟨rfl,rfl⟩
theorem afB{n:Nat}(h:n<100):Cw 141 [.one (iv n)] [.val (.one (sv (kF n)))] []:=by
 refine cw {} Tryz.func141 (by kernel_rfl) ?_;conv=>whnf
 refine⟨_,_,ads h,?_⟩;conv=>whnf
 exact⟨rfl,rfl⟩
def varB(n:Nat):ByteArray:=⟨#[UInt8.ofNat (97+n % 26)]⟩
def varS(n:Nat):ByteArray:=if 26≤n then varB n++kF (n / 26) else varB n
theorem wN{n:Nat}:(kF n).size≤2:=by
 unfold kF;split<;>simp only[ByteArray.size_extract]<;>omega
theorem aeR{n:Nat}(h:n<2600):Cw 92 [.one (iv n)] [.val (.one (sv (varS n)))] []:=by
 refine cw {} Tryz.func92 (by kernel_rfl) ?_;conv=>whnf
 refine⟨by decide,?_⟩;conv=>whnf
 have hm:(n:Int).tmod 26=((n % 26:Nat):Int):=by rw[gz (by omega)];omega
 have e:(IntKind.u8.wrap (IntKind.i64.wrap (97+(n:Int).tmod 26))).toNat=97+n % 26:=by
  rw[hm,i64w (by omega) (by omega)];simp only[IntKind.wrap,IntKind.bits,IntKind.signed,fM];rw[if_neg (by simp)];omega
 have es:(⟨((fun bs=>UInt8.ofNat (IntKind.u8.wrap (IntKind.i64.wrap (97+(n:Int).tmod 26))).toNat::bs) []).toArray⟩:ByteArray)=varB n:=by rw[e];rfl
 by_cases h1:26≤n
 ·rw[ag (p:=(26:Int)≤(n:Int)) (by omega)];conv=>whnf
  refine⟨by decide,?_⟩;have hq:IntKind.i64.wrap ((n:Int).tdiv 26)=((n / 26:Nat):Int):=by
   rw[Int.tdiv_eq_ediv_of_nonneg (by omega),i64w (by omega) (by omega)];omega
  conv=>whnf
  rw[hq];refine⟨_,_,afB (n:=n / 26) (by omega),?_⟩;conv=>whnf
  have:=wN (n:=n / 26);refine⟨by show 1+(kF (n / 26)).size≤2 ^ 62;omega,?_⟩;conv=>whnf
  refine⟨?_,rfl⟩;rw[es];unfold varS;rw[if_pos h1];rfl
 ·rw[af (p:=(26:Int)≤(n:Int)) (by omega)];conv=>whnf
  refine⟨?_,rfl⟩;rw[es];unfold varS;rw[if_neg h1];rfl
def cat(x y:ByteArray):Option ByteArray:=if x.size+y.size≤2 ^ 62 then some (x++y) else none
def catc(x:Option ByteArray)(y:ByteArray):Option ByteArray:=match x with
 |some x=>cat x y
 |none=>none
def brk(is:Bool)(x:ByteArray):Option ByteArray:=match is with
 |true=>catc (cat ⟨#[40]⟩ x) ⟨#[41]⟩
 |false=>some x
def Ty.k:Ty→Int
 | .mk k _ _ _=>k
def Ty.s:Ty→ByteArray
 | .mk _ _ s _=>s
def adt(t:Ty):Bool:=decide (t.k=2)&&decide (t.s=ot)
def aaC(t:Ty):Bool:=decide (t.k=2)&&(!decide (t.s=oi)&&decide (0<t.kids.length))
mutual
def qz:Ty→Option ByteArray
 | .mk k n s kids=>if k=1 then(if 0≤n∧n<2600 then some (varS n.toNat) else none)
  else if s=ot then arrS kids
  else if s=oi then match comS .empty 0 kids with
   |some x=>catc (cat ⟨#[40]⟩ x) ⟨#[41]⟩
   |none=>none
  else appS s kids
def arrS:List Ty→Option ByteArray
 |a::l=>match qz a with
  |some x=>match brk (adt a) x with
   |some x=>match cat x ⟨#[32,45,62,32]⟩ with
    |some x=>arr2 x l
    |none=>none
   |none=>none
  |none=>none
 | []=>none
def arr2(x:ByteArray):List Ty→Option ByteArray
 |b::_=>match qz b with
  |some y=>cat x y
  |none=>none
 | []=>none
def comS(acc:ByteArray)(i:Nat):List Ty→Option ByteArray
 | []=>some acc
 |t::l=>match qz t with
  |some x=>match(if 0<i then cat acc ⟨#[44,32]⟩ else some acc) with
   |some a=>match cat a x with
    |some a=>comS a (i+1) l
    |none=>none
   |none=>none
  |none=>none
def appS(acc:ByteArray):List Ty→Option ByteArray
 | []=>some acc
 |t::l=>match qz t with
  |some x=>match brk (aaC t) x with
   |some y=>match cat ⟨#[32]⟩ y with
    |some z=>match cat acc z with
     |some a=>appS a l
     |none=>none
    |none=>none
   |none=>none
  |none=>none
end
theorem fG{x y z:ByteArray}(h:cat x y=some z):x.size+y.size≤2 ^ 62∧z=x++y:=by
 unfold cat at h;split at h
 ·rename_i h1;cases h;exact⟨h1,rfl⟩
 ·cases h
theorem uE{x:Option ByteArray}{y z:ByteArray}(h:catc x y=some z):∃u,x=some u∧cat u y=some z:=by
 cases x with
 |none=>cases h
 |some u=>exact⟨u,rfl,h⟩
theorem aes{t:Ty}{x y:ByteArray}{is:Bool}(ht:Cw 48 [.agg (tyC t)] [.val (.one (sv x))] [])(h:brk is x=some y):Cw 93 [.agg (tyC t),.one (bv is)] [.val (.one (sv y))] []:=by
 refine cw {} Tryz.func93 (by kernel_rfl) ?_;obtain⟨tk,tn,ts,tks⟩:=t;unfold tyC at ht ⊢;cases is with
 |true=>
  obtain⟨u,h1,h2⟩:=uE h;obtain⟨c1,rfl⟩:=fG h1;obtain⟨c2,rfl⟩:=fG h2;conv=>whnf
  refine⟨_,_,ht,?_⟩;conv=>whnf
  refine⟨c1,?_⟩;conv=>whnf
  refine⟨c2,?_⟩;conv=>whnf
  exact⟨rfl,rfl⟩
 |false=>
  cases h;conv=>whnf
  refine⟨_,_,ht,?_⟩;conv=>whnf
  exact⟨rfl,rfl⟩
theorem aeW(t:Ty):∀{x:ByteArray},ik t→qz t=some x→Cw 48 [.agg (tyC t)] [.val (.one (sv x))] []:=by
 induction t using Ty.ind with
 |h kd n nm kids ih=>
 intro x hs h;have hlen:=hs.1;unfold LIM at hlen;have htl:=bU kids;unfold qz at h;refine cw { fb:=[1]} Tryz.func48 (by kernel_rfl) ?_;unfold tyC;conv=>whnf
 by_cases hk:kd=1
 ·rw[if_pos hk]at h;rw[ag hk];split at h
  ·rename_i hn;cases h;obtain⟨m,rfl⟩:∃m:Nat,n=(m:Int):=⟨n.toNat,by omega⟩;conv=>whnf
   refine⟨_,_,aeR (n:=m) (by omega),?_⟩;conv=>whnf
   exact⟨rfl,rfl⟩
  ·cases h
 rw[if_neg hk]at h;rw[af hk];conv=>whnf
 by_cases ha:nm=ot
 ·rw[if_pos ha]at h;rw[ag (p:=nm=⟨#[45,62]⟩) ha];cases kids with
  |nil=>simp[arrS]at h
  |cons a l=>
  unfold arrS at h;split at h
  ·rename_i xa hxa;split at h
   ·rename_i ya hya;split at h
    ·rename_i za hza;cases l with
     |nil=>simp[arr2]at h
     |cons b l=>
     unfold arr2 at h;split at h
     ·rename_i xb hxb;have iha:=ih a aI hs.2.1 hxa;have ihb:=ih b (aD _ aI) hs.2.2.1 hxb;obtain⟨c1,rfl⟩:=fG hza;obtain⟨c2,rfl⟩:=fG h;have hbr:∀is,adt a=is→Cw 93 [.agg (tyC a),.one (bv is)] [.val (.one (sv ya))] []:=fun is e=>aes iha (e▸hya)
      obtain⟨ak,an,as_,aks⟩:=a;obtain⟨bk,bn,bs,bks⟩:=b;unfold tyC at ihb hbr;unfold tysC tysC;conv=>whnf
      refine⟨_,⟨by decide,rfl⟩,?_⟩
      try unfold tyC
      conv=>whnf
      refine⟨_,⟨by decide,rfl⟩,?_⟩
      try unfold tyC
      conv=>whnf
      refine⟨aN (by kernel_rfl),?_⟩;conv=>whnf
      by_cases hak:ak=2
      ·rw[ag hak];conv=>whnf
       refine⟨_,_,hbr (decide (as_=⟨#[45,62]⟩)) (by subst hak;rfl),?_⟩;conv=>whnf
       refine⟨c1,?_⟩;conv=>whnf
       refine⟨_,_,ihb,?_⟩;conv=>whnf
       refine⟨c2,?_⟩;conv=>whnf
       refine⟨aN (by kernel_rfl),?_⟩;conv=>whnf
       exact⟨rfl,rfl⟩
      ·rw[af hak];conv=>whnf
       refine⟨_,_,hbr false (by simp[adt,Ty.k,hak]),?_⟩;conv=>whnf
       refine⟨c1,?_⟩;conv=>whnf
       refine⟨_,_,ihb,?_⟩;conv=>whnf
       refine⟨c2,?_⟩;conv=>whnf
       refine⟨aN (by kernel_rfl),?_⟩;conv=>whnf
       exact⟨rfl,rfl⟩
     ·cases h
    ·cases h
   ·cases h
  ·cases h
 rw[if_neg ha]at h;rw[af (p:=nm=⟨#[45,62]⟩) ha];conv=>whnf
 by_cases hc:nm=oi
 ·rw[if_pos hc]at h;rw[ag (p:=nm=⟨#[44]⟩) hc];split at h
  ·rename_i xc hxc;obtain⟨u,h1,h2⟩:=uE h;obtain⟨c1,rfl⟩:=fG h1;obtain⟨c2,rfl⟩:=fG h2;conv=>whnf
   refine⟨fun j st=>∃i acc,i+j=kids.length∧comS acc i (kids.drop i)=some xc∧st=⟨[(48,.one (iv i)),(47,.one (iv (tysC kids).length)),(46,.one (.sl 88 4 (tysC kids) none)),(5,.one (sv acc))],[],[]⟩,
    ⟨kids.length,_,ww [48,47,46,5] [] [] [] rfl,0,.empty,by omega,hxc,rfl⟩,?_⟩
   rintro j st ⟨i,acc,hij,hq,rfl⟩;conv=>whnf
   cases j with
   |zero=>
    rw[af (p:=(i:Int)<((tysC kids).length:Int)) (by omega)];rw[ap (by omega)]at hq;unfold comS at hq;cases hq;conv=>whnf
    refine⟨c1,?_⟩;conv=>whnf
    refine⟨c2,?_⟩;conv=>whnf
    exact⟨rfl,rfl⟩
   |succ j=>
    rw[ag (p:=(i:Int)<((tysC kids).length:Int)) (by omega)];have him:i<kids.length:=by omega
    rw[aj him]at hq;unfold comS at hq;split at hq
    ·rename_i xt hxt;have eg:=ga (ad him);have hm:=bp him;generalize kids[i]=ti at hxt eg hm;have iht:=ih _ hm (iT hs.2 hm) hxt;obtain⟨tk,tn,ts,tks⟩:=ti;unfold tyC at iht;split at hq
     ·rename_i a1 ha1;split at hq
      ·rename_i a2 ha2;obtain⟨c4,rfl⟩:=fG ha2;conv=>whnf
       refine⟨_,⟨ae _,eg⟩,?_⟩;unfold tyC;conv=>whnf
       by_cases hi0:0<i
       ·rw[if_pos hi0]at ha1;obtain⟨c3,rfl⟩:=fG ha1;rw[ag (p:=(0:Int)<(i:Int)) (by omega)];conv=>whnf
        refine⟨c3,?_⟩;conv=>whnf
        refine⟨_,_,iht,?_⟩;conv=>whnf
        refine⟨c4,?_⟩;conv=>whnf
        rw[i64s i (by omega)];exact⟨j,_,ah j,ww [48,47,46,5] [] [] [] rfl,i+1,_,by omega,hq,rfl⟩
       ·rw[if_neg hi0]at ha1;cases ha1;rw[af (p:=(0:Int)<(i:Int)) (by omega)];conv=>whnf
        refine⟨_,_,iht,?_⟩;conv=>whnf
        refine⟨c4,?_⟩;conv=>whnf
        rw[i64s i (by omega)];exact⟨j,_,ah j,ww [48,47,46,5] [] [] [] rfl,i+1,_,by omega,hq,rfl⟩
      ·cases hq
     ·cases hq
    ·cases hq
  ·cases h
 rw[if_neg hc]at h;rw[af (p:=nm=⟨#[44]⟩) hc];conv=>whnf
 refine⟨fun j st=>∃i acc,i+j=kids.length∧appS acc (kids.drop i)=some x∧st=⟨[(70,.one (iv i)),(69,.one (iv (tysC kids).length)),(68,.one (.sl 88 4 (tysC kids) none)),(8,.one (sv acc))],[],[]⟩,
  ⟨kids.length,_,ww [70,69,68,8] [] [] [] rfl,0,nm,by omega,h,rfl⟩,?_⟩
 rintro j st ⟨i,acc,hij,hq,rfl⟩;conv=>whnf
 cases j with
 |zero=>
  rw[af (p:=(i:Int)<((tysC kids).length:Int)) (by omega)];rw[ap (by omega)]at hq;unfold appS at hq;cases hq;conv=>whnf
  exact⟨rfl,rfl⟩
 |succ j=>
  rw[ag (p:=(i:Int)<((tysC kids).length:Int)) (by omega)];have him:i<kids.length:=by omega
  rw[aj him]at hq;unfold appS at hq;split at hq
  ·rename_i xt hxt;split at hq
   ·rename_i yt hyt;split at hq
    ·rename_i zt hzt;split at hq
     ·rename_i at_ hat;obtain⟨c1,rfl⟩:=fG hzt;obtain⟨c2,rfl⟩:=fG hat;have eg:=ga (ad him);have hm:=bp him;generalize kids[i]=ti at hxt hyt eg hm;have iht:=ih _ hm (iT hs.2 hm) hxt
      have hbr:∀is,aaC ti=is→Cw 93 [.agg (tyC ti),.one (bv is)] [.val (.one (sv yt))] []:=fun is e=>aes iht (e▸hyt);obtain⟨tk,tn,ts,tks⟩:=ti;have htk:=bU tks;unfold tyC at hbr;conv=>whnf
      refine⟨_,⟨ae _,eg⟩,?_⟩;unfold tyC;conv=>whnf
      by_cases hk2:tk=2
      ·rw[ag hk2];conv=>whnf
       by_cases hcm:ts=oi
       ·rw[ag (p:=ts=⟨#[44]⟩) hcm];conv=>whnf
        refine⟨_,_,hbr (!true) (by simp[aaC,Ty.k,Ty.s,hk2,hcm]),?_⟩;conv=>whnf
        refine⟨c1,?_⟩;conv=>whnf
        refine⟨c2,?_⟩;conv=>whnf
        rw[i64s i (by omega)];exact⟨j,_,ah j,ww [70,69,68,8] [] [] [] rfl,i+1,_,by omega,hq,rfl⟩
       ·rw[af (p:=ts=⟨#[44]⟩) hcm];conv=>whnf
        refine⟨_,_,hbr (decide (0<((tysC tks).length:Int))) (by subst hk2;show(true&&(!decide (ts=oi)&&decide (0<tks.length)))=_;rw[af hcm];exact decide_eq_decide.2 (show(0<tks.length)↔(0<((tysC tks).length:Int)) by rw[htk];omega)),?_⟩;conv=>whnf
        refine⟨c1,?_⟩;conv=>whnf
        refine⟨c2,?_⟩;conv=>whnf
        rw[i64s i (by omega)];exact⟨j,_,ah j,ww [70,69,68,8] [] [] [] rfl,i+1,_,by omega,hq,rfl⟩
      ·rw[af hk2];conv=>whnf
       refine⟨_,_,hbr false (by simp[aaC,Ty.k,hk2]),?_⟩;conv=>whnf
       refine⟨c1,?_⟩;conv=>whnf
       refine⟨c2,?_⟩;conv=>whnf
       rw[i64s i (by omega)];exact⟨j,_,ah j,ww [70,69,68,8] [] [] [] rfl,i+1,_,by omega,hq,rfl⟩
     ·cases hq
    ·cases hq
   ·cases hq
  ·cases hq
abbrev Cnt:=List (ByteArray×Int)
def kC(nm:Cnt):List Value:=nm.map fun p=>keyS p.1
def vC(nm:Cnt):List MV:=nm.map fun p=>mi p.2
theorem getC{x:ByteArray}{l:Cnt}:(∃i v,fidx x (l.map Prod.fst)=some i∧bL (keyS x) (kC l)=some i∧(vC l)[i]?=some (mi v)∧getA x l=some v)∨(fidx x (l.map Prod.fst)=none∧bL (keyS x) (kC l)=none∧getA x l=none):=by
 have he:bL (keyS x) (kC l)=fidx x (l.map Prod.fst):=by
  have:=iI x (l.map Prod.fst);rw[iu]at this;exact this
 rw[he];rcases iG (x:=x) (l:=l) with⟨i,v,h1,h2,h3⟩|⟨h1,h2⟩
 ·refine .inl ⟨i,v,h1,h1,?_,h3⟩;rw[aG,ar]at h2;obtain⟨p,q1,q2⟩:=h2;unfold vC;rw[aG,q1,bW,q2]
 ·exact .inr ⟨h1,h1,h2⟩
theorem pS{x:ByteArray}{y:Int}{nm:Cnt}(h:fidx x (nm.map Prod.fst)=none):kC (putA x y nm)=kC nm++[keyS x]∧vC (putA x y nm)=vC nm++[mi y]:=by
 rw[iE h];simp[kC,vC]
theorem pR{x:ByteArray}{y:Int}{nm:Cnt}{i:Nat}(h:fidx x (nm.map Prod.fst)=some i):kC (putA x y nm)=kC nm∧vC (putA x y nm)=(vC nm).set i (mi y):=by
 rw[iD h];refine⟨?_,by simp[vC,bX]⟩;have:=jY h;rw[aG,ar]at this;obtain⟨p,h1,h2⟩:=this;unfold kC;rw[bX];apply ce;intro j;rw[bf];split
 ·rename_i e;subst e;split
  ·rw[aG,h1,bW,h2]
  ·rename_i hl;rw[bI (by omega)]
 ·rfl
def scA(ds:List DataD)(nm:Cnt):AC:=.obox 128 [.sl 158 4 (ds.map bS) none,.omap kz (kC nm) (vC nm)]
def uF(d:Int)(x:ByteArray)(nm:Cnt):Option Cnt:=if -LIM<(getA x nm).getD 0∧(getA x nm).getD 0<LIM then some (putA x ((getA x nm).getD 0+d) nm) else none
def oo(d:Int):List ByteArray→Cnt→Option Cnt
 | [],nm=>some nm
 |x::l,nm=>match uF d x nm with
  |some nm=>oo d l nm
  |none=>none
def conN(ds:List DataD)(s:ByteArray):Option (Int×Bool):=if(km s ds 0).1<0 then some (0,false) else match at? ds (km s ds 0).1 with
 |some D=>match at? D.cons (km s ds 0).2 with
  |some C=>some ((C.args.length:Int),true)
  |none=>none
 |none=>none
def ia(l:List ByteArray):List ByteArray→Nat→Bool
 | [],_=>false
 |x::r,i=>if 0≤eS x (l.take i) 0 then true else ia l r (i+1)
mutual
def rA(ds:List DataD):Nat→Cnt→Exp→Option (Cnt×Int)
 |0,_,_=>none
 |k+1,nm,.mk kd a s _ kids alts=>
  if kd=1∧(getA s nm).getD 0=0 then some (nm,a)
  else if kd=2 then match conN ds s with
   |some (_,false)=>some (nm,a)
   |some (_,true)=>jU ds k nm kd s 0 kids alts
   |none=>none
  else jU ds k nm kd s 0 kids alts
def jU(ds:List DataD):Nat→Cnt→Int→ByteArray→Nat→List Exp→List Alt→Option (Cnt×Int)
 |0,_,_,_,_,_,_=>none
 |k+1,nm,_,_,_,[],alts=>th ds k nm [] alts
 |k+1,nm,kd,s,i,e::l,alts=>match mS ds k nm (if kd=6∨kd=7∧i=1 then [s] else []) e with
  |some (nm1,p)=>if 0≤p then some (nm1,p) else jU ds k nm1 kd s (i+1) l alts
  |none=>none
def mS(ds:List DataD):Nat→Cnt→List ByteArray→Exp→Option (Cnt×Int)
 |0,_,_,_=>none
 |k+1,nm,names,e=>match oo 1 names nm with
  |some nm1=>match rA ds k nm1 e with
   |some (nm2,p)=>match oo (-1) names nm2 with
    |some nm3=>some (nm3,p)
    |none=>none
   |none=>none
  |none=>none
def th(ds:List DataD):Nat→Cnt→List ByteArray→List Alt→Option (Cnt×Int)
 |0,_,_,_=>none
 |_+1,nm,_,[]=>some (nm,-1)
 |k+1,nm,had,.mk a con names body::l=>match conN ds con with
  |some (n,ok)=>if ok=false∨n≠names.length∨ia names names 0=true∨(fidx con had).isSome=true then some (nm,a) else match mS ds k nm names body with
   |some (nm1,p)=>if 0≤p then some (nm1,p) else th ds k nm1 (had++[con]) l
   |none=>none
  |none=>none
end
def WrOk(ds:List DataD)(k:Nat):Prop:=∀(nm:Cnt) (e:Exp) (nm':Cnt) (p:Int),dJ e→rA ds k nm e=some (nm',p)→Cw 41 [.one (scA ds nm),.agg (exC e)] [.val (.one (iv p))] [scA ds nm']
def WiOk(ds:List DataD)(k:Nat):Prop:=∀(nm:Cnt) (names:List ByteArray) (e:Exp) (nm':Cnt) (p:Int),names.length≤4294967296→dJ e→mS ds k nm names e=some (nm',p)→Cw 73 [.one (scA ds nm),.one (.sl 9 1 (names.map str) none),.agg (exC e)] [.val (.one (iv p))] [scA ds nm']
def sobs(nm:Cnt):List (Nat×AV):=[(OB+100097,.ob 100097 0 (.map kz (kC nm) (vC nm)))]
def sbox(ds:List DataD):Nat×Box:=(1500,⟨0,128,[.sl 158 4 (ds.map bS) none,.mref 100097 0]⟩)
abbrev Cnt2:=List ((ByteArray×Bool)×Int)
def key2(x:ByteArray×Bool):Value:=.agg #[.string x.1,.bool x.2]
def kz2:Value:=.agg #[.string .empty,.bool false]
def kC2(nm:Cnt2):List Value:=nm.map fun p=>key2 p.1
def vC2(nm:Cnt2):List MV:=nm.map fun p=>mi p.2
theorem ld(x:ByteArray×Bool):∀l:List (ByteArray×Bool),bL (key2 x) (l.map key2)=fidx x l
 | []=>rfl
 |y::l=>by
  have ih:=ld x l;obtain⟨a,b⟩:=x;obtain⟨c,d⟩:=y;simp only[bE,bL,fidx,key2]at ih ⊢;rw[ih];by_cases h:a=c
  ·subst h;cases b<;>cases d<;>simp[kEq,kL,k1]
  ·simp[h,kEq,kL,k1]
theorem xA{x:ByteArray×Bool}{l:Cnt2}:(∃i v,fidx x (l.map Prod.fst)=some i∧bL (key2 x) (kC2 l)=some i∧(vC2 l)[i]?=some (mi v)∧getA x l=some v)∨(fidx x (l.map Prod.fst)=none∧bL (key2 x) (kC2 l)=none∧getA x l=none):=by
 have he:bL (key2 x) (kC2 l)=fidx x (l.map Prod.fst):=by
  have:=ld x (l.map Prod.fst);rw[iu]at this;exact this
 rw[he];rcases iG (x:=x) (l:=l) with⟨i,v,h1,h2,h3⟩|⟨h1,h2⟩
 ·refine .inl ⟨i,v,h1,h1,?_,h3⟩;rw[aG,ar]at h2;obtain⟨p,q1,q2⟩:=h2;unfold vC2;rw[aG,q1,bW,q2]
 ·exact .inr ⟨h1,h1,h2⟩
theorem lD{x:ByteArray×Bool}{y:Int}{nm:Cnt2}(h:fidx x (nm.map Prod.fst)=none):kC2 (putA x y nm)=kC2 nm++[key2 x]∧vC2 (putA x y nm)=vC2 nm++[mi y]:=by
 rw[iE h];simp[kC2,vC2]
theorem lC{x:ByteArray×Bool}{y:Int}{nm:Cnt2}{i:Nat}(h:fidx x (nm.map Prod.fst)=some i):kC2 (putA x y nm)=kC2 nm∧vC2 (putA x y nm)=(vC2 nm).set i (mi y):=by
 rw[iD h];refine⟨?_,by simp[vC2,bX]⟩;have:=jY h;rw[aG,ar]at this;obtain⟨p,h1,h2⟩:=this;unfold kC2;rw[bX];apply ce;intro j;rw[bf];split
 ·rename_i e;subst e;split
  ·rw[aG,h1,bW,h2]
  ·rename_i hl;rw[bI (by omega)]
 ·rfl
structure Fd where
 nm:Cnt2
 ns:List ByteArray
def fdA(f:Fd):AC:=.obox 238 [.omap kz2 (kC2 f.nm) (vC2 f.nm),.own 9 1 (f.ns.map str)]
def aer(d:Int)(x:ByteArray)(nm:Cnt2):Option Cnt2:=if -LIM<(getA (x,false) nm).getD 0∧(getA (x,false) nm).getD 0<LIM then some (putA (x,false) ((getA (x,false) nm).getD 0+d) nm) else none
def oq(d:Int):List ByteArray→Cnt2→Option Cnt2
 | [],nm=>some nm
 |x::l,nm=>match aer d x nm with
  |some nm=>oq d l nm
  |none=>none
def adL(s:ByteArray)(k:Int)(f:Fd):Option Fd:=
 if k=1∧(getA (s,false) f.nm).getD 0=0∧(getA (s,true) f.nm).getD 0=0 then
  if f.ns.length<LIM then some ⟨putA (s,true) 1 f.nm,f.ns++[s]⟩ else none
 else some f
mutual
def sJ:Nat→Fd→Exp→Option Fd
 |0,_,_=>none
 |k+1,f,.mk kd _ s _ kids alts=>match adL s kd f with
  |some f=>du k f kd s 0 kids alts
  |none=>none
def du:Nat→Fd→Int→ByteArray→Nat→List Exp→List Alt→Option Fd
 |0,_,_,_,_,_,_=>none
 |k+1,f,_,_,_,[],alts=>dw k f alts
 |k+1,f,kd,s,i,e::l,alts=>match(if kd=6∨kd=7∧i=1 then inF2 k f [s] e else sJ k f e) with
  |some f=>du k f kd s (i+1) l alts
  |none=>none
def inF2:Nat→Fd→List ByteArray→Exp→Option Fd
 |0,_,_,_=>none
 |k+1,f,names,e=>match oq 1 names f.nm with
  |some nm1=>match sJ k ⟨nm1,f.ns⟩ e with
   |some f2=>match oq (-1) names f2.nm with
    |some nm3=>some ⟨nm3,f2.ns⟩
    |none=>none
   |none=>none
  |none=>none
def dw:Nat→Fd→List Alt→Option Fd
 |0,_,_=>none
 |_+1,f,[]=>some f
 |k+1,f,.mk _ _ names body::l=>match inF2 k f names body with
  |some f=>dw k f l
  |none=>none
end
def FiOk(k:Nat):Prop:=∀(f:Fd) (e:Exp) (f':Fd),dJ e→sJ k f e=some f'→Cw 121 [.one (fdA f),.agg (exC e)] [] [fdA f']
def InOk(k:Nat):Prop:=∀(f:Fd) (names:List ByteArray) (e:Exp) (f':Fd),names.length≤4294967296→dJ e→inF2 k f names e=some f'→Cw 158 [.one (fdA f),.one (.sl 9 1 (names.map str) none),.agg (exC e)] [] [fdA f']
def fobs(nm:Cnt2)(ns:List ByteArray):List (Nat×AV):=[(OB+100096,.ob 100096 0 (.map kz2 (kC2 nm) (vC2 nm))),(OB+100097,.ob 100097 0 (.row 9 1 (ns.map str)))]
def fbox(n:Nat):Nat×Box:=(1500,⟨0,238,[.mref 100096 0,.rref 100097 0 n]⟩)
theorem mE{x:ByteArray×Bool}:∀{ks:List Value},bL (key2 x) ks=none→bL (key2 x) (ks++[key2 x])=some ks.length
 | [],_=>by
  have:kEq (key2 x) (key2 x)=true:=by
   have:=ld x [x];simp only[bE,fY,fidx,if_true]at this;unfold bL at this;split at this
   ·assumption
   ·simp[bL]at this
  simp[bL,this]
 |k::ks,h=>by
  unfold bL at h;split at h
  ·cases h
  ·rename_i hk;rw[fL];unfold bL;rw[hk];simp only;rw[mE (by simpa using h)];simp
theorem ajg{k:Nat}(ih:FiOk k){f f':Fd}{names:List ByteArray}{e:Exp}(hn:names.length≤4294967296)(hf:dJ e)(h:inF2 (k+1) f names e=some f'):
 Cw 158 [.one (fdA f),.one (.sl 9 1 (names.map str) none),.agg (exC e)] [] [fdA f']:=by
 obtain⟨nm,ns⟩:=f;unfold inF2 at h;split at h
 ·rename_i nm1 h1;split at h
  ·rename_i f2 h2;split at h
   ·rename_i nm3 h3;cases h;have hml:(names.map str).length=names.length:=by simp
    obtain⟨nmB,nsB⟩:=f2;have hw:=ih _ _ _ hf h2;obtain⟨ek,ea,es,en,ekids,ealts⟩:=e;refine cw { hand:=[4,10],own:=[(238,1)]} Tryz.func158 (by kernel_rfl) ?_;unfold exC at hw ⊢;conv=>whnf
    refine⟨fun j st=>∃i nm2,i+j=names.length∧oq 1 (names.drop i) nm2=some nm1∧st=⟨(12,.one (iv i))::(11,.one (iv (names.map str).length))::(10,.one (.sl 9 1 (names.map str) none))::(5,.one (.ptr 5 0 0))::(1,.one (.sl 9 1 (names.map str) none))::(0,.one (.ptr 1500 0 0))::fobs nm2 ns,
     [fbox (ns.map str).length,(5,⟨0,78,[.v (.int .i64 ek),.v (.int .i64 ea),.v (.string es),.v (.int .i64 en),.sl 78 6 (exsC ekids) none,.sl 226 9 (cf ealts) none]⟩)],[aS 100096,aS 100097]⟩,
     ⟨names.length,_,ww [12,11,10,5,1,0] [1500,5] [100096,100097] [] rfl,0,nm,by omega,h1,rfl⟩,?_⟩
    rintro j st ⟨i,nm2,hij,hq,rfl⟩;conv=>whnf
    cases j with
    |succ j=>
     rw[ag (p:=(i:Int)<((names.map str).length:Int)) (by omega)];have him:i<names.length:=by omega
     rw[aj him]at hq;have eg:(names.map str)[i]?=some (str names[i]):=by simp[him]
     generalize names[i]=x at hq eg;unfold oq at hq;split at hq
     ·rename_i nm4 hb4;unfold aer at hb4;split at hb4
      ·rename_i hb;unfold LIM at hb;cases hb4;conv=>whnf
       refine⟨_,⟨ae _,eg⟩,?_⟩;conv=>whnf
       rcases xA (x:=(x,false)) (l:=nm2) with⟨ix,v,q0,q1,q2,q3⟩|⟨q0,q1,q3⟩
       ·rw[q3]at hb;simp only[bG]at hb;obtain⟨p1,p2⟩:=lC (y:=v+1) q0;have hixl:ix<(vC2 nm2).length:=(aq.1 q2).1;refine⟨some ix,q1,?_⟩;conv=>whnf
        refine⟨_,q2,?_⟩;conv=>whnf
        refine⟨some ix,q1,?_⟩;conv=>whnf
        refine⟨_,q2,?_⟩;conv=>whnf
        refine⟨some ix,q1,?_⟩;conv=>whnf
        refine⟨_,q2,?_⟩;conv=>whnf
        refine⟨rfl,?_⟩;conv=>whnf
        refine⟨⟨by omega,by omega⟩,?_⟩;conv=>whnf
        refine⟨by kernel_rfl,?_⟩;conv=>whnf
        rw[i64s i (by omega)];rw[show IntKind.i64.wrap (v+1)=v+1 from i64w (by omega) (by omega)];refine⟨j,_,ah j,ww [12,11,10,5,1,0] [1500,5] [100096,100097] [] rfl,i+1,_,by omega,hq,?_⟩;unfold fobs;rw[q3,bG,p1,p2];rfl
       ·rw[q3]at hb;obtain⟨p1,p2⟩:=lD (y:=0+1) q0;have hkl:(kC2 nm2).length=(vC2 nm2).length:=by simp[kC2,vC2]
        refine⟨none,q1,?_⟩;conv=>whnf
        refine⟨none,q1,?_⟩;conv=>whnf
        refine⟨some (kC2 nm2).length,mE q1,?_⟩;conv=>whnf
        refine⟨_,by rw[hkl];exact cE,?_⟩;conv=>whnf
        refine⟨rfl,?_⟩;conv=>whnf
        refine⟨⟨by omega,by simp;omega⟩,?_⟩;conv=>whnf
        refine⟨by kernel_rfl,?_⟩;conv=>whnf
        rw[i64s i (by omega)];refine⟨j,_,ah j,ww [12,11,10,5,1,0] [1500,5] [100096,100097] [] rfl,i+1,_,by omega,hq,?_⟩;unfold fobs;rw[q3,ed,p1,p2];have e9:(vC2 nm2++[mi 0]).set (kC2 nm2).length (mi (IntKind.i64.wrap (0+1)))=vC2 nm2++[mi (0+1)]:=by
         rw[hkl,da _ _ (au _),ch,eh,i64w (by omega) (by omega)]
         try rfl
        rw[←e9];rfl
      ·cases hb4
     ·cases hq
    |zero=>
     rw[af (p:=(i:Int)<((names.map str).length:Int)) (by omega)];rw[ap (by omega)]at hq;cases hq;conv=>whnf
     refine⟨_,_,hw,?_⟩;conv=>whnf
     refine⟨fun j st=>∃i nm2,i+j=names.length∧oq (-1) (names.drop i) nm2=some nm3∧st=⟨(32,.one (iv i))::(31,.one (iv (names.map str).length))::(30,.one (.sl 9 1 (names.map str) none))::(0,.one (.ptr 1500 0 0))::fobs nm2 nsB,
      [fbox (nsB.map str).length],[aS 100096,aS 100097]⟩,
      ⟨names.length,_,ww [32,31,30,0] [1500] [100096,100097] [] rfl,0,nmB,by omega,h3,rfl⟩,?_⟩
     rintro j st ⟨i,nm2,hij,hq,rfl⟩;conv=>whnf
     cases j with
     |succ j=>
      rw[ag (p:=(i:Int)<((names.map str).length:Int)) (by omega)];have him:i<names.length:=by omega
      rw[aj him]at hq;have eg:(names.map str)[i]?=some (str names[i]):=by simp[him]
      generalize names[i]=x at hq eg;unfold oq at hq;split at hq
      ·rename_i nm4 hb4;unfold aer at hb4;split at hb4
       ·rename_i hb;unfold LIM at hb;cases hb4;conv=>whnf
        refine⟨_,⟨ae _,eg⟩,?_⟩;conv=>whnf
        rcases xA (x:=(x,false)) (l:=nm2) with⟨ix,v,q0,q1,q2,q3⟩|⟨q0,q1,q3⟩
        ·rw[q3]at hb;simp only[bG]at hb;obtain⟨p1,p2⟩:=lC (y:=v+ -1) q0;have hixl:ix<(vC2 nm2).length:=(aq.1 q2).1;refine⟨some ix,q1,?_⟩;conv=>whnf
         refine⟨_,q2,?_⟩;conv=>whnf
         refine⟨some ix,q1,?_⟩;conv=>whnf
         refine⟨_,q2,?_⟩;conv=>whnf
         refine⟨some ix,q1,?_⟩;conv=>whnf
         refine⟨_,q2,?_⟩;conv=>whnf
         refine⟨rfl,?_⟩;conv=>whnf
         refine⟨⟨by omega,by omega⟩,?_⟩;conv=>whnf
         refine⟨by kernel_rfl,?_⟩;conv=>whnf
         rw[i64s i (by omega)];rw[show IntKind.i64.wrap (v-1)=v+ -1 from i64w (by omega) (by omega)];refine⟨j,_,ah j,ww [32,31,30,0] [1500] [100096,100097] [] rfl,i+1,_,by omega,hq,?_⟩;unfold fobs;rw[q3,bG,p1,p2];rfl
        ·rw[q3]at hb;obtain⟨p1,p2⟩:=lD (y:=0+ -1) q0;have hkl:(kC2 nm2).length=(vC2 nm2).length:=by simp[kC2,vC2]
         refine⟨none,q1,?_⟩;conv=>whnf
         refine⟨none,q1,?_⟩;conv=>whnf
         refine⟨some (kC2 nm2).length,mE q1,?_⟩;conv=>whnf
         refine⟨_,by rw[hkl];exact cE,?_⟩;conv=>whnf
         refine⟨rfl,?_⟩;conv=>whnf
         refine⟨⟨by omega,by simp;omega⟩,?_⟩;conv=>whnf
         refine⟨by kernel_rfl,?_⟩;conv=>whnf
         rw[i64s i (by omega)];refine⟨j,_,ah j,ww [32,31,30,0] [1500] [100096,100097] [] rfl,i+1,_,by omega,hq,?_⟩;unfold fobs;rw[q3,ed,p1,p2];have e9:(vC2 nm2++[mi 0]).set (kC2 nm2).length (mi (IntKind.i64.wrap (0-1)))=vC2 nm2++[mi (0+ -1)]:=by
          rw[hkl,da _ _ (au _),ch,eh,i64w (by omega) (by omega)]
          try rfl
         rw[←e9];rfl
       ·cases hb4
      ·cases hq
     |zero=>
      rw[af (p:=(i:Int)<((names.map str).length:Int)) (by omega)];rw[ap (by omega)]at hq;cases hq;conv=>whnf
      exact⟨rfl,rfl⟩
   ·cases h
  ·cases h
 ·cases h
end
end Go.Proofs.YtgkenhpfiempbaaGreatDoor.V
