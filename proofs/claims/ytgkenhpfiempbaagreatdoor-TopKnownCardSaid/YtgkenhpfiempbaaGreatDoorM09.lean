/-
  Part M09: U5, U6, U7, U8, U9, U10, U11, U12, P3, F0, X1, B30, B31, B32, F138, F180. Conditions stand in the theorems.
-/
import Derived.Test.YtgkenhpfiempbaaGreatDoorM08
import Derived.Test.YtgkenhpfiempbaaGreatDoorCards
import Derived.Test.YtgkenhpfiempbaaGreatDoorTie
import Derived.WalkKit
import Derived.ProofKit
import Derived.OpenShut
import Derived.Deep.DeepHandedRow
import Derived.Lib.LaidTab
import Derived.MakeChecks
import Derived.ChangeMaps5
import Derived.Deep.Matrix
import Derived.Carry
import Derived.ChangeOld
set_option linter.all false
set_option maxRecDepth 1000000
set_option maxHeartbeats 8000000
namespace Go.Proofs.YtgkenhpfiempbaaGreatDoor.V
open Go Go.Proofs
noncomputable section
def lamS:Sg:=⟨5,⟨#[92]⟩⟩
def eqS:Sg:=⟨5,⟨#[61]⟩⟩
def semi:Sg:=⟨5,⟨#[59]⟩⟩
def barS:Sg:=⟨5,⟨#[124]⟩⟩
def vB:Sg:=⟨5,⟨#[123]⟩⟩
def acu:Sg:=⟨5,⟨#[125]⟩⟩
def letS:Sg:=⟨4,⟨#[108,101,116]⟩⟩
def agK:Sg:=⟨4,⟨#[100,97,116,97]⟩⟩
def inS:Sg:=⟨4,⟨#[105,110]⟩⟩
def ifS:Sg:=⟨4,⟨#[105,102]⟩⟩
def agp:Sg:=⟨4,⟨#[116,104,101,110]⟩⟩
def agJ:Sg:=⟨4,⟨#[101,108,115,101]⟩⟩
def agL:Sg:=⟨4,⟨#[99,97,115,101]⟩⟩
def ofS:Sg:=⟨4,⟨#[111,102]⟩⟩
theorem tG{s:PS}{x:Sg}(h:eE s x=false):Ct 57 [parA s,.val (.agg (sgn x))] [.val (.one (.v (.bool false)))] [par s]:=by
 have:=jz s x;simp only[iU,h]at this;exact this
theorem tF{s:PS}{x:Sg}(h:eE s x=true):Ct 57 [parA s,.val (.agg (sgn x))] [.val (.one (.v (.bool true)))] [par (eN s)]:=by
 have:=jz s x;simp only[iU,h]at this;exact this
def mo(s:PS):Option (List Tok×PS):=match qb s with
 |none=>none
 |some (l,s')=>match decide (s.r.length≤4294967296∧l.length≤4294967296) with
  |true=>some (l,s')
  |false=>none
theorem gW{s s':PS}{l:List Tok}(h:mo s=some (l,s')):l.length≤4294967296:=by
 unfold mo at h;split at h
 ·cases h
 ·split at h
  ·rename_i h2;cases h;exact(aJ h2).2
  ·cases h
theorem ng{s s':PS}{l:List Tok}(h:mo s=some (l,s')):Ct 107 [parA s] [.row 119 4 (l.map tok)] [par s']:=by
 unfold mo at h;split at h
 ·cases h
 ·rename_i h1;split at h
  ·rename_i h2;cases h;exact adg s _ _ (aJ h2).1 h1
  ·cases h
def Exp.at_:Exp→Int
 | .mk _ a _ _ _ _=>a
mutual
def ig:Nat→PS→Option (Exp×PS)
 |0,_=>none
 |k+1,s=>match s.bad with
  |true=>some (agy,s)
  |false=>match eE s lamS with
   |true=>match mo (cR (eN s) fg).2 with
    |none=>none
    |some (l,s3)=>match ig k (cR s3 mO).2 with
     |none=>none
     |some (b,s4)=>some (mA ((cR (eN s) fg).1::l) s.t.at_ b,s4)
   |false=>match eE s letS with
    |true=>match lS k (cR (eN s) fg).1 (cR (eN s) fg).2 with
     |none=>none
     |some (a,s2)=>match ig k (cR s2 inS).2 with
      |none=>none
      |some (b,s3)=>some (.mk 7 s.t.at_ (cR (eN s) fg).1.s 0 [a,b] [],s3)
    |false=>match eE s ifS with
     |true=>match ig k (eN s) with
      |none=>none
      |some (a,s1)=>match ig k (cR s1 agp).2 with
       |none=>none
       |some (b,s2)=>match ig k (cR s2 agJ).2 with
        |none=>none
        |some (c,s3)=>some (.mk 9 s.t.at_ .empty 0 [a,b,c] [],s3)
     |false=>match eE s agL with
      |true=>match ig k (eN s) with
       |none=>none
       |some (e,s1)=>match pD k (!(cR (cR s1 ofS).2 vB).2.bad) [] (cR (cR s1 ofS).2 vB).2 with
        |none=>none
        |some (l,s2)=>some (.mk 10 s.t.at_ .empty 0 [e] l,(cR s2 acu).2)
      |false=>match pw k s with
       |none=>none
       |some (e,s1)=>appP k e s1
def pD:Nat→Bool→List Alt→PS→Option (List Alt×PS)
 |0,_,_,_=>none
 |_+1,false,acc,s=>some (acc,s)
 |k+1,true,acc,s=>match mo (cR s conS).2 with
  |none=>none
  |some (l,s1)=>match ig k (cR s1 mO).2 with
   |none=>none
   |some (b,s2)=>pD k (iU s2 semi).1 (acc++[.mk (cR s conS).1.at_ (cR s conS).1.s (l.map (·.s)) b]) (iU s2 semi).2
def appP:Nat→Exp→PS→Option (Exp×PS)
 |0,_,_=>none
 |k+1,e,s=>match nD s with
  |false=>some (e,s)
  |true=>match pw k s with
   |none=>none
   |some (a,s1)=>appP k (.mk 5 e.at_ .empty 0 [e,a] []) s1
def lS:Nat→Tok→PS→Option (Exp×PS)
 |0,_,_=>none
 |k+1,t,s=>match mo s with
  |none=>none
  |some (l,s1)=>match ig k (cR s1 eqS).2 with
   |none=>none
   |some (b,s2)=>some (mA l t.at_ b,s2)
def pw:Nat→PS→Option (Exp×PS)
 |0,_=>none
 |k+1,s=>match nD s with
  |false=>some (agy,ut s)
  |true=>match isS s.t fg with
   |true=>some (.mk 1 s.t.at_ s.t.s 0 [] [],eN s)
   |false=>match isS s.t conS with
    |true=>some (.mk 2 s.t.at_ s.t.s 0 [] [],eN s)
    |false=>match isS s.t intS with
     |true=>some (.mk 3 s.t.at_ .empty s.t.n [] [],eN s)
     |false=>match isS s.t tD with
      |true=>some (.mk 4 s.t.at_ .empty 1 [] [],eN s)
      |false=>match isS s.t qj with
       |true=>some (.mk 4 s.t.at_ .empty 0 [] [],eN s)
       |false=>match ig k (eN s) with
        |none=>none
        |some (e,s1)=>match qE k [e] s1 with
         |none=>none
         |some (l,s2)=>match l with
          | [e]=>some (e,(cR s2 rpar).2)
          |l=>some (.mk 8 s.t.at_ .empty 0 l [],(cR s2 rpar).2)
def qE:Nat→List Exp→PS→Option (List Exp×PS)
 |0,_,_=>none
 |k+1,acc,s=>match(mw s acc.length).1 with
  |false=>some (acc,(mw s acc.length).2)
  |true=>match ig k (mw s acc.length).2 with
   |none=>none
   |some (e,s1)=>qE k (acc++[e]) s1
end
abbrev Ctx0(f k:Nat)(p:Nat→PS→Option (Exp×PS)):Prop:=∀s e s',p k s=some (e,s')→Ct f [parA s] [.val (.agg (exC e))] [par s']
theorem aev{k:Nat}(ih:∀j<k+1,j≤4294967296→Ctx0 111 j ig)(hk:k+1≤4294967296)(t:Tok)(s s':PS)(e:Exp)(h:lS (k+1) t s=some (e,s')):
 Ct 61 [parA s,.val (.agg (tok t))] [.val (.agg (exC e))] [par s']:=by
 refine ct Tryz.func61 (by kernel_rfl) ?_;unfold lS at h;split at h
 ·cases h
 ·rename_i l s1 h1;split at h
  ·cases h
  ·rename_i b s2 h2;simp only[am,ai]at h;obtain⟨rfl,rfl⟩:=h;conv=>whnf
   refine⟨_,_,ng h1,?_⟩;conv=>whnf
   refine⟨_,_,dW _,?_⟩;conv=>whnf
   refine⟨_,_,er s1 eqS,?_⟩;obtain⟨k2,a2,st2,n2,ks2,as2⟩:=b;conv=>whnf
   refine⟨_,_,ih k (by omega) (by omega) _ _ _ h2,?_⟩;conv=>whnf
   have hlen:=gW h1;refine⟨_,_,aay l (by omega) t.at_ (.mk k2 a2 st2 n2 ks2 as2),?_⟩;generalize mA l t.at_ (.mk k2 a2 st2 n2 ks2 as2)=r;obtain⟨k3,a3,st3,n3,ks3,as3⟩:=r;conv=>whnf
   refine⟨by kernel_rfl,?_⟩;conv=>whnf
   exact⟨rfl,rfl⟩
theorem agd{k:Nat}(ih:∀j<k,j≤4294967296→Ctx0 111 j ig)(hk:k≤4294967296):Ctx0 150 k pw:=by
 intro s e s' h;cases k with
 |zero=>simp[pw]at h
 |succ k=>
  refine ct Tryz.func150 (by kernel_rfl) ?_;unfold pw at h;conv=>whnf
  refine⟨_,_,ll s,?_⟩;cases h1:nD s
  ·rw[h1]at h;simp only[am,ai]at h;obtain⟨rfl,rfl⟩:=h;conv=>whnf
   refine⟨_,_,rq s,?_⟩;conv=>whnf
   exact⟨rfl,rfl⟩
  ·rw[h1]at h;simp only at h;conv=>whnf
   refine⟨_,_,lz s,?_⟩;generalize eN s=s0 at h;obtain⟨t,r,bad,a⟩:=s;conv=>whnf
   refine⟨_,_,acU t,?_⟩;conv=>whnf
   cases h_n:(decide ((ofP t).k=1)&&decide ((ofP t).s=ByteArray.empty))
   rotate_left
   ·rw[show isS t fg=true from h_n]at h;simp only[am,ai]at h;obtain⟨rfl,rfl⟩:=h;conv=>whnf
    refine⟨by kernel_rfl,?_⟩;conv=>whnf
    exact⟨rfl,rfl⟩
   rw[show isS t fg=false from h_n]at h;simp only at h;conv=>whnf
   cases h_c:(decide ((ofP t).k=2)&&decide ((ofP t).s=ByteArray.empty))
   rotate_left
   ·rw[show isS t conS=true from h_c]at h;simp only[am,ai]at h;obtain⟨rfl,rfl⟩:=h;conv=>whnf
    refine⟨by kernel_rfl,?_⟩;conv=>whnf
    exact⟨rfl,rfl⟩
   rw[show isS t conS=false from h_c]at h;simp only at h;conv=>whnf
   cases h_i:(decide ((ofP t).k=3)&&decide ((ofP t).s=ByteArray.empty))
   rotate_left
   ·rw[show isS t intS=true from h_i]at h;simp only[am,ai]at h;obtain⟨rfl,rfl⟩:=h;conv=>whnf
    refine⟨by kernel_rfl,?_⟩;conv=>whnf
    exact⟨rfl,rfl⟩
   rw[show isS t intS=false from h_i]at h;simp only at h;conv=>whnf
   refine⟨_,_,gB _,?_⟩;conv=>whnf
   cases h_t:(decide ((ofP t).k=4)&&decide ((ofP t).s=⟨#[116,114,117,101]⟩))
   rotate_left
   ·rw[show isS t tD=true from h_t]at h;simp only[am,ai]at h;obtain⟨rfl,rfl⟩:=h;conv=>whnf
    exact⟨rfl,rfl⟩
   rw[show isS t tD=false from h_t]at h;simp only at h;conv=>whnf
   refine⟨_,_,gB _,?_⟩;conv=>whnf
   cases h_f:(decide ((ofP t).k=4)&&decide ((ofP t).s=⟨#[102,97,108,115,101]⟩))
   rotate_left
   ·rw[show isS t qj=true from h_f]at h;simp only[am,ai]at h;obtain⟨rfl,rfl⟩:=h;conv=>whnf
    exact⟨rfl,rfl⟩
   rw[show isS t qj=false from h_f]at h;simp only at h;split at h
   ·cases h
   ·rename_i e1 s1 h2;split at h
    ·cases h
    ·rename_i l s2 h3;obtain⟨k4,a4,st4,n4,ks4,as4⟩:=e1;conv=>whnf
     refine⟨_,_,ih k (by omega) (by omega) _ _ _ h2,?_⟩;conv=>whnf
     refine⟨fun j st=>∃acc s5,j≤k∧qE j acc s5=some (l,s2)∧acc.length+j≤4294967296+4294967296∧
      st=⟨[(0,.one (.ptr 0 0 0)),(2,.one (.ptr 2 0 0)),(4,.one (.ptr 4 0 0))],
       [(0,⟨0,121,par s5⟩),(2,⟨0,78,[.v (.int .i64 0),.v (.int .i64 0),.v (.string .empty),.v (.int .i64 0),.nil 78 6,.nil 226 9]⟩),(4,⟨0,78,[.v (.int .i64 8),.v (.int .i64 t.at_),.v (.string .empty),.v (.int .i64 0),.sl 78 6 (exsC acc) (some (33,0)),.nil 226 9]⟩)],[(33,⟨0,78,6,true⟩)]⟩,
      ⟨_,_,wk [0,2,4] [0,2,4] [20] [(20,33)] [] [] rfl,[.mk k4 a4 st4 n4 ks4 as4],s1,au k,h3,by simp;omega,rfl⟩,?_⟩
     rintro j st ⟨acc,s5,hj,h5,hlen,rfl⟩;conv=>whnf
     refine⟨_,_,aar s5 ((exsC acc).length:Int),?_⟩;cases j with
     |zero=>simp[qE]at h5
     |succ j=>
      rw[eR];unfold qE at h5;cases hm:(mw s5 (acc.length:Int)).1
      ·rw[hm]at h5;simp only[am,ai]at h5;obtain⟨rfl,h6⟩:=h5;conv=>whnf
       refine⟨_,_,dW _,?_⟩;rw[h6];conv=>whnf
       refine⟨_,_,er s2 rpar,?_⟩;conv=>whnf
       cases hl:decide (((exsC acc).length:Int)=1)
       ·have hne:acc.length≠1:=by have:=ca hl;rw[eR]at this;omega
        split at h
        ·simp at hne
        ·simp only[am,ai]at h;obtain⟨rfl,rfl⟩:=h;conv=>whnf
         exact⟨rfl,rfl⟩
       ·have he:acc.length=1:=by have:=aJ hl;rw[eR]at this;omega
        match acc,he with
        | [.mk k3 a3 st3 n3 ks3 as3],_=>
         simp only[am,ai]at h;obtain⟨rfl,rfl⟩:=h;conv=>whnf
         refine⟨_,⟨by decide,rfl⟩,?_⟩;conv=>whnf
         exact⟨rfl,rfl⟩
      ·rw[hm]at h5;simp only at h5;split at h5
       ·cases h5
       ·rename_i t6 s6 h6;obtain⟨k6,a6,st6,n6,ks6,as6⟩:=t6;conv=>whnf
        refine⟨_,_,ih j (by omega) (by omega) _ _ _ h6,?_⟩;conv=>whnf
        refine⟨by rw[eR];simp[lim];omega,?_⟩;conv=>whnf
        refine⟨by kernel_rfl,?_⟩;conv=>whnf
        refine⟨j,_,ah j,wk [0,2,4] [0,2,4] [33] [] [] [] rfl,_,s6,by omega,h5,by simp;omega,by rw[qJ];rfl⟩
theorem aeu{k:Nat}(ih:∀j<k,j≤4294967296→Ctx0 111 j ig)(hk:k≤4294967296){t:Tok}{s s':PS}{e:Exp}(h:lS k t s=some (e,s')):
 Ct 61 [parA s,.val (.agg (tok t))] [.val (.agg (exC e))] [par s']:=by
 cases k with
 |zero=>simp[lS]at h
 |succ k=>exact aev ih hk t s s' e h
theorem afN:∀k,k≤4294967296→Ctx0 111 k ig:=by
 intro k
 induction k using Nat.strongRecOn with
 |_ k ih=>
  intro hk s e s' h;cases k with
  |zero=>simp[ig]at h
  |succ k=>
   obtain⟨t,r,bad,a⟩:=s;refine ct Tryz.func111 (by kernel_rfl) ?_;unfold ig at h;cases bad
   rotate_left
   ·simp only[am,ai]at h;obtain⟨rfl,rfl⟩:=h;conv=>whnf
    exact⟨rfl,rfl⟩
   simp only at h;have IH:∀j≤k,Ctx0 111 j ig:=fun j hj=>ih j (by omega) (by omega);have AT:∀j≤k,Ctx0 150 j pw:=fun j hj=>agd (fun i hi _=>IH i (by omega)) (by omega);conv=>whnf
   refine⟨_,⟨by decide,rfl⟩,?_⟩;conv=>whnf
   refine⟨_,_,dW _,?_⟩;cases h1:eE ⟨t,r,false,a⟩ lamS
   rotate_left
   ·rw[h1]at h;simp only at h;conv=>whnf
    refine⟨_,_,tF h1,?_⟩;generalize eN ⟨t,r,false,a⟩=s0 at h;conv=>whnf
    refine⟨_,_,er s0 fg,?_⟩;split at h
    ·cases h
    ·rename_i l s3 h2;split at h
     ·cases h
     ·rename_i b s4 h3;simp only[am,ai]at h;obtain⟨rfl,rfl⟩:=h;conv=>whnf
      refine⟨_,_,ng h2,?_⟩;have hlen:=gW h2;generalize (cR s0 fg).1=t2;conv=>whnf
      refine⟨by simp[lim];omega,?_⟩;conv=>whnf
      refine⟨_,_,dW _,?_⟩;conv=>whnf
      refine⟨_,_,er s3 mO,?_⟩;obtain⟨k2,a2,st2,n2,ks2,as2⟩:=b;conv=>whnf
      refine⟨_,_,IH k (au k) _ _ _ h3,?_⟩;conv=>whnf
      refine⟨_,_,aay (t2::l) (by simp;omega) t.at_ (.mk k2 a2 st2 n2 ks2 as2),?_⟩;generalize mA (t2::l) t.at_ (.mk k2 a2 st2 n2 ks2 as2)=r;obtain⟨k3,a3,st3,n3,ks3,as3⟩:=r;conv=>whnf
      exact⟨rfl,rfl⟩
   rw[h1]at h;simp only at h;conv=>whnf
   refine⟨_,_,tG h1,?_⟩;conv=>whnf
   refine⟨_,_,gB _,?_⟩;cases h2:eE ⟨t,r,false,a⟩ letS
   rotate_left
   ·rw[h2]at h;simp only at h;conv=>whnf
    refine⟨_,_,tF h2,?_⟩;generalize eN ⟨t,r,false,a⟩=s0 at h;conv=>whnf
    refine⟨_,_,er s0 fg,?_⟩;generalize (cR s0 fg).1=t2 at h;generalize (cR s0 fg).2=s2 at h;split at h
    ·cases h
    ·rename_i b s3 h3;split at h
     ·cases h
     ·rename_i c s4 h4;simp only[am,ai]at h;obtain⟨rfl,rfl⟩:=h;obtain⟨k2,a2,st2,n2,ks2,as2⟩:=b;conv=>whnf
      refine⟨_,_,aeu (fun j hj=>ih j (by omega)) (by omega) h3,?_⟩;conv=>whnf
      refine⟨_,_,gB _,?_⟩;conv=>whnf
      refine⟨_,_,er s3 inS,?_⟩;obtain⟨k3,a3,st3,n3,ks3,as3⟩:=c;conv=>whnf
      refine⟨_,_,IH k (au k) _ _ _ h4,?_⟩;conv=>whnf
      refine⟨by kernel_rfl,?_⟩;conv=>whnf
      exact⟨rfl,rfl⟩
   rw[h2]at h;simp only at h;conv=>whnf
   refine⟨_,_,tG h2,?_⟩;conv=>whnf
   refine⟨_,_,gB _,?_⟩;cases h3:eE ⟨t,r,false,a⟩ ifS
   rotate_left
   ·rw[h3]at h;simp only at h;conv=>whnf
    refine⟨_,_,tF h3,?_⟩;generalize eN ⟨t,r,false,a⟩=s0 at h;split at h
    ·cases h
    ·rename_i b s3 h4;split at h
     ·cases h
     ·rename_i c s4 h5;split at h
      ·cases h
      ·rename_i d s5 h6;simp only[am,ai]at h;obtain⟨rfl,rfl⟩:=h;obtain⟨k2,a2,st2,n2,ks2,as2⟩:=b;conv=>whnf
       refine⟨_,_,IH k (au k) _ _ _ h4,?_⟩;conv=>whnf
       refine⟨_,_,gB _,?_⟩;apply cut
       ·conv=>whnf
        refine⟨_,_,er s3 agp,?_⟩;conv=>whnf
       obtain⟨k3,a3,st3,n3,ks3,as3⟩:=c;conv=>whnf
       refine⟨_,_,IH k (au k) _ _ _ h5,?_⟩;conv=>whnf
       refine⟨_,_,gB _,?_⟩;apply cut
       ·conv=>whnf
        refine⟨_,_,er s4 agJ,?_⟩;conv=>whnf
       obtain⟨k4,a4,st4,n4,ks4,as4⟩:=d;conv=>whnf
       refine⟨_,_,IH k (au k) _ _ _ h6,?_⟩;conv=>whnf
       refine⟨by kernel_rfl,?_⟩;conv=>whnf
       exact⟨rfl,rfl⟩
   rw[h3]at h;simp only at h;conv=>whnf
   refine⟨_,_,tG h3,?_⟩;conv=>whnf
   refine⟨_,_,gB _,?_⟩;cases h4:eE ⟨t,r,false,a⟩ agL
   rotate_left
   ·rw[h4]at h;simp only at h;conv=>whnf
    refine⟨_,_,tF h4,?_⟩;generalize eN ⟨t,r,false,a⟩=s0 at h;split at h
    ·cases h
    ·rename_i b s3 h5;split at h
     ·cases h
     ·rename_i l s4 h6;simp only[am,ai]at h;obtain⟨rfl,rfl⟩:=h;obtain⟨k2,a2,st2,n2,ks2,as2⟩:=b;conv=>whnf
      refine⟨_,_,IH k (au k) _ _ _ h5,?_⟩;conv=>whnf
      refine⟨_,_,gB _,?_⟩;apply cut
      ·conv=>whnf
       refine⟨_,_,er s3 ofS,?_⟩;conv=>whnf
      conv=>whnf
      refine⟨_,_,dW _,?_⟩;apply cut
      ·conv=>whnf
       refine⟨_,_,er (cR s3 ofS).2 vB,?_⟩;conv=>whnf
      generalize (cR (cR s3 ofS).2 vB).2=s5 at h6;conv=>whnf
      refine⟨fun j st=>∃acc s6 more,j≤k∧pD j more acc s6=some (l,s4)∧acc.length+j≤4294967296+4294967296∧
       st=⟨[(0,.one (.ptr 0 0 0)),(2,.one (.ptr 2 0 0)),(9,.one (.ptr 9 0 0)),(10,.one (.v (.bool more)))],
        [(0,⟨0,121,par s6⟩),(2,⟨0,78,[.v (.int .i64 0),.v (.int .i64 0),.v (.string .empty),.v (.int .i64 0),.nil 78 6,.nil 226 9]⟩),(9,⟨0,78,[.v (.int .i64 10),.v (.int .i64 t.at_),.v (.string .empty),.v (.int .i64 0),.sl 78 6 (exsC [.mk k2 a2 st2 n2 ks2 as2]) none,.sl 226 9 (cf acc) (some (132,0))]⟩)],[(132,⟨0,226,9,true⟩)]⟩,
       ⟨_,_,wk [0,2,9,10] [0,2,9] [] [] [] [(9,5,132,226,9)] rfl,[],s5,_,au k,h6,by simp;omega,rfl⟩,?_⟩
      rintro j st ⟨acc,s6,more,hj,h7,hlen,rfl⟩;cases j with
      |zero=>simp[pD]at h7
      |succ j=>
       cases more
       ·simp only[pD,am,ai]at h7;obtain⟨rfl,rfl⟩:=h7;conv=>whnf
        refine⟨_,_,dW _,?_⟩;apply cut
        ·conv=>whnf
         refine⟨_,_,er s6 acu,?_⟩;conv=>whnf
        conv=>whnf
        exact⟨rfl,rfl⟩
       ·unfold pD at h7;split at h7
        ·cases h7
        ·rename_i l8 s8 h8;split at h7
         ·cases h7
         ·rename_i b9 s9 h9;conv=>whnf
          refine⟨_,_,er s6 conS,?_⟩;generalize (cR s6 conS).1=t2 at h7;conv=>whnf
          refine⟨_,_,ng h8,?_⟩;conv=>whnf
          refine⟨_,_,wH l8 (gW h8),?_⟩;conv=>whnf
          refine⟨by kernel_rfl,?_⟩;conv=>whnf
          refine⟨_,_,dW _,?_⟩;apply cut
          ·conv=>whnf
           refine⟨_,_,er s8 mO,?_⟩;conv=>whnf
          obtain⟨k9,a9,st9,n9,ks9,as9⟩:=b9;conv=>whnf
          refine⟨_,_,IH j (by omega) _ _ _ h9,?_⟩;conv=>whnf
          refine⟨by rw[fU];simp[lim];omega,?_⟩;conv=>whnf
          refine⟨_,_,dW _,?_⟩;apply cut
          ·conv=>whnf
           refine⟨_,_,jz s9 semi,?_⟩;conv=>whnf
          conv=>whnf
          refine⟨j,_,ah j,wk [0,2,9,10] [0,2,9] [132] [] [] [] rfl,_,_,_,by omega,h7,by simp;omega,by rw[pE];rfl⟩
   rw[h4]at h;simp only at h;conv=>whnf
   refine⟨_,_,tG h4,?_⟩;split at h
   ·cases h
   ·rename_i b s1 h5;obtain⟨k2,a2,st2,n2,ks2,as2⟩:=b;conv=>whnf
    refine⟨_,_,AT k (au k) _ _ _ h5,?_⟩;conv=>whnf
    refine⟨fun j st=>∃k6 a6 st6 n6 ks6 as6 c5 s6,j≤k∧appP j (.mk k6 a6 st6 n6 ks6 as6) s6=some (e,s')∧(c5= .nil 226 9∧as6=[]∨c5= .sl 226 9 (cf as6) none)∧
     st=⟨[(0,.one (.ptr 0 0 0)),(2,.one (.ptr 2 0 0)),(13,.one (.ptr 13 0 0))],
      [(0,⟨0,121,par s6⟩),(2,⟨0,78,[.v (.int .i64 0),.v (.int .i64 0),.v (.string .empty),.v (.int .i64 0),.nil 78 6,.nil 226 9]⟩),(13,⟨0,78,[.v (.int .i64 k6),.v (.int .i64 a6),.v (.string st6),.v (.int .i64 n6),.sl 78 6 (exsC ks6) none,c5]⟩)],[]⟩,
     ⟨_,_,wk [0,2,13] [0,2,13] [] [] [] [] rfl,k2,a2,st2,n2,ks2,as2,_,s1,au k,h,.inr rfl,rfl⟩,?_⟩
    rintro j st ⟨k6,a6,st6,n6,ks6,as6,c5,s6,hj,h6,hc,rfl⟩;cases j with
    |zero=>simp[appP]at h6
    |succ j=>
     unfold appP at h6;cases h7:nD s6
     ·rw[h7]at h6;simp only[am,ai]at h6;obtain⟨rfl,rfl⟩:=h6;rcases hc with⟨rfl,rfl⟩|rfl
      ·conv=>whnf
       refine⟨_,_,ll s6,?_⟩;rw[h7];conv=>whnf
       exact⟨rfl,rfl⟩
      ·conv=>whnf
       refine⟨_,_,ll s6,?_⟩;rw[h7];conv=>whnf
       exact⟨rfl,rfl⟩
     ·rw[h7]at h6;simp only at h6;split at h6
      ·cases h6
      ·rename_i b9 s9 h9;obtain⟨k9,a9,st9,n9,ks9,as9⟩:=b9;rcases hc with⟨rfl,rfl⟩|rfl
       ·conv=>whnf
        refine⟨_,_,ll s6,?_⟩;rw[h7];conv=>whnf
        refine⟨_,_,AT j (by omega) _ _ _ h9,?_⟩;conv=>whnf
        refine⟨by kernel_rfl,?_⟩;conv=>whnf
        refine⟨j,_,ah j,wk [0,2,13] [0,2,13] [] [] [] [] rfl,5,a6,.empty,0,[.mk k6 a6 st6 n6 ks6 [],.mk k9 a9 st9 n9 ks9 as9],[],_,s9,by omega,h6,.inl ⟨rfl,rfl⟩,rfl⟩
       ·conv=>whnf
        refine⟨_,_,ll s6,?_⟩;rw[h7];conv=>whnf
        refine⟨_,_,AT j (by omega) _ _ _ h9,?_⟩;conv=>whnf
        refine⟨by kernel_rfl,?_⟩;conv=>whnf
        refine⟨j,_,ah j,wk [0,2,13] [0,2,13] [] [] [] [] rfl,5,a6,.empty,0,[.mk k6 a6 st6 n6 ks6 as6,.mk k9 a9 st9 n9 ks9 as9],[],_,s9,by omega,h6,.inl ⟨rfl,rfl⟩,rfl⟩
structure ConD where
 s:ByteArray
 at_:Int
 args:List Ty
structure DataD where
 s:ByteArray
 at_:Int
 vars:List ByteArray
 cons:List ConD
structure BindD where
 s:ByteArray
 at_:Int
 body:Exp
structure ProgD where
 datas:List DataD
 binds:List BindD
@[reducible] def conC (c:ConD):List AC:=[.v (.string c.s),.v (.int .i64 c.at_),.sl 88 4 (tysC c.args) none]
@[reducible] def bS (d:DataD):List AC:=[.v (.string d.s),.v (.int .i64 d.at_),.sl 9 1 (d.vars.map str) none,.sl 163 3 (d.cons.map conC) none]
@[reducible] def bz (b:BindD):List AC:=.v (.string b.s):: .v (.int .i64 b.at_)::exC b.body
@[reducible] def oF (p:ProgD):List AC:=[.sl 158 4 (p.datas.map bS) none,.sl 80 8 (p.binds.map bz) none]
def pd:Nat→List ByteArray→Bool→List ConD→PS→Option (List ConD×PS)
 |0,_,_,_,_=>none
 |_+1,_,false,acc,s=>some (acc,s)
 |k+1,vars,true,acc,s=>match lX k vars [] (cR s conS).2 with
  |none=>none
  |some (args,s1)=>pd k vars (iU s1 barS).1 (acc++[⟨(cR s conS).1.s,(cR s conS).1.at_,args⟩]) (iU s1 barS).2
def xO(k:Nat)(s:PS):Option (DataD×PS):=match mo (cR s conS).2 with
 |none=>none
 |some (l,s1)=>match pd k (l.map (·.s)) (!(cR s1 eqS).2.bad) [] (cR s1 eqS).2 with
  |none=>none
  |some (cs,s3)=>some (⟨(cR s conS).1.s,(cR s conS).1.at_,l.map (·.s),cs⟩,(cR s3 semi).2)
theorem afP{k:Nat}(hk:k≤4294967296){s s':PS}{d:DataD}(h:xO k s=some (d,s')):Ct 59 [parA s] [.val (.agg (bS d))] [par s']:=by
 refine ct Tryz.func59 (by kernel_rfl) ?_;unfold xO at h;split at h
 ·cases h
 ·rename_i l s1 h1;split at h
  ·cases h
  ·rename_i cs s3 h2;simp only[am,ai]at h;obtain⟨rfl,rfl⟩:=h;have hv:(l.map (·.s)).length≤4294967296:=by simpa using gW h1
   generalize hvars:l.map (·.s)=vars at h2 hv;conv=>whnf
   refine⟨_,_,er s conS,?_⟩;generalize (cR s conS).1=t;conv=>whnf
   refine⟨_,_,ng h1,?_⟩;conv=>whnf
   refine⟨_,_,wH l (gW h1),?_⟩;rw[hvars];conv=>whnf
   refine⟨by kernel_rfl,?_⟩;conv=>whnf
   refine⟨_,_,dW _,?_⟩;apply cut
   ·conv=>whnf
    refine⟨_,_,er s1 eqS,?_⟩;conv=>whnf
   generalize (cR s1 eqS).2=s2 at h2;conv=>whnf
   refine⟨fun j st=>∃acc s6 more,j≤k∧pd j vars more acc s6=some (cs,s3)∧acc.length+j≤4294967296+4294967296∧
    st=⟨[(0,.one (.ptr 0 0 0)),(2,.one (.ptr 2 0 0)),(4,.one (.ptr 4 0 0)),(5,.one (.v (.bool more)))],
     [(0,⟨0,121,par s6⟩),(2,⟨0,158,[.v (.string .empty),.v (.int .i64 0),.nil 9 1,.nil 163 3]⟩),(4,⟨0,158,[.v (.string t.s),.v (.int .i64 t.at_),.sl 9 1 (vars.map str) none,.sl 163 3 (acc.map conC) (some (54,0))]⟩)],[(54,⟨0,163,3,true⟩)]⟩,
    ⟨_,_,wk [0,2,4,5] [0,2,4] [] [] [] [(4,3,54,163,3)] rfl,[],s2,_,au k,h2,by simp;omega,rfl⟩,?_⟩
   rintro j st ⟨acc,s6,more,hj,h7,hlen,rfl⟩;cases j with
   |zero=>simp[pd]at h7
   |succ j=>
    cases more
    ·simp only[pd,am,ai]at h7;obtain⟨rfl,rfl⟩:=h7;conv=>whnf
     refine⟨_,_,dW _,?_⟩;apply cut
     ·conv=>whnf
      refine⟨_,_,er s6 semi,?_⟩;conv=>whnf
     conv=>whnf
     exact⟨rfl,rfl⟩
    ·unfold pd at h7;split at h7
     ·cases h7
     ·rename_i args s8 h8;conv=>whnf
      refine⟨_,_,er s6 conS,?_⟩;generalize (cR s6 conS).1=t2 at h7;generalize (cR s6 conS).2=s7 at h8;conv=>whnf
      refine⟨fun i st=>∃acc2 s9,i≤j∧lX i vars acc2 s9=some (args,s8)∧acc2.length+i≤4294967296+4294967296∧
       st=⟨[(0,.one (.ptr 0 0 0)),(2,.one (.ptr 2 0 0)),(4,.one (.ptr 4 0 0)),(7,.one (.ptr 7 0 0))],
        [(0,⟨0,121,par s9⟩),(2,⟨0,158,[.v (.string .empty),.v (.int .i64 0),.nil 9 1,.nil 163 3]⟩),(4,⟨0,158,[.v (.string t.s),.v (.int .i64 t.at_),.sl 9 1 (vars.map str) none,.sl 163 3 (acc.map conC) (some (54,0))]⟩),(7,⟨0,163,[.v (.string t2.s),.v (.int .i64 t2.at_),.sl 88 4 (tysC acc2) (some (48,0))]⟩)],[(54,⟨0,163,3,true⟩),(48,⟨0,88,4,true⟩)]⟩,
       ⟨_,_,wk [0,2,4,7] [0,2,4,7] [54] [] [] [(7,2,48,88,4)] rfl,[],s7,au j,h8,by simp;omega,rfl⟩,?_⟩
      rintro i st ⟨acc2,s9,hi,h9,hlen2,rfl⟩;conv=>whnf
      refine⟨_,_,uI s9,?_⟩;cases i with
      |zero=>simp[lX]at h9
      |succ i=>
       unfold lX at h9;cases hm:pq s9
       ·rw[hm]at h9;simp only[am,ai]at h9;obtain⟨rfl,rfl⟩:=h9;conv=>whnf
        refine⟨by simp[lim];omega,?_⟩;conv=>whnf
        refine⟨_,_,dW _,?_⟩;apply cut
        ·conv=>whnf
         refine⟨_,_,jz s9 barS,?_⟩;conv=>whnf
        conv=>whnf
        refine⟨j,_,ah j,wk [0,2,4,5] [0,2,4] [54] [] [] [] rfl,_,_,_,by omega,h7,by simp;omega,by rw[bw];rfl⟩
       ·rw[hm]at h9;simp only at h9;split at h9
        ·cases h9
        ·rename_i t6 s10 h10;obtain⟨k6,n6,st6,ks6⟩:=t6;conv=>whnf
         refine⟨_,_,(ait i (by omega)).1 vars _ _ _ hv h10,?_⟩;conv=>whnf
         refine⟨by rw[bU];simp[lim];omega,?_⟩;conv=>whnf
         refine⟨by kernel_rfl,?_⟩;conv=>whnf
         refine⟨i,_,ah i,wk [0,2,4,7] [0,2,4,7] [54,48] [] [] [] rfl,_,s10,by omega,h9,by simp;omega,by rw[fN];rfl⟩
def kW:Nat→ProgD→PS→Option (ProgD×PS)
 |0,_,_=>none
 |k+1,p,s=>match s.bad with
  |true=>some (p,s)
  |false=>match decide (s.t.k=0) with
   |true=>some (p,s)
   |false=>match eE s agK with
    |true=>match xO k (eN s) with
     |none=>none
     |some (d,s1)=>kW k ⟨p.datas++[d],p.binds⟩ s1
    |false=>match eE s letS with
     |true=>match lS k (cR (eN s) fg).1 (cR (eN s) fg).2 with
      |none=>none
      |some (b,s1)=>kW k ⟨p.datas,p.binds++[⟨(cR (eN s) fg).1.s,(cR (eN s) fg).1.at_,b⟩]⟩ (cR s1 semi).2
     |false=>kW k p (ut s)
theorem yJ{k:Nat}(hk:k≤4294967296){s s':PS}{p:ProgD}(h:kW k ⟨[],[]⟩ s=some (p,s')):Ct 38 [parA s] [.val (.agg (oF p))] [par s']:=by
 refine ct Tryz.func38 (by kernel_rfl) ?_;conv=>whnf
 refine⟨fun j st=>∃ds bs s6,j≤k∧kW j ⟨ds,bs⟩ s6=some (p,s')∧ds.length+j≤4294967296+4294967296∧bs.length+j≤4294967296+4294967296∧
  st=⟨[(0,.one (.ptr 0 0 0)),(2,.one (.ptr 2 0 0)),(3,.one (.ptr 3 0 0))],
   [(0,⟨0,121,par s6⟩),(2,⟨0,60,[.nil 158 4,.nil 80 8]⟩),(3,⟨0,60,[.sl 158 4 (ds.map bS) (some (31,0)),.sl 80 8 (bs.map bz) (some (51,0))]⟩)],[(31,⟨0,158,4,true⟩),(51,⟨0,80,8,true⟩)]⟩,
  ⟨_,_,wk [0,2,3] [0,2,3] [] [] [] [(3,0,31,158,4),(3,1,51,80,8)] rfl,[],[],s,au k,h,by simp;omega,by simp;omega,rfl⟩,?_⟩
 rintro j st ⟨ds,bs,⟨t,r,bad,a⟩,hj,h7,hl1,hl2,rfl⟩;cases j with
 |zero=>simp[kW]at h7
 |succ j=>
  unfold kW at h7;cases bad
  rotate_left
  ·simp only[am,ai]at h7;obtain⟨rfl,rfl⟩:=h7;conv=>whnf
   exact⟨rfl,rfl⟩
  ·simp only at h7;conv=>whnf
   refine⟨_,⟨by decide,rfl⟩,?_⟩;conv=>whnf
   cases hz:decide (t.k=0)
   rotate_left
   ·rw[hz]at h7;simp only[am,ai]at h7;obtain⟨rfl,rfl⟩:=h7;conv=>whnf
    exact⟨rfl,rfl⟩
   ·rw[hz]at h7;simp only at h7;conv=>whnf
    refine⟨_,_,gB _,?_⟩;cases h1:eE ⟨t,r,false,a⟩ agK
    rotate_left
    ·rw[h1]at h7;simp only at h7;split at h7
     ·cases h7
     ·rename_i d s1 h2;apply cut
      ·conv=>whnf
       refine⟨_,_,tF h1,?_⟩;conv=>whnf
      conv=>whnf
      refine⟨_,_,afP (by omega) h2,?_⟩;conv=>whnf
      refine⟨by simp[lim];omega,?_⟩;conv=>whnf
      refine⟨by kernel_rfl,?_⟩;conv=>whnf
      refine⟨j,_,ah j,wk [0,2,3] [0,2,3] [31,51] [] [] [] rfl,_,_,_,by omega,h7,by simp;omega,by omega,by rw[bw];rfl⟩
    ·rw[h1]at h7;simp only at h7;apply cut
     ·conv=>whnf
      refine⟨_,_,tG h1,?_⟩;conv=>whnf
     conv=>whnf
     refine⟨_,_,gB _,?_⟩;cases h2:eE ⟨t,r,false,a⟩ letS
     rotate_left
     ·rw[h2]at h7;simp only at h7;split at h7
      ·cases h7
      ·rename_i b s1 h3;apply cut
       ·conv=>whnf
        refine⟨_,_,tF h2,?_⟩;conv=>whnf
       generalize eN ⟨t,r,false,a⟩=s0 at h3 h7;conv=>whnf
       refine⟨_,_,er s0 fg,?_⟩;generalize (cR s0 fg).1=t2 at h3 h7;generalize (cR s0 fg).2=s3 at h3;conv=>whnf
       obtain⟨k2,a2,st2,n2,ks2,as2⟩:=b;refine⟨_,_,aeu (fun i _ hi=>afN i hi) (by omega) h3,?_⟩;conv=>whnf
       refine⟨by simp[lim];omega,?_⟩;conv=>whnf
       refine⟨by kernel_rfl,?_⟩;conv=>whnf
       refine⟨_,_,dW _,?_⟩;apply cut
       ·conv=>whnf
        refine⟨_,_,er s1 semi,?_⟩;conv=>whnf
       conv=>whnf
       refine⟨j,_,ah j,wk [0,2,3] [0,2,3] [31,51] [] [] [] rfl,_,_,_,by omega,h7,by omega,by simp;omega,by rw[bw];rfl⟩
     ·rw[h2]at h7;simp only at h7;apply cut
      ·conv=>whnf
       refine⟨_,_,tG h2,?_⟩;conv=>whnf
      conv=>whnf
      refine⟨_,_,rq _,?_⟩;conv=>whnf
      refine⟨j,_,ah j,wk [0,2,3] [0,2,3] [31,51] [] [] [] rfl,_,_,_,by omega,h7,by omega,by omega,rfl⟩
def mx(a b:Int):Int:=if b > a then b else a
mutual
def uy:Exp→Int
 | .mk _ _ _ _ kids alts=>IntKind.i64.wrap (vW (sQ 0 kids) alts+1)
def sQ:Int→List Exp→Int
 |n,[]=>n
 |n,e::l=>sQ (mx n (uy e)) l
def ajl:Alt→Int
 | .mk _ _ _ b=>uy b
def vW:Int→List Alt→Int
 |n,[]=>n
 |n,a::l=>vW (mx n (ajl a)) l
end
mutual
def aaO:Ty→Int
 | .mk _ _ _ kids=>IntKind.i64.wrap (vV 0 kids+1)
def vV:Int→List Ty→Int
 |n,[]=>n
 |n,e::l=>vV (mx n (aaO e)) l
end
mutual
def ju:Ty→Prop
 | .mk _ _ _ kids=>kids.length≤4294967296∧fF kids
def fF:List Ty→Prop
 | []=>True
 |t::l=>ju t∧fF l
end
mutual
def dJ:Exp→Prop
 | .mk _ _ _ _ kids alts=>kids.length≤4294967296∧alts.length≤4294967296∧kK kids∧lM alts
def kK:List Exp→Prop
 | []=>True
 |t::l=>dJ t∧kK l
def aaM:Alt→Prop
 | .mk _ _ names b=>names.length≤4294967296∧dJ b
def lM:List Alt→Prop
 | []=>True
 |t::l=>aaM t∧lM l
end
theorem od:∀{l:List Ty} {i:Nat} {t:Ty},fF l→l[i]?=some t→ju t
 | [],_,_,_,h=>by simp at h
 |t::l,0,_,hf,h=>by simp at h;subst h;exact hf.1
 |t::l,i+1,_,hf,h=>od (l:=l) hf.2 (by simpa using h)
theorem cP:∀{l:List Exp} {i:Nat} {t:Exp},kK l→l[i]?=some t→dJ t
 | [],_,_,_,h=>by simp at h
 |t::l,0,_,hf,h=>by simp at h;subst h;exact hf.1
 |t::l,i+1,_,hf,h=>cP (l:=l) hf.2 (by simpa using h)
theorem eK:∀{l:List Alt} {i:Nat} {t:Alt},lM l→l[i]?=some t→aaM t
 | [],_,_,_,h=>by simp at h
 |t::l,0,_,hf,h=>by simp at h;subst h;exact hf.1
 |t::l,i+1,_,hf,h=>eK (l:=l) hf.2 (by simpa using h)
theorem aaH{l:List Ty}{m:Nat}{x:Ty}(h:l[m]?=some x):0≤(m:Int)∧(tysC l)[((m:Nat):Int).toNat]?=some (tyC x):=⟨by omega,by simpa using ga h⟩
theorem afG{l:List Exp}{m:Nat}{x:Exp}(h:l[m]?=some x):0≤(m:Int)∧(exsC l)[((m:Nat):Int).toNat]?=some (exC x):=⟨by omega,by simpa using dB h⟩
theorem adG{l:List Alt}{m:Nat}{x:Alt}(h:l[m]?=some x):0≤(m:Int)∧(cf l)[((m:Nat):Int).toNat]?=some (altC x):=⟨by omega,by simpa using fa h⟩
theorem aaF:∀(n:Nat) (t:Ty),SizeOf.sizeOf t<n→ju t→Ct 68 [.val (.agg (tyC t))] [.val (.one (.v (.int .i64 (aaO t))))] []
 |0,_,h,_=>by omega
 |n+1,.mk k nn s kids,h,hf=>by
  obtain⟨hf1,hf2⟩:=hf;refine ct Tryz.func68 (by kernel_rfl) ?_;unfold aaO;conv=>whnf
  refine⟨fun j st=>∃m i x,j=kids.length-m∧m≤kids.length∧i=((m:Nat):Int)∧vV 0 kids=vV x (kids.drop m)∧
   st=⟨[(3,.one (.v (.int .i64 x))),(9,.one (.v (.int .i64 i))),(8,.one (.v (.int .i64 ((tysC kids).length:Int)))),(7,.one (.sl 88 4 (tysC kids) none))],[],[]⟩,
   ⟨_,_,wk [3,9,8,7] [] [] [] [] [] rfl,0,0,0,rfl,aR _,rfl,rfl,rfl⟩,?_⟩
  rintro j st ⟨m,i,x,rfl,hm,rfl,hx,rfl⟩;conv=>whnf
  cases hlt:decide (((m:Nat):Int)<((tysC kids).length:Int))
  ·conv=>whnf
   have:m=kids.length:=by simp[bU]at hlt;omega
   subst this;rw[hx,cF];exact⟨rfl,rfl⟩
  ·have hm2:m<kids.length:=by simpa [bU]using hlt
   rw[aj hm2]at hx;have hsz:SizeOf.sizeOf kids[m]<n:=by
    have:=iz (bp hm2);simp at h;omega
   have hg:=aaH (ad hm2);have hft:=od hf2 (ad hm2);generalize kids[m]=t2 at hx hsz hg hft;obtain⟨k2,n2,s2,kids2⟩:=t2;conv=>whnf
   refine⟨_,hg,?_⟩;conv=>whnf
   refine⟨_,_,aaF n _ hsz hft,?_⟩;conv=>whnf
   refine⟨_,_,?_,wk [3,9,8,7] [] [] [] [] [] rfl,m+1,_,_,rfl,hm2,eJ (x:=(m:Int)+1) (by omega) (by omega),hx,rfl⟩;omega
theorem vU:∀(n:Nat) (e:Exp),SizeOf.sizeOf e<n→dJ e→Ct 65 [.val (.agg (exC e))] [.val (.one (.v (.int .i64 (uy e))))] []
 |0,_,h,_=>by omega
 |n+1,.mk k at_ s nn kids alts,h,hf=>by
  obtain⟨hf1,hf2,hf3,hf4⟩:=hf;refine ct Tryz.func65 (by kernel_rfl) ?_;unfold uy;conv=>whnf
  refine⟨fun j st=>∃m i x,j=kids.length-m∧m≤kids.length∧i=((m:Nat):Int)∧sQ 0 kids=sQ x (kids.drop m)∧
   st=⟨[(3,.one (.v (.int .i64 x))),(11,.one (.v (.int .i64 i))),(10,.one (.v (.int .i64 ((exsC kids).length:Int)))),(9,.one (.sl 78 6 (exsC kids) none)),(1,.one (.ptr 1 0 0))],[(1,⟨0,78,exC (.mk k at_ s nn kids alts)⟩)],[]⟩,
   ⟨_,_,wk [3,11,10,9,1] [1] [] [] [] [] rfl,0,0,0,rfl,aR _,rfl,rfl,rfl⟩,?_⟩
  rintro j st ⟨m,i,x,rfl,hm,rfl,hx,rfl⟩;conv=>whnf
  cases hlt:decide (((m:Nat):Int)<((exsC kids).length:Int))
  ·have:m=kids.length:=by simp[eR]at hlt;omega
   subst this;rw[cF]at hx;rw[hx];unfold sQ;conv=>whnf
   refine⟨fun j st=>∃m i y,j=alts.length-m∧m≤alts.length∧i=((m:Nat):Int)∧vW x alts=vW y (alts.drop m)∧
    st=⟨[(3,.one (.v (.int .i64 y))),(23,.one (.v (.int .i64 i))),(22,.one (.v (.int .i64 ((cf alts).length:Int)))),(21,.one (.sl 226 9 (cf alts) none))],[],[]⟩,
    ⟨_,_,wk [3,23,22,21] [] [] [] [] [] rfl,0,0,x,rfl,aR _,rfl,rfl,rfl⟩,?_⟩
   rintro j st ⟨m,i,y,rfl,hm,rfl,hy,rfl⟩;conv=>whnf
   cases hlt:decide (((m:Nat):Int)<((cf alts).length:Int))
   ·conv=>whnf
    have:m=alts.length:=by simp[fU]at hlt;omega
    subst this;rw[hy,cF];exact⟨rfl,rfl⟩
   ·have hm2:m<alts.length:=by simpa [fU]using hlt
    rw[aj hm2]at hy;have hsz:SizeOf.sizeOf alts[m]<n:=by
     have:=iz (bp hm2);simp at h;omega
    have hg:=adG (ad hm2);have hft:=eK hf4 (ad hm2);generalize alts[m]=t2 at hy hsz hg hft;obtain⟨a2,s2,names2,b2⟩:=t2;have hsz2:SizeOf.sizeOf b2<n:=by simp at hsz;omega
    obtain⟨k3,a3,s3,n3,kids3,alts3⟩:=b2;conv=>whnf
    refine⟨_,hg,?_⟩;conv=>whnf
    refine⟨_,_,vU n _ hsz2 hft.2,?_⟩;conv=>whnf
    refine⟨_,_,?_,wk [3,23,22,21] [] [] [] [] [] rfl,m+1,_,_,rfl,hm2,eJ (x:=(m:Int)+1) (by omega) (by omega),hy,rfl⟩;omega
  ·have hm2:m<kids.length:=by simpa [eR]using hlt
   rw[aj hm2]at hx;have hsz:SizeOf.sizeOf kids[m]<n:=by
    have:=iz (bp hm2);simp at h;omega
   have hg:=afG (ad hm2);have hft:=cP hf3 (ad hm2);generalize kids[m]=t2 at hx hsz hg hft;obtain⟨k3,a3,s3,n3,kids3,alts3⟩:=t2;conv=>whnf
   refine⟨_,hg,?_⟩;conv=>whnf
   refine⟨_,_,vU n _ hsz hft,?_⟩;conv=>whnf
   refine⟨_,_,?_,wk [3,11,10,9,1] [1] [] [] [] [] rfl,m+1,_,_,rfl,hm2,eJ (x:=(m:Int)+1) (by omega) (by omega),hx,rfl⟩;omega
def vA(a n:Int):Int:=match decide (a<0) with
 |true=>n
 |false=>match decide (n<a) with
  |true=>n
  |false=>a
theorem xq(a n:Int):Ct 64 [.val (.one (.v (.int .i64 n))),.box 3 [.v (.int .i64 a)]] [] [[.v (.int .i64 (vA a n))]]:=by
 refine ct Tryz.func64 (by kernel_rfl) ?_;unfold vA;cases h1:decide (a<0)
 ·conv=>whnf
  rw[h1];conv=>whnf
  cases h2:decide (n<a)
  ·conv=>whnf
   exact⟨rfl,rfl⟩
  ·conv=>whnf
   exact⟨rfl,rfl⟩
 ·conv=>whnf
  rw[h1];conv=>whnf
  exact⟨rfl,rfl⟩
def acD(t:Ty):Bool:=decide (60<aaO t)
theorem afk{t:Ty}(h:ju t):Ct 67 [.val (.agg (tyC t))] [.val (.one (.v (.bool (acD t))))] []:=by
 obtain⟨k,n,s,kids⟩:=t;refine ct Tryz.func67 (by kernel_rfl) ?_;conv=>whnf
 refine⟨_,_,aaF _ _ (ah _) h,?_⟩;conv=>whnf
 exact⟨rfl,rfl⟩
def iV:List Ty→Nat→Int
 | [],_=> -1
 |t::l,i=>match acD t with
  |true=>i
  |false=>iV l (i+1)
theorem vH{l:List Ty}(hB:l.length≤4294967296)(hf:fF l):Ct 112 [.val (.one (.sl 88 4 (tysC l) none)),.val (.one (.clo 67 []))] [.val (.one (.v (.int .i64 (iV l 0))))] []:=by
 refine ct Tryz.func112 (by kernel_rfl) ?_;conv=>whnf
 refine⟨fun n st=>∃m i,n=l.length-m∧m≤l.length∧i=((m:Nat):Int)∧iV l 0=iV (l.drop m) m∧
  st=⟨[(8,.one (.v (.int .i64 i))),(7,.one (.v (.int .i64 ((tysC l).length:Int)))),(0,.one (.sl 88 4 (tysC l) none)),(1,.one (.clo 67 []))],[],[]⟩,
  ⟨_,_,wk [8,7,0,1] [] [] [] [] [] rfl,0,0,rfl,aR _,rfl,rfl,rfl⟩,?_⟩
 rintro n st ⟨m,i,rfl,hm,rfl,hix,rfl⟩;conv=>whnf
 cases hlt:decide (((m:Nat):Int)<((tysC l).length:Int))
 ·conv=>whnf
  have:m=l.length:=by simp[bU]at hlt;omega
  subst this;rw[hix,cF];exact⟨rfl,rfl⟩
 ·have hm2:m<l.length:=by simpa [bU]using hlt
  rw[aj hm2]at hix;simp only[iV]at hix;have hg:=aaH (ad hm2);have hft:=od hf (ad hm2);generalize l[m]=t2 at hix hg hft;obtain⟨k2,n2,s2,kids2⟩:=t2;conv=>whnf
  refine⟨_,hg,?_⟩;conv=>whnf
  refine⟨_,_,afk hft,?_⟩;cases ho:acD (.mk k2 n2 s2 kids2)
  ·rw[ho]at hix;conv=>whnf
   refine⟨_,_,?_,wk [8,7,0,1] [] [] [] [] [] rfl,m+1,_,rfl,hm2,eJ (x:=(m:Int)+1) (by omega) (by omega),hix,rfl⟩;omega
  ·rw[ho]at hix;conv=>whnf
   rw[hix];exact⟨rfl,rfl⟩
theorem xT{l:List Ty}(hB:l.length≤4294967296)(hf:fF l):Ct 66 [.val (.one (.sl 88 4 (tysC l) none)),.val (.one (.clo 67 []))] [.val (.one (.v (.bool (decide (0≤iV l 0)))))] []:=by
 refine ct Tryz.func66 (by kernel_rfl) ?_;conv=>whnf
 refine⟨_,_,vH hB hf,?_⟩;conv=>whnf
 exact⟨rfl,rfl⟩
def lowB:Int→List BindD→Int
 |a,[]=>a
 |a,b::l=>match decide (60<uy b.body) with
  |true=>lowB (vA a b.at_) l
  |false=>lowB a l
def lowC:Int→List ConD→Int
 |a,[]=>a
 |a,c::l=>match decide (0≤iV c.args 0) with
  |true=>lowC (vA a c.at_) l
  |false=>lowC a l
def lowD:Int→List DataD→Int
 |a,[]=>a
 |a,d::l=>lowD (lowC a d.cons) l
def mG(p:ProgD):Int:=lowD (lowB (-1) p.binds) p.datas
structure FineP(p:ProgD):Prop where
 binds:p.binds.length≤4294967296
 datas:p.datas.length≤4294967296
 bodies:∀b∈p.binds,dJ b.body
 cons:∀d∈p.datas,d.cons.length≤4294967296∧d.vars.length≤4294967296
 args:∀d∈p.datas,∀c∈d.cons,c.args.length≤4294967296∧fF c.args
theorem zk{p:ProgD}(hp:FineP p):Ct 39 [.val (.agg (oF p))] [.val (.one (.v (.int .i64 (mG p))))] []:=by
 refine ct Tryz.func39 (by kernel_rfl) ?_;obtain⟨ds,bs⟩:=p;obtain⟨f1,f2,f3,f4,f5⟩:=hp;unfold mG;simp only at f1 f2 f3 f4 f5 ⊢;conv=>whnf
 refine⟨fun j st=>∃m i a,j=bs.length-m∧m≤bs.length∧i=((m:Nat):Int)∧lowB (-1) bs=lowB a (bs.drop m)∧
  st=⟨[(15,.one (.v (.int .i64 i))),(14,.one (.v (.int .i64 ((bs.map bz).length:Int)))),(13,.one (.sl 80 8 (bs.map bz) none)),(1,.one (.ptr 1 0 0)),(3,.one (.ptr 3 0 0)),(4,.one (.clo 64 [.ptr 3 0 0]))],
   [(1,⟨0,60,oF ⟨ds,bs⟩⟩),(3,⟨0,3,[.v (.int .i64 a)]⟩)],[]⟩,
  ⟨_,_,wk [15,14,13,1,3,4] [1,3] [] [] [] [] rfl,0,0,-1,rfl,aR _,rfl,rfl,rfl⟩,?_⟩
 rintro j st ⟨m,i,a,rfl,hm,rfl,hx,rfl⟩;conv=>whnf
 cases hlt:decide (((m:Nat):Int)<((bs.map bz).length:Int))
 rotate_left
 ·have hm2:m<bs.length:=by simpa using hlt
  rw[aj hm2]at hx;simp only[lowB]at hx;have hg:=oV (f:=bz) (ad hm2);have hft:=f3 _ (bp hm2);generalize bs[m]=t2 at hx hg hft;obtain⟨s2,a2,⟨k3,a3,s3,n3,kids3,alts3⟩⟩:=t2;conv=>whnf
  refine⟨_,hg,?_⟩;conv=>whnf
  refine⟨_,_,vU _ _ (ah _) hft,?_⟩;conv=>whnf
  cases ho:decide (60<uy (.mk k3 a3 s3 n3 kids3 alts3))
  ·rw[ho]at hx;conv=>whnf
   refine⟨_,_,?_,wk [15,14,13,1,3,4] [1,3] [] [] [] [] rfl,m+1,_,_,rfl,hm2,eJ (x:=(m:Int)+1) (by omega) (by omega),hx,rfl⟩;omega
  ·rw[ho]at hx;conv=>whnf
   refine⟨_,_,xq a a2,?_⟩;conv=>whnf
   refine⟨_,_,?_,wk [15,14,13,1,3,4] [1,3] [] [] [] [] rfl,m+1,_,_,rfl,hm2,eJ (x:=(m:Int)+1) (by omega) (by omega),hx,rfl⟩;omega
 ·have:m=bs.length:=by simp at hlt;omega
  subst this;rw[cF]at hx;rw[hx];unfold lowB;conv=>whnf
  refine⟨fun j st=>∃m i b,j=ds.length-m∧m≤ds.length∧i=((m:Nat):Int)∧lowD a ds=lowD b (ds.drop m)∧
   st=⟨[(31,.one (.v (.int .i64 i))),(30,.one (.v (.int .i64 ((ds.map bS).length:Int)))),(29,.one (.sl 158 4 (ds.map bS) none)),(3,.one (.ptr 3 0 0)),(4,.one (.clo 64 [.ptr 3 0 0]))],
    [(3,⟨0,3,[.v (.int .i64 b)]⟩)],[]⟩,
   ⟨_,_,wk [31,30,29,3,4] [3] [] [] [] [] rfl,0,0,a,rfl,aR _,rfl,rfl,rfl⟩,?_⟩
  rintro j st ⟨m,i,b,rfl,hm,rfl,hx,rfl⟩;conv=>whnf
  cases hlt:decide (((m:Nat):Int)<((ds.map bS).length:Int))
  ·conv=>whnf
   have:m=ds.length:=by simp at hlt;omega
   subst this;rw[hx,cF];exact⟨rfl,rfl⟩
  ·have hm2:m<ds.length:=by simpa using hlt
   rw[aj hm2]at hx;simp only[lowD]at hx;have hg:=oV (f:=bS) (ad hm2);have hft:=f4 _ (bp hm2);have hfa:=f5 _ (bp hm2);generalize ds[m]=t2 at hx hg hft hfa;obtain⟨s2,a2,vars2,cs⟩:=t2;simp only at hft hfa hx;conv=>whnf
   refine⟨_,hg,?_⟩;conv=>whnf
   refine⟨fun j st=>∃q i c,j=cs.length-q∧q≤cs.length∧i=((q:Nat):Int)∧lowC b cs=lowC c (cs.drop q)∧
    st=⟨[(38,.one (.v (.int .i64 i))),(37,.one (.v (.int .i64 ((cs.map conC).length:Int)))),(36,.one (.sl 163 3 (cs.map conC) none)),(31,.one (.v (.int .i64 ((m:Nat):Int)))),(30,.one (.v (.int .i64 ((ds.map bS).length:Int)))),(29,.one (.sl 158 4 (ds.map bS) none)),(3,.one (.ptr 3 0 0)),(4,.one (.clo 64 [.ptr 3 0 0]))],
     [(3,⟨0,3,[.v (.int .i64 c)]⟩)],[]⟩,
    ⟨_,_,wk [38,37,36,31,30,29,3,4] [3] [] [] [] [] rfl,0,0,b,rfl,aR _,rfl,rfl,rfl⟩,?_⟩
   rintro j st ⟨q,i,c,rfl,hq,rfl,hy,rfl⟩;conv=>whnf
   cases hlt2:decide (((q:Nat):Int)<((cs.map conC).length:Int))
   ·have:q=cs.length:=by simp at hlt2;omega
    subst this;rw[cF]at hy;rw[hy]at hx;unfold lowC at hx;conv=>whnf
    refine⟨_,_,?_,wk [31,30,29,3,4] [3] [] [] [] [] rfl,m+1,_,_,rfl,hm2,eJ (x:=(m:Int)+1) (by omega) (by omega),hx,rfl⟩;omega
   ·have hq2:q<cs.length:=by simpa using hlt2
    rw[aj hq2]at hy;simp only[lowC]at hy;have hg:=oV (f:=conC) (ad hq2);have hfc:=hfa _ (bp hq2);generalize cs[q]=t4 at hy hg hfc;obtain⟨s4,a4,args4⟩:=t4;simp only at hfc hy;conv=>whnf
    refine⟨_,hg,?_⟩;conv=>whnf
    refine⟨_,_,xT hfc.1 hfc.2,?_⟩;cases ho:decide (0≤iV args4 0)
    ·rw[ho]at hy;conv=>whnf
     refine⟨_,_,?_,wk [38,37,36,31,30,29,3,4] [3] [] [] [] [] rfl,q+1,_,_,rfl,hq2,eJ (x:=(q:Int)+1) (by omega) (by omega),hy,rfl⟩;omega
    ·rw[ho]at hy;conv=>whnf
     refine⟨_,_,xq c a4,?_⟩;conv=>whnf
     refine⟨_,_,?_,wk [38,37,36,31,30,29,3,4] [3] [] [] [] [] rfl,q+1,_,_,rfl,hq2,eJ (x:=(q:Int)+1) (by omega) (by omega),hy,rfl⟩;omega
def LIM:Nat:=1099511627776
structure Nd where
 con:Bool
 name:ByteArray
 kids:List Int
 lv:Int
structure Sv where
 ns:List Nd
 rs:List Int
 lv:Int
def fidx{α:Type}[DecidableEq α](x:α):List α→Option Nat
 | []=>none
 |k::ks=>if x=k then some 0 else(fidx x ks).map (· +1)
def getA{α β:Type}[DecidableEq α](x:α):List (α×β)→Option β
 | []=>none
 |(k,v)::l=>if x=k then some v else getA x l
def putA{α β:Type}[DecidableEq α](x:α)(v:β):List (α×β)→List (α×β)
 | []=>[(x,v)]
 |(k,u)::l=>if x=k then(k,v)::l else(k,u)::putA x v l
def at?{α:Type}(l:List α)(i:Int):Option α:=if 0≤i then l[i.toNat]? else none
def Sv.add(s:Sv)(n:Nd):Option (Sv×Int):=if s.ns.length<LIM∧s.rs.length<LIM then some ({ s with ns:=s.ns++[n],rs:=s.rs++[(s.rs.length:Int)]},(s.rs.length:Int)) else none
def Sv.var(s:Sv):Option (Sv×Int):=s.add ⟨false,.empty,[],s.lv⟩
def Sv.con(s:Sv)(nm:ByteArray)(kids:List Int):Option (Sv×Int):=s.add ⟨true,nm,kids,0⟩
def Sv.vars:Nat→Sv→Option (Sv×List Int)
 |0,s=>some (s,[])
 |n+1,s=>match s.var with
  |some (s1,x)=>match Sv.vars n s1 with
   |some (s2,l)=>some (s2,x::l)
   |none=>none
  |none=>none
structure FineDs(l:List DataD):Prop where
 len:l.length≤4294967296
 cons:∀d∈l,d.cons.length≤4294967296∧d.vars.length≤4294967296
 args:∀d∈l,∀c∈d.cons,c.args.length≤4294967296∧fF c.args
mutual
def putR(vars:List Int):Ty→Sv→Option (Sv×Int)
 | .mk k n nm kids,s=>if k=1 then(at? vars n).map fun x=>(s,x) else match decide (kids.length≤LIM),oE vars kids s with
  |true,some (s1,ks)=>s1.con nm ks
  |_,_=>none
def oE(vars:List Int):List Ty→Sv→Option (Sv×List Int)
 | [],s=>some (s,[])
 |t::l,s=>match putR vars t s with
  |some (s1,x)=>match oE vars l s1 with
   |some (s2,xs)=>some (s2,x::xs)
   |none=>none
  |none=>none
end
def gt(rs:List Int)(x:Int):Option Int:=at? rs x
def jv(v:Int)(rs:List Int):Nat→List Nd→List Int→List Int→Option (List Nd×Bool)
 |0,_,_,_=>none
 |k+1,ns,had,st=>match st.getLast? with
  |none=>some (ns,true)
  |some x=>match decide (st.length≤LIM),gt rs x with
   |true,some y=>if y=v then some (ns,false) else match fidx y had with
    |some _=>jv v rs k ns had st.dropLast
    |none=>match at? ns y,at? ns v with
     |some n,some m=>match n.con with
      |true=>jv v rs k ns (had++[y]) (st.dropLast++n.kids)
      |false=>jv v rs k (ns.set y.toNat { n with lv:=if m.lv<n.lv then m.lv else n.lv}) (had++[y]) st.dropLast
     |_,_=>none
   |_,_=>none
def oneR:Nat→List Nd→List Int→List (Int×Int)→List (Int×Int)→Option (List Nd×List Int×List (Int×Int)×Bool)
 |0,_,_,_,_=>none
 |k+1,ns,rs,had,st=>match st.getLast? with
  |none=>some (ns,rs,had,true)
  |some (a,b)=>match decide (st.length≤LIM),gt rs a,gt rs b with
   |true,some x,some y=>if x=y then oneR k ns rs had st.dropLast else match fidx (min x y,max x y) had with
    |some _=>oneR k ns rs had st.dropLast
    |none=>match at? ns x,at? ns y with
     |some m,some n=>match m.con,n.con with
      |true,true=>if m.name=n.name∧m.kids.length=n.kids.length then oneR k ns rs (had++[(min x y,max x y)]) (st.dropLast++m.kids.zip n.kids) else some (ns,rs,had,false)
      |true,false=>match jv y rs k ns [] [x] with
       |some (ns1,true)=>oneR k ns1 (link rs y x) had st.dropLast
       |some (ns1,false)=>some (ns1,rs,had,false)
       |none=>none
      |false,_=>match jv x rs k ns [] [y] with
       |some (ns1,true)=>oneR k ns1 (link rs x y) had st.dropLast
       |some (ns1,false)=>some (ns1,rs,had,false)
       |none=>none
     |_,_=>none
   |_,_,_=>none
def oneS(k:Nat)(s:Sv)(x y:Int):Option (Sv×Bool):=match oneR k s.ns s.rs [] [(x,y)] with
 |some (ns,rs,had,true)=>some ({ s with ns:=ns,rs:=had.foldl jV rs},true)
 |some (ns,rs,_,false)=>some ({ s with ns:=ns,rs:=rs},false)
 |none=>none
def tZ(rs:List Int)(had:List (Int×(Int×Int))):List Int→Int×Int→Option ((Int×Int)×List Int)
 | [],m=>some (m,[])
 |c::l,(a,b)=>match gt rs c with
  |some c=>match getA c had with
   |some (u,w)=>match decide ((0≤a∧a≤401)∧(0≤u∧u≤401)∧0≤w∧w≤LIM),tZ rs had l (min (a+u) 401,max b (w+1)) with
    |true,some (m,st)=>some (m,st)
    |_,_=>none
   |none=>match decide (0≤a∧a≤401),tZ rs had l (min a 401,max b 1) with
    |true,some (m,st)=>some (m,c::st)
    |_,_=>none
  |none=>none
def sF(s:Sv):Nat→List Int→List (Int×(Int×Int))→Option (List (Int×(Int×Int)))
 |0,_,_=>none
 |k+1,st,had=>match st.getLast? with
  |none=>some had
  |some y=>match at? s.ns y with
   |some n=>match tZ s.rs had n.kids (1,1),decide (st.length+n.kids.length≤LIM) with
    |some (m,[]),true=>sF s k st.dropLast (putA y m had)
    |some (_,l),true=>sF s k (st++l) had
    |_,_=>none
   |none=>none
def aaL(k:Nat)(s:Sv)(x:Int):Option Bool:=match gt s.rs x with
 |some x=>match sF s k [x] [] with
  |some had=>match getA x had with
   |some (a,b)=>some (decide (a≤400)&&decide (b≤100))
   |none=>none
  |none=>none
 |none=>none
def GEN:Int:=1073741824
mutual
def genR:Nat→Sv→Int→Option Sv
 |0,_,_=>none
 |k+1,s,x=>match gt s.rs x with
  |some x=>match at? s.ns x with
   |some n=>match decide (n.kids.length≤LIM) with
    |true=>nL k (if n.con=false∧n.lv > s.lv then{ s with ns:=s.ns.set x.toNat { n with lv:=GEN}} else s) n.kids
    |false=>none
   |none=>none
  |none=>none
def nL:Nat→Sv→List Int→Option Sv
 |0,_,_=>none
 |_+1,s,[]=>some s
 |k+1,s,x::l=>match genR k s x with
  |some s1=>nL k s1 l
  |none=>none
end
mutual
def xu:Nat→Sv→Int→List (Int×Int)→Option (Sv×List (Int×Int)×Int)
 |0,_,_,_=>none
 |k+1,s,x,had=>match gt s.rs x with
  |some x=>match getA x had with
   |some y=>some (s,had,y)
   |none=>match at? s.ns x with
    |some n=>match n.con with
     |false=>if n.lv=GEN then match s.var with
      |some (s1,y)=>some (s1,putA x y had,y)
      |none=>none
      else some (s,putA x x had,x)
     |true=>match decide (n.kids.length≤LIM),qf k s n.kids had with
      |true,some (s1,had1,ks,other)=>match other with
       |true=>match s1.con n.name ks with
        |some (s2,y)=>some (s2,putA x y had1,y)
        |none=>none
       |false=>some (s1,putA x x had1,x)
      |_,_=>none
    |none=>none
  |none=>none
def qf:Nat→Sv→List Int→List (Int×Int)→Option (Sv×List (Int×Int)×List Int×Bool)
 |0,_,_,_=>none
 |_+1,s,[],had=>some (s,had,[],false)
 |k+1,s,c::l,had=>match xu k s c had with
  |some (s1,had1,z)=>match gt s1.rs c with
   |some r=>match qf k s1 l had1 with
    |some (s2,had2,zs,o)=>some (s2,had2,z::zs,o|| decide (z≠r))
    |none=>none
   |none=>none
  |none=>none
end
mutual
def qB:Nat→Sv→Int→List Int→Option (List Int×Ty)
 |0,_,_,_=>none
 |k+1,s,x,nums=>match gt s.rs x with
  |some x=>match at? s.ns x with
   |some n=>match n.con with
    |false=>match fidx x nums with
     |some i=>some (nums,.mk 1 (i:Int) .empty [])
     |none=>some (nums++[x],.mk 1 (nums.length:Int) .empty [])
    |true=>match decide (n.kids.length≤LIM),kD k s n.kids nums with
     |true,some (nums1,l)=>some (nums1,.mk 2 0 n.name l)
     |_,_=>none
   |none=>none
  |none=>none
def kD:Nat→Sv→List Int→List Int→Option (List Int×List Ty)
 |0,_,_,_=>none
 |_+1,_,[],nums=>some (nums,[])
 |k+1,s,c::l,nums=>match qB k s c nums with
  |some (nums1,t)=>match kD k s l nums1 with
   |some (nums2,ts)=>some (nums2,t::ts)
   |none=>none
  |none=>none
end
theorem i64w{x:Int}(h1: -9223372036854775808≤x)(h2:x≤9223372036854775807):IntKind.i64.wrap x=x:=by
 simp only[IntKind.wrap,IntKind.bits,IntKind.signed];simp only[iR];split
 ·rename_i h;simp only[ge_iff_le,bC]at h;omega
 ·rename_i h;simp only[ge_iff_le,bC]at h;omega
def iv(n:Int):AC:=.v (.int .i64 n)
def bv(b:Bool):AC:=.v (.bool b)
def sv(s:ByteArray):AC:=.v (.string s)
def ints(l:List Int):List (List AC):=l.map fun n=>[iv n]
theorem bh(l:List Int):(ints l).length=l.length:=by simp[ints]
theorem bD{l:List Int}{i:Nat}{x:Int}(h:l[i]?=some x):(ints l)[i]?=some [iv x]:=by simp[ints,h]
def keyI(l:List Int):List Value:=l.map fun n=>.int .i64 n
def keyS(s:ByteArray):Value:=.agg #[.string s]
def tt:MV:=(false,[.v (.bool true)])
structure Sch where
 n:Int
 t:Ty
def schC(s:Sch):List AC:=iv s.n::tyC s.t
def bdC(p:Int×Bool):List AC:=[iv p.1,bv p.2]
abbrev qR:=List (ByteArray×List (Int×Bool))
structure GR where
 env:List (ByteArray×Sch)
 ds:List DataD
 fine:FineDs ds
 nm:qR
 bad:Bool
def kz:Value:=.agg #[.string .empty]
def envK(l:List (ByteArray×Sch)):List Value:=l.map fun p=>keyS p.1
def envV(l:List (ByteArray×Sch)):List MV:=l.map fun p=>(true,schC p.2)
def nmK(l:qR):List Value:=l.map fun p=>keyS p.1
def nmV(l:qR):List (List (List AC)):=l.map fun p=>p.2.map bdC
def ndC(x:Nd):List AC:=[.v (.bool x.con),.v (.string x.name),.sl 3 1 (ints x.kids) none,iv x.lv]
def nds(l:List Nd):List (List AC):=l.map ndC
theorem lG(l:List Nd):(nds l).length=l.length:=by simp[nds]
theorem jA{l:List Nd}{i:Nat}{x:Nd}(h:l[i]?=some x):(nds l)[i]?=some (ndC x):=by simp[nds,h]
def sr(R:GR):List AC:=[.omap kz (envK R.env) (envV R.env),.sl 158 4 (R.ds.map bS) none,.omrow kz 204 2 (nmK R.nm) (nmV R.nm),.v (.bool R.bad)]
def solv(R:GR)(ns:List Nd)(to:List Int)(n:Int):AC:=.obox 198 (.own 263 4 (nds ns):: .own 3 1 (ints to)::iv n::sr R)
def gJ(R:GR)(ns:List Nd)(m:Nat)(p:List Int→Prop)(n:Int):AC:=.obox 198 (.own 263 4 (nds ns):: .uf m p::iv n::sr R)
def gobs(R:GR)(ns:List Nd)(to:Ob):List (Nat×AV):=[(OB+100096,.ob 100096 0 (.row 263 4 (nds ns))),(OB+100097,.ob 100097 0 to),(OB+100099,.ob 100099 0 (.map kz (envK R.env) (envV R.env))),(OB+100101,.ob 100101 0 (.mrow kz 204 2 (nmK R.nm) (nmV R.nm)))]
def gbox(R:GR)(a b:Nat)(n:Int):Nat×Box:=(1500,⟨0,198,[.rref 100096 0 a,.rref 100097 0 b,iv n,.mref 100099 0,.sl 158 4 (R.ds.map bS) none,.mref 100101 0,.v (.bool R.bad)]⟩)
def aS(n:Nat):Nat×Perm:=(n,⟨0,0,0,false⟩)
def fD:List (Nat×Perm):=[aS 100096,aS 100097,aS 100099,aS 100101]
theorem qU{R:GR}{ns:List Nd}{to:List Int}{n:Int}{m:Nat}{p:List Int→Prop}(hm:to.length=m)(hp:p to):LeC (solv R ns to n) (gJ R ns m p n):=by
 intro H w u b h;cases h with
 |pers _ _ h=>cases h
 |obox _ _ k us bss h1 h2 h3 h4 h5=>
  refine .obox 198 _ k us bss h1 h2 h3 h4 fun j c u bj a1 a2 a3=>?_
  match j with
  |0=>exact h5 0 c u bj a1 a2 a3
  |1=>
   simp only[cd,aZ,am]at a1;subst a1;have:=h5 1 _ u bj rfl a2 a3;cases this with
   |pers _ _ h=>cases h
   |own _ _ _ _ _ h=>exact .uf m p u bj ⟨to,hm,hp,h⟩
  |j+2=>exact h5 (j+2) c u bj a1 a2 a3
theorem qV{R:GR}{ns:List Nd}{n:Int}{m:Nat}{p:List Int→Prop}{H:Fz}{w:World}{u:Value}{b:List Nat}(h:TrR H w (gJ R ns m p n) u b):∃to:List Int,to.length=m∧p to∧TrR H w (solv R ns to n) u b:=by
 cases h with
 |pers _ _ h=>cases h
 |obox _ _ k us bss h1 h2 h3 h4 h5=>
  have hl:us.length=7:=h3;have hl2:bss.length=7:=h4;obtain⟨u1,hu⟩:∃u1,us[1]?=some u1:=⟨_,ad (l:=us) (i:=1) (by omega)⟩;obtain⟨b1,hb⟩:∃b1,bss[1]?=some b1:=⟨_,ad (l:=bss) (i:=1) (by omega)⟩;have:=h5 1 _ u1 b1 rfl hu hb;cases this with
  |pers _ _ h=>cases h
  |uf _ _ _ _ h=>
   obtain⟨to,e1,e2,e3⟩:=h;refine⟨to,e1,e2,.obox 198 _ k us bss h1 h2 h3 h4 fun j c u bj a1 a2 a3=>?_⟩
   match j with
   |0=>exact h5 0 c u bj a1 a2 a3
   |1=>
    simp only[cd,aZ,am]at a1;subst a1;rw[hu]at a2;rw[hb]at a3;cases a2;cases a3;exact .own 3 1 _ _ _ e3
   |j+2=>exact h5 (j+2) c u bj a1 a2 a3
theorem ajb{R R':GR}{f:Nat}{xs:List AV}{rs:List WRes}{ns ns':List Nd}{m m':Nat}{p p':List Int→Prop}{n n':Int}{ex:List AC}
 (h:∀to:List Int,to.length=m→p to→∃to':List Int,to'.length=m'∧p' to'∧Cw f (.one (solv R ns to n)::xs) rs (solv R' ns' to' n'::ex)):Cw f (.one (gJ R ns m p n)::xs) rs (gJ R' ns' m' p' n'::ex):=by
 intro H w us bss hfz hG ha hnd;cases us with
 |nil=>cases bss<;>exact ha.elim
 |cons u us=>
  cases bss with
  |nil=>exact ha.elim
  |cons b bss=>
   obtain⟨h1,h2⟩:=ha;obtain⟨to,e1,e2,e3⟩:=qV h1;obtain⟨to',f1,f2,f3⟩:=h to e1 e2;refine hU (f3 H w (u::us) (b::bss) hfz hG ⟨e3,h2⟩ hnd) fun e w' ⟨v,H',he,hp⟩=>⟨v,H',he,?_⟩;obtain⟨vs,bo,br,k1,k2⟩:=hp.res;refine{ hp with res:=⟨vs,bo,br,?_,k2⟩}
   have k1:fi H' w' (.one (solv R ns to n)::xs) (u::us) (solv R' ns' to' n'::ex) bo:=k1;have:=oH (cs':=solv R' ns' to' n'::ex) (cs:=gJ R' ns' m' p' n'::ex) ⟨qU f1 f2,LeL.refl _⟩ k1;cases bo with
   |nil=>exact this
   |cons b0 bo=>exact this
def sol(R:GR)(s:Sv):AC:=gJ R s.ns s.rs.length (Uf s.rs) s.lv
theorem agD{R R':GR}{f:Nat}{xs:List AV}{rs:List WRes}{s s':Sv}{ex:List AC}
 (h:∀to:List Int,Uf s.rs to→∃to':List Int,Uf s'.rs to'∧Cw f (.one (solv R s.ns to s.lv)::xs) rs (solv R' s'.ns to' s'.lv::ex)):Cw f (.one (sol R s)::xs) rs (sol R' s'::ex):=
 ajb fun to _ hu=>let⟨to',h1,h2⟩:=h to hu;⟨to',h1.1,h1,h2⟩
theorem ajc{R R':GR}{f:Nat}{xs:List AV}{rs:List WRes}{s s':Sv}{ex:List AC}
 (h:∀to:List Int,Uf s.rs to→Cw f (.one (solv R s.ns to s.lv)::xs) rs (sol R' s'::ex)):Cw f (.one (sol R s)::xs) rs (sol R' s'::ex):=by
 intro H w us bss hfz hG ha hnd;cases us with
 |nil=>cases bss<;>exact ha.elim
 |cons u us=>
  cases bss with
  |nil=>exact ha.elim
  |cons b bss=>
   obtain⟨h1,h2⟩:=ha;obtain⟨to,e1,e2,e3⟩:=qV h1;refine hU (h to e2 H w (u::us) (b::bss) hfz hG ⟨e3,h2⟩ hnd) fun e w' ⟨v,H',he,hp⟩=>⟨v,H',he,?_⟩;obtain⟨vs,bo,br,k1,k2⟩:=hp.res;refine{ hp with res:=⟨vs,bo,br,?_,k2⟩}
   have k1:fi H' w' (.one (solv R s.ns to s.lv)::xs) (u::us) (sol R' s'::ex) bo:=k1;cases bo with
   |nil=>exact k1
   |cons b0 bo=>exact k1
theorem abY{R:GR}{s:Sv}{to:List Int}(h:Uf s.rs to):LeC (solv R s.ns to s.lv) (sol R s):=qU h.1 h
theorem agP{f:Nat}{c c':AC}{xs:List AV}{rs:List WRes}{outs:List AC}(hc:LeC c c')(ho:ownC c=ownC c')(h:Cw f (.one c'::xs) rs outs):Cw f (.one c::xs) rs outs:=by
 intro H w us bss hfz hG ha hnd;cases us with
 |nil=>cases bss<;>exact ha.elim
 |cons u us=>
  cases bss with
  |nil=>exact ha.elim
  |cons b bss=>
   obtain⟨h1,h2⟩:=ha;refine hU (h H w (u::us) (b::bss) hfz hG ⟨hc H w u b h1,h2⟩ hnd) fun e w' ⟨v,H',he,hp⟩=>⟨v,H',he,?_⟩;obtain⟨vs,bo,br,k1,k2⟩:=hp.res;refine{ hp with res:=⟨vs,bo,br,?_,k2⟩};cases outs with
   |nil=>
    cases bo with
    |nil=>
     simp only[fi,eH]at k1 ⊢;rw[ho];exact k1
    |cons=>
     simp only[fi,eH]at k1 ⊢;rw[ho];exact k1
   |cons o os=>
    cases bo with
    |nil=>
     simp only[fi,eH]at k1 ⊢;rw[ho];exact k1
    |cons=>
     simp only[fi,eH]at k1 ⊢;rw[ho];exact k1
def wx:List AV→List AV→Prop
 | [],[]=>True
 |a::l,a'::l'=>(eH a=eH a'∧∀H w u b,ArgW H w a u b→ArgW H w a' u b)∧wx l l'
 |_,_=>False
theorem wx.refl:∀l,wx l l
 | []=>trivial
 |_::l=>⟨⟨rfl,fun _ _ _ _ h=>h⟩,wx.refl l⟩
theorem yi{H:Fz}{w:World}:∀{xs xs':List AV} {us:List Value} {bss:List (List Nat)},wx xs xs'→ky H w xs us bss→ky H w xs' us bss
 | [],[],_,_,_,h=>h
 |a::l,a'::l',[],_,_,h=>by cases h
 |a::l,a'::l',_::_,[],_,h=>by cases h
 |a::l,a'::l',u::us,b::bss,h,k=>⟨h.1.2 _ _ _ _ k.1,yi h.2 k.2⟩
 | [],_::_,_,_,h,_=>h.elim
 |_::_,[],_,_,h,_=>h.elim
theorem pW{H:Fz}{w:World}:∀{xs xs':List AV} {us:List Value} {cs:List AC} {bs:List (List Nat)},wx xs xs'→fi H w xs' us cs bs→fi H w xs us cs bs
 | [],[],_,_,_,_,h=>h
 |a::l,a'::l',[],_,_,_,h=>by cases h
 |a::l,a'::l',u::us,cs,bs,h,k=>by
  have k:(eH a'=false∧fi H w l' us cs bs)∨(eH a'=true∧∃c cs1 b bs1,cs=c::cs1∧bs=b::bs1∧TrR H w c u b∧fi H w l' us cs1 bs1):=by cases cs<;>cases bs<;>exact k
  have:(eH a=false∧fi H w l us cs bs)∨(eH a=true∧∃c cs1 b bs1,cs=c::cs1∧bs=b::bs1∧TrR H w c u b∧fi H w l us cs1 bs1):=by
   rw[h.1.1];rcases k with⟨k1,k2⟩|⟨k1,c,cs1,b,bs1,e1,e2,k3,k4⟩
   ·exact .inl ⟨k1,pW h.2 k2⟩
   ·exact .inr ⟨k1,c,cs1,b,bs1,e1,e2,k3,pW h.2 k4⟩
  cases cs<;>cases bs<;>exact this
 | [],_::_,_,_,_,h,_=>h.elim
 |_::_,[],_,_,_,h,_=>h.elim
theorem zH{f:Nat}{xs xs':List AV}{rs:List WRes}{outs:List AC}(hl:wx xs xs')(h:Cw f xs' rs outs):Cw f xs rs outs:=by
 intro H w us bss hfz hG ha hnd;refine hU (h H w us bss hfz hG (yi hl ha) hnd) fun e w' ⟨v,H',he,hp⟩=>⟨v,H',he,?_⟩;obtain⟨vs,bo,br,k1,k2⟩:=hp.res;exact{ hp with res:=⟨vs,bo,br,pW hl k1,k2⟩}
theorem adb{e sz:Nat}:eH (.one (.v (.slice none 0 0)))=eH (.one (.sl e sz [] none))∧∀H w u b,ArgW H w (.one (.v (.slice none 0 0))) u b→ArgW H w (.one (.sl e sz [] none)) u b:=by
 refine⟨rfl,fun H w u b h=>?_⟩;have h:TrR H w (.v (.slice none 0 0)) u b:=h;cases h with|pers _ _ hc=>
 obtain rfl:=(cN (.one _ _ hc)).1;exact .pers _ _ (.nil e sz none none 0 (ka.none _ _))
theorem wM{R:GR}{ns:List Nd}{n:Int}{m:Nat}{p q:List Int→Prop}(hpq:∀l,p l→q l):LeC (gJ R ns m p n) (gJ R ns m q n):=by
 intro H w u b h;obtain⟨to,h1,h2,h3⟩:=qV h;exact qU h1 (hpq to h2) H w u b h3
theorem agU{R:GR}{f:Nat}{xs:List AV}{rs:List WRes}{s:Sv}{outs:List AC}(h:(∃to,Uf s.rs to)→Cw f (.one (sol R s)::xs) rs outs):Cw f (.one (sol R s)::xs) rs outs:=by
 intro H w us bss hfz hG ha hnd;cases us with
 |nil=>cases bss<;>exact ha.elim
 |cons u us=>
  cases bss with
  |nil=>exact ha.elim
  |cons b bss=>
   obtain⟨to,e1,e2,e3⟩:=qV ha.1;exact h ⟨to,e2⟩ H w (u::us) (b::bss) hfz hG ha hnd
theorem ic(x:Int):∀l:List Int,bL (.int .i64 x) (keyI l)=fidx x l
 | []=>rfl
 |y::l=>by
  have ih:=ic x l;simp only[keyI,bE,bL,fidx]at ih ⊢;rw[ih];by_cases h:x=y
  ·simp[h,kEq,k1]
  ·simp[h,kEq,k1]
theorem iI(x:ByteArray):∀l:List ByteArray,bL (keyS x) (l.map keyS)=fidx x l
 | []=>rfl
 |y::l=>by
  have ih:=iI x l;simp only[bE,bL,fidx,keyS]at ih ⊢;rw[ih];by_cases h:x=y
  ·simp[h,kEq,kL,k1]
  ·simp[h,kEq,kL,k1]
theorem iq{α:Type}[DecidableEq α]{x:α}:∀{l:List α} {i:Nat},fidx x l=some i→i<l.length
 | [],_,h=>by cases h
 |y::l,i,h=>by
  unfold fidx at h;split at h
  ·cases h;simp
  ·rw[ar]at h;obtain⟨j,h1,rfl⟩:=h;have:=iq h1;simp;omega
theorem iG{α β:Type}[DecidableEq α]{x:α}:∀{l:List (α×β)},(∃i v,fidx x (l.map Prod.fst)=some i∧(l.map Prod.snd)[i]?=some v∧getA x l=some v)∨(fidx x (l.map Prod.fst)=none∧getA x l=none)
 | []=>.inr ⟨rfl,rfl⟩
 |(k,v)::l=>by
  unfold getA;simp only[bE,fidx];by_cases h:x=k
  ·exact .inl ⟨0,v,by simp[h],by simp,by simp[h]⟩
  ·rcases iG (x:=x) (l:=l) with⟨i,v,h1,h2,h3⟩|⟨h1,h2⟩
   ·exact .inl ⟨i+1,v,by simp[h,h1],by simpa using h2,by simp[h,h3]⟩
   ·exact .inr ⟨by simp[h,h1],by simp[h,h2]⟩
theorem iE{α β:Type}[DecidableEq α]{x:α}{u:β}:∀{l:List (α×β)},fidx x (l.map Prod.fst)=none→putA x u l=l++[(x,u)]
 | [],_=>rfl
 |(k,v)::l,h=>by
  simp only[bE,fidx]at h;split at h
  ·cases h
  ·rename_i hk;have h:fidx x (l.map Prod.fst)=none:=by simpa using h
   simp[putA,hk,iE h]
theorem iD{α β:Type}[DecidableEq α]{x:α}{u:β}:∀{l:List (α×β)} {i:Nat},fidx x (l.map Prod.fst)=some i→putA x u l=l.set i (x,u)
 | [],_,h=>by cases h
 |(k,v)::l,i,h=>by
  simp only[bE,fidx]at h;split at h
  ·rename_i hk;cases h;subst hk;simp[putA]
  ·rename_i hk;rw[ar]at h;obtain⟨j,h1,rfl⟩:=h;simp[putA,hk,iD h1]
theorem bY{α:Type}{l:List α}{i:Int}{x:α}(h:at? l i=some x):0≤i∧i.toNat<l.length∧l[i.toNat]?=some x:=by
 unfold at? at h;split at h
 ·rename_i h0;exact⟨h0,(aq.1 h).1,h⟩
 ·cases h
theorem aeS{rs to:List Int}{x r:Int}(hu:Uf rs to)(h:gt rs x=some r):∃k to',jP k to x=some (to',r)∧Uf rs to':=by
 obtain⟨h0,hl,he⟩:=bY h;obtain⟨k,to',e1,e2⟩:=hu.root h0 (by omega);rw[aC,he]at e1;exact⟨k,to',e1,e2⟩
theorem i64s(i:Nat)(h:(i:Int)+1<9223372036854775808):IntKind.i64.wrap ((i:Int)+1)=((i+1:Nat):Int):=by rw[i64w (by omega) (by omega)];omega
section
open Go.ChangeShapes Go.WideShapes Go.ChangeAt Go.RowKit
theorem ahT:(Tryz.prog.fieldsOf 154)[0]?=some ⟨ "kind",3,0,false,"","warp/parse",0⟩:=by rw[←cA,nt];rfl
theorem ahS:(Tryz.prog.fieldsOf 154)[1]?=some ⟨ "s",9,1,false,"","warp/parse",8⟩:=by rw[←cA,nt];rfl
theorem afb:(Tryz.prog.fieldsOf 154).size=2:=by rw[←bO,nt];rfl
theorem ael:Tryz.prog.cellsOf 154=2:=by kernel_rfl
theorem aia:Tryz.prog.cellsOf 9=1:=by kernel_rfl
theorem rT{W:World}{fuel:Nat}{cs:List Value}{k:Int}{p:List MemPlace}(h:DataW.trod (fun _=>()) Tryz.prog W 0 (fun _=>true) false fuel 154 cs=some (.agg [.lit (.int .i64 k),.lit (.string [])],p)):cs=[.int .i64 k,.string ⟨#[]⟩]:=by
 obtain⟨xs,n,-,hx,hl,hlx,hf⟩:=DataW.trod_struct abO h;rw[ael]at hl;rw[afb]at hlx;have e0:=hf 0 _ ahT;have e1:=hf 1 _ ahS;simp only[sW,aia]at e0 e1
 match cs,hl with
 | [a,b],_=>
 simp only[ai,DataW.agg.injEq]at hx
 match xs,hlx,hx with
 | [x,y],_,hx=>
 simp only[bE,fY,gU,and_true]at hx;obtain⟨⟨hx1,hx2⟩,-⟩:=hx;obtain⟨m,c1,c2,-⟩:=DataW.trod_int und3 (show _=some x from e0);obtain⟨s,d1,d2,-⟩:=DataW.trod_string und9 (show _=some y from e1)
 simp only[iw,gI,ke,gU,and_true,List.drop_succ_cons]at c1 d1;subst c1 d1 c2 d2;simp only[DataW.lit.injEq,Lit.int.injEq,true_and,Lit.string.injEq]at hx1 hx2;subst hx1;obtain⟨⟨l⟩⟩:=s;simp only at hx2;subst hx2;rfl
def HA(W:World):Fz:=fun b i=>W.cell? ⟨b,i,none⟩
theorem ajh(W:World):FzOk (HA W) W:=fun _ _ _ h=>h
theorem gl0:Tryz.prog.globalNamed "warp/parse.name" =some 0:=by kernel_rfl
theorem gl1:Tryz.prog.globalNamed "warp/parse.con" =some 1:=by kernel_rfl
theorem gl2:Tryz.prog.globalNamed "math/bits.deBruijn64tab" =some 2:=by kernel_rfl
theorem gt0:(Tryz.prog.globals[0]?).map (·.type)=some 154:=by kernel_rfl
theorem gt1:(Tryz.prog.globals[1]?).map (·.type)=some 154:=by kernel_rfl
theorem gt2:(Tryz.prog.globals[2]?).map (·.type)=some 267:=by kernel_rfl
theorem aha:Tryz.prog.underlying 267=some (.array 64 5):=by kernel_rfl
theorem und5:Tryz.prog.underlying 5=some (.int .u8):=by kernel_rfl
theorem sz5:Tryz.prog.cellsOf 5=1:=by kernel_rfl
theorem aek:Tryz.prog.cellsOf 267=64:=by kernel_rfl
def bruZ:List Int:=bruT.map fun| .v (.int _ n)=>n|_=>0
theorem afX:Rows.laid_math_bits_deBruijn64tab (H:=Unit)=Lib.tabData .u8 bruZ:=by kernel_rfl
theorem abF:bruT=bruZ.map fun n=>AC.v (.int .u8 n):=by kernel_rfl
abbrev ajd:List (String×DataW Unit):=[("math/bits.deBruijn32tab",Rows.laid_math_bits_deBruijn32tab),("math/bits.deBruijn64tab",Rows.laid_math_bits_deBruijn64tab),("internal/strconv.uint64pow10",Rows.laid_internal_strconv_uint64pow10),("warp/parse.name",Rows.laid_warp_parse_name),("warp/parse.con",Rows.laid_warp_parse_con)]
theorem afF{W:World}(h:laidMetH Tryz.prog ajd W):bK G (HA W):=by
 rw[Go.MakeChecks.laidMetH_plain _ _ _ (by kernel_rfl)]at h;obtain⟨ps,⟨_,_,_,_,_,_,_,_,_,_,⟨g2,t2,cs2,fuel2,p2,q2,hg2,ht2,hv2,hd2,⟨_,_,_,_,_,_,_,_,_,_,⟨g0,t0,cs0,fuel0,p0,q0,hg0,ht0,hv0,hd0,⟨g1,t1,cs1,fuel1,p1,q1,hg1,ht1,hv1,hd1,-⟩,-⟩,-⟩,-⟩,-⟩,-⟩:=h;obtain rfl:=cg (gl0.symm.trans hg0)
 obtain rfl:=cg (gt0.symm.trans ht0);obtain rfl:=cg (gl1.symm.trans hg1);obtain rfl:=cg (gt1.symm.trans ht1);obtain rfl:=cg (gl2.symm.trans hg2);obtain rfl:=cg (gt2.symm.trans ht2);have c0:=rT hd0;have c1:=rT hd1
 rw[afX]at hd2;have c2:=Lib.cells_of_tab aha und5 sz5 aek hd2;have r0:=World.var?_cell gl0 hv0;have r1:=World.var?_cell gl1 hv1;have r2:=World.var?_cell gl2 hv2;obtain⟨cs0⟩:=cs0;obtain⟨cs1⟩:=cs1;obtain⟨cs2⟩:=cs2;simp only at c0 c1 c2;subst c0 c1 c2;intro g cs hg;unfold G at hg;split at hg
 ·cases hg;refine .ref _ 0 0 0 [.int .i64 1,.string ⟨#[]⟩] rfl (fun j u hj=>?_) (fun j c u hc hu=>?_)
  ·simp only[HA,bA];rw[r0];simpa using hj
  ·match j,hc,hu with
   |0,hc,hu=>cases hc;cases hu;exact .v _ rfl
   |1,hc,hu=>cases hc;cases hu;exact .v _ rfl
 ·cases hg;refine .ref _ 0 1 0 [.int .i64 2,.string ⟨#[]⟩] rfl (fun j u hj=>?_) (fun j c u hc hu=>?_)
  ·simp only[HA,bA];rw[r1];simpa using hj
  ·match j,hc,hu with
   |0,hc,hu=>cases hc;cases hu;exact .v _ rfl
   |1,hc,hu=>cases hc;cases hu;exact .v _ rfl
 ·cases hg;rw[abF];refine .ref _ 0 2 0 (bruZ.map fun n=>.int .u8 n) (by rw[cG,cG]) (fun j u hj=>?_) (fun j c u hc hu=>?_)
  ·simp only[HA,bA];rw[r2];simpa using hj
  ·rw[aG,ar]at hc hu;obtain⟨n,hn,rfl⟩:=hc;obtain⟨m,hm,rfl⟩:=hu;obtain rfl:=cg (hn.symm.trans hm);exact .v _ rfl
 ·cases hg
section
variable{H H':Fz}{w w':World}{xs:List AV}{us:List Value}{rs:List WRes}{cs:List AC}{v:Value}
theorem afE(h:CPostW H w xs us [] rs cs v H' w'){i:Nat}(hi:i<w.heap.size):w'.heap[i]?=w.heap[i]? :=
 (h.keep i hi (by simp)).1
theorem aez(h:CPostW H w xs us [] rs cs v H' w'):Below w.heap.size w w':=
 ⟨h.os,h.tape,h.output,h.grown,fun k hk=>afE h hk⟩
theorem afZ{b:Bool}(h:CPostW H w xs us [] [.val (.one (.v (.bool b)))] cs v H' w'):v= .bool b:=by
 obtain⟨vs,bo,br,-,h1,rfl,-,-⟩:=h.res
 match vs,br,h1 with
 | [],[],h1| [],_::_,h1| [_],[],h1|_::_::_,[],h1=>exact h1.elim
 | [u],[_],h1=>exact(cN h1.1.1).1
 | [u],_::_::_,h1=>exact h1.2.elim
 |_::_::_,[_],h1|_::_::_,_::_::_,h1=>exact h1.2.elim
end
theorem own:ownKnob Tryz.prog.godebug=none:=by kernel_rfl
theorem agk{n:Int}(h:(Lit.int .u8 n).wf=true):0≤n∧n<256:=by
 have h1:IntKind.u8.min=0:=by kernel_rfl
 have h2:IntKind.u8.max=255:=by kernel_rfl
 simp only[Lit.wf]at h;simp at h;omega
def mz(cs:Array Value)(o:Obj):Obj:=match o with
 | .cells _ t frozen=>.cells cs t frozen
 |o=>o
def mK:DataW Unit→Array Value
 | .agg ds=>(ds.map fun| .lit (.int k n)=>.int k n|_=>.string ⟨#[]⟩).toArray
 |_=> #[]
noncomputable def laidWorld (os:Os):World:=
 {World.holding Tryz.prog os ⟨#[],#[],[]⟩ with heap:=((((((World.holding Tryz.prog os ⟨#[],#[],[]⟩).heap.modify 0 (mz (mK Rows.laid_warp_parse_name))).modify 1 (mz (mK Rows.laid_warp_parse_con))).modify 2 (mz (mK Rows.laid_math_bits_deBruijn64tab))).modify 4 (mz (mK Rows.laid_internal_strconv_uint64pow10))).modify 5 (mz (mK Rows.laid_math_bits_deBruijn32tab)))}
theorem afA:laidOutB Tryz.prog=true:=by kernel_rfl
theorem agj:Tryz.prog.underlying 24=some (.slice 3):=by kernel_rfl
theorem uc(ns:List Int):(ints ns).flatten=ns.map fun n=>iv n:=by
 induction ns with
 |nil=>rfl
 |cons b t ih=>
  show [iv b]++(ints t).flatten=_;rw[ih];rfl
theorem afC{W:World}{A:Option Addr}{L C:Nat}{Z:List Int}(hLC:L≤C)(hZ:Z.length=C)(hA:A=none→C=0)
 (hc:∀a',A=some a'→∀c,c<C→W.cell? (a'.add c)=some (.int .i64 (Z.getD c 0))):
 ACr Con.no (HA W) (.sl 3 1 (ints (Z.take L)) none) (.slice A L C):=by
 by_cases h0:L=0
 ·subst h0;exact .nil _ _ _ _ _ (ka.none _ _)
 ·cases A with
  |none=>have:=hA rfl;omega
  |some a=>
   obtain⟨b,off,rfl,hcell⟩:=ints_at (zs:=Z) (fun i hi=>hc a rfl i (by omega)) (by omega);have hlen:(Z.take L).length=L:=by simp only[dx];omega
   have:=ACr.sl (κ:=Con.no) (H:=HA W) 3 1 (ints (Z.take L)) none b off C ((Z.take L).map (.int .i64 ·))
    (by rw[bh,hlen];exact hLC) (by
     intro x hx;obtain⟨b,-,rfl⟩:=bZ.1 hx;rfl) (by rw[uc];simp only[cG]) ?_ ?_ (ka.none _ _)
   ·rw[bh,hlen]at this;exact this
   ·intro k u hk;rw[aG,ar]at hk;obtain⟨n,hn,rfl⟩:=hk;rw[bM]at hn;split at hn
    ·show W.cell? ⟨b,off+k,none⟩=_;have hkl:k<Z.length:=(aq.1 hn).1;rw[hcell k hkl,List.getD,hn];rfl
    ·cases hn
   ·intro k c u hc' hu;rw[uc,aG,ar]at hc';rw[aG,ar]at hu;obtain⟨n,hn,rfl⟩:=hc';obtain⟨m,hm,rfl⟩:=hu;obtain rfl:=cg (hn.symm.trans hm);exact .v _ rfl
section
variable{H:Type}{enc:TypeId×Value→H}{W:World}
theorem adv{base:Nat}{v:Value}{d:DataW H}{p:List MemPlace}(hv:Value.okWide Tryz.prog W .any base 24 v)(h:DataW.Trod enc Tryz.prog W 0 (fun _=>true) true 24 v d p):∃ns:List Int,ACr Con.no (HA W) (.sl 3 1 (ints ns) none) v:=by
 obtain⟨a0,len0,cap0,rfl⟩:=okWide_slice agj hv;obtain⟨fuel,hf⟩:=h;rcases open_ints agj und3 sW hf with⟨hcs,_⟩|⟨x,l,c,zs,hcs,_,hl,hm,hz,_,hcell,hwz⟩
 ·simp[Value.cells]at hcs;obtain⟨rfl,rfl,rfl⟩:=hcs;exact⟨[],.nil _ _ _ _ _ (ka.none _ _)⟩
 ·simp[Value.cells]at hcs;obtain⟨rfl,rfl,rfl⟩:=hcs;have hz:zs.length=cap0:=by simpa using hz
  exact⟨_,afC hl hz (fun h=>by cases h) fun a' e c hc=>by cases e;exact hcell c (by omega)⟩
theorem aja{t:TypeId}{v:Value}{d:DataW H}{p:List MemPlace}(h:DataW.Trod enc Tryz.prog W 0 (fun _=>true) true t v d p):∀x∈p,x.block<W.heap.size:=by
 obtain⟨m,hm⟩:=h;exact DataW.trod_lt m _ _ _ hm
end
end
section
variable{P:Program}{T:Tab}{J:Kn}{M:Md}{G:Nat→Option (List AC)}{X:Ctx}{κ:Con}{H:Fz}{s:St}{a:Act}{w:World}{ft:Nat→List Nat}
theorem xI(E:Env P T J)(EK:EnvK P T)(hX:bK G X.H0)(hM:X.A≤M.A){ops:Array Oper}(hd:∀o∈ops.toList,ib X.N X.A X.np o=true){Q:Exit→Act→World→Prop}{K:St→Prop}:∀(os:List Oper) (i:Nat),(∃tl,ops.toList.drop i=os++tl)→∀(s:St) (κ:Con) (H:Fz) (a:Act) (w:World),WRel X κ H s a w→evWS P T J M G ops os s K→
 (∀s κ H a w,WRel X κ H s a w→K s→Q .normal a w)→wpOps P ops Q (List.range' i os.length) a w
 | [],i,hos,s,κ,H,a,w,h,he,hQ=>by
  simp only[evWS]at he;simp only[bJ,iL,wpOps];exact hQ s κ H a w h he
 |o::os,i,⟨tl,hos⟩,⟨ts,bs,ps⟩,κ,H,a,w,h,he,hQ=>by
  have hi:ops[i]?=some o:=by
   have:ops.toList[i]?=some o:=by rw[←jm,hos];rfl
   simpa using this
  have hmem:o∈ops.toList:=bi (by simpa using hi);simp only[evWS]at he;obtain⟨ws,ls,h1,-,h3⟩:=cK he;rw[writesK_eq]at h1;have hr:=h3 ⟨ts,bs,ps⟩ ⟨fun _ _=>rfl,fun _ _=>rfl,fun _ _=>rfl⟩;rw[aT,gG,lr]
  refine nw E EK (hX.mono h.rel.h0) h hM hi (hd o hmem) hr fun κ' H' a' w' hrel=>?_;refine xI E EK hX hM hd os (i+1) ⟨tl,?_⟩ _ κ' H' a' w' hrel h1 hQ;rw[←dD,hos];rfl
theorem nU(E:Env P T J)(EK:EnvK P T)(hX:bK G X.H0)(hM:X.A≤M.A){r:Option Nat}{n id:Nat}{ops:Array Oper}(hok:ops.toList.all (ib X.N X.A X.np)=true)(hnd:im ops=true){K:St→Prop}{Q:Exit→Act→World→Prop}
 (h:WRel X κ H s a w) (he:evWS P T J M G ops ops.toList s K) (hQ:∀s κ H a w,WRel X κ H s a w→K s→Q .normal a w):(Code.region id ops false).wpIn (FR r) n P Q a w:=by
 refine wpIn_region ?_;rw[oD];have:=gw (r:=r) (n:=n) (P:=P) (nf hnd) [] (N:=fun a w=>∃s κ H,WRel X κ H s a w∧K s) (Q:=Q) (js:=[]) (fun a w ⟨s,κ,H,h1,h2⟩=>by
  have:=hQ s κ H a w h1 h2;rw[aX];exact this) (List.range' 0 ops.size) a w ?_
 ·rw[aX,aX]at this;exact this
 ·have:=xI E EK hX hM (fun o ho=>cO.1 hok o ho) (Q:=fun e a w=>e= .normal∧∃s κ H,WRel X κ H s a w∧K s) ops.toList 0 ⟨[],by simp⟩ s κ H a w h he (fun s κ H a w h1 h2=>⟨rfl,s,κ,H,h1,h2⟩);simpa using this
def gX:Obj→Bool
 | .loop _=>true
 | .deferred _=>true
 |_=>false
def kl(s:St):Prop:=∀x g b c,find (OB+x) s.tmps≠some (.ob x g (.bld b c))
theorem RowO.noMark{u:Value}{e sz:Nat}{xs:List (List AC)}{bs:List Nat}(h:RowO H w u e sz xs bs):∀k∈bs,∀o,w.heap[k]?=some o→gX o=false:=by
 obtain⟨-,⟨-,-,rfl⟩|⟨b,cap,cur,-,h2,-,-,-,-,-,rfl⟩⟩:=h
 ·intro k hk;cases hk
 ·intro k hk o ho;obtain rfl:=ax.1 hk;rw[h2]at ho;cases ho;rfl
theorem ej.noMark{L:Option (Nat×Value)}{j:Nat}{u:Value}{b:List Nat}{R:Prop}(h:ej L j u b R)(hR:R→∀k∈b,∀o,w.heap[k]?=some o→gX o=false):∀k∈b,∀o,w.heap[k]?=some o→gX o=false:=by
 unfold ej at h;split at h
 ·split at h
  ·rw[h.2];intro k hk;cases hk
  ·exact hR h
 ·exact hR h
theorem nO.noMark{u:Value}{e2 sz2 e:Nat}{yss:List (List (List AC))}{L:Option (Nat×Value)}{bs:List Nat}(h:nO H w u e2 sz2 e yss L bs):∀k∈bs,∀o,w.heap[k]?=some o→gX o=false:=by
 rcases h with⟨-,-,rfl⟩|⟨b,cap,cur,bss,-,h2,hl,-,hc,-,hbl,hh,rfl⟩
 ·intro k hk;cases hk
 ·intro k hk o ho;rcases aV.1 hk with rfl|hk
  ·rw[h2]at ho;cases ho;rfl
  ·obtain⟨bj,hbj,hk⟩:=dM.1 hk;obtain⟨j,hj⟩:=bT.1 hbj;have hlt:j<bss.length:=(aq.1 hj).1;have e2:=ad (l:=yss) (i:=j) (by omega);have e1:=aE (xs:=cur) (i:=j) (by omega)
   exact ej.noMark (hh j _ _ bj e1 e2 hj) (fun r=>RowO.noMark r) k hk o ho
theorem nP.noMark{u z:Value}{e sz:Nat}{ks:List Value}{yss:List (List (List AC))}{L:Option (Nat×Value)}{bs:List Nat}(h:nP H w u z e sz ks yss L bs):∀k∈bs,∀o,w.heap[k]?=some o→gX o=false:=by
 obtain⟨r,es,bss,-,-,h2,h3,h4,h5,h6,rfl⟩:=h;intro k hk o ho;rcases aV.1 hk with rfl|hk
 ·rw[h2]at ho;cases ho;rfl
 ·obtain⟨bj,hbj,hk⟩:=dM.1 hk;obtain⟨j,hj⟩:=bT.1 hbj;have hlt:j<bss.length:=(aq.1 hj).1;have q1:=aE (xs:=es) (i:=j) (by omega);have q2:=ad (l:=ks) (i:=j) (by omega)
  have q3:=ad (l:=yss) (i:=j) (by omega);exact ej.noMark (h6 j _ _ _ bj q1 q2 q3 hj).2.2 (fun r=>RowO.noMark r) k hk o ho
theorem ObOk.noMark{u:Value}{c:Ob}{bs:List Nat}(h:ObOk κ H w u c bs)(hb:∀b x,c≠ .bld b x):∀k∈bs,∀o,w.heap[k]?=some o→gX o=false:=by
 cases c with
 |row=>exact RowO.noMark h
 |rows=>exact nO.noMark h
 |rowsL=>exact nO.noMark h.1
 |map z ks vs=>
  obtain⟨r,es,-,rfl,-,h2,-⟩:=h;intro k hk o ho;obtain rfl:=ax.1 hk;rw[h2]at ho;cases ho;rfl
 |mrow=>exact nP.noMark h
 |mrowL=>exact nP.noMark h.1
 |iter md mg n seen=>
  obtain⟨-,r,m,-,rfl,h3,-⟩:=h;intro k hk o ho;obtain rfl:=ax.1 hk;rw[h3]at ho;cases ho;rfl
 |gone=>
  have h:bs=[]:=h;subst h;intro k hk;cases hk
 |uf n p=>obtain⟨l,-,-,h⟩:=h;exact RowO.noMark h
 |bld b x=>exact absurd rfl (hb b x)
theorem WRel.trim(h:WRel X κ H s a w)(hb:kl s):∃ft,WRf X κ H s a w ft∧∀x,∀k∈ft x,∀o,w.heap[k]?=some o→gX o=false:=by
 classical
 obtain⟨ft,hf⟩:=h.f
 let ft':Nat→List Nat:=fun x=>if ∃g c,find (OB+x) s.tmps=some (.ob x g c)∧κ.nr x=g+1 then ft x else []
 have hsub:∀x,∀k∈ft' x,k∈ft x∧∃g c,find (OB+x) s.tmps=some (.ob x g c)∧κ.nr x=g+1:=by
  intro x k hk;simp only[ft']at hk;split at hk
  ·rename_i he;exact⟨hk,he⟩
  ·cases hk
 refine⟨ft',⟨hf.rel,{ lt:=hf.obs.lt,ok:=fun d g c e hn=>?_,nodup:=fun d=>?_,blk:=fun d k hk=>hf.obs.blk d k (hsub d k hk).1,apart:=fun d d' hne k hk hk'=>hf.obs.apart d d' hne k (hsub d k hk).1 (hsub d' k hk').1},hf.n⟩,?_⟩
 ·have:ft' d=ft d:=by simp only[ft'];rw[if_pos ⟨g,c,e,hn⟩]
  rw[this];exact hf.obs.ok d g c e hn
 ·simp only[ft'];split
  ·exact hf.obs.nodup d
  ·simp
 ·intro x k hk o ho;obtain⟨hk,g,c,e,hn⟩:=hsub x k hk;exact(hf.obs.ok x g c e hn).noMark (fun b y hc=>hb x g b y (hc▸e)) k hk o ho
theorem afH(h:FzOk H w){r:Nat}{o:Obj}(hr:w.heap[r]?=some o)(ho:gX o=true)(i:Nat):H r i=none:=by
 cases hv:H r i with
 |none=>rfl
 |some v=>
  have:=h r i v hv;unfold World.cell? at this;simp only[hr]at this;cases o<;>simp_all[gX]
theorem WRf.markFree(h:WRf X κ H s a w ft)(hft:∀x,∀k∈ft x,∀o,w.heap[k]?=some o→gX o=false){r:Nat}{o:Obj}(hr:w.heap[r]?=some o)(ho:gX o=true)(hp:¬X.Pr r):Free X κ H s w ft r where
 lt:=(ay.1 hr).1
 fz:=afH h.rel.fz hr ho
 pr:=hp
 box:=fun d b e hq=>by
  obtain⟨-,-,us,hc,-⟩:=h.rel.box d b e;rw[hq,hr]at hc;cases hc;cases ho
 tail:=fun d p e hl hq=>by
  rcases(h.rel.perm d p e).2 hl with q|⟨b',n,cap,cur,q1,q2,-⟩
  ·rw[q]at hq;simp[Value.ownBlock]at hq
  ·rw[q1]at hq;simp only[Value.ownBlock,am]at hq;rw[hq,hr]at q2;cases q2;cases ho
 ob:=fun x hx=>by
  have:=hft x r hx o hr;rw[ho]at this;cases this
theorem WRel.putMark(h:WRel X κ H s a w)(hb:kl s){r:Nat}{o:Obj}(o':Obj)(hr:w.heap[r]?=some o)(ho:gX o=true)(ho':gX o'=true)(hp:¬X.Pr r):WRel X κ H s a (w.putObj r o'):=by
 obtain⟨ft,hf,hft⟩:=h.trim hb;have hfree:=hf.markFree hft hr ho hp;have hst:Step H w r H (w.putObj r o'):={ le:=Fz.le_refl H,fz:=fun k i v hv=>(by
  have hk:k≠r:=fun e=>by subst e;rw[hfree.fz]at hv;cases hv
  have:=h.rel.fz k i v hv;unfold World.cell? at this ⊢;simp only at this ⊢;rw[World.putObj_heap_other hk];exact this),heap:=fun k _ hk=>World.putObj_heap_other hk,kept:=fun _ _=>rfl,grown:=by simp,os:=rfl,tape:=rfl,output:=rfl}
 exact(hf.step hst (.inl hfree)).wrel
theorem WRel.allocMark(h:WRel X κ H s a w)(o:Obj):WRel X κ H s a (w.alloc o):=by
 obtain⟨ft,hf⟩:=h.f;exact(hf.step (fq h.rel.fz o w ⟨rfl,rfl,rfl,rfl⟩) (.inr (au _))).wrel
theorem WRel.later{H':Fz}{w':World}(h:WRel X κ H s a w)(k:Later H w H' w'):WRel X κ H' s a w':=by
 obtain⟨ft,hf⟩:=h.f;exact(hf.after (B:=[]) (bs:=[]) (by simp) (by simp) (by simp) k.le k.fz (fun b hb _=>⟨k.blk b hb,k.eq b hb⟩) k.grown k.os k.tape k.output (by simp)).1.wrel
def Ctx.reW(X:Ctx)(κ:Con)(H:Fz)(s:St)(w:World)(ft:Nat→List Nat)(A:Nat):Ctx where
 W0:=w
 H0:=H
 Pr:=fun b=>b<w.heap.size∧(∀d bx,find d s.boxes=some bx→κ.blk d bx.gen≠b)∧(∀d p,find d s.perms=some p→p.live=true→(κ.row d p.gen).ownBlock≠some b)∧∀x,b∉ft x
 N:=X.N
 A:=A
 ab:=fun d=>match find d s.boxes with
  |some b=>κ.blk d b.gen
  |none=>0
 ds:=X.ds
 np:=X.np
 pv:=X.pv
 lt:=fun _ h=>h.1
theorem WRf.re(h:WRf X κ H s a w ft)(A:Nat):WRf (X.reW κ H s w ft A) κ H s a w ft where
 rel:={ h.rel with
  hk:=fun _ _=>rfl
  h0:=Fz.le_refl H
  args:=fun d b _ hb=>by simp[Ctx.reW,hb]
  pb:=fun d b hb hp=>hp.2.1 d b hb rfl
  pr:=fun d p k hp hl hk hh=>hh.2.2.1 d p hp hl hk
  keep:=fun _ _=>rfl
  grown:=au _
  os:=rfl
  tape:=rfl
  output:=rfl}
 obs:={ h.obs with blk:=fun d k hk=>(h.obs.blk d k hk).imp id fun q=>q.imp id fun q=>⟨fun hp=>hp.2.2.2 d hk,q.2⟩}
 n:=h.n
theorem WRf.back{A:Nat}{κ':Con}{H':Fz}{s':St}{a':Act}{w':World}(h:WRf X κ H s a w ft)(h':WRel (X.reW κ H s w ft A) κ' H' s' a' w')(hb:∀d,(d<X.A∨2048≤d)→find d s'.boxes=none):WRel X κ' H' s' a' w':=by
 have hpr:∀b,X.Pr b→(X.reW κ H s w ft A).Pr b:=fun b hp=>⟨bd (X.lt b hp) h.rel.grown,fun d bx hd e=>h.rel.pb d bx hd (e▸hp),fun d p hd hl e=>h.rel.pr d p b hd hl e hp,fun x hx=>(h.obs.blk x b hx).2.2.1 hp⟩;obtain⟨ft',hf'⟩:=h'.f;refine⟨{ hf'.rel with
  hk:=fun b hp=>(hf'.rel.hk b (hpr b hp)).trans (h.rel.hk b hp)
  h0:=Fz.le_trans h.rel.h0 hf'.rel.h0
  args:=fun d b hd hb'=>by rw[hb d hd]at hb';cases hb'
  pb:=fun d b hb' hp=>hf'.rel.pb d b hb' (hpr _ hp)
  pr:=fun d p k hd hl hk hp=>hf'.rel.pr d p k hd hl hk (hpr _ hp)
  keep:=fun b hp=>(hf'.rel.keep b (hpr b hp)).trans (h.rel.keep b hp)
  grown:=dR h.rel.grown hf'.rel.grown
  os:=hf'.rel.os.trans h.rel.os
  tape:=hf'.rel.tape.trans h.rel.tape
  output:=hf'.rel.output.trans h.rel.output},⟨ft',{ hf'.obs with blk:=fun d k hk=>(hf'.obs.blk d k hk).imp id fun q=>q.imp id fun q=>⟨fun hp=>q.1 (hpr k hp),q.2⟩}⟩,hf'.n⟩
theorem WRf.other{A:Nat}{κ':Con}{H':Fz}{s':St}{a':Act}{w':World}(h:WRf X κ H s a w ft)(hft:∀x,∀k∈ft x,∀o,w.heap[k]?=some o→gX o=false)(h':WRel (X.reW κ H s w ft A) κ' H' s' a' w'){b:Nat}{o:Obj}(ho:w.heap[b]?=some o)(hn:gX o=true):w'.heap[b]?=some o:=by
 rw[←ho];refine h'.rel.keep b ⟨(ay.1 ho).1,fun d bx hd e=>?_,fun d p hd hl e=>?_,fun x hx=>?_⟩
 ·obtain⟨-,-,us,hc,-⟩:=h.rel.box d bx hd;rw[e,ho]at hc;cases hc;cases hn
 ·rcases(h.rel.perm d p hd).2 hl with q|⟨b',n,cap,cur,q1,q2,-⟩
  ·rw[q]at e;simp[Value.ownBlock]at e
  ·rw[q1]at e;simp only[Value.ownBlock,am]at e;rw[e,ho]at q2;cases q2;cases hn
 ·have:=hft x b hx o ho;rw[hn]at this;cases this
end
section
variable{M:Md}
theorem qk{jx kx:Nat}{ops:Array Oper}{K K':St→Prop}(hK:∀s,K s→K' s):∀{os:List Oper} {n:Nat} {s:St} {acc:List (List Loc×List Loc)} {sv:Option (St×Oper×List Wr)} {l2:List Loc},evWX Tryz.prog T J M G jx kx ops os n s acc sv l2 K→evWX Tryz.prog T J M G jx kx ops os n s acc sv l2 K'
 | [],n,s,acc,sv,l2,h=>⟨h.1,hK s h.2⟩
 |o::os,n,⟨ts,bs,ps⟩,acc,sv,l2,h=>by
  refine cL Tryz.prog G (r:=evWO T J M G ops o) (fun ws ls h=>?_) h;revert h;cases Nat.beq n kx with
  |true=>
   cases sv with
   |none=>exact fun h=>h.elim
   |some x=>
    obtain⟨⟨tj,bj,pj⟩,oj,wj⟩:=x;intro h;simp only[writesK_eq]at h ⊢;refine cL Tryz.prog G (fun wj2 lj2 h=>⟨h.1,?_⟩) h;exact qk hK h.2
  |false=>
   intro h;simp only[writesK_eq]at h ⊢;exact qk hK h
theorem aby:∀(c:Code) {s:St} {K K':Ex→St→Prop},(∀e s,K e s→K' e s)→evCW Tryz.prog T J M G c s K→evCW Tryz.prog T J M G c s K':=by
 intro c
 induction c with
 |skip=>intro s K K' hK h;exact hK _ _ h
 |region id ops draw=>
  intro s K K' hK h;unfold evCW at h ⊢;cases draw with
  |true=>
   revert h;simp only;cases memN id M.hand with
   |true=>exact fun h=>qk (hK .normal) h
   |false=>
    cases memN id M.any with
    |true=>
     intro h;obtain⟨S,h1,h2⟩:=h;exact⟨S,h1,fun s0 h=>hK _ _ (h2 s0 h)⟩
    |false=>exact fun h=>qm (hK .normal) h
  |false=>
   revert h;simp only;generalize ops.toList=l;cases l with
   |nil=>exact fun h=>hK _ _ h
   |cons o os=>
    simp only;cases pZ o with
    |none=>exact fun h=>jH (hK .normal) h
    |some p=>
     obtain⟨x,t⟩:=p;intro h;refine cL Tryz.prog G (fun v ls h=>?_) h;obtain⟨d,g,md,mg,n,seen⟩:=v;exact⟨fun hh=>jH (hK .normal) (h.1 hh),fun i a b=>jH (hK .normal) (h.2 i a b)⟩
 |seq a b iha ihb=>
  intro s K K' hK h;unfold evCW at h ⊢;refine iha (fun e s h=>?_) h;cases e with
  |normal=>exact ihb hK h
  |exit i=>exact hK _ _ h
  |ret=>exact hK _ _ h
 |cond c a b iha ihb=>
  intro s K K' hK h;unfold evCW at h ⊢;refine cL Tryz.prog G (r:=opd G c) (fun v ls h=>?_) h;split at h
  ·rename_i t;cases t with
   |true=>exact iha hK h
   |false=>exact ihb hK h
  ·exact⟨iha hK h.1,ihb hK h.2⟩
  ·exact h.elim
 |block id b ih=>
  intro s K K' hK h;unfold evCW at h ⊢;refine ih (fun e s h=>?_) h;cases e with
  |normal=>exact hK _ _ h
  |ret=>exact hK _ _ h
  |exit j=>
   revert h;simp only;cases Nat.beq j id with
   |true=>exact hK _ _
   |false=>exact hK _ _
 |loop b ih=>
  intro s K K' hK h;unfold evCW at h ⊢;obtain⟨I,h1,h2⟩:=h;refine⟨I,h1,fun n s hi=>ih (fun e s h=>?_) (h2 n s hi)⟩;cases e with
  |normal=>exact h
  |exit i=>exact hK _ _ h
  |ret=>exact hK _ _ h
 |exit i=>intro s K K' hK h;exact hK _ _ h
 |ret=>intro s K K' hK h;exact hK _ _ h
 |_=>intro s K K' hK h;exact h.elim
theorem pI{b:Code}{s:St}{K:Ex→St→Prop}(I:Nat→St→Prop)(Post:Ex→St→Prop)(h0:∃n s0,WkW s s0∧I n s0)(hb:∀n s,I n s→evCW Tryz.prog T J M G b s fun
 | .normal,s=>∃m s0,m<n∧WkW s s0∧I m s0
 |e,s=>Post e s) (hP:∀e s,Post e s→K e s):evCW Tryz.prog T J M G (.loop b) s K:=
 ⟨I,h0,fun n s hi=>aby b (fun e s h=>by
  cases e with
  |normal=>exact h
  |exit i=>exact hP _ _ h
  |ret=>exact hP _ _ h) (hb n s hi)⟩
end
section
variable{P:Program}{T:Tab}{J:Kn}{M:Md}{G:Nat→Option (List AC)}
theorem agh(E:Env P T J){f:Nat}{fn:Func}{c:Code}{as0:List AV}{rs:List WRes}{cs:List AC}{s0:St}(hf:P.funcs[f]?=some fn)(hb:fn.body=some c)(hn:(Nat.ble as0.length fn.ntmps&&Nat.ble fn.ntmps 1500)=true)
 (hs0:runP P G ⟨[],[],[]⟩ (qw 0 as0) [] fun(vs,ws) _=>(⟨[],[],[]⟩:St).writes (ws++tmpW 0 vs)=s0)
 {K:List WRes→List AC→Prop} (hK:∀rs' cs',K rs' cs'→LeRs rs' rs∧LeL cs' cs)
 (he:∀(X:Ctx) (κ:Con) (H:Fz) (a:Act) (w:World),bK G X.H0→X.N=fn.ntmps→X.A=0→X.ds=[]→X.np=jQ 0 as0→WRel X κ H s0 a w→
  c.wpIn Fence.wide 0 P (fun e a' w'=>(e= .normal∨e= .ret)∧∃D s κ' H',a'.defers=[{ target:=.collected D,args:= #[]}]∧X.W0.heap.size≤D∧w'.heap[D]?=some (.deferred (some []))∧kl s∧
   WRel X κ' H' s { a' with defers:=[]} w'∧resV P T M G fn.results.toList s fun vs s=>runP P G s (finE M vs as0) [] fun(rs',cs') _=>K rs' cs') a w):CTW P G f as0 rs cs:=by
 intro H w us bss hfz hG hargs hnd;simp only[aw]at hn;have hn1:=bB hn.1;have hn2:=bB hn.2;have hul:=qu hargs;refine(callsIn_wide (n:=0)).1 (callsIn_of_wp_marks hf hb trivial ?_)
 let X:Ctx:={ W0:=w,H0:=H,Pr:=fun b=>b<w.heap.size∧b∉bss.flatten,N:=fn.ntmps,A:=0,ab:=fun _=>0,lt:=fun _ h=>h.1,np:=jQ 0 as0,pv:=fun i=>us.getD i undef}
 have hget:∀(j:Nat) (u:Value),us[j]?=some u→(us.toArray++Array.replicate (fn.ntmps-us.toArray.size) undef).getD j undef=u:=by
  intro j u hj;have hlt:=(aq.1 hj).1;rw[aB,dr (by simpa using hlt)];simp[hj]
 generalize ha0:({ tmps:=us.toArray++Array.replicate (fn.ntmps-us.toArray.size) undef,defers:=[]}:Act)=a0;have hrel:Rel X Con.no H ⟨[],[],[]⟩ a0 w:=by
  subst ha0
  refine{ size:=by simp[X];omega,tmps:=by simp[find],defers:=rfl,fz:=hfz,hk:=fun _ _=>rfl,h0:=Fz.le_refl H,box:=by simp[find],nobox:=fun _ _=>rfl,args:=by simp[find],perm:=by simp[find],noperm:=fun _ _=>rfl,bb:=by simp[find],rr:=by simp[find],br:=by simp[find],pb:=by simp[find],pr:=by simp[find],keep:=fun _ _=>rfl,grown:=au _,os:=rfl,tape:=rfl,output:=rfl}
 have hpv:∀i,i∈jQ 0 as0→a0.tmps.getD i undef=us.getD i undef:=by
  intro i hi;obtain⟨-,hi⟩:=oG as0 0 i hi;have hj:=ad (l:=us) (i:=i) (by omega);subst ha0;rw[hget i _ hj,aC,hj];rfl
 have hw:WRf X Con.no H ⟨[],[],[]⟩ a0 w (fun _=>[]):=⟨hrel,{ lt:=by simp[find],ok:=by simp[find],nodup:=by simp,blk:=by simp,apart:=by simp},by simp only[X];omega,hpv⟩;obtain⟨⟨vs,ws⟩,ls,hs0,hr⟩:=pO hs0;simp only at hs0
 obtain⟨κ1,f1,k1,k2,k3,k4⟩:=tf hrel rfl hw hr (fun _ _ _ _ _=>rfl) (fun _ _ _ _ _=>rfl) hargs hnd (fun k hk=>⟨py hargs k hk,fun hp=>hp.2 hk,by simp[find],by simp[find],by simp⟩);have k5:=nT (vs:=vs) (i:=0) k1.wrel (by omega) (fun j v hj=>by
  have hlt:=(aq.1 hj).1;have hu:=ad (l:=us) (i:=j) (by omega);have:=k4 j v _ hj hu;subst ha0;rw[bA,hget j _ hu];exact this)
 rw[←bQ,hs0]at k5;refine wpIn_mono (he X κ1 H a0 w hG rfl rfl rfl rfl k5) fun e a' w0 hq=>?_;obtain⟨he0,D,s,κ',H',hd,hDw,hD,hnb,h0,hk⟩:=hq;have h:WRel X κ' H' s { a' with defers:=[]} (w0.putObj D (.deferred none)):=h0.putMark hnb _ hD rfl rfl fun hp=>by
  have:=X.lt D hp;omega
 have fin:∃v,(results fn a'.tmps).run P (w0.putObj D (.deferred none))= .ok v (w0.putObj D (.deferred none))∧∃v' H',Ending.returned v= .returned v'∧CPostW H w as0 us bss.flatten rs cs v' H' (w0.putObj D (.deferred none)):=by
  generalize w0.putObj D (.deferred none)=w' at h;obtain⟨vs,ur,s2,H2,m1,m2,m3,m4,m5,m6,m7⟩:=yH E h hk;obtain⟨⟨rs',cs'⟩,ls,hk2,hr2⟩:=pO m1;obtain⟨hlr,hle⟩:=hK _ _ hk2;obtain⟨ft2,hf2⟩:=m2.f;obtain⟨bo,br,z1,z2,z3,z4⟩:=adP hf2 m4 m6 hul (fun j v u hj0 ho hj=>by
   have:=h.n.2 j (by simp only[X];have:=pU as0 0 j v hj0 ho;rwa [bA]at this);rw[this];simp only[X];rw[aC,hj];rfl) hr2
  refine⟨ff ur,fO m5 (fun j v u h1 h2=>by have:=m7 j v u h1 h2;cases v<;>exact this),ff ur,H2,rfl,?_⟩;exact{
   le:=m2.rel.h0,fz:=m2.rel.fz,keep:=fun b hb1 hb2=>⟨m2.rel.keep b ⟨hb1,hb2⟩,m2.rel.hk b ⟨hb1,hb2⟩⟩,grown:=m2.rel.grown,os:=m2.rel.os,tape:=m2.rel.tape,output:=m2.rel.output
   res:=⟨ur,bo,br,oH hle z1,vd hlr z2,rfl,z3,fun k hk=>by
    have:=z4 k hk;by_cases hm:k∈bss.flatten
    ·exact .inl hm
    ·right;rcases eA k w.heap.size with hlt|hge
     ·exact absurd ⟨hlt,hm⟩ this
     ·exact hge⟩}
 have hl:LeavesInM Fence.wide 0 P fn a'.tmps (fun e w'=>∃v H',e= .returned v∧CPostW H w as0 us bss.flatten rs cs v H' w') a'.defers .returning w0:=by
  rw[hd];exact⟨by simp,.inl ⟨D,_,rfl,run_takeDeferred hD,fin⟩⟩
 rcases he0 with rfl|rfl
 ·exact hl
 ·exact hl
end
theorem aab{R:GR}{k:Nat}{ns:List Nd}{to to':List Int}{x r n:Int}(h:jP k to x=some (to',r)):Cw 138 [.one (solv R ns to n),.one (iv x)] [.val (.one (iv r))] [solv R ns to' n]:=by
 refine cw {} Tryz.func138 (by kernel_rfl) ?_;conv=>whnf
 refine⟨fun j st=>∃to1 x1,jP j to1 x1=some (to',r)∧st=⟨(1,.one (iv x1))::(0,.one (.ptr 1500 0 0))::gobs R ns (.row 3 1 (ints to1)),[gbox R (nds ns).length (ints to1).length n],fD⟩,
  ⟨k,_,ww [1,0] [1500] [100096,100097,100099,100101] [] rfl,to,x,h,rfl⟩,?_⟩
 rintro j st ⟨to1,x1,h1,rfl⟩;cases j with
 |zero=>cases h1
 |succ j=>
 unfold jP at h1;split at h1
 ·rename_i b hb;have hlt:x1.toNat<to1.length:=(aq.1 hb).1;have hib:(ints to1)[x1.toNat]?=some [iv b]:=by simp[ints,hb]
  have hx0:0≤x1:=by
   by_cases h0:0≤x1
   ·exact h0
   ·simp[h0]at h1
  conv=>whnf
  refine⟨⟨hx0,by simp[ints];omega⟩,?_⟩;conv=>whnf
  refine⟨[iv b],⟨ae _,hib⟩,?_⟩;conv=>whnf
  by_cases hbx:b=x1
  ·have hd:decide (b=x1)=true:=ag hbx;simp only[hx0,hbx,fh,ne_eq,not_true_eq_false,eQ,Bool.and_false,am,ai]at h1;obtain⟨rfl,rfl⟩:=h1;rw[hd];conv=>whnf
   exact⟨rfl,rfl⟩
  ·have hd:decide (b=x1)=false:=af hbx;simp only[hx0,hbx,fh,ne_eq,not_false_eq_true,gQ]at h1;split at h1
   ·rename_i c hc;split at h1
    ·rename_i hb0;have hb0:0≤b:=aJ hb0;have hclt:b.toNat<to1.length:=(aq.1 hc).1;have hic:(ints to1)[b.toNat]?=some [iv c]:=by simp[ints,hc]
     have hln:(ints to1).length=to1.length:=by simp[ints]
     rw[hd];conv=>whnf
     refine⟨⟨hx0,by omega⟩,?_⟩;conv=>whnf
     refine⟨[iv b],⟨ae _,hib⟩,?_⟩;conv=>whnf
     refine⟨⟨hb0,by omega⟩,?_⟩;conv=>whnf
     refine⟨[iv c],⟨ae _,hic⟩,?_⟩;conv=>whnf
     refine⟨⟨hx0,by omega⟩,?_⟩;conv=>whnf
     refine⟨[iv b],⟨ae _,hib⟩,?_⟩;conv=>whnf
     refine⟨aN (by kernel_rfl),?_⟩;conv=>whnf
     have e1:(ints to1).set x1.toNat [iv c]=ints (to1.set x1.toNat c):=by simp[ints,bX]
     have e2:(ints (to1.set x1.toNat c)).length=(ints to1).length:=by simp[ints]
     refine⟨⟨hx0,by omega⟩,?_⟩;conv=>whnf
     refine⟨[iv c],⟨ae _,?_⟩,?_⟩
     ·show((ints to1).set x1.toNat [iv c])[x1.toNat]?=some [iv c];simp[bf,hln,hlt]
     conv=>whnf
     refine⟨j,_,ah j,ww [1,0] [1500] [100096,100097,100099,100101] [] rfl,to1.set x1.toNat c,c,h1,?_⟩;rw[e2,←e1];rfl
    ·cases h1
   ·cases h1
 ·cases h1
theorem rM{R:GR}{s:Sv}{x r:Int}(h:gt s.rs x=some r):Cw 138 [.one (sol R s),.one (iv x)] [.val (.one (iv r))] [sol R s]:=by
 unfold gt at? at h;split at h
 ·rename_i h0;have hl:x.toNat<s.rs.length:=(aq.1 h).1;refine agD fun to hu=>?_;obtain⟨k,to',e1,e2⟩:=hu.root h0 (by omega);rw[aC,h]at e1;exact⟨to',e2,aab e1⟩
 ·cases h
theorem ail{R:GR}{ns:List Nd}{to:List Int}{n:Int}{d:Nd}(h1:ns.length<LIM)(h2:to.length<LIM):Cw 180 [.one (solv R ns to n),.agg (ndC d)] [.val (.one (iv to.length))] [solv R (ns++[d]) (to++[(to.length:Int)]) n]:=by
 unfold LIM at h1 h2;have hnl:=lG ns;have hln:=bh to;refine cw {} Tryz.func180 (by kernel_rfl) ?_;conv=>whnf
 refine⟨by show(nds ns).length+1≤lim 56;simp[lim];omega,?_⟩;conv=>whnf
 refine⟨aN (by kernel_rfl),?_⟩;conv=>whnf
 refine⟨by show(ints to).length+1≤lim 8;simp[lim];omega,?_⟩;conv=>whnf
 refine⟨aN (by kernel_rfl),?_⟩;conv=>whnf
 have hw:IntKind.i64.wrap (((ints to).length+ [[iv (ints to).length]].length:Nat)-1)=(to.length:Int):=by
  rw[hln];simp only[aT,bJ];rw[i64w (by omega) (by omega)];omega
 have hi:ints to++[[iv (ints to).length]]=ints (to++[(to.length:Int)]):=by simp[ints]
 have hd:nds ns++[ndC d]=nds (ns++[d]):=by simp[nds]
 refine⟨?_,?_⟩
 ·show [WRes.val (.one (iv (IntKind.i64.wrap (((ints to).length+ [[iv (ints to).length]].length:Nat)-1))))]=_;rw[hw]
 ·show [AC.obox 198 (.own 263 4 (nds ns++[ndC d]):: .own 3 1 (ints to++[[iv (ints to).length]])::iv n::sr R)]=_;rw[hi,hd];rfl
theorem agQ{R:GR}{s s':Sv}{d:Nd}{x:Int}(h:s.add d=some (s',x)):Cw 180 [.one (sol R s),.agg (ndC d)] [.val (.one (iv x))] [sol R s']:=by
 unfold Sv.add at h;split at h
 ·rename_i hl;cases h;refine agD fun to hu=>⟨_,hu.add,?_⟩;have:=ail (R:=R) (to:=to) (n:=s.lv) (d:=d) hl.1 (by rw[hu.1];exact hl.2);rw[hu.1]at this ⊢;exact this
 ·cases h
theorem nS{R:GR}{s s':Sv}{x:Int}(h:s.var=some (s',x)):Cw 129 [.one (sol R s)] [.val (.one (iv x))] [sol R s']:=by
 refine cw {} Tryz.func129 (by kernel_rfl) ?_;conv=>whnf
 refine⟨_,_,agQ (d:=⟨false,.empty,[],s.lv⟩) h,?_⟩;conv=>whnf
 exact⟨rfl,rfl⟩
theorem aee{R:GR}{s s':Sv}{nm:ByteArray}{kids:List Int}{x:Int}(h:s.con nm kids=some (s',x)):Cw 133 [.one (sol R s),.one (.v (.string nm)),.one (.sl 3 1 (ints kids) none)] [.val (.one (iv x))] [sol R s']:=by
 refine cw {} Tryz.func133 (by kernel_rfl) ?_;conv=>whnf
 refine⟨_,_,agQ (d:=⟨true,nm,kids,0⟩) h,?_⟩;conv=>whnf
 exact⟨rfl,rfl⟩
end
end Go.Proofs.YtgkenhpfiempbaaGreatDoor.V
