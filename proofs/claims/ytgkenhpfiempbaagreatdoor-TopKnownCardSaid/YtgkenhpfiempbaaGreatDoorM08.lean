/-
  Part M08: A26, B29, P1, P2, A27, A28, A29, U1, U2, U3, U4, UK, UK2, UL. Conditions stand in the theorems.
-/
import Derived.Test.YtgkenhpfiempbaaGreatDoorM07
import Derived.RangeFuncKeeps
import Derived.RangeFuncLeaves
set_option linter.all false
set_option maxRecDepth 1000000
set_option maxHeartbeats 8000000
namespace Go.Proofs.YtgkenhpfiempbaaGreatDoor.V
open Go Go.Proofs
noncomputable section
def orM(acc:List Nat):List Nat→Nat
 | []=>0
 |i::es=>(2 ^ i||| acc.getD i 0)||| orM acc es
def rC:List Oper→List Nat→Option (List Nat)
 | [],acc=>some acc
 |o::os,acc=>
  let es:=(o.after.toList.filter fun e=>Region.binds .any e).map (·.on)
  match es.all fun i=>Nat.blt i acc.length with
  |true=>rC os (acc++[orM acc es])
  |false=>none
def aeJ(ms:List Nat)(rw:List (List Loc×List Loc)):Bool:=
 (List.range rw.length).all fun j=>(List.range j).all fun i=>
  (ms.getD j 0).testBit i||
  (!tX (rw.getD i ([],[])).2 (rw.getD j ([],[])).1&& !tX (rw.getD i ([],[])).2 (rw.getD j ([],[])).2&& !tX (rw.getD i ([],[])).1 (rw.getD j ([],[])).2)
def aeI(ops:Array Oper)(rw:List (List Loc×List Loc)):Bool:=
 match rC ops.toList [] with
 |some ms=>aeJ ms rw
 |none=>false
def yp(a:List (List Nat))(m:List Nat):Prop:=a.length=m.length∧∀j i,(m.getD j 0).testBit i=(a.getD j []).contains i
theorem aai{a:List (List Nat)}{m:List Nat}(h:yp a m)(i:Nat):∀es:List Nat,(orM m es).testBit i=(es++es.flatMap fun i=>a.getD i []).contains i
 | []=>by simp[orM]
 |e::es=>by
  simp only[orM,kc,fy,aai h i es,h.2 e i];rw[dH];simp only[fe,bC,go,aM,aV,de];constructor
  ·rintro((h|h)|(h|h))
   ·exact .inl (.inl h.symm)
   ·exact .inr (.inl h)
   ·exact .inl (.inr h)
   ·exact .inr (.inr h)
  ·rintro((h|h)|(h|h))
   ·exact .inl (.inl h.symm)
   ·exact .inr (.inl h)
   ·exact .inl (.inr h)
   ·exact .inr (.inr h)
theorem yp.snoc{a:List (List Nat)}{m:List Nat}(h:yp a m)(es:List Nat):yp (a++[es++es.flatMap fun i=>a.getD i []]) (m++[orM m es]):=by
 refine⟨by simp[h.1],fun j i=>?_⟩;have hb:=aai h i es;simp only[aC]at hb ⊢;rcases db j m.length with hj|hj|hj
 ·rw[bH hj,bH (by rw[h.1];exact hj)];have:=h.2 j i;simpa only[aC]using this
 ·subst hj;rw[cE,←h.1,cE];exact hb
 ·rw[bI (by simp;omega),bI (by simp;have:=h.1;omega)];simp
theorem rB:∀(os:List Oper) {a:List (List Nat)} {m m':List Nat},yp a m→rC os m=some m'→∃a',mf os a=some a'∧yp a' m'
 | [],a,m,m',h,e=>by
  simp only[rC,am]at e;subst e;exact⟨a,rfl,h⟩
 |o::os,a,m,m',h,e=>by
  simp only[rC]at e;simp only[mf];rw[h.1];split at e
  ·rename_i h1;rw[h1];exact rB os (h.snoc _) e
  ·cases e
theorem aN{ops:Array Oper}{rw_:List (List Loc×List Loc)}(h:aeI ops rw_=true):ja ops rw_=true:=by
 unfold aeI at h;unfold ja;split at h
 ·rename_i ms h1;obtain⟨a',h2,h3⟩:=rB ops.toList (a:=[]) (m:=[]) ⟨rfl,fun j i=>by simp⟩ h1;rw[h2];unfold aeJ at h;unfold apart;simp only[h3.2]at h;exact h
 ·cases h
def aam(fn:Func)(xs:List AV):Bool:=match fn.body with
 |some c=>gC fn.ntmps 0 (jQ 0 xs) c&&(Nat.ble xs.length fn.ntmps&&Nat.ble fn.ntmps 1500)
 |none=>false
abbrev Cw(f:Nat)(xs:List AV)(rs:List WRes)(cs:List AC):Prop:=CTW Tryz.prog G f xs rs cs
theorem cw(M:Md){f:Nat}{fn:Func}{xs:List AV}{rs:List WRes}{cs:List AC}(hf:Tryz.prog.funcs[f]?=some fn)(hok:aam fn xs=true)
 (he:evFW Tryz.prog T J M G fn.results.toList (fu fn) xs fun rs' cs'=>rs'=rs∧cs'=cs):Cw f xs rs cs:=by
 unfold aam at hok;unfold fu at he;cases hb:fn.body with
 |none=>rw[hb]at hok;cases hok
 |some c=>
  rw[hb]at hok he;simp only[aw]at hok;exact ain E EK hf hb hok.1 (by simp only[aw];exact hok.2) he
theorem cwLe(M:Md){f:Nat}{fn:Func}{xs:List AV}{rs:List WRes}{cs:List AC}{K:List WRes→List AC→Prop}(hf:Tryz.prog.funcs[f]?=some fn)(hok:aam fn xs=true)(hK:∀rs' cs',K rs' cs'→LeRs rs' rs∧LeL cs' cs)
 (he:evFW Tryz.prog T J M G fn.results.toList (fu fn) xs K):Cw f xs rs cs:=by
 unfold aam at hok;unfold fu at he;cases hb:fn.body with
 |none=>rw[hb]at hok;cases hok
 |some c=>
  rw[hb]at hok he;simp only[aw]at hok;exact aeP E EK hf hb hok.1 (by simp only[aw];exact hok.2) hK he
theorem eqLe{rs:List WRes}{cs:List AC}:∀rs' cs',rs'=rs∧LeL cs' cs→LeRs rs' rs∧LeL cs' cs:=fun _ _ h=>⟨h.1▸LeRs.refl _,h.2⟩
theorem ww(tl bl ol:List Nat)(l:List Adj){s s0:St}(h:wkFW Tryz.prog G tl bl ol l s fun s=>s=s0):WkW s s0:=wkW tl bl ol l h
section
variable{M:Md}
theorem jH{ops:Array Oper}{K K':St→Prop}(hK:∀s,K s→K' s):∀{os:List Oper} {s:St},evWS Tryz.prog T J M G ops os s K→evWS Tryz.prog T J M G ops os s K'
 | [],s,h=>hK s h
 |o::os,⟨ts,bs,ps⟩,h=>by
  refine cL Tryz.prog G (r:=evWO T J M G ops o) (fun ws ls h=>?_) h;rw[writesK_eq]at h ⊢;exact jH hK h
theorem qm{ops:Array Oper}{K K':St→Prop}(hK:∀s,K s→K' s):∀{os:List Oper} {s:St} {acc:List (List Loc×List Loc)},evWD Tryz.prog T J M G ops os s acc K→evWD Tryz.prog T J M G ops os s acc K'
 | [],s,acc,h=>⟨h.1,hK s h.2⟩
 |o::os,⟨ts,bs,ps⟩,acc,h=>by
  refine cL Tryz.prog G (r:=evWO T J M G ops o) (fun ws ls h=>?_) h;rw[writesK_eq]at h ⊢;exact qm hK h
theorem wcut{s:St}{r:Rd (List Wr)}{ls:List Loc}{ops:Array Oper}{os:List Oper}{ts:List (Nat×AV)}{bs:List (Nat×Box)}{ps:List (Nat×Perm)}{K:St→Prop}(s1:St)
 (h:runP Tryz.prog G s r ls fun ws _=>writesK (fun s=>evWS Tryz.prog T J M G ops os s fun st=>st=s1) ws ts bs ps) (h2:K s1):
 runP Tryz.prog G s r ls fun ws _=>writesK (fun s=>evWS Tryz.prog T J M G ops os s K) ws ts bs ps:=
 cL Tryz.prog G (fun ws ls h=>by
  rw[writesK_eq]at h ⊢;exact jH (fun s hs=>by rw[hs];exact h2) h) h
theorem aiq{s:St}{r:Rd (List Wr)}{ls:List Loc}{ops:Array Oper}{os:List Oper}{ts:List (Nat×AV)}{bs:List (Nat×Box)}{ps:List (Nat×Perm)}{acc:List (List Loc×List Loc)}{K:St→Prop}(s1:St)
 (h:runP Tryz.prog G s r ls fun ws ls=>writesK (fun s=>evWD Tryz.prog T J M G ops os s (acc++[(ls,ws.map Wr.loc)]) fun st=>st=s1) ws ts bs ps) (h2:K s1):
 runP Tryz.prog G s r ls fun ws ls=>writesK (fun s=>evWD Tryz.prog T J M G ops os s (acc++[(ls,ws.map Wr.loc)]) K) ws ts bs ps:=
 cL Tryz.prog G (fun ws ls h=>by
  rw[writesK_eq]at h ⊢;exact qm (fun s hs=>by rw[hs];exact h2) h) h
theorem ma{a b:Code}{s:St}{K:Ex→St→Prop}(h:evCW Tryz.prog T J M G a s fun
 | .normal,s=>evCW Tryz.prog T J M G b s K
 |e,s=>K e s):evCW Tryz.prog T J M G (.seq a b) s K:=h
def acY:List Oper→Bool
 |o::_=>(pZ o).isNone
 | []=>true
theorem me{id:Nat}{ops:Array Oper}{s:St}{K:Ex→St→Prop}(s1:St)(hh:memN id M.hand=false)(hn:acY ops.toList=true)
 (h:evWS Tryz.prog T J M G ops ops.toList s fun st=>st=s1) (h2:K .normal s1):evCW Tryz.prog T J M G (.region id ops false) s K:=by
 have h3:=jH (K':=K .normal) (fun st (hs:st=s1)=>by rw[hs];exact h2) h;unfold evCW;rw[hh];simp only;revert hn h3;generalize ops.toList=l;intro hn h3;cases l with
 |nil=>exact h3
 |cons o os=>
  have:pZ o=none:=by simpa [acY]using hn
  simp only[this];exact h3
theorem agT{s:St}{K:Ex→St→Prop}(h:K .normal s):evCW Tryz.prog T J M G .skip s K:=h
theorem agW{c:Operand}{a b:Code}{s:St}{K:Ex→St→Prop}(t:Bool)(h:runP Tryz.prog G s (opd G c) [] fun v _=>v= .one (.v (.bool t)))(h2:iteP t (evCW Tryz.prog T J M G a s K) (evCW Tryz.prog T J M G b s K)):evCW Tryz.prog T J M G (.cond c a b) s K:=
 cL _ _ (r:=opd G c) (fun v ls h=>by rw[h];exact h2) h
theorem agV{c:Operand}{a b:Code}{s:St}{K:Ex→St→Prop}(h:runP Tryz.prog G s (opd G c) [] fun v _=>v= .one (.v (.bool false)))(h2:evCW Tryz.prog T J M G b s K):evCW Tryz.prog T J M G (.cond c a b) s K:=agW false h h2
theorem di{ops:Array Oper}{o:Oper}{os:List Oper}{ts:List (Nat×AV)}{bs:List (Nat×Box)}{ps:List (Nat×Perm)}{K:St→Prop}(s1:St)
 (h:runP Tryz.prog G ⟨ts,bs,ps⟩ (evWO T J M G ops o) [] fun ws _=>writesK (fun st=>st=s1) ws ts bs ps) (h2:evWS Tryz.prog T J M G ops os s1 K):
 evWS Tryz.prog T J M G ops (o::os) ⟨ts,bs,ps⟩ K:=
 cL _ _ (r:=evWO T J M G ops o) (fun ws ls h=>by
  rw[writesK_eq]at h ⊢;rw[h];exact h2) h
theorem nG{ops:Array Oper}{s:St}{K:St→Prop}(h:K s):evWS Tryz.prog T J M G ops [] s K:=h
end
def jP:Nat→List Int→Int→Option (List Int×Int)
 |0,_,_=>none
 |k+1,to,a=>match to[a.toNat]? with
  |some b=>match decide (0≤a)&&decide (b≠a) with
   |false=>match decide (0≤a) with
    |true=>some (to,a)
    |false=>none
   |true=>match to[b.toNat]? with
    |some c=>match decide (0≤b) with
     |true=>jP k (to.set a.toNat c) c
     |false=>none
    |none=>none
  |none=>none
inductive Rt(to:List Int):Int→Int→Nat→Prop
 |here (i:Int) (h:0≤i) (e:to[i.toNat]?=some i):Rt to i i 0
 |step (i j r:Int) (n:Nat) (h:0≤i) (e:to[i.toNat]?=some j) (hne:j≠i) (t:Rt to j r n):Rt to i r (n+1)
theorem Rt.det{to:List Int}{i r r':Int}{n n':Nat}(h:Rt to i r n):Rt to i r' n'→r=r'∧n=n':=by
 induction h generalizing r' n' with
 |here i h e=>
  intro k;cases k with
  |here=>exact⟨rfl,rfl⟩
  |step _ j _ _ _ e2 hne t=>rw[e]at e2;cases e2;exact absurd rfl hne
 |step i j r n h e hne t ih=>
  intro k;cases k with
  |here _ _ e2=>rw[e]at e2;cases e2;exact absurd rfl hne
  |step _ j2 _ n2 _ e2 hne2 t2=>
   rw[e]at e2;cases e2;obtain⟨a,b⟩:=ih t2;exact⟨a,by rw[b]⟩
theorem Rt.nn{to:List Int}{i r:Int}{n:Nat}(h:Rt to i r n):0≤i:=by cases h<;>assumption
theorem Rt.root{to:List Int}{i r:Int}{n:Nat}(h:Rt to i r n):0≤r∧to[r.toNat]?=some r:=by
 induction h with
 |here i h e=>exact⟨h,e⟩
 |step=>assumption
theorem toNat_inj{a b:Int}(ha:0≤a)(hb:0≤b)(h:a.toNat=b.toNat):a=b:=by omega
theorem Rt.short{to:List Int}{a b c r:Int}{n:Nat}(ha:to[a.toNat]?=some b)(h0:0≤a)(hne:b≠a)(hb:to[b.toNat]?=some c)(h:Rt to a r n):
 ∀m i r',Rt to i r' m→∃m',m'≤m∧Rt (to.set a.toNat c) i r' m':=by
 intro m
 induction m using Nat.strongRecOn with
 |ind m ih=>
 intro i r' hi;cases h with
 |here _ _ e=>rw[ha]at e;cases e;exact absurd rfl hne
 |step _ b2 _ n1 _ e2 _ tb=>
 rw[ha]at e2;cases e2;have hal:a.toNat<to.length:=(aq.1 ha).1;by_cases hia:i=a
 ·subst hia;have hr:Rt to i r (n1+1):=.step i b r n1 h0 ha hne tb;obtain⟨rfl,rfl⟩:=hr.det hi;have set_a:(to.set i.toNat c)[i.toNat]?=some c:=by simp[hal]
  cases tb with
  |here _ _ e=>
   rw[hb]at e;cases e;refine⟨1,by omega,.step i b b 0 h0 set_a hne (.here b (by assumption) ?_)⟩;rw[bf];split
   ·rename_i he;exact absurd (toNat_inj (by assumption) h0 he.symm) hne
   ·exact hb
  |step _ c2 _ n2 hb0 e2 hne2 tc=>
   rw[hb]at e2;cases e2;have hca:c≠i:=by
    rintro rfl;have:=tc.det (.step c b r (n2+1) h0 ha hne (.step b c r n2 hb0 hb hne2 tc));omega
   obtain⟨m',hm',k⟩:=ih n2 (by omega) c r tc;exact⟨m'+1,by omega,.step i c r m' h0 set_a hca k⟩
 ·have keep:0≤i→(to.set a.toNat c)[i.toNat]?=to[i.toNat]? :=fun hi0=>by
   rw[bf];split
   ·rename_i he;exact absurd (toNat_inj hi0 h0 he.symm) hia
   ·rfl
  cases hi with
  |here _ h e=>exact⟨0,au _,.here i h (by rw[keep h];exact e)⟩
  |step _ j _ k h e hne3 t=>
   obtain⟨m',hm',k'⟩:=ih k (by omega) j r' t;exact⟨m'+1,by omega,.step i j r' m' h (by rw[keep h];exact e) hne3 k'⟩
theorem acm:∀{n:Nat} {to:List Int} {i r:Int},Rt to i r n→∃to',jP (n+1) to i=some (to',r)∧to'.length=to.length∧∀j r' m,Rt to j r' m→∃m',m'≤m∧Rt to' j r' m':=by
 intro n
 induction n using Nat.strongRecOn with
 |ind n ih=>
 intro to i r h;cases h with
 |here _ h e=>
  refine⟨to,?_,rfl,fun j r' m h=>⟨m,au _,h⟩⟩;simp[jP,e,h]
 |step _ j _ n1 h e hne t=>
  obtain⟨c,hc,hj0⟩:∃c,to[j.toNat]?=some c∧0≤j:=by
   cases t with
   |here _ h e=>exact⟨_,e,h⟩
   |step _ c _ _ h e=>exact⟨c,e,h⟩
  have hall:=Rt.short e h hne hc (.step i j r n1 h e hne t);obtain⟨c2,n2,hc2,hn2⟩:∃c2 n2,Rt to c r n2∧n2≤n1:=by
   cases t with
   |here _ h e=>rw[hc]at e;cases e;exact⟨r,0,.here _ h hc,au _⟩
   |step _ c2 _ n3 h e hne3 t3=>rw[hc]at e;cases e;exact⟨c,n3,t3,by omega⟩
  obtain⟨m',hm',hcr⟩:=hall n2 c r hc2;have mono:∀{k to i x},jP k to i=some x→jP (k+1) to i=some x:=by
   intro k
   induction k with
   |zero=>intro _ _ _ h;cases h
   |succ k ihk=>
    intro to i x h;unfold jP at h ⊢;split
    ·rename_i b hb;rw[hb]at h;simp only at h;split
     ·rename_i hd;rw[hd]at h;exact h
     ·rename_i hd;rw[hd]at h;simp only at h;split
      ·rename_i c hc;rw[hc]at h;simp only at h;split
       ·rename_i hd2;rw[hd2]at h;exact ihk h
       ·rename_i hd2;rw[hd2]at h;exact h
      ·rename_i hc;rw[hc]at h;exact h
    ·rename_i hb;rw[hb]at h;exact h
  obtain⟨to',e1,e2,e3⟩:=ih m' (by omega) hcr;have up:∀d {to i x},jP (m'+1) to i=some x→jP (m'+1+d) to i=some x:=by
   intro d
   induction d with
   |zero=>intro _ _ _ h;exact h
   |succ d ihd=>intro _ _ _ h;exact mono (ihd h)
  have e1':jP (n1+1) (to.set i.toNat c) c=some (to',r):=by
   have:=up (n1-m') e1
   rwa [show m'+1+(n1-m')=n1+1 by omega]at this
  refine⟨to',?_,by rw[e2];simp,fun j2 r' m hj=>?_⟩
  ·rw[jP];simp only[e,h,fh,iR];have:decide (j≠i)=true:=ag hne;rw[this];simp only[hc,hj0,fh];exact e1'
  ·obtain⟨m1,q1,q2⟩:=hall m j2 r' hj;obtain⟨m2,q3,q4⟩:=e3 j2 r' m1 q2;exact⟨m2,by omega,q4⟩
def Uf(rs to:List Int):Prop:=to.length=rs.length∧∀i:Nat,i<rs.length→∃n,Rt to i (rs.getD i 0) n
theorem Uf.root{rs to:List Int}{x:Int}(h:Uf rs to)(h0:0≤x)(hx:x<rs.length):∃k to',jP k to x=some (to',rs.getD x.toNat 0)∧Uf rs to':=by
 obtain⟨n,hn⟩:=h.2 x.toNat (by omega);rw[show((x.toNat:Nat):Int)=x by omega]at hn;obtain⟨to',e1,e2,e3⟩:=acm hn;refine⟨n+1,to',e1,e2.trans h.1,fun i hi=>?_⟩;obtain⟨m,hm⟩:=h.2 i hi;obtain⟨m',-,hm'⟩:=e3 _ _ _ hm;exact⟨m',hm'⟩
def link(rs:List Int)(v r:Int):List Int:=rs.map fun y=>if y=v then r else y
theorem jT(rs:List Int)(v r:Int):(link rs v r).length=rs.length:=by simp[link]
theorem kZ(rs:List Int)(v r:Int)(i:Nat)(h:i<rs.length):(link rs v r).getD i 0=if rs.getD i 0=v then r else rs.getD i 0:=by
 simp[link,aC,h]
theorem Rt.past{to:List Int}{v x r i:Int}{n:Nat}(h0:0≤v)(hv:to[v.toNat]?=some v)(h:Rt to i r n)(hr:r≠v):Rt (to.set v.toNat x) i r n:=by
 induction h with
 |here i h e=>
  refine .here i h ?_;rw[bf,if_neg (fun he=>hr (toNat_inj h h0 he.symm))];exact e
 |step i j r n h e hne t ih=>
  refine .step i j r n h ?_ hne (ih hr);rw[bf,if_neg (fun he=>?_)]
  ·exact e
  ·have:=toNat_inj h h0 he.symm;subst this;rw[hv]at e;cases e;exact hne rfl
theorem Rt.into{to:List Int}{v x r i:Int}{n m:Nat}(h0:0≤v)(hv:to[v.toNat]?=some v)(hx:Rt to x r m)(hr:r≠v)(h:Rt to i v n):Rt (to.set v.toNat x) i r (n+1+m):=by
 have hvl:v.toNat<to.length:=(aq.1 hv).1;have hxv:x≠v:=by
  rintro rfl;exact hr (hx.det (.here _ h0 hv)).1
 have key:∀{i u n},Rt to i u n→u=v→Rt (to.set v.toNat x) i r (n+1+m):=by
  intro i u n h
  induction h with
  |here i hi0 e=>
   intro hi;subst hi;rw[show 0+1+m=m+1 by omega];exact .step i x r m hi0 (by simp[hvl]) hxv (hx.past h0 hv hr)
  |step i j u n h e hne t ih=>
   intro hi;rw[show n+1+1+m=(n+1+m)+1 by omega];refine .step i j r _ h ?_ hne (ih hi);rw[bf,if_neg (fun he=>?_)]
   ·exact e
   ·have:=toNat_inj h h0 he.symm;subst this;rw[hv]at e;cases e;exact hne rfl
 exact key h rfl
theorem Uf.link{rs to:List Int}{v x:Int}(h:Uf rs to)(h0:0≤v)(hvl:v<rs.length)(hv:rs.getD v.toNat 0=v)(hx0:0≤x)(hxl:x<rs.length)(hne:rs.getD x.toNat 0≠v):Uf (link rs v (rs.getD x.toNat 0)) (to.set v.toNat x):=by
 refine⟨by rw[dt,jT];exact h.1,fun i hi=>?_⟩;rw[jT]at hi;rw[kZ _ _ _ _ hi];obtain⟨n,hn⟩:=h.2 i hi;obtain⟨m,hm⟩:=h.2 x.toNat (by omega);rw[show((x.toNat:Nat):Int)=x by omega]at hm;obtain⟨k,hk⟩:=h.2 v.toNat (by omega);have hv':=hk.root.2;rw[hv]at hv';split
 ·rename_i he;rw[he]at hn;exact⟨_,Rt.into h0 hv' hm hne hn⟩
 ·rename_i he;exact⟨_,Rt.past h0 hv' hn he⟩
theorem Uf.add{rs to:List Int}(h:Uf rs to):Uf (rs++[(rs.length:Int)]) (to++[(to.length:Int)]):=by
 have hl:=h.1;have up:∀{i r n},Rt to i r n→Rt (to++[(to.length:Int)]) i r n:=by
  intro i r n h
  induction h with
  |here i h e=>exact .here i h (by rw[bH (aq.1 e).1];exact e)
  |step i j r n h e hne t ih=>exact .step i j r n h (by rw[bH (aq.1 e).1];exact e) hne ih
 refine⟨by simp[hl],fun i hi=>?_⟩;simp only[aH,aT,bJ]at hi;by_cases h1:i<rs.length
 ·obtain⟨n,hn⟩:=h.2 i h1;refine⟨n,?_⟩;rw[aC,bH h1,←aC];exact up hn
 ·have:i=rs.length:=by omega
  subst this;refine⟨0,?_⟩;simp only[aC,cE,bG];exact .here _ (by omega) (by simp[←hl])
inductive Conn(P:Int→Int→Prop):Int→Int→Prop
 |refl (a:Int):Conn P a a
 |edge (a b:Int) (h:P a b):Conn P a b
 |symm (a b:Int) (h:Conn P a b):Conn P b a
 |trans (a b c:Int) (h:Conn P a b) (k:Conn P b c):Conn P a c
theorem Conn.mono{P P':Int→Int→Prop}(hP:∀a b,P a b→P' a b){a b:Int}(h:Conn P a b):Conn P' a b:=by
 induction h with
 |refl a=>exact .refl a
 |edge a b h=>exact .edge a b (hP a b h)
 |symm a b _ ih=>exact .symm a b ih
 |trans a b c _ _ ih1 ih2=>exact .trans a b c ih1 ih2
theorem Conn.more{P P':Int→Int→Prop}{x y:Int}(hP:∀a b,P' a b→P a b∨(a=x∧b=y)){a b:Int}(h:Conn P' a b):Conn P a b∨(Conn P a x∧Conn P y b)∨(Conn P a y∧Conn P x b):=by
 induction h with
 |refl a=>exact .inl (.refl a)
 |edge a b h=>
  rcases hP a b h with h|⟨rfl,rfl⟩
  ·exact .inl (.edge a b h)
  ·exact .inr (.inl ⟨.refl a,.refl b⟩)
 |symm a b _ ih=>
  rcases ih with h|⟨h1,h2⟩|⟨h1,h2⟩
  ·exact .inl (.symm _ _ h)
  ·exact .inr (.inr ⟨.symm _ _ h2,.symm _ _ h1⟩)
  ·exact .inr (.inl ⟨.symm _ _ h2,.symm _ _ h1⟩)
 |trans a b c _ _ ih1 ih2=>
  rcases ih1 with h|⟨h1,h2⟩|⟨h1,h2⟩<;>rcases ih2 with k|⟨k1,k2⟩|⟨k1,k2⟩
  ·exact .inl (.trans _ _ _ h k)
  ·exact .inr (.inl ⟨.trans _ _ _ h k1,k2⟩)
  ·exact .inr (.inr ⟨.trans _ _ _ h k1,k2⟩)
  ·exact .inr (.inl ⟨h1,.trans _ _ _ h2 k⟩)
  ·exact .inr (.inl ⟨h1,k2⟩)
  ·exact .inl (.trans _ _ _ h1 k2)
  ·exact .inr (.inr ⟨h1,.trans _ _ _ h2 k⟩)
  ·exact .inl (.trans _ _ _ h1 k2)
  ·exact .inr (.inr ⟨h1,k2⟩)
def rt(rs:List Int)(x:Int):Int:=rs.getD x.toNat 0
structure Least(rs:List Int)(P:Int→Int→Prop)(out:List Int):Prop where
 len:out.length=rs.length
 conn:∀i:Nat,i<rs.length→Conn P (rs.getD i 0) (out.getD i 0)
 least:∀i:Nat,i<rs.length→∀b,Conn P (rs.getD i 0) b→out.getD i 0≤b
theorem Least.uniq{rs out out':List Int}{P P':Int→Int→Prop}(hP:∀a b,P a b↔P' a b)(h:Least rs P out)(h':Least rs P' out'):out=out':=by
 apply ce;intro i;by_cases hi:i<rs.length
 ·have e1:=h.least i hi _ ((h'.conn i hi).mono fun a b=>(hP a b).2);have e2:=h'.least i hi _ ((h.conn i hi).mono fun a b=>(hP a b).1);have l1:=h.len;have l2:=h'.len;rw[aC,aC,ad (by omega),ad (by omega)]at e1 e2
  rw[ad (by omega),ad (by omega)];simp only[bG]at e1 e2;exact congrArg some (Int.le_antisymm e1 e2)
 ·rw[bI (by have:=h.len;omega),bI (by have:=h'.len;omega)]
theorem Least.init{rs:List Int}{P:Int→Int→Prop}(hP:∀a b,¬P a b):Least rs P rs:=by
 have key:∀{a b},Conn P a b→a=b:=by
  intro a b h
  induction h with
  |refl=>rfl
  |edge a b h=>exact absurd h (hP a b)
  |symm _ _ _ ih=>exact ih.symm
  |trans _ _ _ _ _ ih1 ih2=>exact ih1.trans ih2
 exact⟨rfl,fun i _=>.refl _,fun i _ b h=>by rw[key h];exact fP _⟩
def jV(rs:List Int)(p:Int×Int):List Int:=link rs (max (rt rs p.1) (rt rs p.2)) (min (rt rs p.1) (rt rs p.2))
theorem Least.step{rs out:List Int}{P P':Int→Int→Prop}{p:Int×Int}(h:Least rs P out)(h1:0≤p.1∧p.1<rs.length)(h2:0≤p.2∧p.2<rs.length)
 (hP:∀a b,P' a b↔P a b∨(a=rt rs p.1∧b=rt rs p.2)):Least rs P' (jV out p):=by
 have hl:=h.len;have up:∀{a b},Conn P a b→Conn P' a b:=fun h=>h.mono fun a b h=>(hP a b).2 (.inl h);have cx:=h.conn p.1.toNat (by omega);have cy:=h.conn p.2.toNat (by omega);have lx:=h.least p.1.toNat (by omega);have ly:=h.least p.2.toNat (by omega)
 have x0y0:Conn P' (rt rs p.1) (rt rs p.2):=.edge _ _ ((hP _ _).2 (.inr ⟨rfl,rfl⟩));have xy:Conn P' (rt out p.1) (rt out p.2):=.trans _ _ _ (.symm _ _ (up cx)) (.trans _ _ _ x0y0 (up cy));have hmm:Conn P' (max (rt out p.1) (rt out p.2)) (min (rt out p.1) (rt out p.2)):=by
  rcases Int.le_total (rt out p.1) (rt out p.2) with hle|hle
  ·rw[Int.max_eq_right hle,Int.min_eq_left hle];exact .symm _ _ xy
  ·rw[Int.max_eq_left hle,Int.min_eq_right hle];exact xy
 refine⟨by unfold jV;rw[jT];exact hl,fun i hi=>?_,fun i hi b hb=>?_⟩
 ·unfold jV;rw[kZ _ _ _ _ (by omega)];split
  ·rename_i he;exact .trans _ _ _ (up (h.conn i hi)) (he▸hmm)
  ·exact up (h.conn i hi)
 ·unfold jV;rw[kZ _ _ _ _ (by omega)];have li:=h.least i hi;have ci:=h.conn i hi;rcases hb.more (fun a b h=>(hP a b).1 h) with k|⟨k1,k2⟩|⟨k1,k2⟩
  ·have:=li b k;split
   ·rename_i he;omega
   ·exact this
  ·have e1:out.getD i 0=rt out p.1:=Int.le_antisymm (li _ (.trans _ _ _ k1 cx)) (lx _ (.trans _ _ _ (.symm _ _ k1) ci));have e2:rt out p.2≤b:=ly _ k2;rw[e1];split
   ·omega
   ·rename_i he;omega
  ·have e1:out.getD i 0=rt out p.2:=Int.le_antisymm (li _ (.trans _ _ _ k1 cy)) (ly _ (.trans _ _ _ (.symm _ _ k1) ci));have e2:rt out p.1≤b:=lx _ k2;rw[e1];split
   ·omega
   ·rename_i he;omega
def wS(rs:List Int)(had:List (Int×Int))(seen:List Nat)(a b:Int):Prop:=∃j∈seen,∃p,had[j]?=some p∧a=rt rs p.1∧b=rt rs p.2
theorem sp{rs:List Int}(had:List (Int×Int))(hin:∀p∈had,(0≤p.1∧p.1<rs.length)∧0≤p.2∧p.2<rs.length):∀n,n≤had.length→Least rs (wS rs had (List.range n)) ((had.take n).foldl jV rs)
 |0,_=>by
  simp only[ke,List.foldl_nil];exact Least.init (fun a b ⟨j,hj,_⟩=>by simp at hj)
 |n+1,hn=>by
  have ih:=sp had hin n (by omega);have hnl:n<had.length:=by omega
  rw[cq hnl,List.foldl_append,gT,List.foldl_nil];obtain⟨q1,q2⟩:=hin _ (bp hnl);refine ih.step q1 q2 fun a b=>⟨fun⟨j,hj,p,hp,e1,e2⟩=>?_,fun hk=>?_⟩
  ·simp only[fI]at hj;by_cases hjn:j=n
   ·subst hjn;rw[ad hnl]at hp;cases hp;exact .inr ⟨e1,e2⟩
   ·exact .inl ⟨j,by simp;omega,p,hp,e1,e2⟩
  ·rcases hk with⟨j,hj,p,hp,e1,e2⟩|⟨e1,e2⟩
   ·simp only[fI]at hj;exact⟨j,by simp;omega,p,hp,e1,e2⟩
   ·exact⟨n,by simp,_,ad hnl,e1,e2⟩
theorem abt{rs out:List Int}{had:List (Int×Int)}(hin:∀p∈had,(0≤p.1∧p.1<rs.length)∧0≤p.2∧p.2<rs.length){seen:List Nat}(hs:∀i,i<had.length→i∈seen)(h:Least rs (wS rs had seen) out):out=had.foldl jV rs:=by
 have k:=sp had hin had.length (au _);rw[List.take_length]at k;refine h.uniq (fun a b=>⟨fun⟨j,hj,p,hp,e⟩=>⟨j,?_,p,hp,e⟩,fun⟨j,hj,p,hp,e⟩=>⟨j,?_,p,hp,e⟩⟩) k
 ·simp only[fI];exact(aq.1 hp).1
 ·exact hs j (by simpa using hj)
theorem aaW{rs out:List Int}{had:List (Int×Int)}{seen:List Nat}{j:Nat}{p:Int×Int}(hin:∀p∈had,(0≤p.1∧p.1<rs.length)∧0≤p.2∧p.2<rs.length)(hj:had[j]?=some p)(h:Least rs (wS rs had seen) out):Least rs (wS rs had (j::seen)) (jV out p):=by
 obtain⟨q1,q2⟩:=hin p (bi hj);refine h.step q1 q2 fun a b=>⟨fun⟨j',hj',p',hp',e1,e2⟩=>?_,fun hk=>?_⟩
 ·rcases aV.1 hj' with rfl|hj'
  ·rw[hj]at hp';cases hp';exact .inr ⟨e1,e2⟩
  ·exact .inl ⟨j',hj',p',hp',e1,e2⟩
 ·rcases hk with⟨j',hj',r⟩|⟨e1,e2⟩
  ·exact⟨j',aD _ hj',r⟩
  ·exact⟨j,aI,p,hj,e1,e2⟩
def Idem(rs:List Int):Prop:=∀i:Nat,i<rs.length→0≤rs.getD i 0∧rs.getD i 0<rs.length∧rt rs (rs.getD i 0)=rs.getD i 0
theorem Uf.idem{rs to:List Int}(h:Uf rs to):Idem rs:=fun i hi=>by
 obtain⟨n,hn⟩:=h.2 i hi;obtain⟨h0,he⟩:=hn.root;have hl:(rs.getD i 0).toNat<to.length:=(aq.1 he).1;have h1:=h.1;obtain⟨m,hm⟩:=h.2 (rs.getD i 0).toNat (by omega);rw[show(((rs.getD i 0).toNat:Nat):Int)=rs.getD i 0 by omega]at hm;exact⟨h0,by omega,(hm.det (.here _ h0 he)).1⟩
theorem tY(rs:List Int)(v:Int):link rs v v=rs:=by
 unfold link;have:(fun y:Int=>if y=v then v else y)=id:=by funext y;simp only[id];split<;>simp_all
 rw[this,List.map_id]
theorem Idem.link{rs:List Int}{v r:Int}(h:Idem rs)(hr0:0≤r)(hrl:r<rs.length)(hr:rt rs r=r)(hne:r≠v):Idem (link rs v r):=fun i hi=>by
 rw[jT]at hi;obtain⟨h0,h1,h2⟩:=h i hi;have key:∀y:Int,0≤y→y<rs.length→rt rs y=y→y≠v→rt (V.link rs v r) y=y:=fun y a1 a2 a3 a4=>by
  unfold rt at a3 ⊢;rw[kZ _ _ _ _ (by omega),a3,if_neg a4]
 rw[kZ _ _ _ _ hi,jT];split
 ·exact⟨hr0,hrl,key r hr0 hrl hr hne⟩
 ·rename_i hv;exact⟨h0,h1,key _ h0 h1 h2 hv⟩
theorem Uf.join{rs to:List Int}(h:Uf rs to){a b:Int}(ha:0≤a∧a<rs.length)(hb:0≤b∧b<rs.length)(hne:rt rs a≠rt rs b):Uf (jV rs (a,b)) (to.set (max (rt rs a) (rt rs b)).toNat (min (rt rs a) (rt rs b))):=by
 obtain⟨a0,a1,a2⟩:=h.idem a.toNat (by omega);obtain⟨b0,b1,b2⟩:=h.idem b.toNat (by omega);have a0:0≤rt rs a:=a0;have a1:rt rs a<rs.length:=a1;have a2:rt rs (rt rs a)=rt rs a:=a2;have b0:0≤rt rs b:=b0;have b1:rt rs b<rs.length:=b1;have b2:rt rs (rt rs b)=rt rs b:=b2;unfold jV;simp only
 rcases Int.le_total (rt rs a) (rt rs b) with hle|hle
 ·rw[Int.max_eq_right hle,Int.min_eq_left hle];have:=h.link (v:=rt rs b) (x:=rt rs a) b0 b1 b2 a0 a1 (by show rt rs (rt rs a)≠_;rw[a2];exact hne)
  rwa [show rs.getD (rt rs a).toNat 0=rt rs a from a2]at this
 ·rw[Int.max_eq_left hle,Int.min_eq_right hle];have:=h.link (v:=rt rs a) (x:=rt rs b) a0 a1 a2 b0 b1 (by show rt rs (rt rs b)≠_;rw[b2];exact Ne.symm hne)
  rwa [show rs.getD (rt rs b).toNat 0=rt rs b from b2]at this
def mu:Nat→List Nat→Nat
 |0,_=>0
 |n+1,seen=>mu n seen+if n∈seen then 0 else 1
theorem agz{x:Nat}{seen:List Nat}:∀n,mu n (x::seen)≤mu n seen
 |0=>au _
 |n+1=>by
  have:=agz (x:=x) (seen:=seen) n;have e:(if n∈x::seen then 0 else 1)≤(if n∈seen then 0 else 1):=by
   by_cases h:n∈seen
   ·rw[if_pos h,if_pos (aD _ h)];exact au _
   ·rw[if_neg h];split<;>omega
  simp only[mu];omega
theorem adh{x:Nat}{seen:List Nat}(hx:x∉seen):∀n,x<n→mu n (x::seen)<mu n seen
 |0,h=>by omega
 |n+1,h=>by
  by_cases h2:n=x
  ·have:=agz (x:=x) (seen:=seen) n;have h4:n∉seen:=by rw[h2];exact hx
   have h5:n∈x::seen:=by rw[h2];exact aI
   simp only[mu,if_pos h5,if_neg h4];omega
  ·have:=adh hx n (by omega);have e:(if n∈x::seen then 0 else 1)≤(if n∈seen then 0 else 1):=by
    by_cases h:n∈seen
    ·rw[if_pos h,if_pos (aD _ h)];exact au _
    ·rw[if_neg h];split<;>omega
   simp only[mu];omega
section
variable{P:Program}{T:Tab}{J:Kn}{G:Nat→Option (List AC)}{X:Ctx}{κ:Con}{H:Fz}{s:St}{a:Act}{w:World}
abbrev FR(r:Option Nat):Fence:={ Fence.wide with round:=r}
theorem afU{r:Option Nat}{n:Nat}{f:FuncId}{args:Array Value}{w:World}{R:Ending→World→Prop}(h:Calls P f args w R):CallsIn (FR r) n P f args w R:=
 (show CallsIn Fence.wide n P f args w R from callsIn_wide.2 h)
theorem rP(a:Act)(ds:List Deferred)(x:Option Nat)(v:Value):({ tmps:=a.tmps,defers:=a.defers++ds}:Act).put x v={ tmps:=(a.put x v).tmps,defers:=(a.put x v).defers++ds}:=by cases x<;>rfl
theorem aho(a:Act)(d:Deferred)(ds:List Deferred)(x:Option Nat)(v:Value):({ tmps:=a.tmps,defers:=d::(a.defers++ds)}:Act).put x v={ tmps:=(({ tmps:=a.tmps,defers:=d::a.defers}:Act).put x v).tmps,defers:=(({ tmps:=a.tmps,defers:=d::a.defers}:Act).put x v).defers++ds}:=by cases x<;>rfl
theorem gw{r:Option Nat}{n:Nat}{ops:Array Oper}(hnd:∀o∈ops.toList,∀c,o.op≠ .defer c)(ds:List Deferred){N:Act→World→Prop}{Q:Exit→Act→World→Prop}{js:List Nat}
 (hN:∀a w,N a w→wpOpsIn (FR r) n P ops Q js { a with defers:=a.defers++ds} w):
 ∀(is:List Nat) (a:Act) (w:World),wpOps P ops (fun e a w=>e= .normal∧N a w) is a w→wpOpsIn (FR r) n P ops Q (is++js) { a with defers:=a.defers++ds} w
 | [],a,w,h=>hN a w h.2
 |i::is,a,w,h=>by
  show wpOpsIn (FR r) n P ops Q (i::(is++js)) _ w;unfold wpOps at h;unfold wpOpsIn;cases ho:ops[i]? with
  |none=>simp only[ho]at h ⊢;exact gw hnd ds hN is a w h
  |some o=>
   simp only[ho]at h ⊢;have hmem:o∈ops.toList:=bi (by simpa using ho);split at h
   ·rename_i hw;rw[if_pos hw];rcases h with h|⟨-,a1,w1,h⟩
    ·refine⟨fun _ _=>trivial,?_⟩;rw[Oper.semAt_eq _ _ _ (hnd o hmem)];unfold Oper.wp at h;show Oper.uponIn (FR r) n P o _ _ Q ((execOp a.eval o).run P w);revert h;generalize (execOp a.eval o).run P w=res;intro h
     match res,h with
     | .ok (.value v) w',h=>rw[Oper.uponIn_value,rP];exact gw hnd ds hN is _ w' h
     | .ok .skip w',h=>rw[Oper.uponIn_skip,rP];exact gw hnd ds hN is _ w' h
     | .ok (.defer d) w',h=>rw[Oper.uponIn_defer];(show wpOpsIn _ _ _ _ _ _ (Act.put ({ tmps:=a.tmps,defers:=d::(a.defers++ds)}:Act) _ _) _);rw[aho];exact gw hnd ds hN is _ w' h
     | .ok (.enter f args) w',h=>
      refine⟨fun hd=>by simp[Fence.wide]at hd,afU (h.mono ?_)⟩;intro e w2 hp;cases e with
      |returned v=>(show wpOpsIn _ _ _ _ _ _ (Act.put _ _ _) _);rw[rP];exact gw hnd ds hN is _ w2 hp
      |panicked chain=>cases hp.1
      |outgrown=>obtain⟨_,_,hx,_⟩:=hp;cases hx
     | .ok (.row row args) w',h=>
      refine⟨fun hd=>by simp[Fence.wide]at hd,fun c cs _=>?_⟩;obtain⟨v,w2,hp,hs⟩:=h c cs;exact⟨v,w2,by(show wpOpsIn _ _ _ _ _ _ (Act.put _ _ _) _);rw[rP];exact gw hnd ds hN is _ w2 hp,(show StepsIn (Machine.fenced P Fence.wide) P _ _ from stepsIn_wide.2 hs)⟩
     | .halt (.panic v) w',h=>exact nomatch h.1
    ·exact nomatch h.1
   ·rename_i hw;rw[if_neg hw];exact⟨fun _ _=>trivial,by rw[rP];exact gw hnd ds hN is _ w h⟩
theorem ru(E:Env P T J)(hX:bK G X.H0){ops:Array Oper}(hd:∀o∈ops.toList,okOp X.N X.A o=true){Q:Exit→Act→World→Prop}{K:St→Prop}:∀(os:List Oper) (i:Nat),(∃tl,ops.toList.drop i=os++tl)→∀(s:St) (κ:Con) (H:Fz) (a:Act) (w:World),Rel X κ H s a w→evS P T J G ops os s K→
 (∀s κ H a w,Rel X κ H s a w→K s→Q .normal a w)→wpOps P ops Q (List.range' i os.length) a w
 | [],i,hos,s,κ,H,a,w,h,he,hQ=>by
  simp only[evS]at he;simp only[bJ,iL,wpOps];exact hQ s κ H a w h he
 |o::os,i,⟨tl,hos⟩,⟨ts,bs,ps⟩,κ,H,a,w,h,he,hQ=>by
  have hi:ops[i]?=some o:=by
   have:ops.toList[i]?=some o:=by rw[←jm,hos];rfl
   simpa using this
  have hmem:o∈ops.toList:=bi (by simpa using hi);simp only[evS]at he;obtain⟨ws,ls,h1,-,h3⟩:=cK he;rw[writesK_eq]at h1;have hr:=h3 ⟨ts,bs,ps⟩ ⟨fun _ _=>rfl,fun _ _=>rfl,fun _ _=>rfl⟩;rw[aT,gG,lr]
  refine sN E (hX.mono h.h0) h hi (hd o hmem) hr fun κ' H' a' w' hrel=>?_;refine ru E hX hd os (i+1) ⟨tl,?_⟩ _ κ' H' a' w' hrel h1 hQ;rw[←dD,hos];rfl
def im(ops:Array Oper):Bool:=ops.toList.all fun o=>match o.op with| .defer _=>false|_=>true
theorem nf{ops:Array Oper}(h:im ops=true):∀o∈ops.toList,∀c,o.op≠ .defer c:=fun o ho c e=>by
 have:=cO.1 h o ho;rw[e]at this;cases this
theorem pQ(E:Env P T J)(hX:bK G X.H0){r:Option Nat}{n id:Nat}{ops:Array Oper}(hok:ops.toList.all (okOp X.N X.A)=true)(hnd:im ops=true)(ds:List Deferred){K:St→Prop}{Q:Exit→Act→World→Prop}
 {κ:Con} {H:Fz} {s:St} {a:Act} {w:World} (hds:X.ds=[]) (h:Rel X κ H s a w) (he:evS P T J G ops ops.toList s K) (hQ:∀s κ H a w,Rel X κ H s a w→K s→Q .normal { a with defers:=ds} w):
 (Code.region id ops false).wpIn (FR r) n P Q { a with defers:=ds} w:=by
 refine wpIn_region ?_;rw[oD];have:=gw (r:=r) (n:=n) (P:=P) (nf hnd) ds (N:=fun a w=>∃s κ H,Rel X κ H s a w∧K s) (Q:=Q) (js:=[]) (fun a w ⟨s,κ,H,h1,h2⟩=>by
  have:=hQ s κ H a w h1 h2;rw[h1.defers,hds];exact this) (List.range' 0 ops.size) a w ?_
 ·rw[aX,h.defers,hds]at this;exact this
 ·have:=ru E hX (fun o ho=>cO.1 hok o ho) (Q:=fun e a w=>e= .normal∧∃s κ H,Rel X κ H s a w∧K s) ops.toList 0 ⟨[],by simp⟩ s κ H a w h he (fun s κ H a w h1 h2=>⟨rfl,s,κ,H,h1,h2⟩);simpa using this
theorem Rel.ext{H':Fz}{w':World}(h:Rel X κ H s a w)(hH:Fz.le H H')(hHb:∀b,b<w.heap.size→H' b=H b)(hfz:FzOk H' w')
 (hb:∀b,b<w.heap.size→w'.heap[b]?=w.heap[b]? ∨(¬X.Pr b∧∃o,w.heap[b]?=some o∧o.isCells=false)) (hg:w.heap.size≤w'.heap.size) (h1:w'.os=w.os) (h2:w'.tape=w.tape) (h3:w'.output=w.output):
 Rel X κ H' s a w':=by
 have hcell:∀b us ty m,w.heap[b]?=some (Obj.cells us ty m)→w'.heap[b]?=some (Obj.cells us ty m):=fun b us ty m hc=>by
  rcases hb b (ay.1 hc).1 with e|⟨-,o,ho,hn⟩
  ·rw[e];exact hc
  ·rw[hc]at ho;cases ho;cases hn
 have hbox:∀b ty cells,gO κ H w b ty cells→gO κ H' w' b ty cells:=fun b ty cells ⟨q1,us,q2,q3⟩=>
  ⟨fun i=>by rw[hHb b (ay.1 q2).1];exact q1 i,us,hcell _ _ _ _ q2,q3.mono (Con.le_refl _) hH⟩
 have hpr:∀b,X.Pr b→b<w.heap.size:=fun b hp=>bd (X.lt b hp) h.grown;exact{ h with
  tmps:=fun t v e=>(h.tmps t v e).mono (Con.le_refl _) hH
  fz:=hfz
  hk:=fun b hp=>by rw[hHb b (hpr b hp)];exact h.hk b hp
  h0:=Fz.le_trans h.h0 hH
  box:=fun d b e=>⟨(h.box d b e).1,hbox _ _ _ (h.box d b e).2⟩
  perm:=fun d p e=>⟨(h.perm d p e).1,fun hl=>by
   rcases(h.perm d p e).2 hl with q|⟨b,n,cap,cur,q1,q2,q3,q4,q5,q6⟩
   ·exact .inl q
   ·exact .inr ⟨b,n,cap,cur,q1,hcell _ _ _ _ q2,q3,q4,q5,fun i hi=>by rw[hHb b (ay.1 q2).1];exact q6 i hi⟩⟩
  keep:=fun b hp=>by
   rcases hb b (hpr b hp) with e|⟨hn,-⟩
   ·rw[e];exact h.keep b hp
   ·exact absurd hp hn
  grown:=dR h.grown hg
  os:=h1.trans h.os
  tape:=h2.trans h.tape
  output:=h3.trans h.output}
theorem FzOk.ext{H:Fz}{w w':World}(h:FzOk H w)(hb:∀b,b<w.heap.size→w'.heap[b]?=w.heap[b]? ∨∃o,w.heap[b]?=some o∧o.isCells=false):FzOk H w':=fun b i v e=>by
 have hc:=h b i v e;have hlt:=dK w ⟨b,i,none⟩ hc;rcases hb b hlt with q|⟨o,ho,hn⟩
 ·unfold World.cell? at hc ⊢;simp only at hc ⊢ q;rw[q];exact hc
 ·unfold World.cell? at hc;simp only[ho]at hc;cases o<;>simp_all[Obj.isCells]
theorem Rel.putObj(h:Rel X κ H s a w){r:Nat}{o:Obj}(o':Obj)(hr:w.heap[r]?=some o)(ho:o.isCells=false)(hp:¬X.Pr r):Rel X κ H s a (w.putObj r o'):=by
 have hb:∀b,b<w.heap.size→(w.putObj r o').heap[b]?=w.heap[b]? ∨(¬X.Pr b∧∃o,w.heap[b]?=some o∧o.isCells=false):=fun b _=>by
  by_cases e:b=r
  ·subst e;exact .inr ⟨hp,o,hr,ho⟩
  ·exact .inl (World.putObj_heap_other e)
 exact h.ext (Fz.le_refl H) (fun _ _=>rfl) (h.fz.ext fun b hb'=>(hb b hb').imp id (·.2)) hb (by simp) rfl rfl rfl
theorem Rel.allocObj(h:Rel X κ H s a w)(o:Obj):Rel X κ H s a (w.alloc o):=by
 have hb:∀b,b<w.heap.size→(w.alloc o).heap[b]?=w.heap[b]? :=fun b hb=>by show(w.heap.push o)[b]?=_;rw[dT];split<;>first|omega|rfl
 exact h.ext (Fz.le_refl H) (fun _ _=>rfl) (h.fz.ext fun b hb'=>.inl (hb b hb')) (fun b hb'=>.inl (hb b hb')) (by simp) rfl rfl rfl
end
section
variable{P:Program}{T:Tab}{J:Kn}{G:Nat→Option (List AC)}{κ:Con}{H:Fz}{s:St}{a:Act}{w:World}
theorem aim(E:Env P T J){f:Nat}{fn:Func}{c:Code}{ars:List Arg}{rs:List Res}{css:List (List AC)}(hf:P.funcs[f]?=some fn)(hb:fn.body=some c)(hn:Nat.ble ars.length fn.ntmps=true)
 (he:∀(X:Ctx) (κ:Con) (H:Fz) (a:Act) (w:World),bK G X.H0→X.N=fn.ntmps→X.A=ars.length→X.ds=[]→Rel X κ H ⟨(cZ 0 ars).1,(cZ 0 ars).2,[]⟩ a w→
  c.wpIn Fence.wide 0 P (fun e a' w'=>(e= .normal∨e= .ret)∧∃D s κ' H',a'.defers=[{ target:=.collected D,args:= #[]}]∧X.W0.heap.size≤D∧w'.heap[D]?=some (.deferred (some []))∧
   Rel X κ' H' s { a' with defers:=[]} w'∧resP T fn.results.toList s (fun rs'=>finP (cZ 0 ars).2 s fun css'=>rs'=rs∧css'=css)) a w):CT P G f ars rs css:=by
 intro H w us hfz hG hargs hnd;have hn:=bB hn;have hul:=nE hargs;refine(callsIn_wide (n:=0)).1 (callsIn_of_wp_marks hf hb trivial ?_);obtain⟨a1,a2⟩:=iP 0 hargs
 let X:Ctx:={ W0:=w,H0:=H,Pr:=fun b=>b<w.heap.size∧b∉cC ars us,N:=fn.ntmps,A:=ars.length,ab:=abOf us,lt:=fun _ h=>h.1}
 let κ0:Con:={ blk:=fun d _=>abOf us d,row:=fun _ _=>undef,nb:=fun d=>if(find d (cZ 0 ars).2).isSome then 1 else 0,nr:=fun _=>0}
 have hrel:Rel X κ0 H ⟨(cZ 0 ars).1,(cZ 0 ars).2,[]⟩ { tmps:=us.toArray++Array.replicate (fn.ntmps-us.toArray.size) undef,defers:=[]} w:=by
  refine{ size:=by simp[X];omega,tmps:=?_,defers:=rfl,fz:=hfz,hk:=fun _ _=>rfl,h0:=Fz.le_refl H,box:=?_,nobox:=?_,args:=?_,perm:=by simp[find],noperm:=fun _ _=>rfl,bb:=?_,rr:=by simp[find],br:=by simp[find],pb:=?_,pr:=by simp[find],keep:=fun _ _=>rfl,grown:=au _,os:=rfl,tape:=rfl,output:=rfl}
  ·intro t v hft;obtain⟨j,u,e1,e2,e3⟩:=a1 t v hft;have e1':t=j:=by omega
   subst e1';have hget:(us.toArray++Array.replicate (fn.ntmps-us.toArray.size) undef).getD t undef=u:=by
    have hlt:=(aq.1 e2).1;rw[aB,dr (by simpa using hlt)];simp[e2]
   rw[hget];rcases e3 with⟨rfl,h1,rfl⟩|h1
   ·refine .one _ _ (ACr.ptr (κ:=κ0) t 0 0 ?_);simp[κ0,h1]
   ·exact h1.mono (Con.no_le κ0) (Fz.le_refl H)
  ·intro d b hfd;obtain⟨j,e1,e2,e3,e4,-⟩:=a2 d b hfd;have e1':d=j:=by omega
   subst e1';obtain⟨m1,us',m2,m3⟩:=e4;refine⟨by simp[κ0,hfd,e3],m1,us',m2,m3.mono (Con.no_le κ0) (Fz.le_refl H)⟩
  ·intro d hfd;simp only at hfd;simp[κ0,hfd]
  ·intro d b _ _;rfl
  ·intro d d' b b' h1 h2 hq;exact lU 0 hargs hnd d d' b b' h1 h2 hq
  ·intro d b hfd hp;obtain⟨j,e1,-,-,-,e5⟩:=a2 d b hfd;have e1':d=j:=by omega
   subst e1';exact hp.2 e5
 refine wpIn_mono (he X κ0 H _ w hG rfl rfl rfl hrel) fun e a' w0 hq=>?_;obtain⟨he0,D,s,κ',H',hd,hDw,hD,h0,hk⟩:=hq;have h:Rel X κ' H' s { a' with defers:=[]} (w0.putObj D (.deferred none)):=h0.putObj _ hD rfl fun hp=>by
  have:=X.lt D hp;omega
 have fin:∃v,(results fn a'.tmps).run P (w0.putObj D (.deferred none))= .ok v (w0.putObj D (.deferred none))∧∃v' H',Ending.returned v= .returned v'∧CPost H w ars us rs css v' H' (w0.putObj D (.deferred none)):=by
  generalize w0.putObj D (.deferred none)=w' at h;obtain⟨rs',vs,k1,k2,k3,k4,k5⟩:=rN E h hk;obtain⟨css',⟨rfl,rfl⟩,m2,m3⟩:=zf h k1;refine⟨ff vs,fO k3 k5,ff vs,H',rfl,?_⟩
  have hab:∀(i d:Nat) (b0:Box) (cs:List AC),(cZ 0 ars).2[i]?=some (d,b0)→css'[i]?=some cs→(∃b,find d s.boxes=some b∧κ'.blk d b.gen=abOf us d)∧gO Con.no H' w' (abOf us d) b0.ty cs:=by
   intro i d b0 cs hi hc;obtain⟨b,h1,h2⟩:=m3 i d b0 cs hi hc;have hd:d<ars.length:=by
    have:=pB ars 0 i d b0 hi;omega
   have:=h.args d b (.inl hd) h1;exact⟨⟨b,h1,this⟩,by rw[this]at h2;exact h2⟩
  refine{ le:=h.h0,fz:=h.fz,keep:=fun b hb1 hb2=>⟨h.keep b ⟨hb1,hb2⟩,h.hk b ⟨hb1,hb2⟩⟩,outs:=?_,grown:=h.grown,os:=h.os,tape:=h.tape,output:=h.output,res:=⟨vs,?_,rfl⟩}
  ·exact qY 0 hargs m2 fun k d b0 cs hk hc=>(hab k d b0 cs hk hc).2
  ·refine vg k2 fun j r u hr hu=>?_;have:=k4 j r u hr hu;cases r with
   |val=>exact this
   |row e sz xs=>
    obtain⟨q1,q2,q3⟩:=this;refine⟨q1,q2,fun k hk=>?_⟩;obtain⟨d,p,f1,f2,f3⟩:=q3 k hk;rcases eA k w.heap.size with hlt|hge
    ·exfalso;have hnp:=h.pr d p k f1 f2 f3;have hmem:k∈cC ars us:=by
      by_cases hm:k∈cC ars us
      ·exact hm
      ·exact absurd ⟨hlt,hm⟩ hnp
     obtain⟨i,d',b0,hi,hd'⟩:=lT 0 hargs k hmem;have hil:i<css'.length:=by rw[m2];exact(aq.1 hi).1
     obtain⟨⟨b,hb1,hb2⟩,-⟩:=hab i d' b0 _ hi (ad hil);rw[fj]at hd';exact h.br d' d b p hb1 f1 f2 (by rw[f3,hb2,hd'])
    ·exact hge
 have hl:LeavesInM Fence.wide 0 P fn a'.tmps (fun e w'=>∃v H',e= .returned v∧CPost H w ars us rs css v H' w') a'.defers .returning w0:=by
  rw[hd];exact⟨by simp,.inl ⟨D,_,rfl,run_takeDeferred hD,fin⟩⟩
 rcases he0 with rfl|rfl
 ·exact hl
 ·exact hl
theorem rel0{N:Nat}{ts:List (Nat×AV)}(hfz:FzOk H w)(hs:a.tmps.size=N)(hd:a.defers=[])(ht:∀t v,find t ts=some v→AVr Con.no H v (a.tmps.getD t undef)):
 Rel { W0:=w,H0:=H,Pr:=fun b=>b<w.heap.size,N:=N,A:=0,ab:=fun _=>0,lt:=fun _ h=>h} Con.no H ⟨ts,[],[]⟩ a w:=
 {
  size:=hs,tmps:=ht,defers:=hd,fz:=hfz,hk:=fun _ _=>rfl,h0:=Fz.le_refl H,box:=by simp[find],nobox:=fun _ _=>rfl,args:=by simp[find],perm:=by simp[find],noperm:=fun _ _=>rfl,
  bb:=by simp[find],rr:=by simp[find],br:=by simp[find],pb:=by simp[find],pr:=by simp[find],keep:=fun _ _=>rfl,grown:=au _,os:=rfl,tape:=rfl,output:=rfl}
structure Later(H:Fz)(w:World)(H':Fz)(w':World):Prop where
 le:Fz.le H H'
 eq:∀b,b<w.heap.size→H' b=H b
 fz:FzOk H' w'
 blk:∀b,b<w.heap.size→w'.heap[b]?=w.heap[b]?
 grown:w.heap.size≤w'.heap.size
 os:w'.os=w.os
 tape:w'.tape=w.tape
 output:w'.output=w.output
theorem Rel.later{X:Ctx}{H':Fz}{w':World}(h:Rel X κ H s a w)(k:Later H w H' w'):Rel X κ H' s a w':=
 h.ext k.le k.eq k.fz (fun b hb=>.inl (k.blk b hb)) k.grown k.os k.tape k.output
theorem oP{N:Nat}{H':Fz}{w':World}(h:Rel { W0:=w,H0:=H,Pr:=fun b=>b<w.heap.size,N:=N,A:=0,ab:=fun _=>0,lt:=fun _ h=>h} κ H' s a w'):Later H w H' w':=
 ⟨h.h0,fun b hb=>h.hk b hb,h.fz,fun b hb=>h.keep b hb,h.grown,h.os,h.tape,h.output⟩
end
section
variable{P:Program}{T:Tab}{J:Kn}{G:Nat→Option (List AC)}{X:Ctx}{κ:Con}{H:Fz}{s:St}{a:Act}{w:World}
def Ctx.re(X:Ctx)(κ:Con)(H:Fz)(s:St)(w:World)(A:Nat):Ctx where
 W0:=w
 H0:=H
 Pr:=fun b=>b<w.heap.size∧(∀d bx,find d s.boxes=some bx→κ.blk d bx.gen≠b)∧∀d p,find d s.perms=some p→p.live=true→(κ.row d p.gen).ownBlock≠some b
 N:=X.N
 A:=A
 ab:=fun d=>match find d s.boxes with
  |some b=>κ.blk d b.gen
  |none=>0
 ds:=X.ds
 lt:=fun _ h=>h.1
theorem Rel.re(h:Rel X κ H s a w)(A:Nat):Rel (X.re κ H s w A) κ H s a w:=
 {
  h with
  hk:=fun _ _=>rfl
  h0:=Fz.le_refl H
  args:=fun d b _ hb=>by simp[Ctx.re,hb]
  pb:=fun d b hb hp=>hp.2.1 d b hb rfl
  pr:=fun d p k hp hl hk hh=>hh.2.2 d p hp hl hk
  keep:=fun _ _=>rfl
  grown:=au _
  os:=rfl
  tape:=rfl
  output:=rfl}
theorem Rel.back{A:Nat}{κ':Con}{H':Fz}{s':St}{a':Act}{w':World}(h:Rel X κ H s a w)(hA:X.A≤A)(h':Rel (X.re κ H s w A) κ' H' s' a' w')(hb:∀d,(d<X.A∨2048≤d)→find d s'.boxes=none):Rel X κ' H' s' a' w':=by
 have hpr:∀b,X.Pr b→(X.re κ H s w A).Pr b:=fun b hp=>⟨bd (X.lt b hp) h.grown,fun d bx hd e=>h.pb d bx hd (e▸hp),fun d p hd hl e=>h.pr d p b hd hl e hp⟩;exact{ h' with
  hk:=fun b hp=>(h'.hk b (hpr b hp)).trans (h.hk b hp)
  h0:=Fz.le_trans h.h0 h'.h0
  args:=fun d b hd hb'=>by rw[hb d hd]at hb';cases hb'
  pb:=fun d b hb' hp=>h'.pb d b hb' (hpr _ hp)
  pr:=fun d p k hd hl hk hp=>h'.pr d p k hd hl hk (hpr _ hp)
  keep:=fun b hp=>(h'.keep b (hpr b hp)).trans (h.keep b hp)
  grown:=dR h.grown h'.grown
  os:=h'.os.trans h.os
  tape:=h'.tape.trans h.tape
  output:=h'.output.trans h.output}
theorem Rel.other{A:Nat}{κ':Con}{H':Fz}{s':St}{a':Act}{w':World}(h:Rel X κ H s a w)(h':Rel (X.re κ H s w A) κ' H' s' a' w'){b:Nat}{o:Obj}(ho:w.heap[b]?=some o)(hn:o.isCells=false):w'.heap[b]?=some o:=by
 rw[←ho];refine h'.keep b ⟨(ay.1 ho).1,fun d bx hd e=>?_,fun d p hd hl e=>?_⟩
 ·obtain⟨-,-,us,hc,-⟩:=h.box d bx hd;rw[e,ho]at hc;cases hc;cases hn
 ·rcases(h.perm d p hd).2 hl with q|⟨b',n,cap,cur,q1,q2,-⟩
  ·rw[q]at e;simp[Value.ownBlock]at e
  ·rw[q1]at e;simp only[Value.ownBlock,am]at e;rw[e,ho]at q2;cases q2;cases hn
end
structure Tok where
 k:Int
 at_:Int
 s:ByteArray
 n:Int
@[reducible] def tok (t:Tok):List AC:=[.v (.int .i64 t.k),.v (.int .i64 t.at_),.v (.string t.s),.v (.int .i64 t.n)]
structure Sg where
 k:Int
 s:ByteArray
@[reducible] def sgn (x:Sg):List AC:=[.v (.int .i64 x.k),.v (.string x.s)]
structure PS where
 t:Tok
 r:List Tok
 bad:Bool
 at_:Int
@[reducible] def par (s:PS):List AC:=[.sl 119 4 (tok s.t::s.r.map tok) none,.v (.bool s.bad),.v (.int .i64 s.at_)]
@[reducible] def parA (s:PS):Arg:=.box 121 (par s)
def ofP(t:Tok):Sg:=if t.k=4 then⟨t.k,t.s⟩ else if t.k=5 then⟨t.k,t.s⟩ else⟨t.k,.empty⟩
theorem acU(t:Tok):Ct 145 [.val (.agg (tok t))] [.val (.agg (sgn (ofP t)))] []:=by
 refine ct Tryz.func145 (by kernel_rfl) ?_;unfold ofP;conv=>whnf
 cases h:decide (t.k=4)
 ·rw[if_neg (ca h)];conv=>whnf
  cases h':decide (t.k=5)
  ·rw[if_neg (ca h')];conv=>whnf
   exact⟨rfl,rfl⟩
  ·rw[if_pos (aJ h')];conv=>whnf
   exact⟨rfl,rfl⟩
 ·rw[if_pos (aJ h)];conv=>whnf
  exact⟨rfl,rfl⟩
theorem gB(s:ByteArray):Ct 58 [.val (.one (.v (.string s)))] [.val (.agg (sgn ⟨4,s⟩))] []:=by
 refine ct Tryz.func58 (by kernel_rfl) ?_;conv=>whnf
 exact⟨rfl,rfl⟩
theorem dW(s:ByteArray):Ct 62 [.val (.one (.v (.string s)))] [.val (.agg (sgn ⟨5,s⟩))] []:=by
 refine ct Tryz.func62 (by kernel_rfl) ?_;conv=>whnf
 exact⟨rfl,rfl⟩
def ut(s:PS):PS:=match s.bad with
 |true=>s
 |false=>{ s with bad:=true,at_:=s.t.at_}
theorem rq(s:PS):Ct 63 [parA s] [] [par (ut s)]:=by
 obtain⟨t,r,bad,a⟩:=s;refine ct Tryz.func63 (by kernel_rfl) ?_;cases bad
 ·conv=>whnf
  refine⟨_,⟨by decide,rfl⟩,?_⟩;conv=>whnf
  exact⟨rfl,rfl⟩
 ·conv=>whnf
  exact⟨rfl,rfl⟩
def eE(s:PS)(x:Sg):Bool:=match s.bad with
 |true=>false
 |false=>decide ((ofP s.t).k=x.k)&&decide ((ofP s.t).s=x.s)
theorem iN(s:PS)(x:Sg):Ct 104 [parA s,.val (.agg (sgn x))] [.val (.one (.v (.bool (eE s x))))] [par s]:=by
 obtain⟨t,r,bad,a⟩:=s;refine ct Tryz.func104 (by kernel_rfl) ?_;cases bad
 ·conv=>whnf
  refine⟨_,⟨by decide,rfl⟩,?_⟩;conv=>whnf
  refine⟨_,_,acU t,?_⟩;conv=>whnf
  refine⟨by kernel_rfl,?_⟩;conv=>whnf
  exact⟨rfl,rfl⟩
 ·conv=>whnf
  refine⟨by kernel_rfl,?_⟩;conv=>whnf
  exact⟨rfl,rfl⟩
def eN(s:PS):PS:=match s.r with
 | []=>s
 |t::r=>{ s with t:=t,r:=r}
theorem lz(s:PS):Ct 105 [parA s] [.val (.agg (tok s.t))] [par (eN s)]:=by
 obtain⟨t,r,bad,a⟩:=s;refine ct Tryz.func105 (by kernel_rfl) ?_;conv=>whnf
 refine⟨_,⟨by decide,rfl⟩,?_⟩;conv=>whnf
 cases r with
 |nil=>
  conv=>whnf
  exact⟨rfl,rfl⟩
 |cons t2 r=>
  have h:decide ((1:Int)<(((tok t::(t2::r).map tok).length:Nat):Int))=true:=by simp;omega
  rw[h];conv=>whnf
  refine⟨by simp;omega,?_⟩;conv=>whnf
  exact⟨rfl,rfl⟩
def iU(s:PS)(x:Sg):Bool×PS:=match eE s x with
 |true=>(true,eN s)
 |false=>(false,s)
theorem jz(s:PS)(x:Sg):Ct 57 [parA s,.val (.agg (sgn x))] [.val (.one (.v (.bool (iU s x).1)))] [par (iU s x).2]:=by
 refine ct Tryz.func57 (by kernel_rfl) ?_;unfold iU;conv=>whnf
 refine⟨_,_,iN s x,?_⟩;cases hn:eE s x
 ·conv=>whnf
  exact⟨rfl,rfl⟩
 ·conv=>whnf
  refine⟨_,_,lz s,?_⟩;conv=>whnf
  exact⟨rfl,rfl⟩
def aiR:Tok:=⟨0,0,.empty,0⟩
def cR(s:PS)(x:Sg):Tok×PS:=match eE s x with
 |true=>(s.t,eN s)
 |false=>(aiR,ut s)
theorem er(s:PS)(x:Sg):Ct 60 [parA s,.val (.agg (sgn x))] [.val (.agg (tok (cR s x).1))] [par (cR s x).2]:=by
 refine ct Tryz.func60 (by kernel_rfl) ?_;unfold cR;conv=>whnf
 refine⟨_,_,iN s x,?_⟩;cases hn:eE s x
 ·conv=>whnf
  refine⟨_,_,rq s,?_⟩;conv=>whnf
  exact⟨rfl,rfl⟩
 ·conv=>whnf
  refine⟨_,_,lz s,?_⟩;conv=>whnf
  exact⟨rfl,rfl⟩
def sf(k:Tok→List Tok→PS):Tok→List Tok→Option (List Tok×PS)
 |t,[]=>match eE (k t []) ⟨1,.empty⟩ with
  |true=>none
  |false=>some ([],k t [])
 |t,t'::r=>match eE (k t (t'::r)) ⟨1,.empty⟩ with
  |true=>(sf k t' r).map fun x=>(t::x.1,x.2)
  |false=>some ([],k t (t'::r))
def qb(s:PS):Option (List Tok×PS):=sf (fun t r=>⟨t,r,s.bad,s.at_⟩) s.t s.r
theorem adg(s:PS)(l:List Tok)(s':PS)(hB:s.r.length≤4294967296)(h:qb s=some (l,s')):Ct 107 [parA s] [.row 119 4 (l.map tok)] [par s']:=by
 refine ct Tryz.func107 (by kernel_rfl) ?_;conv=>whnf
 refine⟨fun n st=>∃acc s1 l2,n=s1.r.length∧qb s1=some (l2,s')∧l=acc++l2∧acc.length+s1.r.length≤4294967296∧
  st=⟨[(3,.one (.sl 119 4 (acc.map tok) (some (11,0)))),(0,.one (.ptr 0 0 0))],[(0,⟨0,121,par s1⟩)],[(11,⟨0,119,4,true⟩)]⟩,
  ⟨_,_,wk [3,0] [0] [] [] [(3,11,119,4)] [] rfl,[],s,l,rfl,h,rfl,by simpa using hB,rfl⟩,?_⟩
 rintro n st ⟨acc,s1,l2,rfl,h1,rfl,hb,rfl⟩;conv=>whnf
 refine⟨_,_,iN s1 ⟨1,.empty⟩,?_⟩;obtain⟨t,r,b,a⟩:=s1;cases hn:eE ⟨t,r,b,a⟩ ⟨1,.empty⟩
 ·conv=>whnf
  have:l2=[]∧s'=⟨t,r,b,a⟩:=by
   unfold qb at h1;cases r<;>simp only[sf,hn,am,ai]at h1<;>exact⟨h1.1.symm,h1.2.symm⟩
  obtain⟨rfl,rfl⟩:=this;rw[aX];exact⟨rfl,rfl⟩
 ·conv=>whnf
  refine⟨_,_,lz ⟨t,r,b,a⟩,?_⟩;cases r with
  |nil=>simp only[qb,sf,hn]at h1;cases h1
  |cons t2 r=>
   simp only[qb,sf,hn,ar]at h1;obtain⟨⟨l3,s3⟩,h2,h3⟩:=h1;simp only[ai]at h3;obtain⟨rfl,rfl⟩:=h3;conv=>whnf
   refine⟨by simp[lim]at hb ⊢;omega,?_⟩;conv=>whnf
   refine⟨_,_,?_,wk [3,0] [0] [11] [] [] [] rfl,acc++[t],⟨t2,r,b,a⟩,l3,rfl,h2,by simp,by simp at hb ⊢;omega,by rw[bw];rfl⟩;simp
theorem eJ{x:Int}(h1: -9223372036854775808≤x)(h2:x≤9223372036854775807):IntKind.i64.wrap x=x:=by
 simp only[IntKind.wrap,IntKind.bits,IntKind.signed];simp only[iR];split
 ·rename_i h;simp only[ge_iff_le,bC]at h;omega
 ·rename_i h;simp only[ge_iff_le,bC]at h;omega
@[reducible] def str (s:ByteArray):List AC:=[.v (.string s)]
theorem oV{α:Type}{f:α→List AC}{l:List α}{m:Nat}{x:α}(h:l[m]?=some x):0≤(m:Int)∧(l.map f)[((m:Nat):Int).toNat]?=some (f x):=⟨by omega,by simp[h]⟩
theorem wH(l:List Tok)(hB:l.length≤4294967296):Ct 106 [.val (.one (.sl 119 4 (l.map tok) none))] [.row 9 1 ((l.map (·.s)).map str)] []:=by
 refine ct Tryz.func106 (by kernel_rfl) ?_;conv=>whnf
 refine⟨fun n st=>∃m i,n=l.length-m∧m≤l.length∧i=((m:Nat):Int)∧
  st=⟨[(8,.one (.v (.int .i64 i))),(7,.one (.v (.int .i64 ((l.map tok).length:Int)))),(6,.one (.sl 119 4 (l.map tok) none)),(3,.one (.sl 9 1 (((l.take m).map (·.s)).map str) (some (16,0))))],[],[(16,⟨0,9,1,true⟩)]⟩,
  ⟨_,_,wk [8,7,6,3] [] [] [] [(3,16,9,1)] [] rfl,0,0,rfl,aR _,rfl,rfl⟩,?_⟩
 rintro n st ⟨m,i,rfl,hm,rfl,rfl⟩;conv=>whnf
 cases hlt:decide (((m:Nat):Int)<((l.map tok).length:Int))
 ·conv=>whnf
  have:m=l.length:=by simp at hlt;omega
  subst this;rw[List.take_length];exact⟨rfl,rfl⟩
 ·conv=>whnf
  have hm2:m<l.length:=by simpa using hlt
  refine⟨_,oV (ad hm2),?_⟩;conv=>whnf
  refine⟨by simp[lim];omega,?_⟩;conv=>whnf
  refine⟨_,_,?_,wk [8,7,6,3] [] [16] [] [] [] rfl,m+1,_,rfl,hm2,eJ (x:=(m:Int)+1) (by omega) (by omega),?_⟩
  ·omega
  ·rw[cq hm2,bw,bw];rfl
def lpar:Sg:=⟨5,⟨#[40]⟩⟩
def rpar:Sg:=⟨5,⟨#[41]⟩⟩
def pf:Sg:=⟨5,⟨#[44]⟩⟩
def mO:Sg:=⟨5,⟨#[45,62]⟩⟩
def fg:Sg:=⟨1,.empty⟩
def conS:Sg:=⟨2,.empty⟩
def pq(s:PS):Bool:=eE s fg|| eE s conS|| eE s lpar
theorem uI(s:PS):Ct 108 [parA s] [.val (.one (.v (.bool (pq s))))] [par s]:=by
 refine ct Tryz.func108 (by kernel_rfl) ?_;unfold pq;conv=>whnf
 refine⟨_,_,iN s fg,?_⟩;cases h1:eE s fg
 ·conv=>whnf
  refine⟨_,_,iN s conS,?_⟩;cases h2:eE s conS
  ·conv=>whnf
   refine⟨_,_,dW _,?_⟩;conv=>whnf
   refine⟨_,_,iN s lpar,?_⟩;conv=>whnf
   exact⟨rfl,rfl⟩
  ·conv=>whnf
   exact⟨rfl,rfl⟩
 ·conv=>whnf
  exact⟨rfl,rfl⟩
def mw(s:PS)(n:Int):Bool×PS:=match decide (8≤n) with
 |true=>match eE s pf with
  |true=>iU (ut s) pf
  |false=>iU s pf
 |false=>iU s pf
theorem aar(s:PS)(n:Int):Ct 148 [parA s,.val (.one (.v (.int .i64 n)))] [.val (.one (.v (.bool (mw s n).1)))] [par (mw s n).2]:=by
 refine ct Tryz.func148 (by kernel_rfl) ?_;unfold mw;conv=>whnf
 cases h1:decide (8≤n)
 ·conv=>whnf
  refine⟨_,_,dW _,?_⟩;conv=>whnf
  refine⟨_,_,jz s pf,?_⟩;conv=>whnf
  exact⟨rfl,rfl⟩
 ·conv=>whnf
  refine⟨_,_,dW _,?_⟩;conv=>whnf
  refine⟨_,_,iN s pf,?_⟩;cases h2:eE s pf
  ·conv=>whnf
   refine⟨_,_,dW _,?_⟩;conv=>whnf
   refine⟨_,_,jz s pf,?_⟩;conv=>whnf
   exact⟨rfl,rfl⟩
  ·conv=>whnf
   refine⟨_,_,rq s,?_⟩;conv=>whnf
   refine⟨_,_,dW _,?_⟩;conv=>whnf
   refine⟨_,_,jz (ut s) pf,?_⟩;conv=>whnf
   exact⟨rfl,rfl⟩
def eS(v:ByteArray):List ByteArray→Nat→Int
 | [],_=> -1
 |x::xs,i=>match decide (v=x) with
  |true=>i
  |false=>eS v xs (i+1)
theorem xw(l:List ByteArray)(v:ByteArray)(hB:l.length≤4294967296):Ct 146 [.val (.one (.sl 9 1 (l.map str) none)),.val (.one (.v (.string v)))] [.val (.one (.v (.int .i64 (eS v l 0))))] []:=by
 refine ct Tryz.func146 (by kernel_rfl) ?_;conv=>whnf
 refine⟨fun n st=>∃m i,n=l.length-m∧m≤l.length∧i=((m:Nat):Int)∧eS v l 0=eS v (l.drop m) m∧
  st=⟨[(8,.one (.v (.int .i64 i))),(7,.one (.v (.int .i64 ((l.map str).length:Int)))),(6,.one (.sl 9 1 (l.map str) none)),(0,.one (.sl 9 1 (l.map str) none)),(1,.one (.v (.string v)))],[],[]⟩,
  ⟨_,_,wk [8,7,6,0,1] [] [] [] [] [] rfl,0,0,rfl,aR _,rfl,rfl,rfl⟩,?_⟩
 rintro n st ⟨m,i,rfl,hm,rfl,hix,rfl⟩;conv=>whnf
 cases hlt:decide (((m:Nat):Int)<((l.map str).length:Int))
 ·conv=>whnf
  have:m=l.length:=by simp at hlt;omega
  subst this;rw[hix,cF];exact⟨rfl,rfl⟩
 ·have hm2:m<l.length:=by simpa using hlt
  rw[aj hm2]at hix;simp only[eS]at hix;conv=>whnf
  refine⟨_,oV (ad hm2),?_⟩;conv=>whnf
  cases he:decide (v=l[m])
  ·rw[he]at hix;conv=>whnf
   refine⟨_,_,?_,wk [8,7,6,0,1] [] [] [] [] [] rfl,m+1,_,rfl,hm2,eJ (x:=(m:Int)+1) (by omega) (by omega),hix,rfl⟩;omega
  ·rw[he]at hix;conv=>whnf
   rw[hix];exact⟨rfl,rfl⟩
inductive Ty where
 |mk (k n:Int) (s:ByteArray) (kids:List Ty)
mutual
def tyC:Ty→List AC
 | .mk k n s kids=>[.v (.int .i64 k),.v (.int .i64 n),.v (.string s),.sl 88 4 (tysC kids) none]
def tysC:List Ty→List (List AC)
 | []=>[]
 |t::l=>tyC t::tysC l
end
theorem fN:∀(l l':List Ty),tysC (l++l')=tysC l++tysC l'
 | [],_=>rfl
 |t::l,l'=>by simp[tysC,fN l l']
theorem bU:∀l:List Ty,(tysC l).length=l.length
 | []=>rfl
 |t::l=>by simp[tysC,bU l]
theorem ga:∀{l:List Ty} {i:Nat} {t:Ty},l[i]?=some t→(tysC l)[i]?=some (tyC t)
 | [],_,_,h=>by simp at h
 |t::l,0,_,h=>by simp at h;subst h;rfl
 |t::l,i+1,_,h=>by simpa [tysC]using ga (l:=l) (by simpa using h)
def oi:ByteArray:=⟨#[44]⟩
def ot:ByteArray:=⟨#[45,62]⟩
mutual
def mN:Nat→List ByteArray→PS→Option (Ty×PS)
 |0,_,_=>none
 |k+1,vars,s=>match eE s fg with
  |true=>match decide (0≤eS s.t.s vars 0) with
   |true=>some (.mk 1 (eS s.t.s vars 0) .empty [],eN s)
   |false=>some (.mk 1 (-1) s.t.s [],eN s)
  |false=>match eE s conS with
   |true=>some (.mk 2 0 s.t.s [],eN s)
   |false=>match(cR s lpar).2.bad with
    |true=>some (.mk 0 0 .empty [],(cR s lpar).2)
    |false=>match typP k vars (cR s lpar).2 with
     |none=>none
     |some (t,s2)=>match ku k vars [t] s2 with
      |none=>none
      |some (l,s3)=>match l with
       | [t]=>some (t,(cR s3 rpar).2)
       |l=>some (.mk 2 0 oi l,(cR s3 rpar).2)
def ku:Nat→List ByteArray→List Ty→PS→Option (List Ty×PS)
 |0,_,_,_=>none
 |k+1,vars,acc,s=>match(mw s acc.length).1 with
  |false=>some (acc,(mw s acc.length).2)
  |true=>match typP k vars (mw s acc.length).2 with
   |none=>none
   |some (t,s2)=>ku k vars (acc++[t]) s2
def typP:Nat→List ByteArray→PS→Option (Ty×PS)
 |0,_,_=>none
 |k+1,vars,s=>match eE s conS with
  |true=>match lX k vars [] (eN s) with
   |none=>none
   |some (ks,s1)=>oy k vars (.mk 2 0 s.t.s ks) s1
  |false=>match mN k vars s with
   |none=>none
   |some (t,s1)=>oy k vars t s1
def oy:Nat→List ByteArray→Ty→PS→Option (Ty×PS)
 |0,_,_,_=>none
 |k+1,vars,t,s=>match(iU s mO).1 with
  |false=>some (t,(iU s mO).2)
  |true=>match typP k vars (iU s mO).2 with
   |none=>none
   |some (u,s3)=>some (.mk 2 0 ot [t,u],s3)
def lX:Nat→List ByteArray→List Ty→PS→Option (List Ty×PS)
 |0,_,_,_=>none
 |k+1,vars,acc,s=>match pq s with
  |false=>some (acc,s)
  |true=>match mN k vars s with
   |none=>none
   |some (t,s1)=>lX k vars (acc++[t]) s1
end
abbrev agi(vars:List ByteArray):Arg:=.val (.one (.sl 9 1 (vars.map str) none))
theorem ait:∀(k:Nat),k≤4294967296→(∀vars s t s',vars.length≤4294967296→mN k vars s=some (t,s')→Ct 109 [parA s,agi vars] [.val (.agg (tyC t))] [par s'])∧
 ∀vars s t s',vars.length≤4294967296→typP k vars s=some (t,s')→Ct 147 [parA s,agi vars] [.val (.agg (tyC t))] [par s']:=by
 intro k
 induction k using Nat.strongRecOn with
 |_ k ih=>
  intro hk;constructor
  ·intro vars s t s' hv h;cases k with
   |zero=>simp[mN]at h
   |succ k=>
    refine ct Tryz.func109 (by kernel_rfl) ?_;unfold mN at h;conv=>whnf
    refine⟨_,_,iN s fg,?_⟩;cases h1:eE s fg
    ·rw[h1]at h;simp only at h;conv=>whnf
     refine⟨_,_,iN s conS,?_⟩;cases h2:eE s conS
     ·rw[h2]at h;simp only at h;conv=>whnf
      refine⟨_,_,dW _,?_⟩;conv=>whnf
      refine⟨_,_,er s lpar,?_⟩;generalize (cR s lpar).2=s1 at h;obtain⟨t1,r1,b1,a1⟩:=s1;cases b1
      ·simp only at h;split at h
       ·cases h
       ·rename_i t2 s2 h3;split at h
        ·cases h
        ·rename_i l s3 h4;conv=>whnf
         obtain⟨k2,n2,st2,ks2⟩:=t2;refine⟨_,_,(ih k (by omega) (by omega)).2 vars _ _ _ hv h3,?_⟩;conv=>whnf
         refine⟨fun j st=>∃acc s5,j≤k∧ku j vars acc s5=some (l,s3)∧acc.length+j≤4294967296+4294967296∧
          st=⟨[(7,.one (.sl 88 4 (tysC acc) (some (53,0)))),(0,.one (.ptr 0 0 0)),(1,.one (.sl 9 1 (vars.map str) none)),(4,.one (.ptr 4 0 0))],
           [(0,⟨0,121,par s5⟩),(4,⟨0,88,[.v (.int .i64 0),.v (.int .i64 0),.v (.string .empty),.nil 88 4]⟩)],[(53,⟨0,88,4,true⟩)]⟩,
          ⟨_,_,wk [7,0,1,4] [0,4] [43] [(43,53)] [] [] rfl,[.mk k2 n2 st2 ks2],s2,au k,h4,by simp;omega,rfl⟩,?_⟩
         rintro j st ⟨acc,s5,hj,h5,hlen,rfl⟩;conv=>whnf
         refine⟨_,_,aar s5 ((tysC acc).length:Int),?_⟩;cases j with
         |zero=>simp[ku]at h5
         |succ j=>
          rw[bU];unfold ku at h5;cases hm:(mw s5 (acc.length:Int)).1
          ·rw[hm]at h5;simp only[am,ai]at h5;obtain⟨rfl,h6⟩:=h5;conv=>whnf
           refine⟨_,_,dW _,?_⟩;rw[h6];conv=>whnf
           refine⟨_,_,er s3 rpar,?_⟩;conv=>whnf
           cases hl:decide (((tysC acc).length:Int)=1)
           ·have hne:acc.length≠1:=by have:=ca hl;rw[bU]at this;omega
            split at h
            ·simp at hne
            ·simp only[am,ai]at h;obtain⟨rfl,rfl⟩:=h;conv=>whnf
             exact⟨rfl,rfl⟩
           ·have he:acc.length=1:=by have:=aJ hl;rw[bU]at this;omega
            match acc,he with
            | [.mk k3 n3 st3 ks3],_=>
             simp only[am,ai]at h;obtain⟨rfl,rfl⟩:=h;conv=>whnf
             refine⟨_,⟨by decide,rfl⟩,?_⟩;conv=>whnf
             exact⟨rfl,rfl⟩
          ·rw[hm]at h5;simp only at h5;split at h5
           ·cases h5
           ·rename_i t6 s6 h6;obtain⟨k6,n6,st6,ks6⟩:=t6;conv=>whnf
            refine⟨_,_,(ih j (by omega) (by omega)).2 vars _ _ _ hv h6,?_⟩;conv=>whnf
            refine⟨by rw[bU];simp[lim];omega,?_⟩;conv=>whnf
            refine⟨j,_,ah j,wk [7,0,1,4] [0,4] [53] [] [] [] rfl,_,s6,by omega,h5,by simp;omega,by rw[fN];rfl⟩
      ·simp only[am,ai]at h;obtain⟨rfl,rfl⟩:=h;conv=>whnf
       exact⟨rfl,rfl⟩
     ·rw[h2]at h;simp only[am,ai]at h;obtain⟨rfl,rfl⟩:=h;conv=>whnf
      refine⟨_,_,lz s,?_⟩;conv=>whnf
      exact⟨rfl,rfl⟩
    ·rw[h1]at h;simp only at h;conv=>whnf
     refine⟨_,_,lz s,?_⟩;conv=>whnf
     refine⟨_,_,xw vars s.t.s hv,?_⟩;conv=>whnf
     cases h2:decide (0≤eS s.t.s vars 0)
     ·rw[h2]at h;simp only[am,ai]at h;obtain⟨rfl,rfl⟩:=h;conv=>whnf
      exact⟨rfl,rfl⟩
     ·rw[h2]at h;simp only[am,ai]at h;obtain⟨rfl,rfl⟩:=h;conv=>whnf
      exact⟨rfl,rfl⟩
  ·intro vars s t s' hv h;cases k with
   |zero=>simp[typP]at h
   |succ k=>
    refine ct Tryz.func147 (by kernel_rfl) ?_;unfold typP at h;conv=>whnf
    refine⟨_,_,iN s conS,?_⟩;cases h1:eE s conS
    ·rw[h1]at h;simp only at h;split at h
     ·cases h
     ·rename_i t1 s1 h2;obtain⟨k1,n1,st1,ks1⟩:=t1;conv=>whnf
      refine⟨_,_,(ih k (by omega) (by omega)).1 vars _ _ _ hv h2,?_⟩;conv=>whnf
      refine⟨_,_,dW _,?_⟩;conv=>whnf
      refine⟨_,_,jz s1 mO,?_⟩;cases k with
      |zero=>simp[oy]at h
      |succ k=>
       unfold oy at h;cases h3:(iU s1 mO).1
       ·rw[h3]at h;simp only[am,ai]at h;obtain⟨rfl,rfl⟩:=h;conv=>whnf
        exact⟨rfl,rfl⟩
       ·rw[h3]at h;simp only at h;split at h
        ·cases h
        ·rename_i t4 s4 h4;simp only[am,ai]at h;obtain⟨rfl,rfl⟩:=h;obtain⟨k4,n4,st4,ks4⟩:=t4;conv=>whnf
         refine⟨_,_,(ih k (by omega) (by omega)).2 vars _ _ _ hv h4,?_⟩;conv=>whnf
         refine⟨by kernel_rfl,?_⟩;conv=>whnf
         exact⟨rfl,rfl⟩
    ·rw[h1]at h;simp only at h;split at h
     ·cases h
     ·rename_i ks1 s1 h2;conv=>whnf
      refine⟨_,_,lz s,?_⟩;conv=>whnf
      refine⟨fun j st=>∃acc s5,j≤k∧lX j vars acc s5=some (ks1,s1)∧acc.length+j≤4294967296+4294967296∧
       st=⟨[(0,.one (.ptr 0 0 0)),(1,.one (.sl 9 1 (vars.map str) none)),(4,.one (.ptr 4 0 0)),(5,.one (.ptr 5 0 0))],
        [(0,⟨0,121,par s5⟩),(4,⟨0,88,[.v (.int .i64 0),.v (.int .i64 0),.v (.string .empty),.nil 88 4]⟩),(5,⟨0,88,[.v (.int .i64 2),.v (.int .i64 0),.v (.string s.t.s),.sl 88 4 (tysC acc) (some (21,0))]⟩)],[(21,⟨0,88,4,true⟩)]⟩,
       ⟨_,_,wk [0,1,4,5] [0,4,5] [] [] [] [(5,3,21,88,4)] rfl,[],eN s,au k,h2,by simp;omega,rfl⟩,?_⟩
      rintro j st ⟨acc,s5,hj,h5,hlen,rfl⟩;conv=>whnf
      refine⟨_,_,uI s5,?_⟩;cases j with
      |zero=>simp[lX]at h5
      |succ j=>
       unfold lX at h5;cases hm:pq s5
       ·rw[hm]at h5;simp only[am,ai]at h5;obtain⟨rfl,rfl⟩:=h5;conv=>whnf
        refine⟨_,_,dW _,?_⟩;conv=>whnf
        refine⟨_,_,jz s5 mO,?_⟩;cases k with
        |zero=>simp[oy]at h
        |succ k=>
         unfold oy at h;cases h3:(iU s5 mO).1
         ·rw[h3]at h;simp only[am,ai]at h;obtain⟨rfl,rfl⟩:=h;conv=>whnf
          exact⟨rfl,rfl⟩
         ·rw[h3]at h;simp only at h;split at h
          ·cases h
          ·rename_i t4 s4 h4;simp only[am,ai]at h;obtain⟨rfl,rfl⟩:=h;obtain⟨k4,n4,st4,ks4⟩:=t4;conv=>whnf
           refine⟨_,_,(ih k (by omega) (by omega)).2 vars _ _ _ hv h4,?_⟩;conv=>whnf
           refine⟨by kernel_rfl,?_⟩;conv=>whnf
           exact⟨rfl,rfl⟩
       ·rw[hm]at h5;simp only at h5;split at h5
        ·cases h5
        ·rename_i t6 s6 h6;obtain⟨k6,n6,st6,ks6⟩:=t6;conv=>whnf
         refine⟨_,_,(ih j (by omega) (by omega)).1 vars _ _ _ hv h6,?_⟩;conv=>whnf
         refine⟨by rw[bU];simp[lim];omega,?_⟩;conv=>whnf
         refine⟨by kernel_rfl,?_⟩;conv=>whnf
         refine⟨j,_,ah j,wk [0,1,4,5] [0,4,5] [21] [] [] [] rfl,_,s6,by omega,h5,by simp;omega,by rw[fN];rfl⟩
mutual
inductive Exp where
 |mk (k at_:Int) (s:ByteArray) (n:Int) (kids:List Exp) (alts:List Alt)
inductive Alt where
 |mk (at_:Int) (s:ByteArray) (names:List ByteArray) (body:Exp)
end
mutual
def exC:Exp→List AC
 | .mk k a s n kids alts=>[.v (.int .i64 k),.v (.int .i64 a),.v (.string s),.v (.int .i64 n),.sl 78 6 (exsC kids) none,.sl 226 9 (cf alts) none]
def exsC:List Exp→List (List AC)
 | []=>[]
 |t::l=>exC t::exsC l
def altC:Alt→List AC
 | .mk a s names body=>.v (.int .i64 a):: .v (.string s):: .sl 9 1 (names.map str) none::exC body
def cf:List Alt→List (List AC)
 | []=>[]
 |t::l=>altC t::cf l
end
theorem qJ:∀(l l':List Exp),exsC (l++l')=exsC l++exsC l'
 | [],_=>rfl
 |t::l,l'=>by simp[exsC,qJ l l']
theorem eR:∀l:List Exp,(exsC l).length=l.length
 | []=>rfl
 |t::l=>by simp[exsC,eR l]
theorem dB:∀{l:List Exp} {i:Nat} {t:Exp},l[i]?=some t→(exsC l)[i]?=some (exC t)
 | [],_,_,h=>by simp at h
 |t::l,0,_,h=>by simp at h;subst h;rfl
 |t::l,i+1,_,h=>by simpa [exsC]using dB (l:=l) (by simpa using h)
theorem pE:∀(l l':List Alt),cf (l++l')=cf l++cf l'
 | [],_=>rfl
 |t::l,l'=>by simp[cf,pE l l']
theorem fU:∀l:List Alt,(cf l).length=l.length
 | []=>rfl
 |t::l=>by simp[cf,fU l]
theorem fa:∀{l:List Alt} {i:Nat} {t:Alt},l[i]?=some t→(cf l)[i]?=some (altC t)
 | [],_,_,h=>by simp at h
 |t::l,0,_,h=>by simp at h;subst h;rfl
 |t::l,i+1,_,h=>by simpa [cf]using fa (l:=l) (by simpa using h)
def agy:Exp:=.mk 0 0 .empty 0 [] []
def intS:Sg:=⟨3,.empty⟩
def tD:Sg:=⟨4,⟨#[116,114,117,101]⟩⟩
def qj:Sg:=⟨4,⟨#[102,97,108,115,101]⟩⟩
def isS(t:Tok)(x:Sg):Bool:=decide ((ofP t).k=x.k)&&decide ((ofP t).s=x.s)
def nD(s:PS):Bool:=match s.bad with
 |true=>false
 |false=>isS s.t fg|| (isS s.t conS|| (isS s.t intS|| (isS s.t tD|| (isS s.t qj|| isS s.t lpar))))
theorem ll(s:PS):Ct 151 [parA s] [.val (.one (.v (.bool (nD s))))] [par s]:=by
 obtain⟨t,r,bad,a⟩:=s;refine ct Tryz.func151 (by kernel_rfl) ?_;unfold nD;cases bad
 ·conv=>whnf
  refine⟨_,⟨by decide,rfl⟩,?_⟩;conv=>whnf
  refine⟨_,_,acU t,?_⟩;conv=>whnf
  cases h_nameS:(decide ((ofP t).k=1)&&decide ((ofP t).s=ByteArray.empty))
  rotate_left
  ·rw[show isS t fg=true from h_nameS];conv=>whnf
   exact⟨rfl,rfl⟩
  rw[show isS t fg=false from h_nameS];conv=>whnf
  cases h_conS:(decide ((ofP t).k=2)&&decide ((ofP t).s=ByteArray.empty))
  rotate_left
  ·rw[show isS t conS=true from h_conS];conv=>whnf
   exact⟨rfl,rfl⟩
  rw[show isS t conS=false from h_conS];conv=>whnf
  cases h_intS:(decide ((ofP t).k=3)&&decide ((ofP t).s=ByteArray.empty))
  rotate_left
  ·rw[show isS t intS=true from h_intS];conv=>whnf
   exact⟨rfl,rfl⟩
  rw[show isS t intS=false from h_intS];conv=>whnf
  refine⟨_,_,gB _,?_⟩;conv=>whnf
  cases h_trueS:(decide ((ofP t).k=4)&&decide ((ofP t).s=⟨#[116,114,117,101]⟩))
  rotate_left
  ·rw[show isS t tD=true from h_trueS];conv=>whnf
   exact⟨rfl,rfl⟩
  rw[show isS t tD=false from h_trueS];conv=>whnf
  refine⟨_,_,gB _,?_⟩;conv=>whnf
  cases h_falseS:(decide ((ofP t).k=4)&&decide ((ofP t).s=⟨#[102,97,108,115,101]⟩))
  rotate_left
  ·rw[show isS t qj=true from h_falseS];conv=>whnf
   exact⟨rfl,rfl⟩
  rw[show isS t qj=false from h_falseS];conv=>whnf
  refine⟨_,_,dW _,?_⟩;conv=>whnf
  cases h_lpar:(decide ((ofP t).k=5)&&decide ((ofP t).s=⟨#[40]⟩))
  rotate_left
  ·rw[show isS t lpar=true from h_lpar];conv=>whnf
   exact⟨rfl,rfl⟩
  rw[show isS t lpar=false from h_lpar];conv=>whnf
  exact⟨rfl,rfl⟩
 ·conv=>whnf
  exact⟨rfl,rfl⟩
theorem yg(xs:List (List AC)):Ct 149 [.val (.one (.sl 119 4 xs none))] [.val (.one (.clo 192 [.ref [.sl 119 4 xs none] 0]))] []:=by
 intro H w us hfz hG hargs hnd
 match us,hargs with
 | [u],hargs=>
 refine calls_of_wp Tryz.func149 rfl ?_;have hr:=rel0 (H:=H) (w:=w) (a:={ tmps:= #[u]++Array.replicate (Tryz.f149.ntmps-1) undef,defers:=[]}) (N:=4) (ts:=[(0,.one (.sl 119 4 xs none))]) hfz rfl rfl (by
  intro t v hf;simp only[cW,find]at hf;split at hf
  ·rename_i h;have h:=aP h;subst h;cases hf;exact hargs.1
  ·cases hf)
 refine gx (T:=T) (J:=J) (G:=G) E hG (fu Tryz.f149) (by kernel_rfl) _ (fun ex s=>(ex= .ret∧find 2 s.tmps=some (.one (.clo 192 [.ptr 1 0 0])))∧find 1 s.boxes=some ⟨0,114,[.sl 119 4 xs none]⟩) _ _ _ _ hr ?_ _ ?_
 ·conv=>whnf
  exact⟨⟨rfl,rfl⟩,rfl⟩
 ·rintro ex s κ' H' a' w' h ⟨⟨rfl,h2⟩,h3⟩;obtain⟨hnb,hin0,vs,hin1,hin2⟩:=h.box 1 _ h3;have hb1:¬κ'.blk 1 0<w.heap.size:=h.pb 1 _ h3;simp only at hin0 hin1 hin2;generalize hbb:κ'.blk 1 0=b1 at hb1 hin0 hin1;have hc:Cs Con.no H' [.sl 119 4 xs none] vs:=iO rfl hin2
  let H2:Fz:=fun b i=>if b=b1 then vs[i]? else H' b i
  have hle:Fz.le H' H2:=fun b i v hv=>by
   by_cases e:b=b1
   ·subst e;rw[hin0 i]at hv;cases hv
   ·simp[H2,e,hv]
  have hfz2:FzOk H2 w':=fun b i v hv=>by
   by_cases e:b=b1
   ·subst e;simp only[H2,if_true]at hv;unfold World.cell?;simp only[hin1];simpa using hv
   ·simp only[H2,e,if_false]at hv;exact h.fz b i v hv
  have hkb:∀b,b<w.heap.size→H2 b=H b:=fun b hb=>by
   funext i;have e:b≠b1:=by omega
   simp only[H2,e,if_false];exact congrFun (h.hk b hb) i
  have ht:=h.tmps 2 _ h2;cases ht with
  |one _ _ ht=>
  generalize hu:a'.tmps.getD 2 undef=uu at ht;cases ht with
  |clo _ _ ws hl hrr=>
  match ws,hl with
  | [v1],_=>
  have h1:=hrr 0 _ v1 rfl rfl;cases h1 with
  |ptr _ _ _ _=>
  obtain⟨vv,hvv⟩:∃vv,vv=Value.func (.func 192) #[] #[.pointer (some ⟨κ'.blk 1 0,0,none⟩)]:=⟨_,rfl⟩
  refine⟨h.defers,ff [vv],?_,ff [vv],H2,rfl,{ le:=Fz.le_trans h.h0 hle,fz:=hfz2,keep:=fun b hb _=>⟨h.keep b hb,hkb b hb⟩,outs:=trivial,grown:=h.grown,os:=h.os,tape:=h.tape,output:=h.output,res:=⟨[vv],⟨?_,trivial⟩,rfl⟩}⟩
  ·show(results Tryz.f149 a'.tmps).run Tryz.prog w'=_;refine fO (us:=[vv]) rfl ?_;intro j v u hv hu'
   match j,hv with
   |0,hv=>
    cases hv;cases hu';show(pure (a'.tmps.getD 2 undef):Sem Value).run Tryz.prog w'=_;rw[hu,←hvv];rfl
  ·rw[hvv];refine .one _ _ (.clo 192 _ [_] rfl fun j c u hj hu'=>?_)
   match j,hj with
   |0,hj=>
    cases hj;cases hu';rw[hbb];refine .ref _ 0 b1 0 vs hc.1 (fun j u hj=>?_) (fun j c u hj hu'=>(hc.2 j c u hj hu').mono (Con.le_refl _) hle);simp[H2,hj]
def agn(xs:List (List AC))(yl:Value)(i:Int):List (Nat×AV):=[(0,.one (.v yl)),(1,.one (.ref [.sl 119 4 xs none] 0)),(3,.one (.v (.int .i64 i)))]
def tr(xs:List (List AC))(yl:Value)(Jv:Nat→Fz→World→Prop)(i:Nat)(a:Act)(w:World):Prop:=
 ∃H,Jv i H w∧a.tmps.size=19∧a.defers=[]∧∀t v,find t (agn xs yl ((i:Int)-1))=some v→AVr Con.no H v (a.tmps.getD t undef)
theorem agH{α:Type}{t:Nat}{v:α}{x0 x1 x3:α}(h:find t [(0,x0),(1,x1),(3,x3)]=some v):(t=0∧v=x0)∨(t=1∧v=x1)∨(t=3∧v=x3):=by
 simp only[find]at h;split at h
 ·rename_i h0;cases h;exact .inl ⟨(aP h0).symm,rfl⟩
 ·split at h
  ·rename_i h0;cases h;exact .inr (.inl ⟨(aP h0).symm,rfl⟩)
  ·split at h
   ·rename_i h0;cases h;exact .inr (.inr ⟨(aP h0).symm,rfl⟩)
   ·cases h
theorem adz{xs:List (List AC)}{yl:Value}{Jv:Nat→Fz→World→Prop}(hst:∀i H w H' w',Jv i H w→Later H w H' w'→Jv i H' w'){i:Nat}{H H':Fz}{w w':World}{κ:Con}{s:St}{a:Act}(hJ:Jv i H w)
 (h:Rel { W0:=w,H0:=H,Pr:=fun b=>b<w.heap.size,N:=19,A:=0,ab:=fun _=>0,lt:=fun _ h=>h} κ H' s a w') {z:Int} (hz:z=(i:Int)-1)
 (hf:find 0 s.tmps=some (.one (.v yl))∧find 1 s.tmps=some (.one (.ref [.sl 119 4 xs none] 0))∧find 3 s.tmps=some (.one (.v (.int .i64 z)))):tr xs yl Jv i a w':=by
 refine⟨H',hst _ _ _ _ _ hJ (oP h),h.size,h.defers,fun t v ht=>?_⟩;rcases agH ht with⟨rfl,rfl⟩|⟨rfl,rfl⟩|⟨rfl,rfl⟩
 ·exact dO rfl (h.tmps _ _ hf.1)
 ·exact dO rfl (h.tmps _ _ hf.2.1)
 ·exact dO rfl (h.tmps _ _ (hz▸hf.2.2))
def mr(a:Act):Nat:=match a.tmps.getD 3 undef with
 | .int _ z=>(z+1).toNat
 |_=>0
theorem agA{xs:List (List AC)}{yl:Value}{Jv:Nat→Fz→World→Prop}{i:Nat}{a:Act}{w:World}(h:tr xs yl Jv i a w):mr a=i:=by
 obtain⟨H,-,-,-,ht⟩:=h;have:=(cN (ht 3 _ rfl)).1;unfold mr;rw[this];simp
noncomputable def c104a:Code:=match fu Tryz.f192 with
 | .seq a _=>a
 |_=>.skip
noncomputable def c104b:Code:=match fu Tryz.f192 with
 | .seq _ (.block _ (.loop b))=>b
 |_=>.skip
noncomputable def c104c:Code:=match c104b with
 | .seq a _=>a
 |_=>.skip
noncomputable def c104d:Code:=match c104b with
 | .seq _ (.seq (.block _ d) _)=>d
 |_=>.skip
noncomputable def c104e:Code:=match c104b with
 | .seq _ (.seq _ e)=>e
 |_=>.skip
noncomputable def ops104:Array Oper:=match c104d with
 | .seq (.region _ ops _) _=>ops
 |_=> #[]
noncomputable def o6:Oper:=ops104.toList.getD 6 default
noncomputable def o7:Oper:=ops104.toList.getD 7 default
theorem aeq:c104d= .seq (.region 3 ops104 false) (.cond (.tmp 18) .ret .skip):=rfl
theorem h6:ops104[6]?=some o6:=rfl
theorem h7:ops104[7]?=some o7:=rfl
theorem acx:List.range ops104.size=List.range' 0 6++[6,7]:=by kernel_rfl
theorem aiZ:im ops104=true:=by kernel_rfl
theorem aiL:ops104.toList.all (okOp 19 0)=true:=by kernel_rfl
theorem aiQ:o6.op= .call { callee:=.value (.tmp 11),args:= #[.tmp 12,.tmp 16],argTypes:= #[3,119]}:=rfl
theorem aiP:o7.op= .unOp .not 4 (.tmp 17):=rfl
theorem run6{P:Program}{a:Act}{w:World}{l:Nat}{n:Next}{x y:Value}(h11:a.tmps.getD 11 undef= .func (.yield l) #[] #[])(h12:a.tmps.getD 12 undef=x)(h16:a.tmps.getD 16 undef=y)(hy:(Instr.yield l #[x,y]).run P w= .ok n w):(execOp a.eval o6).run P w= .ok n w:=by
 unfold execOp;rw[aiQ];simp[resolve,Act.eval,h11,h12,h16,Deferred.ofValue,invoke,go_sem,hy]
theorem run7{P:Program}{a:Act}{w:World}(h17:a.tmps.getD 17 undef= .bool true):(execOp a.eval o7).run P w= .ok (.value (.bool false)) w:=by
 unfold execOp;rw[aiP];simp[Act.eval,h17,go_sem];rfl
theorem ui(us:List Value)(n j:Nat)(u:Value)(h:us[j]?=some u):(us.toArray++Array.replicate n undef).getD j undef=u:=by
 have hlt:=(aq.1 h).1;rw[aB,dr (by simpa using hlt)];simp[h]
theorem agb{xs:List (List AC)}(hlen:xs.length≤8589934592)(hxs:∀cs∈xs,∃t:Tok,cs=tok t){l:Nat}{ptr:Value}(Jv:Nat→Fz→World→Prop)
 (hst:∀i H w H' w',Jv i H w→Later H w H' w'→Jv i H' w') (hfz:∀i H w,Jv i H w→FzOk H w) (hGl:∀i H w,Jv i H w→bK G H)
 (hp:∀i H w,Jv i H w→ACr Con.no H (.ref [.sl 119 4 xs none] 0) ptr)
 (hround:∀i H w cs us,Jv (i+1) H w→xs[i]?=some cs→Cs Con.no H cs us→YieldAt Fence.wide 0 Tryz.prog l #[.int .i64 i,.agg us.toArray] w fun e w'=>e= .returned (.bool true)∧∃H',Fz.le H H'∧Jv i H' w')
 {H:Fz} {w:World} (h0:Jv xs.length H w):CallsIn Fence.wide 0 Tryz.prog 192 #[.func (.yield l) #[] #[],ptr] w fun e w'=>(∃v,e= .returned v)∧∃H',Jv 0 H' w':=by
 refine callsIn_of_wp (c:=.seq c104a (.block 0 (.loop (.seq c104c (.seq (.block 1 c104d) c104e))))) Tryz.func192 rfl trivial ?_;generalize hyl:Value.func (.yield l) #[] #[]=yl;have hyc:yl.oneCell'=true:=by rw[←hyl];rfl
 suffices key:∀a:Act,a.tmps.size=19→a.defers=[]→a.tmps.getD 0 undef=yl→a.tmps.getD 1 undef=ptr→(Code.seq c104a (.block 0 (.loop (.seq c104c (.seq (.block 1 c104d) c104e))))).wpIn Fence.wide 0 Tryz.prog (bodyPost Tryz.prog Tryz.f192 fun e w'=>(∃v,e= .returned v)∧∃H',Jv 0 H' w') a w by
  refine key _ ?_ rfl (ui [yl,ptr] _ 0 yl rfl) (ui [yl,ptr] _ 1 ptr rfl);simp only[Array.size_append,Array.size_replicate];kernel_rfl
 intro a hs hd ha hb;have hr:=rel0 (H:=H) (w:=w) (a:=a) (N:=19) (ts:=[(0,.one (.v yl)),(1,.one (.ref [.sl 119 4 xs none] 0))]) (hfz _ _ _ h0) hs hd (by
  intro t v hf;simp only[find]at hf;split at hf
  ·rename_i h;have h:=aP h;subst h;cases hf;rw[ha];exact .one _ _ (.v _ hyc)
  ·split at hf
   ·rename_i h;have h:=aP h;subst h;cases hf;rw[hb];exact .one _ _ (hp _ _ _ h0)
   ·cases hf)
 clear ha hb hs hd
 refine wpIn_seq (wpIn_wide.2 (gx (T:=T) (J:=J) (G:=G) E (hGl _ _ _ h0) c104a (by kernel_rfl) _ (fun ex s=>ex= .normal∧∃z,z=(xs.length:Int)-1∧(find 0 s.tmps=some (.one (.v yl))∧find 1 s.tmps=some (.one (.ref [.sl 119 4 xs none] 0))∧find 3 s.tmps=some (.one (.v (.int .i64 z))))) _ _ _ _ hr ?_ _ ?_))
 ·conv=>whnf
  exact⟨rfl,_,eJ (by omega) (by omega),rfl,rfl,rfl⟩
 ·rintro ex s κ' H' a' w' h ⟨rfl,z,hz,hf⟩;refine wpIn_block (wpIn_loop (fun a w=>∃i,i≤xs.length∧tr xs yl Jv i a w) (fun a _=>mr a) ⟨_,au _,adz hst h0 h hz hf⟩ ?_);clear hr h hf hz h0;rintro a w ⟨i,hi,hin⟩;have hmu:=agA hin;obtain⟨H1,hJ,hs,hd,ht⟩:=hin
  have hr1:=rel0 (H:=H1) (w:=w) (a:=a) (hfz _ _ _ hJ) hs hd ht
  refine wpIn_seq (wpIn_wide.2 (gx (T:=T) (J:=J) (G:=G) E (hGl _ _ _ hJ) c104c (by kernel_rfl) _ (fun ex s=>(ex=if i=0 then .exit 0 else .normal)∧(find 0 s.tmps=some (.one (.v yl))∧find 1 s.tmps=some (.one (.ref [.sl 119 4 xs none] 0))∧find 3 s.tmps=some (.one (.v (.int .i64 ((i:Int)-1)))))) _ _ _ _ hr1 ?_ _ ?_))
  ·conv=>whnf
   cases hc:decide ((0:Int)≤((i:Nat):Int)-1)
   ·conv=>whnf
    have:i=0:=by simp at hc;omega
    exact⟨by rw[if_pos this],rfl,rfl,rfl⟩
   ·conv=>whnf
    have:i≠0:=by simp at hc;omega
    exact⟨by rw[if_neg this],rfl,rfl,rfl⟩
  ·rintro ex s κ' H' a' w' h ⟨rfl,hf⟩;have hin:=adz hst hJ h rfl hf;clear h hf hr1 hJ hs hd ht
   match i,hin with
   |0,hin=>
    obtain⟨H1,hJ,hs,hd,ht⟩:=hin;exact⟨hd,_,fO (us:=[]) rfl (by simp),⟨_,rfl⟩,H1,hJ⟩
   |i+1,hin=>
    obtain⟨H1,hJ,hs,hd,ht⟩:=hin;have hr1:=rel0 (H:=H1) (w:=w') (a:=a') (hfz _ _ _ hJ) hs hd ht;show Code.wpIn _ _ _ (Code.seq (.block 1 c104d) c104e) _ a' w';refine wpIn_seq (wpIn_block ?_);rw[aeq];refine wpIn_seq (wpIn_region ?_);rw[acx]
    have hnx:xs[i]?=some (xs[i]'(by omega)):=ad (by omega);generalize xs[i]'(by omega)=cs at hnx
    have hpre:=ru (T:=T) (J:=J) (G:=G) (P:=Tryz.prog) E (hGl _ _ _ hJ) (fun o ho=>cO.1 aiL o ho) (Q:=fun e a w=>e= .normal∧∃s κ H',Rel { W0:=w',H0:=H1,Pr:=fun b=>b<w'.heap.size,N:=19,A:=0,ab:=fun _=>0,lt:=fun _ h=>h} κ H' s a w∧
     ((find 0 s.tmps=some (.one (.v yl))∧find 1 s.tmps=some (.one (.ref [.sl 119 4 xs none] 0))∧find 3 s.tmps=some (.one (.v (.int .i64 i))))∧find 11 s.tmps=some (.one (.v yl))∧find 12 s.tmps=some (.one (.v (.int .i64 i)))∧find 16 s.tmps=some (.agg cs)))
     (K:=fun s=>(find 0 s.tmps=some (.one (.v yl))∧find 1 s.tmps=some (.one (.ref [.sl 119 4 xs none] 0))∧find 3 s.tmps=some (.one (.v (.int .i64 i))))∧find 11 s.tmps=some (.one (.v yl))∧find 12 s.tmps=some (.one (.v (.int .i64 i)))∧find 16 s.tmps=some (.agg cs))
     (ops104.toList.take 6) 0 ⟨ops104.toList.drop 6,by simp⟩ _ _ _ _ _ hr1 ?_ (fun s κ H a w h1 h2=>⟨rfl,s,κ,H,h1,h2⟩)
    ·have:=gw (r:=none) (n:=0) (P:=Tryz.prog) (nf aiZ) [] (js:=[6,7]) (Q:=Exit.then ((Code.cond (.tmp 18) .ret .skip).wpIn Fence.wide 0 Tryz.prog (Exit.inBlock 1 (Exit.then (c104e.wpIn Fence.wide 0 Tryz.prog (Exit.then (fun a' w'=>(∃i,i≤xs.length∧tr xs yl Jv i a' w')∧mr a'<mr a) (Exit.inBlock 0 (bodyPost Tryz.prog Tryz.f192 fun e w'=>(∃v,e= .returned v)∧∃H',Jv 0 H' w')))) (Exit.then (fun a' w'=>(∃i,i≤xs.length∧tr xs yl Jv i a' w')∧mr a'<mr a) (Exit.inBlock 0 (bodyPost Tryz.prog Tryz.f192 fun e w'=>(∃v,e= .returned v)∧∃H',Jv 0 H' w')))))) (Exit.inBlock 1 (Exit.then (c104e.wpIn Fence.wide 0 Tryz.prog (Exit.then (fun a' w'=>(∃i,i≤xs.length∧tr xs yl Jv i a' w')∧mr a'<mr a) (Exit.inBlock 0 (bodyPost Tryz.prog Tryz.f192 fun e w'=>(∃v,e= .returned v)∧∃H',Jv 0 H' w')))) (Exit.then (fun a' w'=>(∃i,i≤xs.length∧tr xs yl Jv i a' w')∧mr a'<mr a) (Exit.inBlock 0 (bodyPost Tryz.prog Tryz.f192 fun e w'=>(∃v,e= .returned v)∧∃H',Jv 0 H' w')))))) ?_ (List.range' 0 6) a' w' hpre
     ·rw[aX]at this;exact this
     ·rintro a2 w2 ⟨s2,κ2,H2,h2,hf2,h11,h12,h16⟩;rw[aX];have hJ2:=hst _ _ _ _ _ hJ (oP h2);have e11:=(cN (h2.tmps _ _ h11)).1;have e12:=(cN (h2.tmps _ _ h12)).1;have e16:=h2.tmps _ _ h16;have e1:=dO rfl (h2.tmps _ _ hf2.2.1);have e0:=(cN (h2.tmps _ _ hf2.1)).1
      have e3:=(cN (h2.tmps _ _ hf2.2.2)).1;generalize h16v:a2.tmps.getD 16 undef=v16 at e16;cases e16 with
      |agg _ us hcs=>
      have hcs':Cs Con.no H2 cs us:=by obtain⟨t,rfl⟩:=hxs cs (bi hnx);exact iO rfl hcs
      obtain⟨fn,tmps,assign,body,hy,hrd⟩:=hround i H2 w2 cs us hJ2 hnx hcs';have hq:=run6 (P:=Tryz.prog) (e11.trans hyl.symm) e12 h16v hy;unfold wpOpsIn;simp only[h6];rw[if_pos (show Region.wanted o6 _=true from rfl)];refine⟨fun _ _=>trivial,?_⟩
      rw[show Fence.round (FR none)=none from rfl,Oper.semAt_none,hq,Oper.uponIn_round];refine⟨fun hd=>by simp[Fence.wide]at hd,RoundIn.mono hrd ?_⟩;rintro e w3 ⟨rfl,H3,hle,hJ3⟩;show wpOpsIn (FR none) 0 Tryz.prog ops104 _ [7] (a2.put (some 17) (.bool true)) w3;have hsz2:a2.tmps.size=19:=h2.size
      unfold wpOpsIn;simp only[h7];rw[if_pos (show Region.wanted o7 _=true from rfl)];refine⟨fun _ _=>trivial,?_⟩;rw[show Fence.round (FR none)=none from rfl,Oper.semAt_none,run7 (by simp[Act.put,hsz2]),Oper.uponIn_value]
      show(Code.cond (.tmp 18) .ret .skip).wpIn Fence.wide 0 Tryz.prog _ ((a2.put (some 17) (.bool true)).put (some 18) (.bool false)) w3;refine wpIn_cond_false (by simp[Act.put,Act.eval,hsz2]) (wpIn_skip ?_)
      show c104e.wpIn Fence.wide 0 Tryz.prog _ ((a2.put (some 17) (.bool true)).put (some 18) (.bool false)) w3;have hr3:=rel0 (H:=H3) (w:=w3) (a:=(a2.put (some 17) (.bool true)).put (some 18) (.bool false)) (N:=19) (ts:=agn xs yl i) (hfz _ _ _ hJ3) (by simp[Act.put,hsz2]) h2.defers (fun t v ht=>by
       have e:∀t,t≠17→t≠18→((a2.put (some 17) (.bool true)).put (some 18) (.bool false)).tmps.getD t undef=a2.tmps.getD t undef:=fun t h1 h2=>by
        simp[Act.put,aB,cb,Ne.symm h1,Ne.symm h2]
       rcases agH ht with⟨rfl,rfl⟩|⟨rfl,rfl⟩|⟨rfl,rfl⟩
       ·rw[e _ (by decide) (by decide),e0];exact .one _ _ (.v _ hyc)
       ·rw[e _ (by decide) (by decide)];exact e1.mono (Con.le_refl _) hle
       ·rw[e _ (by decide) (by decide),e3];exact .one _ _ (.v _ rfl))
      refine wpIn_wide.2 (gx (T:=T) (J:=J) (G:=G) E (hGl _ _ _ hJ3) c104e (by kernel_rfl) _ (fun ex s=>ex= .normal∧∃z,z=(i:Int)-1∧(find 0 s.tmps=some (.one (.v yl))∧find 1 s.tmps=some (.one (.ref [.sl 119 4 xs none] 0))∧find 3 s.tmps=some (.one (.v (.int .i64 z))))) _ _ _ _ hr3 ?_ _ ?_)
      ·conv=>whnf
       exact⟨rfl,_,eJ (by omega) (by omega),rfl,rfl,rfl⟩
      ·rintro ex s κ' H' a' w' h ⟨rfl,z,hz,hf⟩;have hin:=adz hst hJ3 h hz hf;refine⟨⟨i,by omega,hin⟩,?_⟩;rw[agA hin,hmu];omega
    ·have ez:((i+1:Nat):Int)-1=(i:Int):=by omega
     rw[ez];subst hyl;obtain⟨t,rfl⟩:=hxs cs (bi hnx);conv=>whnf
     refine⟨_,⟨by omega,hnx⟩,?_⟩;conv=>whnf
     exact⟨⟨rfl,rfl,rfl⟩,rfl,rfl,rfl⟩
def mA(l:List Tok)(a:Int)(b:Exp):Exp:=l.foldr (fun t b=>.mk 6 a t.s 0 [b] []) b
noncomputable def c86a:Code:=match fu Tryz.f110 with
 | .seq a _=>a
 |_=>.skip
noncomputable def c86b:Code:=match fu Tryz.f110 with
 | .seq _ (.seq (.seq b _) _)=>b
 |_=>.skip
noncomputable def c86l:Code:=match fu Tryz.f110 with
 | .seq _ (.seq (.seq _ (.block _ l)) _)=>l
 |_=>.skip
noncomputable def ops86a:Array Oper:=match c86l with
 | .rangeFunc _ _ (.region _ ops _) _=>ops
 |_=> #[]
noncomputable def ops86b:Array Oper:=match c86l with
 | .rangeFunc _ _ _ (.block _ (.region _ ops _))=>ops
 |_=> #[]
noncomputable def ops86c:Array Oper:=match fu Tryz.f110 with
 | .seq _ (.seq _ (.seq (.region _ ops _) _))=>ops
 |_=> #[]
theorem afV:c86l= .rangeFunc (.tmp 10) #[11,12] (.region 2 ops86a false) (.block 1 (.region 3 ops86b false)):=rfl
theorem aiG:ops86a.toList.all (okOp 20 7)=true:=by kernel_rfl
theorem aiF:ops86b.toList.all (okOp 20 7)=true:=by kernel_rfl
theorem aiE:ops86c.toList.all (okOp 20 7)=true:=by kernel_rfl
theorem aiU:im ops86a=true:=by kernel_rfl
theorem aiT:im ops86b=true:=by kernel_rfl
theorem aiS:im ops86c=true:=by kernel_rfl
def ts86(l:List Tok):List (Nat×AV):=[(10,.one (.clo 192 [.ref [.sl 119 4 (l.map tok) none] 0])),(4,.one (.ptr 4 0 0)),(5,.one (.ptr 5 0 0)),(6,.one (.ptr 6 0 0))]
def aib:Exp→AC→List AC
 | .mk k a s n kids _,c5=>[.v (.int .i64 k),.v (.int .i64 a),.v (.string s),.v (.int .i64 n),.sl 78 6 (exsC kids) none,c5]
def uL:Exp→AC→Prop
 | .mk _ _ _ _ _ alts,c5=>(c5= .nil 226 9∧alts=[])∨c5= .sl 226 9 (cf alts) none
def bs86(a:Int)(b:Exp)(c5:AC):List (Nat×Box):=[(4,⟨0,3,[.v (.int .i64 a)]⟩),(5,⟨0,78,aib b c5⟩),(6,⟨0,78,[.v (.int .i64 0),.v (.int .i64 0),.v (.string .empty),.v (.int .i64 0),.nil 78 6,.nil 226 9]⟩)]
theorem afj(l:List Tok)(a:Int)(b:Exp):evC Tryz.prog T J G c86a ⟨(cZ 0 [.val (.one (.sl 119 4 (l.map tok) none)),.val (.one (.v (.int .i64 a))),.val (.agg (exC b))]).1,(cZ 0 [.val (.one (.sl 119 4 (l.map tok) none)),.val (.one (.v (.int .i64 a))),.val (.agg (exC b))]).2,[]⟩
 fun ex s=>ex= .normal∧evC Tryz.prog T J G c86b s fun ex s=>ex= .normal∧∃c5,uL b c5∧Wk s ⟨ts86 l,bs86 a b c5,[]⟩:=by
 obtain⟨k,a',s,n,kids,alts⟩:=b;conv=>whnf
 refine⟨rfl,?_⟩;conv=>whnf
 refine⟨_,_,yg _,?_⟩;conv=>whnf
 exact⟨rfl,.sl 226 9 (cf alts) none,.inr rfl,wk [10,4,5,6] [4,5,6] [] [] [] [] rfl⟩
theorem aeE(l:List Tok)(a:Int)(b:Exp){c5:AC}(h:uL b c5)(t:Tok)(i:Int):evS Tryz.prog T J G ops86a ops86a.toList ⟨(12,.agg (tok t))::(11,.one (.v (.int .i64 i)))::ts86 l,bs86 a b c5,[]⟩
 fun s=>Wk s ⟨(8,.one (.ptr 8 0 0))::ts86 l,bs86 a b c5++[(8,⟨0,119,tok t⟩)],[]⟩:=by
 obtain⟨k,a',s,n,kids,alts⟩:=b;rcases h with⟨rfl,rfl⟩|rfl
 ·conv=>whnf
  exact wk [8,10,4,5,6] [4,5,6,8] [] [] [] [] rfl
 ·conv=>whnf
  exact wk [8,10,4,5,6] [4,5,6,8] [] [] [] [] rfl
theorem aid(l:List Tok)(a:Int)(b:Exp){c5:AC}(h:uL b c5)(t:Tok):evS Tryz.prog T J G ops86b ops86b.toList ⟨(8,.one (.ptr 8 0 0))::ts86 l,bs86 a b c5++[(8,⟨0,119,tok t⟩)],[]⟩
 fun s=>∃c5,uL (.mk 6 a t.s 0 [b] []) c5∧Wk s ⟨ts86 l,bs86 a (.mk 6 a t.s 0 [b] []) c5,[]⟩:=by
 obtain⟨k,a',s,n,kids,alts⟩:=b;rcases h with⟨rfl,rfl⟩|rfl
 ·conv=>whnf
  exact⟨.nil 226 9,.inl ⟨rfl,rfl⟩,wk [10,4,5,6] [4,5,6] [] [] [] [] rfl⟩
 ·conv=>whnf
  exact⟨.nil 226 9,.inl ⟨rfl,rfl⟩,wk [10,4,5,6] [4,5,6] [] [] [] [] rfl⟩
theorem ajk(l:List Tok)(a:Int)(b:Exp){c5:AC}(h:uL b c5):evS Tryz.prog T J G ops86c ops86c.toList ⟨ts86 l,bs86 a b c5,[]⟩
 fun s=>(resP T Tryz.f110.results.toList s fun rs'=>finP (cZ 0 [.val (.one (.sl 119 4 (l.map tok) none)),.val (.one (.v (.int .i64 a))),.val (.agg (exC b))]).2 s fun css'=>rs'=[.val (.agg (exC b))]∧css'=[])∧∀d,(d<3∨2048≤d)→find d s.boxes=none:=by
 obtain⟨k,a',s,n,kids,alts⟩:=b;rcases h with⟨rfl,rfl⟩|rfl
 ·conv=>whnf
  refine⟨?_,fun d hd=>?_⟩
  ·conv=>whnf
   exact⟨rfl,rfl⟩
  ·exact(bV (k:=4) (by omega) _ _).trans ((bV (k:=5) (by omega) _ _).trans (bV (k:=6) (by omega) _ _))
 ·conv=>whnf
  refine⟨?_,fun d hd=>?_⟩
  ·conv=>whnf
   exact⟨rfl,rfl⟩
  ·exact(bV (k:=4) (by omega) _ _).trans ((bV (k:=5) (by omega) _ _).trans (bV (k:=6) (by omega) _ _))
theorem ahz(l:List Tok)(a:Int)(b:Exp)(c5:AC)(t:Tok):∀d,(d<3∨2048≤d)→find d (bs86 a b c5++[(8,⟨0,119,tok t⟩)])=none:=by
 intro d hd;exact(bV (k:=4) (by omega) _ _).trans ((bV (k:=5) (by omega) _ _).trans ((bV (k:=6) (by omega) _ _).trans (bV (k:=8) (by omega) _ _)))
theorem afs(l:List Tok)(a:Int)(b:Exp)(c5:AC):∀d,(d<3∨2048≤d)→find d (bs86 a b c5)=none:=by
 intro d hd;exact(bV (k:=4) (by omega) _ _).trans ((bV (k:=5) (by omega) _ _).trans (bV (k:=6) (by omega) _ _))
theorem aei{κ κ':Con}{H H':Fz}{xs:List (List AC)}{u:Value}(h:AVr κ H (.one (.clo 192 [.ref [.sl 119 4 xs none] 0])) u)(hH:Fz.le H H'):AVr κ' H' (.one (.clo 192 [.ref [.sl 119 4 xs none] 0])) u:=by
 cases h with
 |one _ _ h=>
 cases h with
 |clo _ _ us hl hr=>
 match us,hl with
 | [p],_=>
 have h1:=hr 0 _ p rfl rfl;refine .one _ _ (.clo 192 _ [p] rfl fun j c u hj hu=>?_)
 match j,hj with
 |0,hj=>
  cases hj;cases hu;exact(fR rfl h1).mono (Con.no_le _) hH
theorem ajj{l:List Tok}{t:Nat}{v:AV}(h:find t (ts86 l)=some v):(t=10∧v= .one (.clo 192 [.ref [.sl 119 4 (l.map tok) none] 0]))∨(t=4∧v= .one (.ptr 4 0 0))∨(t=5∧v= .one (.ptr 5 0 0))∨(t=6∧v= .one (.ptr 6 0 0)):=by
 simp only[find,ts86]at h;split at h
 ·rename_i h0;cases h;exact .inl ⟨(aP h0).symm,rfl⟩
 ·split at h
  ·rename_i h0;cases h;exact .inr (.inl ⟨(aP h0).symm,rfl⟩)
  ·split at h
   ·rename_i h0;cases h;exact .inr (.inr (.inl ⟨(aP h0).symm,rfl⟩))
   ·split at h
    ·rename_i h0;cases h;exact .inr (.inr (.inr ⟨(aP h0).symm,rfl⟩))
    ·cases h
theorem adX{P:Program}{f:FuncId}{fn:Func}{c:Code}(hf:P.funcs[f]?=some fn)(hname:(fn.name== "runtime.NumGoroutine")=false) (hb:fn.body=some c) (args:Array Value) (w:World):(callFunc f args).run P w= .ok (.enter f args) w:=by
 have h1:fn.name≠ "runtime.NumGoroutine" :=by simpa using hname
 simp[callFunc,hf,h1,hb,mark]
theorem aio(ts:Array Value)(x y:Value):Array.foldl (fun(tmps:Array Value) (p:Tmp×Value)=>match p with|(t,a)=>tmps.setIfInBounds t a) ts ((#[11,12]:Array Tmp).zip #[x,y])=(ts.setIfInBounds 11 x).setIfInBounds 12 y:=by
 simp[Array.zip]
structure Jv86(X:Ctx)(l:List Tok)(a:Int)(b:Exp)(a0:Act)(L D:Nat)(rec:Loop)(i:Nat)(H:Fz)(w:World):Prop where
 st:∃κ c5,uL (mA (l.drop i) a b) c5∧Rel X κ H ⟨ts86 l,bs86 a (mA (l.drop i) a b) c5,[]⟩ a0 w
 lp:w.heap[L]?=some (.loop rec)
 df:w.heap[D]?=some (.deferred (some []))
theorem yY{l:List Tok}{i:Nat}{t:Tok}(h:l[i]?=some t)(a:Int)(b:Exp):mA (l.drop i) a b= .mk 6 a t.s 0 [mA (l.drop (i+1)) a b] []:=by
 rw[List.drop_eq_getElem?_toList_append,h];rfl
theorem aay(l:List Tok)(hl:l.length≤8589934592)(a:Int)(b:Exp):Ct 110 [.val (.one (.sl 119 4 (l.map tok) none)),.val (.one (.v (.int .i64 a))),.val (.agg (exC b))] [.val (.agg (exC (mA l a b)))] []:=by
 refine aim (T:=T) (J:=J) E (c:=.seq c86a (.seq (.seq c86b (.block 0 c86l)) (.seq (.region 4 ops86c false) .ret))) Tryz.func110 rfl rfl ?_;intro X κ H ac w hG hN hA hds h
 refine wpIn_seq (wpIn_wide.2 (gx (T:=T) (J:=J) (G:=G) E hG c86a (by rw[hN,hA];kernel_rfl) _ _ _ _ _ _ h (afj l a b) _ ?_));rintro ex s κ H ac w h ⟨rfl,he⟩;refine wpIn_seq (wpIn_seq (wpIn_wide.2 (gx (T:=T) (J:=J) (G:=G) E hG c86b (by rw[hN,hA];kernel_rfl) _ _ _ _ _ _ h he _ ?_)))
 clear h he;rintro ex s κ H ac w h0 ⟨rfl,c5,hc5,hwk⟩;obtain⟨κ,h⟩:=hwk X κ H ac w h0;clear h0 hwk s;have hG1:bK G H:=hG.mono h.h0;show(Code.block 0 c86l).wpIn _ _ _ _ _ _;refine wpIn_block ?_;rw[afV];refine wpIn_rangeFunc fun fn _=>?_;have ht:=h.tmps 10 _ rfl;cases ht with
 |one _ _ ht=>
 generalize hu:ac.tmps.getD 10 undef=uu at ht;cases ht with
 |clo _ _ us hl1 hr1=>
 match us,hl1 with
 | [ptr],_=>
 have hptr:=hr1 0 _ ptr rfl rfl;have hnp:∀{k:Nat},¬X.Pr (w.heap.size+k):=fun{k} hp=>by
  have:=X.lt _ hp;have:=h.grown;omega
 obtain⟨rec,hrec⟩:∃rec:LoopState→Option Code→Loop,rec=fun st pe=>{ state:=st,pending:=pe,fn,tmps:=ac.tmps,params:= #[11,12],assign:=.region 2 ops86a false,body:=.block 1 (.region 3 ops86b false),defers:=w.heap.size}:=⟨_,rfl⟩
 obtain⟨W1,hW1⟩:∃W1,(w.alloc (.deferred (some []))).alloc (.loop (rec .ready none))=W1:=⟨_,rfl⟩;have hL1:W1.heap[w.heap.size+1]?=some (.loop (rec .ready none)):=by
  rw[←hW1];have:=World.alloc_heap_new (w.alloc (.deferred (some []))) (.loop (rec .ready none));rwa [World.size_alloc]at this
 have hD1:W1.heap[w.heap.size]?=some (.deferred (some [])):=by
  rw[←hW1];show((w.heap.push _).push _)[w.heap.size]?=_;rw[dT,dT];simp
 have h1:Rel X κ H _ ac W1:=hW1▸(h.allocObj _).allocObj _
 refine⟨w.heap.size+1,[{ target:=.collected w.heap.size,args:= #[]}],W1,{ target:=.fn (.func 192) #[ptr],args:= #[.func (.yield (w.heap.size+1)) #[] #[]]},W1,192,#[.func (.yield (w.heap.size+1)) #[] #[],ptr],W1,?_,?_,fun _ _=>trivial,?_,fun hd=>by simp[Fence.wide]at hd,?_⟩
 ·rw[←hW1,hrec];exact run_enterLoop_outer _ _ _ _ _
 ·simp[resolve,rangeCall,Act.eval,hu,Deferred.ofValue,go_sem]
 ·simp[invoke,go_sem,adX Tryz.func192 (by kernel_rfl) rfl]
 ·have hxs:(l.map tok).length=l.length:=cG ..;refine(agb (xs:=l.map tok) (by rw[hxs];exact hl) (fun cs hc=>by obtain⟨t,-,rfl⟩:=bZ.1 hc;exact⟨t,rfl⟩)
   (fun i H' w'=>Fz.le H H'∧Jv86 X l a b ac (w.heap.size+1) w.heap.size (rec .ready none) i H' w')
   (fun i H1 w1 H2 w2 hj hla=>⟨Fz.le_trans hj.1 hla.le,?st,?lp,?df⟩) (fun i H1 w1 hj=>?fz) (fun i H1 w1 hj=>hG1.mono hj.1) (fun i H1 w1 hj=>?pt) (fun i H2 w2 cs us hj hcs hus=>?round) ⟨Fz.le_refl H,?first⟩).mono ?last
  case st=>
   obtain⟨κ',c,hc,hr⟩:=hj.2.st;exact⟨κ',c,hc,hr.later hla⟩
  case lp=>rw[hla.blk _ (ay.1 hj.2.lp).1];exact hj.2.lp
  case df=>rw[hla.blk _ (ay.1 hj.2.df).1];exact hj.2.df
  case fz=>
   obtain⟨κ',c,hc,hr⟩:=hj.2.st;exact hr.fz
  case pt=>
   obtain⟨κ',c,hc,hr⟩:=hj.2.st;have ht:=hr.tmps 10 _ rfl;rw[hu]at ht;cases ht with
   |one _ _ ht=>
   cases ht with
   |clo _ _ us hl1 hr1=>exact fR rfl (hr1 0 _ ptr rfl rfl)
  case first=>
   refine⟨⟨κ,c5,?_,?_⟩,hL1,hD1⟩
   ·rw[hxs,cF];exact hc5
   ·rw[hxs,cF];exact h1
  case round=>
   obtain⟨hle2,⟨κ2,c2,hc2,h2⟩,lp2,df2⟩:=hj;obtain⟨t,ht,rfl⟩:∃t,l[i]?=some t∧tok t=cs:=by simpa [aG]using hcs
   have hy:=run_yield (P:=Tryz.prog) (args:= #[.int .i64 i,.agg us.toArray]) lp2 (by rw[hrec];rfl);rw[hrec]at hy;dsimp only at hy;rw[aio]at hy;refine⟨fn,_,_,_,hy,roundIn_of_wpIn trivial ?_⟩;have hst:=yY ht a b;generalize mA (l.drop (i+1)) a b=bb at hc2 h2 hst
   have hput:Rel X κ2 H2 ⟨(12,.agg (tok t))::(11,.one (.v (.int .i64 i)))::ts86 l,bs86 a bb c2,[]⟩ { tmps:=(ac.tmps.setIfInBounds 11 (.int .i64 i)).setIfInBounds 12 (.agg us.toArray),defers:=[]} w2:=by
    have h3:=(h2.put (t:=11) (by rw[hN];decide) (v:=.one (.v (.int .i64 i))) (u:=.int .i64 i) (.one _ _ (.v _ rfl))).put (t:=12) (by rw[hN];decide) (v:=.agg (tok t)) (u:=.agg us.toArray) (.agg _ _ (hus.mono (Con.no_le _) (Fz.le_refl _)));exact{ h3 with defers:=hds.symm,size:=h3.size,tmps:=h3.tmps}
   refine pQ (X:=X.re κ2 H2 _ w2 7) (T:=T) (J:=J) (G:=G) E (hG1.mono hle2) (r:=some (w.heap.size+1)) (by show List.all _ (okOp X.N 7)=true;rw[hN];exact aiG) aiU [] hds (hput.re 7) (aeE l a bb hc2 t i) ?_;rintro s3 κ3' H3 a3 w3 h3' hwk3;obtain⟨κ3,h3⟩:=hwk3 _ _ _ _ _ h3'
   have h3b:=hput.back (by rw[hA];exact(by decide:(3:Nat)≤7)) h3 (by rw[hA];exact ahz l a bb c2 t);have lp3:=hput.other h3 lp2 rfl;have df3:=hput.other h3 df2 rfl;rw[hrec]at lp3;refine⟨_,run_beginRound lp3 rfl,?_⟩;have h4:=h3b.putObj (.loop { rec .ready none with state:=.busy}) lp3 rfl hnp
   rw[hrec]at h4;have lp4:=World.putObj_heap_same (w:=w3) (o:=.loop { rec .ready none with state:=.busy}) (ay.1 lp3).1;rw[hrec]at lp4
   have df4:=(World.putObj_heap_other (w:=w3) (r:=w.heap.size+1) (k:=w.heap.size) (o:=.loop { rec .ready none with state:=.busy}) (by omega)).trans df3;rw[hrec]at df4
   refine wpIn_block (pQ (X:=X.re κ3 H3 _ _ 7) (T:=T) (J:=J) (G:=G) E (hG1.mono (Fz.le_trans hle2 h3.h0)) (r:=some (w.heap.size+1)) (by show List.all _ (okOp X.N 7)=true;rw[hN];exact aiF) aiT [] hds (h4.re 7) (aid l a bb hc2 t) ?_);rintro s5 κ5' H5 a5 w5 h5' ⟨c5',hc5',hwk5⟩
   obtain⟨κ5,h5⟩:=hwk5 _ _ _ _ _ h5';have h5b:=h4.back (by rw[hA];exact(by decide:(3:Nat)≤7)) h5 (by rw[hA];exact afs l a _ c5');have lp5:=h4.other h5 lp4 rfl;have df5:=h4.other h5 df4 rfl
   refine⟨_,_,run_endRound none lp5,rfl,H5,Fz.le_trans h3.h0 h5.h0,Fz.le_trans hle2 (Fz.le_trans h3.h0 h5.h0),⟨κ5,c5',by rw[hst];exact hc5',?_⟩,?_,?_⟩
   ·rw[hst];refine Rel.putObj ?_ _ lp5 rfl hnp
    have hb4:∀d b,d<7→find d (bs86 a bb c2)=some b→b.gen=0→find d (bs86 a bb c2++[(8,⟨0,119,tok t⟩)])=some b→(∃b',find d (bs86 a (.mk 6 a t.s 0 [bb] []) c5')=some b'∧b'.gen=0)→ac.tmps.getD d undef= .pointer (some ⟨κ2.blk d 0,0,none⟩)→AVr κ5 H5 (.one (.ptr d 0 0)) (ac.tmps.getD d undef):=fun d bx hd e1 e2 e3 ⟨b',e4,e5⟩ e6=>by
     have k3:=h3.args d bx (.inl hd) e3;have k5:=h5.args d b' (.inl hd) e4;simp only[Ctx.re,e1,e2]at k3;simp only[Ctx.re,e3,e2,e5]at k5;have hnb:=(h5.box d b' e4).1;rw[e6,←k3,←k5];exact .one _ _ (.ptr d 0 0 (by omega))
    refine{ h5b with size:=h2.size,defers:=h2.defers,tmps:=fun t' v ht'=>?_};rcases ajj ht' with⟨rfl,rfl⟩|⟨rfl,rfl⟩|⟨rfl,rfl⟩|⟨rfl,rfl⟩
    ·exact aei (h2.tmps 10 _ rfl) (Fz.le_trans h3.h0 h5.h0)
    ·exact hb4 4 _ (by decide) rfl rfl rfl ⟨_,rfl,rfl⟩ (gD (h2.tmps 4 _ rfl)).1
    ·exact hb4 5 _ (by decide) rfl rfl rfl ⟨_,rfl,rfl⟩ (gD (h2.tmps 5 _ rfl)).1
    ·exact hb4 6 _ (by decide) rfl rfl rfl ⟨_,rfl,rfl⟩ (gD (h2.tmps 6 _ rfl)).1
   ·rw[hrec];exact World.putObj_heap_same (ay.1 lp5).1
   ·exact(World.putObj_heap_other (by omega)).trans df5
  case last=>
   rintro e w9 ⟨⟨v,rfl⟩,H9,hle9,⟨κ9,c9,hc9,h9⟩,lp9,df9⟩;rw[hrec]at lp9;refine⟨none,_,run_endLoop lp9 (by simp),?_⟩;have h10:=h9.putObj (.loop { rec .ready none with state:=.exhausted}) lp9 rfl hnp
   have df10:=(World.putObj_heap_other (w:=w9) (r:=w.heap.size+1) (k:=w.heap.size) (o:=.loop { rec .ready none with state:=.exhausted}) (by omega)).trans df9;rw[hrec]at h10 df10;show Code.wpIn Fence.wide 0 Tryz.prog (.seq (.region 4 ops86c false) .ret) _ { tmps:=ac.tmps,defers:=[_]++ac.defers} _
   rw[h9.defers,hds];refine wpIn_seq (pQ (X:=X.re κ9 H9 _ _ 7) (T:=T) (J:=J) (G:=G) (a:=ac) E (hG1.mono hle9) (r:=none) (by show List.all _ (okOp X.N 7)=true;rw[hN];exact aiE) aiS [{ target:=.collected w.heap.size,args:= #[]}] hds (h10.re 7) (ajk l a _ hc9) ?_)
   rintro s11 κ11 H11 a11 w11 h11 ⟨hres,hnone⟩;refine wpIn_ret ⟨.inr rfl,w.heap.size,s11,κ11,H11,rfl,h.grown,h10.other h11 df10 rfl,?_,?_⟩
   ·have:=h10.back (by rw[hA];exact(by decide:(3:Nat)≤7)) h11 (by rw[hA];exact hnone);exact{ this with defers:=hds.symm,size:=this.size,tmps:=this.tmps}
   ·rw[iw]at hres;exact hres
end
end Go.Proofs.YtgkenhpfiempbaaGreatDoor.V
