/-
  Part M07: B25, A19, A20, B26, B27, B28, A21, A22, A24, A25. Conditions stand in the theorems.
-/
import Derived.Test.YtgkenhpfiempbaaGreatDoorM06
import Derived.Test.YtgkenhpfiempbaaGreatDoorM03
import Derived.Test.YtgkenhpfiempbaaGreatDoorProg
import Derived.KernelRfl
import Derived.ChangeKeysEq
set_option linter.all false
set_option maxRecDepth 1000000
set_option maxHeartbeats 8000000
namespace Go.Proofs.YtgkenhpfiempbaaGreatDoor.V
open Go Go.Proofs
noncomputable section
section
variable(P:Program)(T:Tab)(J:Kn)(M:Md)(G:Nat→Option (List AC))
def frzK(v:AV)(s:St)(K:AV→St→Prop):Prop:=match M.ro with
 |true=>K v s
 |false=>runP P G s (frzE v) [] fun(v,ws) _=>writesK (K v) ws s.tmps s.boxes s.perms
def resV:List ResultVar→St→(List AV→St→Prop)→Prop
 | [],s,K=>K [] s
 | .tmp t::rs,s,K=>match find t s.tmps with
  |some v=>frzK P M G v s fun v s=>resV rs s fun vs s=>K (v::vs) s
  |none=>False
 | .cell x ty::rs,s,K=>match find x s.tmps with
  |some (.one (.ptr d g off))=>match find d s.boxes with
   |some b=>match Nat.beq b.gen g,nV T ty b.cells off with
    |true,some v=>frzK P M G v s fun v s=>resV rs s fun vs s=>K (v::vs) s
    |_,_=>False
   |none=>False
  |_=>False
def evFW(rv:List ResultVar)(c:Code)(Qa:List AV)(K:List WRes→List AC→Prop):Prop:=
 runP P G ⟨[],[],[]⟩ (qw 0 Qa) [] fun(vs,ws) _=>writesK (fun s=>evCW P T J M G c s fun e s=>match e with
  | .exit _=>False
  |_=>resV P T M G rv s fun vs s=>runP P G s (finE M vs Qa) [] fun(rs,cs) _=>K rs cs) (ws++tmpW 0 vs) [] [] []
end
section
variable{P:Program}{T:Tab}{J:Kn}{M:Md}{G:Nat→Option (List AC)}{X:Ctx}{κ κ0:Con}{H H0:Fz}{s s0:St}{a a0:Act}{w w0:World}{ft:Nat→List Nat}
theorem pO{α:Type}{x:Rd α}{K:α→List Loc→Prop}{s:St}(h:runP P G s x [] K):∃v ls,K v ls∧Runs P G s x v:=by
 obtain⟨v,ls,h1,-,h3⟩:=cK h;exact⟨v,ls,h1,h3 s ⟨fun _ _=>rfl,fun _ _=>rfl,fun _ _=>rfl⟩⟩
theorem ahO(h:WRel X κ H s a w){v:AV}{u:Value}{K:AV→St→Prop}(hv:AVr κ H v u)(hk:frzK P M G v s K):∃v' s' H',K v' s'∧WRel X κ H' s' a w∧Fz.le H H'∧AVr κ H' v' u:=by
 unfold frzK at hk;split at hk
 ·exact⟨v,s,H,hk,h,Fz.le_refl H,hv⟩
 ·obtain⟨⟨v',ws⟩,ls,h1,hr⟩:=pO hk;simp only at h1;rw[writesK_eq]at h1;obtain⟨H',k1,k2,k3⟩:=vO h hv hr;exact⟨v',_,H',h1,k1,k2,k3⟩
def zX(a:Act):ResultVar→Sem Value
 | .tmp t=>pure (a.tmps.getD t undef)
 | .cell x t=>do loadVar t (←asAddr (a.tmps.getD x undef))
theorem yH(E:Env P T J):∀{rv:List ResultVar} {s:St} {H:Fz} {K:List AV→St→Prop},WRel X κ H s a w→resV P T M G rv s K→∃(vs:List AV) (us:List Value) (s':St) (H':Fz),K vs s'∧WRel X κ H' s' a w∧Fz.le H H'∧us.length=vs.length∧us.length=rv.length∧
 (∀(j:Nat) (v:AV) (u:Value),vs[j]?=some v→us[j]?=some u→AVr κ H' v u)∧
 ∀(j:Nat) (v:ResultVar) (u:Value),rv[j]?=some v→us[j]?=some u→(zX a v).run P w= .ok u w
 | [],s,H,K,h,he=>⟨[],[],s,H,he,h,Fz.le_refl H,rfl,rfl,by simp,by simp⟩
 |r::rs,s,H,K,h,he=>by
  have val:∀{v:AV} {u:Value},AVr κ H v u→(zX a r).run P w= .ok u w→(frzK P M G v s fun v s=>resV P T M G rs s fun vs s=>K (v::vs) s)→
   ∃(vs:List AV) (us:List Value) (s':St) (H':Fz),K vs s'∧WRel X κ H' s' a w∧Fz.le H H'∧us.length=vs.length∧us.length=(r::rs).length∧
  (∀(j:Nat) (v:AV) (u:Value),vs[j]?=some v→us[j]?=some u→AVr κ H' v u)∧
  ∀(j:Nat) (v:ResultVar) (u:Value),(r::rs)[j]?=some v→us[j]?=some u→(zX a v).run P w= .ok u w:=by
   intro v u hv hrun hk;obtain⟨v',s1,H1,k1,k2,k3,k4⟩:=ahO h hv hk;obtain⟨vs,us,s2,H2,m1,m2,m3,m4,m5,m6,m7⟩:=yH E k2 k1;refine⟨v'::vs,u::us,s2,H2,m1,m2,Fz.le_trans k3 m3,by simp[m4],by simp[m5],fun j v u a1 a2=>?_,fun j v u a1 a2=>?_⟩
   ·cases j with
    |zero=>simp at a1 a2;subst a1;subst a2;exact k4.mono (Con.le_refl κ) m3
    |succ j=>exact m6 j v u (by simpa using a1) (by simpa using a2)
   ·cases j with
    |zero=>simp only[aZ,am]at a1 a2;subst a1;subst a2;exact hrun
    |succ j=>exact m7 j v u (by simpa using a1) (by simpa using a2)
  cases r with
  |tmp t=>
   unfold resV at he;split at he
   ·rename_i v hf;exact val (h.rel.tmps t v hf) rfl he
   ·exact he.elim
  |cell x ty=>
   unfold resV at he;split at he
   ·rename_i d g off hf;have hav:=h.rel.tmps x _ hf;split at he
    ·rename_i b hb;split at he
     ·rename_i v hg hp;have hg:=aP hg;obtain⟨cu,hu,hc,hcell⟩:=nA h.rel hb;obtain⟨u,hrun,hau⟩:=my E (base:=0) (off:=off) hp hc hcell;have hptr:=(gD hav).1;rw[←hg]at hptr;refine val hau ?_ he;simp only[zX,hptr,asAddr,aY,bu,aF]
      simpa [Instr.loadAt,Instr.sureAddr]using hrun
     ·exact he.elim
    ·exact he.elim
   ·exact he.elim
theorem pT(h:Rel X κ H s a w):∀{Qa ovs:List AV} {us:List Value} {i:Nat},us.length=Qa.length→(∀(j:Nat) (v:AV) (u:Value),Qa[j]?=some v→eH v=true→us[j]?=some u→a.tmps.getD (i+j) undef=u)→Runs P G s (na i Qa) ovs→
 ∃uo:List Value,uo.length=ovs.length∧(∀(j:Nat) (v:AV) (u:Value),ovs[j]?=some v→uo[j]?=some u→AVr κ H v u)∧∀{as':List AV} {bs:List (List Nat)} {cs:List AC},ky H w as' uo bs→rF as'=some cs→fi H w Qa us cs bs
 | [],ovs,us,i,hl,_,hr=>by
  simp only[na,Runs]at hr;subst hr;obtain rfl:=aK hl;refine⟨[],rfl,by simp,fun{as' bs cs} ha hu=>?_⟩;cases as' with
  |nil=>
   cases bs with
   |nil=>simp only[rF,am]at hu;subst hu;trivial
   |cons=>exact ha.elim
  |cons=>cases bs<;>exact ha.elim
 |av::Qa,ovs,[],i,hl,_,hr=>by simp at hl
 |av::Qa,ovs,u::us,i,hl,hv,hr=>by
  unfold na at hr;have hv':∀(j:Nat) (v:AV) (u:Value),Qa[j]?=some v→eH v=true→us[j]?=some u→a.tmps.getD (i+1+j) undef=u:=fun j v u hj0 ho hj=>by
   have:=hv (j+1) v u (by simpa using hj0) ho (by simpa using hj)
   rwa [show i+1+j=i+(j+1) by omega]
  split at hr
  ·rename_i how;obtain⟨v,hf,hr⟩:=hr;obtain⟨vs,r1,hr⟩:=az hr;simp only[Runs]at hr;subst hr;obtain⟨uo,k1,k2,k3⟩:=pT h (us:=us) (by simpa using hl) hv' r1;refine⟨u::uo,by simp[k1],fun j v' u' a1 a2=>?_,fun{as' bs cs} ha hu=>?_⟩
   ·cases j with
    |zero=>
     simp at a1 a2;subst a1;subst a2;have:=h.tmps i v hf
     rwa [show a.tmps.getD i undef=u from hv 0 av u rfl how rfl]at this
    |succ j=>exact k2 j v' u' (by simpa using a1) (by simpa using a2)
   ·cases as' with
    |nil=>cases bs<;>exact ha.elim
    |cons a1 as1=>
     cases bs with
     |nil=>exact ha.elim
     |cons b bs=>
      obtain⟨h1,h2⟩:=ha;cases a1 with
      |one c=>
       unfold rF at hu;split at hu
       ·rename_i cs' hcs;cases hu;exact .inr ⟨how,c,cs',b,bs,rfl,rfl,h1,k3 h2 hcs⟩
       ·cases hu
      |undef=>cases hu
      |agg=>cases hu
      |tup=>cases hu
      |ob=>cases hu
  ·rename_i how;obtain⟨uo,k1,k2,k3⟩:=pT h (us:=us) (by simpa using hl) hv' hr;exact⟨uo,k1,k2,fun{as' bs cs} ha hu=>by
    have:=k3 ha hu;exact .inl ⟨how,this⟩⟩
theorem adP(h:WRf X κ H s a w ft){vs Qa:List AV}{us ua:List Value}{rs:List WRes}{cs:List AC}(hl:us.length=vs.length)(hv:∀(j:Nat) (v:AV) (u:Value),vs[j]?=some v→us[j]?=some u→AVr κ H v u)
 (hla:ua.length=Qa.length) (ha:∀(j:Nat) (v:AV) (u:Value),Qa[j]?=some v→eH v=true→ua[j]?=some u→a.tmps.getD j undef=u) (hr:Runs P G s (finE M vs Qa) (rs,cs)):
 ∃bo br,fi H w Qa ua cs bo∧mQ H w rs us br∧(bo.flatten++br.flatten).Nodup∧∀k∈bo.flatten++br.flatten,¬X.Pr k:=by
 unfold finE at hr;obtain⟨⟨rs',bs,os,ls⟩,r1,hr⟩:=az hr;obtain⟨ovs,r2,hr⟩:=az hr;obtain⟨⟨as',hs,os'⟩,r3,hr⟩:=az hr;simp only at hr;split at hr
 ·rename_i cs' hck hun;simp only[Runs,ai]at hr;obtain⟨rfl,rfl⟩:=hr;simp only[aw]at hck;obtain⟨⟨c1,c2⟩,c3⟩:=hck;rw[pY]at c1 c2 c3;rw[oW,oW]at c1 c2;obtain⟨l1,br,p1,p2,p3,p4,p5,p6⟩:=aad h hl hv r1
  obtain⟨uo,q1,q2,q3⟩:=pT h.rel hla (i:=0) (fun j v u hj0 ho hj=>by rw[bA];exact ha j v u hj0 ho hj) r2;obtain⟨l2,bo,us',m1,m2,m3,m4,m5,-,-,-⟩:=td h q1 q2 r3;have hok:∀x∈l2.map Sum.inl++l1,ok2 κ s x:=fun x hx=>by
   rcases aM.1 hx with hx|hx
   ·obtain⟨y,hy,rfl⟩:=bZ.1 hx;exact m3 y hy
   ·exact p4 x hx
  have hfl:bo.flatten++br.flatten=(l2.map Sum.inl++l1).flatMap (lc κ s ft):=by
   rw[List.flatMap_append,List.flatMap_map,m4,p5];rfl
  have comm:∀{α:Type} {x y:List α},(x++y).Nodup→(y++x).Nodup:=fun{α x y} h=>by
   obtain⟨h1,h2,h3⟩:=aU.1 h;exact aU.2 ⟨h2,h1,fun a ha b hb e=>h3 b hb a ha e.symm⟩
  refine⟨bo,br,q3 m5 hun,p6,?_,fun k hk=>?_⟩
  ·rw[hfl];refine mB h hok ?_ ?_ ?_
   ·rw[rh,rf,ni,bw,m1,p1];exact comm c1
   ·rw[rh,rf,nh,bw,m2,p2];exact comm c2
   ·rw[aaB,vG,p3];exact c3
  ·rw[hfl]at hk;obtain⟨x,hx,hk⟩:=ei.1 hk;exact adM h (hok x hx) k hk
 ·exact hr.elim
theorem qu:∀{Qa:List AV} {us:List Value} {bss:List (List Nat)},ky H w Qa us bss→us.length=Qa.length
 | [],[],[],_=>rfl
 |a::Qa,u::us,b::bss,h=>by simp[qu h.2]
 | [],_::_,_,h=>by cases h
 |_::_,[],_,h=>by cases h
 | [],[],_::_,h=>by cases h
 |_::_,_::_,[],h=>by cases h
theorem py:∀{Qa:List AV} {us:List Value} {bss:List (List Nat)},ky H w Qa us bss→∀k∈bss.flatten,k<w.heap.size
 | [],[],[],_=>by simp
 |a::Qa,u::us,b::bss,h=>by
  intro k hk;rw[aO]at hk;rcases aM.1 hk with hk|hk
  ·have h1:=h.1;cases a with
   |one c=>exact TrR.lt h1 k hk
   |undef=>rw[h1.2]at hk;cases hk
   |agg=>rw[h1.2]at hk;cases hk
   |tup=>rw[h1.2]at hk;cases hk
   |ob=>rw[h1.2]at hk;cases hk
  ·exact py h.2 k hk
 | [],_::_,_,h=>by cases h
 |_::_,[],_,h=>by cases h
 | [],[],_::_,h=>by cases h
 |_::_,_::_,[],h=>by cases h
def jQ:Nat→List AV→List Nat
 |_,[]=>[]
 |i,a::Qa=>match eH a with
  |true=>i::jQ (i+1) Qa
  |false=>jQ (i+1) Qa
theorem oG:∀(Qa:List AV) (i x:Nat),x∈jQ i Qa→i≤x∧x<i+Qa.length
 | [],i,x,h=>by cases h
 |a::Qa,i,x,h=>by
  unfold jQ at h;rw[aT];split at h
  ·rcases aV.1 h with rfl|h
   ·exact⟨au _,by omega⟩
   ·have:=oG Qa (i+1) x h;omega
  ·have:=oG Qa (i+1) x h;omega
theorem pU:∀(Qa:List AV) (i j:Nat) (v:AV),Qa[j]?=some v→eH v=true→i+j∈jQ i Qa
 | [],i,j,v,h,_=>by simp at h
 |a::Qa,i,0,v,h,ho=>by
  simp at h;subst h;unfold jQ;rw[ho];exact aI ..
 |a::Qa,i,j+1,v,h,ho=>by
  have:=pU Qa (i+1) j v (by simpa using h) ho;rw[show i+1+j=i+(j+1) by omega]at this;unfold jQ;split
  ·exact aD _ this
  ·exact this
def LeC(c' c:AC):Prop:=∀H w u b,TrR H w c' u b→TrR H w c u b
def LeL:List AC→List AC→Prop
 | [],[]=>True
 |c'::l',c::l=>LeC c' c∧LeL l' l
 |_,_=>False
theorem LeL.refl:∀l,LeL l l
 | []=>trivial
 |_::l=>⟨fun _ _ _ _ h=>h,LeL.refl l⟩
theorem oH:∀{Qa:List AV} {us:List Value} {cs' cs:List AC} {bo:List (List Nat)},LeL cs' cs→fi H w Qa us cs' bo→fi H w Qa us cs bo
 | [],[],[],[],[],_,_=>trivial
 | [],[],[],_::_,_,hl,_=>hl.elim
 | [],[],[],[],_::_,_,h=>by cases h
 | [],[],_::_,_,_,_,h=>by cases h
 | [],_::_,_,_,_,_,h=>by cases h
 |_::_,[],_,_,_,_,h=>by cases h
 |a::Qa,u::us,cs',cs,bo,hl,h=>by
  have h:(eH a=false∧fi H w Qa us cs' bo)∨(eH a=true∧∃c cs1 b bs1,cs'=c::cs1∧bo=b::bs1∧TrR H w c u b∧fi H w Qa us cs1 bs1):=by
   cases cs'<;>cases bo<;>exact h
  rcases h with⟨h1,h2⟩|⟨h1,c,cs1,b,bs1,rfl,rfl,h3,h4⟩
  ·have:=oH hl h2;cases cs<;>cases bo<;>exact .inl ⟨h1,this⟩
  ·cases cs with
   |nil=>exact hl.elim
   |cons d ds=>exact .inr ⟨h1,d,ds,b,bs1,rfl,rfl,hl.1 _ _ _ _ h3,oH hl.2 h4⟩
def LeR(r' r:WRes):Prop:=∀H w u b,ResW H w r' u b→ResW H w r u b
def LeRs:List WRes→List WRes→Prop
 | [],[]=>True
 |c'::l',c::l=>LeR c' c∧LeRs l' l
 |_,_=>False
theorem LeRs.refl:∀l,LeRs l l
 | []=>trivial
 |_::l=>⟨fun _ _ _ _ h=>h,LeRs.refl l⟩
theorem vd:∀{us:List Value} {rs' rs:List WRes} {br:List (List Nat)},LeRs rs' rs→mQ H w rs' us br→mQ H w rs us br
 | [],[],[],[],_,_=>trivial
 |u::us,r'::rs',r::rs,b::br,hl,h=>⟨hl.1 _ _ _ _ h.1,vd hl.2 h.2⟩
 | [],[],[],_::_,_,h=>h.elim
 | [],_::_,_,_,_,h=>h.elim
 |_::_,[],_,_,_,h=>h.elim
 |_::_,_::_,_,[],_,h=>h.elim
 | [],[],_::_,_,hl,_=>hl.elim
 |_::_,_::_,[],_::_,hl,_=>hl.elim
theorem aeP(E:Env P T J)(EK:EnvK P T){f:Nat}{fn:Func}{c:Code}{Qa:List AV}{rs:List WRes}{cs:List AC}(hf:P.funcs[f]?=some fn)(hb:fn.body=some c)(hok:gC fn.ntmps 0 (jQ 0 Qa) c=true)(hn:(Nat.ble Qa.length fn.ntmps&&Nat.ble fn.ntmps 1500)=true)
 {K:List WRes→List AC→Prop} (hK:∀rs' cs',K rs' cs'→LeRs rs' rs∧LeL cs' cs) (he:evFW P T J M G fn.results.toList c Qa K):CTW P G f Qa rs cs:=by
 intro H w us bss hfz hG hargs hnd;simp only[aw]at hn;have hn1:=bB hn.1;have hn2:=bB hn.2;have hul:=qu hargs;refine calls_of_wp hf hb ?_
 let X:Ctx:={ W0:=w,H0:=H,Pr:=fun b=>b<w.heap.size∧b∉bss.flatten,N:=fn.ntmps,A:=0,ab:=fun _=>0,lt:=fun _ h=>h.1,np:=jQ 0 Qa,pv:=fun i=>us.getD i undef}
 have hget:∀(j:Nat) (u:Value),us[j]?=some u→(us.toArray++Array.replicate (fn.ntmps-us.toArray.size) undef).getD j undef=u:=by
  intro j u hj;have hlt:=(aq.1 hj).1;rw[aB,dr (by simpa using hlt)];simp[hj]
 generalize ha0:({ tmps:=us.toArray++Array.replicate (fn.ntmps-us.toArray.size) undef,defers:=[]}:Act)=a0;have hrel:Rel X Con.no H ⟨[],[],[]⟩ a0 w:=by
  subst ha0
  refine{ size:=by simp[X];omega,tmps:=by simp[find],defers:=rfl,fz:=hfz,hk:=fun _ _=>rfl,h0:=Fz.le_refl H,box:=by simp[find],nobox:=fun _ _=>rfl,args:=by simp[find],perm:=by simp[find],noperm:=fun _ _=>rfl,bb:=by simp[find],rr:=by simp[find],br:=by simp[find],pb:=by simp[find],pr:=by simp[find],keep:=fun _ _=>rfl,grown:=au _,os:=rfl,tape:=rfl,output:=rfl}
 have hpv:∀i,i∈jQ 0 Qa→a0.tmps.getD i undef=us.getD i undef:=by
  intro i hi;obtain⟨-,hi⟩:=oG Qa 0 i hi;have hj:=ad (l:=us) (i:=i) (by omega);subst ha0;rw[hget i _ hj,aC,hj];rfl
 have hw:WRf X Con.no H ⟨[],[],[]⟩ a0 w (fun _=>[]):=⟨hrel,{ lt:=by simp[find],ok:=by simp[find],nodup:=by simp,blk:=by simp,apart:=by simp},by simp only[X];omega,hpv⟩;unfold evFW at he;obtain⟨⟨vs,ws⟩,ls,he,hr⟩:=pO he;simp only at he;rw[writesK_eq]at he
 obtain⟨κ1,f1,k1,k2,k3,k4⟩:=tf hrel rfl hw hr (fun _ _ _ _ _=>rfl) (fun _ _ _ _ _=>rfl) hargs hnd (fun k hk=>⟨py hargs k hk,fun hp=>hp.2 hk,by simp[find],by simp[find],by simp⟩);have k5:=nT (vs:=vs) (i:=0) k1.wrel (by omega) (fun j v hj=>by
  have hlt:=(aq.1 hj).1;have hu:=ad (l:=us) (i:=j) (by omega);have:=k4 j v _ hj hu;subst ha0;rw[bA,hget j _ hu];exact this)
 rw[←bQ]at k5;refine lf (X:=X) E EK hG (aR _) c hok _ _ κ1 H _ w k5 he _ fun ex s κ' H' a' w' h hk=>?_;have fin:(resV P T M G fn.results.toList s fun vs s=>runP P G s (finE M vs Qa) [] fun(rs',cs') _=>K rs' cs')→
  a'.defers=[]∧∃v,(results fn a'.tmps).run P w'= .ok v w'∧∃v' H',Ending.returned v= .returned v'∧CPostW H w Qa us bss.flatten rs cs v' H' w':=by
  intro hk;obtain⟨vs,ur,s2,H2,m1,m2,m3,m4,m5,m6,m7⟩:=yH E h hk;obtain⟨⟨rs',cs'⟩,ls,hk2,hr2⟩:=pO m1;obtain⟨hlr,hle⟩:=hK _ _ hk2;obtain⟨ft2,hf2⟩:=m2.f;obtain⟨bo,br,z1,z2,z3,z4⟩:=adP hf2 m4 m6 hul (fun j v u hj0 ho hj=>by
   rw[h.n.2 j (by simp only[X];have:=pU Qa 0 j v hj0 ho;rwa [bA]at this)];simp only[X];rw[aC,hj];rfl) hr2
  refine⟨h.rel.defers,ff ur,fO m5 (fun j v u h1 h2=>by have:=m7 j v u h1 h2;cases v<;>exact this),ff ur,H2,rfl,?_⟩;exact{
   le:=m2.rel.h0,fz:=m2.rel.fz,keep:=fun b hb1 hb2=>⟨m2.rel.keep b ⟨hb1,hb2⟩,m2.rel.hk b ⟨hb1,hb2⟩⟩,grown:=m2.rel.grown,os:=m2.rel.os,tape:=m2.rel.tape,output:=m2.rel.output
   res:=⟨ur,bo,br,oH hle z1,vd hlr z2,rfl,z3,fun k hk=>by
    have:=z4 k hk;by_cases hm:k∈bss.flatten
    ·exact .inl hm
    ·right;rcases eA k w.heap.size with hlt|hge
     ·exact absurd ⟨hlt,hm⟩ this
     ·exact hge⟩}
 cases ex with
 |normal=>exact fin hk
 |ret=>exact fin hk
 |exit i=>exact hk.elim
theorem ain(E:Env P T J)(EK:EnvK P T){f:Nat}{fn:Func}{c:Code}{Qa:List AV}{rs:List WRes}{cs:List AC}(hf:P.funcs[f]?=some fn)(hb:fn.body=some c)(hok:gC fn.ntmps 0 (jQ 0 Qa) c=true)(hn:(Nat.ble Qa.length fn.ntmps&&Nat.ble fn.ntmps 1500)=true)
 (he:evFW P T J M G fn.results.toList c Qa fun rs' cs'=>rs'=rs∧cs'=cs):CTW P G f Qa rs cs:=by
 exact aeP (M:=M) (K:=fun rs' cs'=>rs'=rs∧cs'=cs) E EK hf hb hok hn (fun rs' cs' h=>⟨by rw[h.1];exact LeRs.refl _,by rw[h.2];exact LeL.refl _⟩) he
end
inductive TT where
 |leaf
 |node (k:Nat) (i:TI) (l r:TT)
def TT.get(t:Nat):TT→Option TI
 | .leaf=>none
 | .node k i l r=>match Nat.beq t k with
  |true=>some i
  |false=>match Nat.blt t k with
   |true=>l.get t
   |false=>r.get t
def TT.all(p:Nat→TI→Bool):TT→Bool
 | .leaf=>true
 | .node k i l r=>p k i&&l.all p&&r.all p
theorem TT.get_all{p:Nat→TI→Bool}{t:Nat}{i:TI}:∀{T:TT},T.all p=true→T.get t=some i→p t i=true
 | .leaf,_,h=>by cases h
 | .node k i' l r,ha,h=>by
  simp only[TT.all,aw]at ha;unfold TT.get at h;split at h
  ·rename_i hk;cases h;rw[aP hk];exact ha.1.1
  ·split at h
   ·exact TT.get_all ha.1.2 h
   ·exact TT.get_all ha.2 h
def ajt:TT:=(.node 145 ⟨1,false,[.nil 95 1],.slice 95 1 8⟩
 (.node 78 ⟨6,true,[.v (.int .i64 0),.v (.int .i64 0),.v (.string .empty),.v (.int .i64 0),.nil 78 6,.nil 226 9],.struct [(0,1,false),(1,1,false),(2,1,false),(3,1,false),(4,1,false),(5,1,false)]⟩
 (.node 44 ⟨1,false,[.nil 9 1],.slice 9 1 16⟩
 (.node 23 ⟨1,false,[.nil 5 1],.slice 5 1 1⟩
 (.node 5 ⟨1,false,[.v (.int .u8 0)],.int .u8⟩
 (.node 3 ⟨1,false,[.v (.int .i64 0)],.int .i64⟩
 (.node 2 ⟨1,false,[.v (.int .i64 0)],.int .i64⟩
 .leaf .leaf) (.node 4 ⟨1,false,[.v (.bool false)],.other⟩
 .leaf .leaf)) (.node 22 ⟨1,false,[.nil 23 1],.slice 23 1 24⟩
 (.node 9 ⟨1,false,[.v (.string .empty)],.str⟩
 .leaf .leaf) .leaf)) (.node 32 ⟨6,true,[.v (.int .i64 0),.v (.int .i64 0),.v (.string .empty),.v (.int .i64 0),.v (.int .i64 0),.v (.int .i64 0)],.struct [(0,1,false),(1,1,false),(2,1,false),(3,1,false),(4,1,false),(5,1,false)]⟩
 (.node 28 ⟨6,true,[.v (.int .i64 0),.v (.int .i64 0),.v (.int .i64 0),.v (.int .i64 0),.nil 3 1,.nil 3 1],.struct [(0,1,false),(1,1,false),(2,1,false),(3,1,false),(4,1,false),(5,1,false)]⟩
 (.node 24 ⟨1,false,[.nil 3 1],.slice 3 1 8⟩
 .leaf .leaf) (.node 30 ⟨1,false,[.v (.int .i64 0)],.int .i64⟩
 .leaf .leaf)) (.node 37 ⟨1,false,[.nil 36 2],.slice 36 2 32⟩
 (.node 36 ⟨2,true,[.v (.string .empty),.v (.string .empty)],.array 2 9 1 false⟩
 .leaf .leaf) .leaf))) (.node 68 ⟨1,false,[.v .nilFunc],.other⟩
 (.node 58 ⟨1,false,[.nil 80 8],.slice 80 8 112⟩
 (.node 52 ⟨1,false,[.nil 110 8],.slice 110 8 64⟩
 (.node 49 ⟨1,false,[.nil 24 1],.slice 24 1 24⟩
 .leaf .leaf) (.node 57 ⟨1,false,[.nil 158 4],.slice 158 4 72⟩
 .leaf .leaf)) (.node 65 ⟨1,false,[.v (.pointer none)],.other⟩
 (.node 60 ⟨2,true,[.nil 158 4,.nil 80 8],.struct [(0,1,false),(1,1,false)]⟩
 .leaf .leaf) .leaf)) (.node 74 ⟨2,true,[.v (.pointer none),.nil 5 1],.struct [(0,1,false),(1,1,false)]⟩
 (.node 71 ⟨7,true,[.nil 158 4,.nil 80 8,.nil 24 1,.nil 24 1,.nil 3 1,.v (.map none),.v (.int .i64 0)],.struct [(0,2,true),(2,1,false),(3,1,false),(4,1,false),(5,1,false),(6,1,false)]⟩
 (.node 69 ⟨1,false,[.v (.map none)],.map 92 90⟩
 .leaf .leaf) (.node 72 ⟨1,false,[.v (.pointer none)],.other⟩
 .leaf .leaf)) (.node 76 ⟨1,false,[.nil 226 9],.slice 226 9 136⟩
 (.node 75 ⟨1,false,[.nil 78 6],.slice 78 6 88⟩
 .leaf .leaf) .leaf)))) (.node 110 ⟨8,true,[.v (.int .i64 0),.v (.int .i64 0),.v (.int .i64 0),.v (.int .i64 0),.v (.int .i64 0),.v (.int .i64 0),.v (.int .i64 0),.v (.int .i64 0)],.struct [(0,1,false),(1,3,true),(4,1,false),(5,1,false),(6,1,false),(7,1,false)]⟩
 (.node 94 ⟨1,false,[.nil 105 3],.slice 105 3 24⟩
 (.node 90 ⟨5,true,[.v (.int .i64 0),.v (.int .i64 0),.v (.int .i64 0),.v (.string .empty),.nil 88 4],.struct [(0,1,false),(1,4,true)]⟩
 (.node 86 ⟨1,false,[.nil 88 4],.slice 88 4 56⟩
 (.node 80 ⟨8,true,[.v (.string .empty),.v (.int .i64 0),.v (.int .i64 0),.v (.int .i64 0),.v (.string .empty),.v (.int .i64 0),.nil 78 6,.nil 226 9],.struct [(0,1,false),(1,1,false),(2,6,true)]⟩
 .leaf .leaf) (.node 88 ⟨4,true,[.v (.int .i64 0),.v (.int .i64 0),.v (.string .empty),.nil 88 4],.struct [(0,1,false),(1,1,false),(2,1,false),(3,1,false)]⟩
 .leaf .leaf)) (.node 93 ⟨1,false,[.v (.pointer none)],.other⟩
 (.node 92 ⟨1,true,[.v (.string .empty)],.struct [(0,1,false)]⟩
 .leaf .leaf) .leaf)) (.node 101 ⟨1,false,[.nil 4 1],.slice 4 1 1⟩
 (.node 97 ⟨6,true,[.nil 24 1,.v (.int .i64 0),.nil 3 1,.v (.int .i64 0),.v (.int .u64 0),.nil 105 3],.struct [(0,1,false),(1,1,false),(2,1,false),(3,1,false),(4,1,false),(5,1,false)]⟩
 (.node 95 ⟨1,false,[.v (.int .u64 0)],.int .u64⟩
 .leaf .leaf) (.node 99 ⟨3,true,[.nil 3 1,.v (.int .i64 0),.v (.int .i64 0)],.struct [(0,1,false),(1,1,false),(2,1,false)]⟩
 .leaf .leaf)) (.node 108 ⟨3,true,[.v (.int .i64 0),.v (.int .i64 0),.v (.int .i64 0)],.struct [(0,1,false),(1,1,false),(2,1,false)]⟩
 (.node 105 ⟨3,true,[.v (.int .i64 0),.v (.int .i64 0),.v (.int .i64 0)],.struct [(0,1,false),(1,1,false),(2,1,false)]⟩
 .leaf .leaf) .leaf))) (.node 126 ⟨1,false,[.v (.map none)],.map 130 3⟩
 (.node 119 ⟨4,true,[.v (.int .i64 0),.v (.int .i64 0),.v (.string .empty),.v (.int .i64 0)],.struct [(0,1,false),(1,1,false),(2,1,false),(3,1,false)]⟩
 (.node 114 ⟨1,false,[.nil 119 4],.slice 119 4 40⟩
 (.node 112 ⟨1,false,[.v (.int .u64 0)],.int .u64⟩
 .leaf .leaf) (.node 117 ⟨1,false,[.v (.pointer none)],.other⟩
 .leaf .leaf)) (.node 125 ⟨1,false,[.v (.pointer none)],.other⟩
 (.node 121 ⟨3,true,[.nil 119 4,.v (.bool false),.v (.int .i64 0)],.struct [(0,1,false),(1,1,false),(2,1,false)]⟩
 .leaf .leaf) .leaf)) (.node 137 ⟨1,false,[.nil 90 5],.slice 90 5 64⟩
 (.node 130 ⟨1,true,[.v (.string .empty)],.struct [(0,1,false)]⟩
 (.node 128 ⟨2,true,[.nil 158 4,.v (.map none)],.struct [(0,1,false),(1,1,false)]⟩
 .leaf .leaf) (.node 134 ⟨1,false,[.nil 190 6],.slice 190 6 80⟩
 .leaf .leaf)) (.node 143 ⟨1,false,[.v (.pointer none)],.other⟩
 (.node 141 ⟨2,true,[.v (.int .i64 0),.v (.string .empty)],.struct [(0,1,false),(1,1,false)]⟩
 .leaf .leaf) .leaf))))) (.node 242 ⟨1,false,[.v (.map none)],.map 244 4⟩
 (.node 192 ⟨1,false,[.v (.map none)],.map 200 90⟩
 (.node 169 ⟨1,false,[.v (.map none)],.map 168 4⟩
 (.node 163 ⟨3,true,[.v (.string .empty),.v (.int .i64 0),.nil 88 4],.struct [(0,1,false),(1,1,false),(2,1,false)]⟩
 (.node 156 ⟨1,false,[.nil 163 3],.slice 163 3 48⟩
 (.node 154 ⟨2,true,[.v (.int .i64 0),.v (.string .empty)],.struct [(0,1,false),(1,1,false)]⟩
 .leaf .leaf) (.node 158 ⟨4,true,[.v (.string .empty),.v (.int .i64 0),.nil 9 1,.nil 163 3],.struct [(0,1,false),(1,1,false),(2,1,false),(3,1,false)]⟩
 .leaf .leaf)) (.node 168 ⟨2,true,[.v (.string .empty),.v (.bool false)],.struct [(0,1,false),(1,1,false)]⟩
 (.node 166 ⟨1,false,[.v .nilFunc],.other⟩
 .leaf .leaf) .leaf)) (.node 186 ⟨1,false,[.v .nilFunc],.other⟩
 (.node 182 ⟨1,false,[.v (.pointer none)],.other⟩
 (.node 176 ⟨1,false,[.v (.map none)],.map 9 3⟩
 .leaf .leaf) (.node 184 ⟨7,true,[.nil 24 1,.nil 3 1,.nil 3 1,.nil 3 1,.nil 4 1,.v (.int .i64 0),.nil 24 1],.struct [(0,1,false),(1,1,false),(2,1,false),(3,1,false),(4,1,false),(5,1,false),(6,1,false)]⟩
 .leaf .leaf)) (.node 191 ⟨1,false,[.v (.pointer none)],.other⟩
 (.node 190 ⟨6,true,[.v (.string .empty),.v (.int .i64 0),.v (.int .i64 0),.v (.int .i64 0),.v (.string .empty),.nil 88 4],.struct [(0,1,false),(1,5,true)]⟩
 .leaf .leaf) .leaf))) (.node 209 ⟨1,false,[.v (.map none)],.map 3 3⟩
 (.node 198 ⟨7,true,[.nil 263 4,.nil 3 1,.v (.int .i64 0),.v (.map none),.nil 158 4,.v (.map none),.v (.bool false)],.struct [(0,3,true),(3,1,false),(4,1,false),(5,1,false),(6,1,false)]⟩
 (.node 194 ⟨1,false,[.nil 263 4],.slice 263 4 56⟩
 (.node 193 ⟨1,false,[.v (.map none)],.map 200 252⟩
 .leaf .leaf) (.node 196 ⟨3,true,[.nil 263 4,.nil 3 1,.v (.int .i64 0)],.struct [(0,1,false),(1,1,false),(2,1,false)]⟩
 .leaf .leaf)) (.node 204 ⟨2,true,[.v (.int .i64 0),.v (.bool false)],.struct [(0,1,false),(1,1,false)]⟩
 (.node 200 ⟨1,true,[.v (.string .empty)],.struct [(0,1,false)]⟩
 .leaf .leaf) .leaf)) (.node 235 ⟨1,false,[.v (.pointer none)],.other⟩
 (.node 226 ⟨9,true,[.v (.int .i64 0),.v (.string .empty),.nil 9 1,.v (.int .i64 0),.v (.int .i64 0),.v (.string .empty),.v (.int .i64 0),.nil 78 6,.nil 226 9],.struct [(0,1,false),(1,1,false),(2,1,false),(3,6,true)]⟩
 (.node 210 ⟨1,false,[.v (.pointer none)],.other⟩
 .leaf .leaf) (.node 233 ⟨1,false,[.v (.map none)],.map 130 4⟩
 .leaf .leaf)) (.node 238 ⟨2,true,[.v (.map none),.nil 9 1],.struct [(0,1,false),(1,1,false)]⟩
 (.node 236 ⟨1,false,[.v (.map none)],.map 281 3⟩
 .leaf .leaf) .leaf)))) (.node 291 ⟨1,false,[.v (.int .u32 0)],.int .u32⟩
 (.node 261 ⟨2,true,[.v (.int .i64 0),.v (.int .i64 0)],.struct [(0,1,false),(1,1,false)]⟩
 (.node 251 ⟨1,false,[.v (.pointer none)],.other⟩
 (.node 246 ⟨2,true,[.v (.int .i64 0),.v (.int .i64 0)],.struct [(0,1,false),(1,1,false)]⟩
 (.node 244 ⟨2,true,[.v (.int .i64 0),.v (.int .i64 0)],.array 2 3 1 false⟩
 .leaf .leaf) (.node 248 ⟨1,false,[.nil 246 2],.slice 246 2 16⟩
 .leaf .leaf)) (.node 259 ⟨1,false,[.v (.map none)],.map 3 261⟩
 (.node 252 ⟨1,false,[.nil 204 2],.slice 204 2 16⟩
 .leaf .leaf) .leaf)) (.node 278 ⟨1,false,[.v .nilFunc],.other⟩
 (.node 267 ⟨64,true,[.v (.int .u8 0),.v (.int .u8 0),.v (.int .u8 0),.v (.int .u8 0),.v (.int .u8 0),.v (.int .u8 0),.v (.int .u8 0),.v (.int .u8 0),.v (.int .u8 0),.v (.int .u8 0),.v (.int .u8 0),.v (.int .u8 0),.v (.int .u8 0),.v (.int .u8 0),.v (.int .u8 0),.v (.int .u8 0),.v (.int .u8 0),.v (.int .u8 0),.v (.int .u8 0),.v (.int .u8 0),.v (.int .u8 0),.v (.int .u8 0),.v (.int .u8 0),.v (.int .u8 0),.v (.int .u8 0),.v (.int .u8 0),.v (.int .u8 0),.v (.int .u8 0),.v (.int .u8 0),.v (.int .u8 0),.v (.int .u8 0),.v (.int .u8 0),.v (.int .u8 0),.v (.int .u8 0),.v (.int .u8 0),.v (.int .u8 0),.v (.int .u8 0),.v (.int .u8 0),.v (.int .u8 0),.v (.int .u8 0),.v (.int .u8 0),.v (.int .u8 0),.v (.int .u8 0),.v (.int .u8 0),.v (.int .u8 0),.v (.int .u8 0),.v (.int .u8 0),.v (.int .u8 0),.v (.int .u8 0),.v (.int .u8 0),.v (.int .u8 0),.v (.int .u8 0),.v (.int .u8 0),.v (.int .u8 0),.v (.int .u8 0),.v (.int .u8 0),.v (.int .u8 0),.v (.int .u8 0),.v (.int .u8 0),.v (.int .u8 0),.v (.int .u8 0),.v (.int .u8 0),.v (.int .u8 0),.v (.int .u8 0)],.array 64 5 1 false⟩
 (.node 263 ⟨4,true,[.v (.bool false),.v (.string .empty),.nil 3 1,.v (.int .i64 0)],.struct [(0,1,false),(1,1,false),(2,1,false),(3,1,false)]⟩
 .leaf .leaf) (.node 276 ⟨1,false,[.v .nilFunc],.other⟩
 .leaf .leaf)) (.node 284 ⟨1,false,[.v (.int .i64 0)],.int .i64⟩
 (.node 281 ⟨2,true,[.v (.string .empty),.v (.bool false)],.struct [(0,1,false),(1,1,false)]⟩
 .leaf .leaf) .leaf))) (.node 311 ⟨1,false,[.v (.map none)],.map 3 4⟩
 (.node 303 ⟨2,true,[.v (.int .i64 0),.v (.int .i64 0)],.array 2 3 1 false⟩
 (.node 300 ⟨2,true,[.v (.int .i64 0),.v (.int .i64 0)],.array 2 3 1 false⟩
 (.node 299 ⟨1,false,[.v (.map none)],.map 300 4⟩
 .leaf .leaf) (.node 302 ⟨1,false,[.v (.map none)],.map 303 4⟩
 .leaf .leaf)) (.node 310 ⟨1,false,[.v .nilFunc],.other⟩
 (.node 304 ⟨1,false,[.nil 303 2],.slice 303 2 16⟩
 .leaf .leaf) .leaf)) (.node 342 ⟨20,true,[.v (.int .u64 0),.v (.int .u64 0),.v (.int .u64 0),.v (.int .u64 0),.v (.int .u64 0),.v (.int .u64 0),.v (.int .u64 0),.v (.int .u64 0),.v (.int .u64 0),.v (.int .u64 0),.v (.int .u64 0),.v (.int .u64 0),.v (.int .u64 0),.v (.int .u64 0),.v (.int .u64 0),.v (.int .u64 0),.v (.int .u64 0),.v (.int .u64 0),.v (.int .u64 0),.v (.int .u64 0)],.array 20 95 1 false⟩
 (.node 323 ⟨1,false,[.v (.pointer none)],.other⟩
 (.node 319 ⟨1,false,[.v (.int .u64 0)],.int .u64⟩
 .leaf .leaf) (.node 336 ⟨24,true,[.v (.int .u8 0),.v (.int .u8 0),.v (.int .u8 0),.v (.int .u8 0),.v (.int .u8 0),.v (.int .u8 0),.v (.int .u8 0),.v (.int .u8 0),.v (.int .u8 0),.v (.int .u8 0),.v (.int .u8 0),.v (.int .u8 0),.v (.int .u8 0),.v (.int .u8 0),.v (.int .u8 0),.v (.int .u8 0),.v (.int .u8 0),.v (.int .u8 0),.v (.int .u8 0),.v (.int .u8 0),.v (.int .u8 0),.v (.int .u8 0),.v (.int .u8 0),.v (.int .u8 0)],.array 24 5 1 false⟩
 .leaf .leaf)) (.node 344 ⟨32,true,[.v (.int .u8 0),.v (.int .u8 0),.v (.int .u8 0),.v (.int .u8 0),.v (.int .u8 0),.v (.int .u8 0),.v (.int .u8 0),.v (.int .u8 0),.v (.int .u8 0),.v (.int .u8 0),.v (.int .u8 0),.v (.int .u8 0),.v (.int .u8 0),.v (.int .u8 0),.v (.int .u8 0),.v (.int .u8 0),.v (.int .u8 0),.v (.int .u8 0),.v (.int .u8 0),.v (.int .u8 0),.v (.int .u8 0),.v (.int .u8 0),.v (.int .u8 0),.v (.int .u8 0),.v (.int .u8 0),.v (.int .u8 0),.v (.int .u8 0),.v (.int .u8 0),.v (.int .u8 0),.v (.int .u8 0),.v (.int .u8 0),.v (.int .u8 0)],.array 32 5 1 false⟩
 (.node 343 ⟨65,true,[.v (.int .u8 0),.v (.int .u8 0),.v (.int .u8 0),.v (.int .u8 0),.v (.int .u8 0),.v (.int .u8 0),.v (.int .u8 0),.v (.int .u8 0),.v (.int .u8 0),.v (.int .u8 0),.v (.int .u8 0),.v (.int .u8 0),.v (.int .u8 0),.v (.int .u8 0),.v (.int .u8 0),.v (.int .u8 0),.v (.int .u8 0),.v (.int .u8 0),.v (.int .u8 0),.v (.int .u8 0),.v (.int .u8 0),.v (.int .u8 0),.v (.int .u8 0),.v (.int .u8 0),.v (.int .u8 0),.v (.int .u8 0),.v (.int .u8 0),.v (.int .u8 0),.v (.int .u8 0),.v (.int .u8 0),.v (.int .u8 0),.v (.int .u8 0),.v (.int .u8 0),.v (.int .u8 0),.v (.int .u8 0),.v (.int .u8 0),.v (.int .u8 0),.v (.int .u8 0),.v (.int .u8 0),.v (.int .u8 0),.v (.int .u8 0),.v (.int .u8 0),.v (.int .u8 0),.v (.int .u8 0),.v (.int .u8 0),.v (.int .u8 0),.v (.int .u8 0),.v (.int .u8 0),.v (.int .u8 0),.v (.int .u8 0),.v (.int .u8 0),.v (.int .u8 0),.v (.int .u8 0),.v (.int .u8 0),.v (.int .u8 0),.v (.int .u8 0),.v (.int .u8 0),.v (.int .u8 0),.v (.int .u8 0),.v (.int .u8 0),.v (.int .u8 0),.v (.int .u8 0),.v (.int .u8 0),.v (.int .u8 0),.v (.int .u8 0)],.array 65 5 1 false⟩
 .leaf .leaf) .leaf))))))
def T:Tab:=fun t=>ajt.get t
def fbs(f:Nat):Bool:=Nat.ble 3 f&&Nat.ble f 228&& !Nat.beq f 91&& !Nat.beq f 191
def J:Kn:={ sg:=fun t=>Nat.beq t 154,fb:=fbs}
def bruT:List AC:=[.v (.int .u8 0),.v (.int .u8 1),.v (.int .u8 56),.v (.int .u8 2),.v (.int .u8 57),.v (.int .u8 49),.v (.int .u8 28),.v (.int .u8 3),.v (.int .u8 61),.v (.int .u8 58),.v (.int .u8 42),.v (.int .u8 50),.v (.int .u8 38),.v (.int .u8 29),.v (.int .u8 17),.v (.int .u8 4),.v (.int .u8 62),.v (.int .u8 47),.v (.int .u8 59),.v (.int .u8 36),.v (.int .u8 45),.v (.int .u8 43),.v (.int .u8 51),.v (.int .u8 22),.v (.int .u8 53),.v (.int .u8 39),.v (.int .u8 33),.v (.int .u8 30),.v (.int .u8 24),.v (.int .u8 18),.v (.int .u8 12),.v (.int .u8 5),.v (.int .u8 63),.v (.int .u8 55),.v (.int .u8 48),.v (.int .u8 27),.v (.int .u8 60),.v (.int .u8 41),.v (.int .u8 37),.v (.int .u8 16),.v (.int .u8 46),.v (.int .u8 35),.v (.int .u8 44),.v (.int .u8 21),.v (.int .u8 52),.v (.int .u8 32),.v (.int .u8 23),.v (.int .u8 11),.v (.int .u8 54),.v (.int .u8 26),.v (.int .u8 40),.v (.int .u8 15),.v (.int .u8 34),.v (.int .u8 20),.v (.int .u8 31),.v (.int .u8 10),.v (.int .u8 25),.v (.int .u8 14),.v (.int .u8 19),.v (.int .u8 9),.v (.int .u8 13),.v (.int .u8 8),.v (.int .u8 7),.v (.int .u8 6)]
def G:Nat→Option (List AC)
 |0=>some [.v (.int .i64 1),.v (.string .empty)]
 |1=>some [.v (.int .i64 2),.v (.string .empty)]
 |2=>some bruT
 |_=>none
def ack:Value→AC→Bool
 | .int k n,.v (.int k' n')=>decide (k=k')&&decide (n=n')
 | .bool b,.v (.bool b')=>b==b'
 | .string s,.v (.string u)=>decide (s=u)
 | .slice none 0 0,.nil _ _=>true
 | .map none,.v (.map none)=>true
 | .pointer none,.v (.pointer none)=>true
 | .nilFunc,.v .nilFunc=>true
 |_,_=>false
def uY:List Value→List AC→Bool
 | [],[]=>true
 |x::xs,c::cs=>ack x c&&uY xs cs
 |_,_=>false
def rp(P:Program):List Field→List (Nat×Nat×Bool)→Bool
 | [],[]=>true
 |f::fs,(o,n,g)::gs=>decide (f.offset=o)&&(match P.info? f.type,P.underlying f.type with
  |some ti,some d=>decide (ti.size=n)&&d.isRow==g
  |_,_=>false)&&rp P fs gs
 |_,_=>false
def undB(P:Program)(d:TypeDesc):TK→Bool
 | .other=>true
 | .int k=>match d with| .int k'=>decide (k'=k)|_=>false
 | .str=>match d with| .string=>true|_=>false
 | .slice e sz bytes=>match d with
  | .slice e'=>decide (e'=e)&&(match P.info? e with
   |some ti=>decide (ti.size=sz)&&decide (ti.bytes=bytes)&&(match ti.zero with|some z=>decide (z.cells.size=sz)|none=>false)&&decide (0<sz)
   |none=>false)
  |_=>false
 | .map k e=>match d with
  | .map k' e'=>decide (k'=k)&&decide (e'=e)
  |_=>false
 | .array len e sz _=>match d with
  | .array len' e'=>decide (len'=len)&&decide (e'=e)&&(match P.info? e with|some ti=>decide (ti.size=sz)|none=>false)
  |_=>false
 | .struct fs=>match d with
  | .struct fields=>rp P fields.toList fs
  |_=>false
def tokB(P:Program)(t:Nat)(i:TI):Bool:=
 (match P.info? t with
  |some ti=>decide (ti.size=i.size)&&(match ti.zero with|some z=>uY z.cells.toList i.zero|none=>false)&&decide (i.zero.length=i.size)
  |none=>false)&&
 match P.underlying t with
 |some d=>undB P d i.kind&&d.isRow==i.agg
 |none=>false
theorem afc{κ:Con}{H:Fz}{x:Value}{c:AC}(h:ack x c=true):ACr κ H c x:=by
 unfold ack at h;split at h
 ·simp only[aw,bC]at h;obtain⟨rfl,rfl⟩:=h;exact .v _ rfl
 ·simp only[fw]at h;subst h;exact .v _ rfl
 ·simp only[bC]at h;subst h;exact .v _ rfl
 ·exact .zero _ _
 ·exact .v _ rfl
 ·exact .v _ rfl
 ·exact .v _ rfl
 ·cases h
theorem wT{κ:Con}{H:Fz}:∀{xs:List Value} {cs:List AC},uY xs cs=true→Cs κ H cs xs
 | [],[],_=>.nil
 | [],_::_,h=>by cases h
 |_::_,[],h=>by cases h
 |x::xs,c::cs,h=>by
  simp only[uY,aw]at h;exact .cons (afc h.1) (wT h.2)
theorem uq{P:Program}:∀{fs:List Field} {gs:List (Nat×Nat×Bool)},rp P fs gs=true→fs.length=gs.length∧∀(k o n:Nat) (g:Bool),gs[k]?=some (o,n,g)→∃(f:Field) (ti:TypeInfo) (d':TypeDesc),fs[k]?=some f∧f.offset=o∧P.info? f.type=some ti∧ti.size=n∧P.underlying f.type=some d'∧d'.isRow=g
 | [],[],_=>⟨rfl,by simp⟩
 | [],_::_,h=>by cases h
 |_::_,[],h=>by cases h
 |f::fs,(o,n,g)::gs,h=>by
  simp only[rp,aw,bC]at h;obtain⟨⟨h1,h2⟩,h3⟩:=h;obtain⟨k1,k2⟩:=uq h3;refine⟨by simp[k1],fun k o' n' g' hk=>?_⟩;cases k with
  |zero=>
   simp only[aZ,am,ai]at hk;obtain⟨rfl,rfl,rfl⟩:=hk;split at h2
   ·rename_i ti d hti hd;simp only[aw,bC,fw]at h2;exact⟨f,ti,d,rfl,h1,hti,h2.1,hd,h2.2⟩
   ·cases h2
  |succ k=>exact k2 k o' n' g' (by simpa using hk)
theorem agZ{P:Program}{d:TypeDesc}{k:TK}(h:undB P d k=true):agR P d k:=by
 unfold undB at h;cases k with
 |other=>trivial
 |int k=>
  simp only at h;split at h
  ·simp only[bC]at h;subst h;rfl
  ·cases h
 |str=>
  simp only at h;split at h
  ·rfl
  ·cases h
 |slice e sz bytes=>
  simp only at h;split at h
  ·rename_i e';simp only[aw,bC]at h;obtain⟨rfl,h⟩:=h;split at h
   ·rename_i ti hti;simp only[aw,bC]at h;obtain⟨⟨⟨h1,h2⟩,h3⟩,h4⟩:=h;split at h3
    ·rename_i z hz;exact⟨rfl,ti,z,hti,h1,h2,hz,by simpa using h3,h4⟩
    ·cases h3
   ·cases h
  ·cases h
 |map k e=>
  simp only at h;split at h
  ·simp only[aw,bC]at h;obtain⟨rfl,rfl⟩:=h;rfl
  ·cases h
 |array len e sz g=>
  simp only at h;split at h
  ·simp only[aw,bC]at h;obtain⟨⟨rfl,rfl⟩,h⟩:=h;split at h
   ·rename_i ti hti;exact⟨rfl,ti,hti,by simpa using h⟩
   ·cases h
  ·cases h
 |struct fs=>
  simp only at h;split at h
  ·rename_i fields;obtain⟨h1,h2⟩:=uq h;exact⟨fields,rfl,by simpa using h1,fun k o n g hk=>by
    obtain⟨f,ti,d',k1,k2⟩:=h2 k o n g hk;exact⟨f,ti,d',by simpa using k1,k2⟩⟩
  ·cases h
theorem ahc{P:Program}{t:Nat}{i:TI}(h:tokB P t i=true):TOk P t i:=by
 simp only[tokB,aw]at h;obtain⟨h1,h2⟩:=h;constructor
 ·split at h1
  ·rename_i ti hti;simp only[aw,bC]at h1;obtain⟨⟨k1,k2⟩,k3⟩:=h1;split at k2
   ·rename_i z hz;exact⟨ti,z,hti,k1,hz,fun κ H=>wT k2⟩
   ·cases k2
  ·cases h1
 ·split at h2
  ·rename_i d hd;simp only[aw,fw]at h2;exact⟨d,hd,agZ h2.1,h2.2⟩
  ·cases h2
def fbB(P:Program)(f:Nat):Bool:=match P.funcs[f]? with
 |some fn=>fn.body.isSome&& !(fn.name== "runtime.NumGoroutine")
 |none=>false
theorem abR:(ajt.all fun t i=>tokB Tryz.prog t i)=true:=by kernel_rfl
theorem ahR:((List.range 229).all fun f=> !J.fb f|| fbB Tryz.prog f)=true:=by kernel_rfl
theorem zd:Tryz.prog.follows .mixedOrders=true:=by kernel_rfl
theorem adA:Tryz.prog.eqGuardType Tryz.prog.depth 154=false:=by kernel_rfl
theorem abO:Tryz.prog.underlying 154=some (.struct (Tryz.prog.fieldsOf 154)):=by kernel_rfl
theorem abT:Tryz.prog.stoodInHeld 154=false:=by kernel_rfl
theorem nt:(Tryz.prog.fieldsOf 154).toList=[⟨ "kind",3,0,false,"","warp/parse",0⟩,⟨ "s",9,1,false,"","warp/parse",8⟩]:=by kernel_rfl
theorem und3:Tryz.prog.underlying 3=some (.int .i64):=by kernel_rfl
theorem und9:Tryz.prog.underlying 9=some .string:=by kernel_rfl
set_option maxRecDepth 100000 in
theorem E:Env Tryz.prog T J where
 tab:=fun t i h=>ahc (TT.get_all abR h)
 sgn:=by
  intro t ht x y a b s u w;have ht:=aP ht;subst ht;rw[aY,run_eqGuard_agg w .eql 154 x y _ _ adA,aF,run_eql_struct,run_equalIn_agg w 9999 154 _ _ abO abT,nt]
  have p3:∀(a:Int) (s:ByteArray),(part 3 #[.int .i64 a,.string s] 0).run Tryz.prog w= .ok (.int .i64 a) w:=fun a s=>by simp[part,isAgg,aA und3]
  have p9:∀(a:Int) (s:ByteArray),(part 9 #[.int .i64 a,.string s] 1).run Tryz.prog w= .ok (.string s) w:=fun a s=>by simp[part,isAgg,aA und9]
  have q3:(Op.equalIn 9999 3 (.int .i64 a) (.int .i64 b)).run Tryz.prog w= .ok (a==b) w:=run_equalIn_int w 9998 3 .i64 .i64 a b und3;have q9:(Op.equalIn 9999 9 (.string s) (.string u)).run Tryz.prog w= .ok (s.toList==u.toList) w:=jO w 9998 9 s u und9
  simp only[Op.eqFields,aY,Sem.run_ite,p3,p9,aF,q3,q9,ry,lh];by_cases h1:a=b<;>by_cases h2:s=u<;>simp[h1,h2]
 fbs:=by
  intro f hf;have hlt:f<229:=by
   simp only[J,fbs,aw]at hf;have:=bB hf.1.1.2;omega
  have:=cO.1 ahR f (fI.2 hlt);rw[hf]at this;simp only[Bool.not_true,kQ]at this;unfold fbB at this;split at this
  ·rename_i fn hfn;simp only[aw,dg]at this;obtain⟨c,hc⟩:=fx.1 this.1;exact⟨fn,c,hfn,hc,this.2⟩
  ·cases this
 any:=zd
def mem(d:Nat):List Nat→Bool
 | []=>false
 |k::l=>Nat.beq k d|| mem d l
theorem ra{d:Nat}:∀{l:List Nat},mem d l=true↔d∈l
 | []=>by simp[mem]
 |k::l=>by
  simp only[mem,fe,aV,ra (l:=l)];constructor
  ·rintro(h|h)
   ·exact .inl (aP h).symm
   ·exact .inr h
  ·rintro(h|h)
   ·exact .inl (by rw[h];exact qa k)
   ·exact .inr h
def isP(s:St)(pl:List Nat)(d g:Nat):Bool:=match find d s.perms with
 |some p=>Nat.beq p.gen g&&mem d pl
 |none=>false
mutual
def renC(s:St)(bl pl:List Nat):AC→AC
 | .ptr d g off=>match find d s.boxes with
  |some b=>match Nat.beq b.gen g&&mem d bl with
   |true=>.ptr d 0 off
   |false=>.any
  |none=>.any
 | .sl e sz xs (some (d,g))=>match find d s.perms with
  |some p=>match Nat.beq p.gen g&&p.live&&mem d pl with
   |true=>.sl e sz xs (some (d,0))
   |false=>.sl e sz xs none
  |none=>.sl e sz xs none
 | .clo f cs=>.clo f (renL s bl pl cs)
 | .sl e sz xs none=>.sl e sz xs none
 | .any=>.any
 | .v x=>.v x
 | .nil e sz=>.nil e sz
 | .ref cs off=>.ref cs off
 | .rref d g n=>match isP s pl d g with|true=>.rref d 0 n|false=>.any
 | .eref d g sz i off=>match isP s pl d g with|true=>.eref d 0 sz i off|false=>.any
 | .mref d g=>match isP s pl d g with|true=>.mref d 0|false=>.any
 | .iref d g=>match isP s pl d g with|true=>.iref d 0|false=>.any
 | .anyB=>.anyB
 |_=>.any
def renL(s:St)(bl pl:List Nat):List AC→List AC
 | []=>[]
 |c::cs=>renC s bl pl c::renL s bl pl cs
end
def renO(s:St)(pl:List Nat):Ob→Ob
 | .row e sz xs=>.row e sz xs
 | .rows e2 sz2 e yss=>.rows e2 sz2 e yss
 | .map z ks vs=>.map z ks vs
 | .mrow z e sz ks yss=>.mrow z e sz ks yss
 | .rowsL e2 sz2 e yss i d g=>match isP s pl d g with
  |true=>.rowsL e2 sz2 e yss i d 0
  |false=>.gone
 | .mrowL z e sz ks yss i d g=>match isP s pl d g with
  |true=>.mrowL z e sz ks yss i d 0
  |false=>.gone
 | .iter d g n seen=>match isP s pl d g with
  |true=>.iter d 0 n seen
  |false=>.gone
 | .gone=>.gone
 | .uf n p=>.uf n p
 | .bld l s=>.bld l s
def renA(s:St)(bl pl:List Nat):AV→AV
 | .undef=>.undef
 | .one c=>.one (renC s bl pl c)
 | .agg cs=>.agg (renL s bl pl cs)
 | .tup _=>.undef
 | .ob d g c=>match isP s pl d g with
  |true=>.ob d 0 (renO s pl c)
  |false=>.undef
def qF{α β:Type}(f:α→β)(m:List (Nat×α)):List Nat→List (Nat×β)
 | []=>[]
 |d::l=>match find d m with
  |some x=>(d,f x)::qF f m l
  |none=>qF f m l
theorem fS{α β:Type}{f:α→β}{m:List (Nat×α)}(d:Nat):∀(l:List Nat),find d (qF f m l)=if d∈l then(find d m).map f else none
 | []=>by simp[qF,find]
 |k::l=>by
  unfold qF;have ih:=fS (f:=f) (m:=m) d l;split
  ·rename_i x hx;rw[cW];by_cases hk:k=d
   ·subst hk;simp[hx]
   ·simp only[hk,if_false,ih,aV];by_cases hd:d∈l
    ·simp[hd]
    ·simp[hd,Ne.symm hk]
  ·rename_i hx;rw[ih];by_cases hk:k=d
   ·subst hk;simp[hx]
   ·by_cases hd:d∈l
    ·simp[hd]
    ·simp[hd,Ne.symm hk]
def norm(tl bl pl:List Nat)(s:St):St:=
 ⟨qF (renA s bl pl) s.tmps tl,qF (fun b=>⟨0,b.ty,renL s bl pl b.cells⟩) s.boxes bl,qF (fun p=>⟨0,p.e,p.sz,p.live⟩) s.perms pl⟩
section
variable{X:Ctx}{κ:Con}{H:Fz}{s:St}{a:Act}{w:World}
def genB(s:St)(d:Nat):Nat:=match find d s.boxes with|some b=>b.gen|none=>0
def genP(s:St)(d:Nat):Nat:=match find d s.perms with|some p=>p.gen|none=>0
def Con.norm(κ:Con)(s:St)(bl pl:List Nat):Con:=
 ⟨fun d _=>κ.blk d (genB s d),fun d _=>κ.row d (genP s d),fun d=>if d∈bl∧(find d s.boxes).isSome then 1 else 0,fun d=>if d∈pl∧(find d s.perms).isSome then 1 else 0⟩
theorem oR{bl pl:List Nat}{d g:Nat}(h:isP s pl d g=true):(∃p,find d s.perms=some p∧p.gen=g)∧d∈pl∧0<(κ.norm s bl pl).nr d∧(κ.norm s bl pl).row d 0=κ.row d g:=by
 unfold isP at h;split at h
 ·rename_i p hf;simp only[aw]at h;have hg:=aP h.1;have hm:=ra.1 h.2;exact⟨⟨p,hf,hg⟩,hm,by simp[Con.norm,hm,hf],by simp[Con.norm,genP,hf,hg]⟩
 ·cases h
mutual
theorem acs{bl pl:List Nat}:∀{c:AC} {u:Value},ACr κ H c u→ACr (κ.norm s bl pl) H (renC s bl pl c) u
 | .any,_,h=>by cases h with|any _ h=>exact .any _ h
 | .v _,_,h=>by cases h with|v _ h=>exact .v _ h
 | .nil _ _,_,h=>by cases h with|zero=>exact .zero _ _
 | .ref _ _,_,h=>by cases h with|ref _ _ b off us hl hu hr=>exact .ref _ _ b off us hl hu hr
 | .ptr d g off,u,h=>by
  have hone:=h.oneCell;unfold renC;split
  ·rename_i b hf;split
   ·rename_i hb;simp only[aw]at hb;have hg:=aP hb.1;have hm:=ra.1 hb.2;cases h with
    |ptr _ _ _ hlt=>
     have:=ACr.ptr (κ:=κ.norm s bl pl) (H:=H) d 0 off (by simp[Con.norm,hm,hf]);have e:(κ.norm s bl pl).blk d 0=κ.blk d g:=by simp[Con.norm,genB,hf,hg]
     rw[e]at this;exact this
   ·exact .any _ hone
  ·exact .any _ hone
 | .rref d g n,u,h=>by
  have hone:=h.oneCell;unfold renC;split
  ·rename_i hp;obtain⟨-,-,h3,h4⟩:=oR (κ:=κ) (bl:=bl) hp;cases h with|rref _ _ _ A cap hg hu hA=>exact .rref d 0 n A cap h3 (h4.trans hu) hA
  ·exact .any _ hone
 | .eref d g sz i off,u,h=>by
  have hone:=h.oneCell;unfold renC;split
  ·rename_i hp;obtain⟨-,-,h3,h4⟩:=oR (κ:=κ) (bl:=bl) hp;cases h with|eref _ _ _ _ _ b n cap hg hu hi=>exact .eref d 0 sz i off b n cap h3 (h4.trans hu) hi
  ·exact .any _ hone
 | .mref d g,u,h=>by
  have hone:=h.oneCell;unfold renC;split
  ·rename_i hp;obtain⟨-,-,h3,h4⟩:=oR (κ:=κ) (bl:=bl) hp;cases h with|mref _ _ r hg hu=>exact .mref d 0 r h3 (h4.trans hu)
  ·exact .any _ hone
 | .iref d g,u,h=>by
  have hone:=h.oneCell;unfold renC;split
  ·rename_i hp;obtain⟨-,-,h3,h4⟩:=oR (κ:=κ) (bl:=bl) hp;cases h with|iref _ _ r hg hu=>exact .iref d 0 r h3 (h4.trans hu)
  ·exact .any _ hone
 | .own _ _ _,u,h=>by cases h
 | .obox _ _,u,h=>by cases h
 | .omap _ _ _,u,h=>by cases h
 | .omrow _ _ _ _ _,u,h=>by cases h
 | .uf _ _,u,h=>by cases h
 | .bld _ _,u,h=>by cases h
 | .vref _ _ _ _,u,h=>.any _ h.oneCell
 | .anyB,u,h=>by cases h with|anyB b=>exact .anyB b
 | .sl e sz xs none,u,h=>by
  unfold renC;cases h with
  |nil _ _ _ A cap _=>exact .nil e sz none A cap (ka.none _ _)
  |sl _ _ _ _ b off cap us hc hs hl hu hr _=>exact .sl e sz xs none b off cap us hc hs hl hu hr (ka.none _ _)
 | .sl e sz xs (some (d,g)),u,h=>by
  have hnone:ACr (κ.norm s bl pl) H (.sl e sz xs none) u:=by
   cases h with
   |nil _ _ _ A cap _=>exact .nil e sz none A cap (ka.none _ _)
   |sl _ _ _ _ b off cap us hc hs hl hu hr _=>exact .sl e sz xs none b off cap us hc hs hl hu hr (ka.none _ _)
  unfold renC;split
  ·rename_i p hf;split
   ·rename_i hb;simp only[aw]at hb;have hg:=aP hb.1.1;have hm:=ra.1 hb.2;have htok:∀v,ka κ (some (d,g)) v→ka (κ.norm s bl pl) (some (d,0)) v:=by
     rintro v hv d' g' hdg;cases hdg;obtain⟨-,h2⟩:=hv d g rfl;exact⟨by simp[Con.norm,hm,hf],by simpa [Con.norm,genP,hf,hg]using h2⟩
    cases h with
    |nil _ _ _ A cap ht=>exact .nil e sz _ A cap (htok _ ht)
    |sl _ _ _ _ b off cap us hc hs hl hu hr ht=>exact .sl e sz xs _ b off cap us hc hs hl hu hr (htok _ ht)
   ·exact hnone
  ·exact hnone
 | .clo f cs,u,h=>by
  unfold renC;cases h with
  |clo _ _ us hl hr=>
   have:=vi (bl:=bl) (pl:=pl) (cs:=cs) (us:=us) ⟨hl,hr⟩;exact .clo f _ us this.1 this.2
theorem vi{bl pl:List Nat}:∀{cs:List AC} {us:List Value},Cs κ H cs us→Cs (κ.norm s bl pl) H (renL s bl pl cs) us
 | [],us,h=>by rw[h.inv_nil];exact .nil
 |c::cs,us,h=>by
  obtain⟨u,us',rfl,h1,h2⟩:=h.inv_cons;unfold renL;exact .cons (acs h1) (vi h2)
end
theorem ahm{bl pl:List Nat}{v:AV}{u:Value}(h:AVr κ H v u):AVr (κ.norm s bl pl) H (renA s bl pl v) u:=by
 cases h with
 |undef=>exact .undef u
 |one c u h=>exact .one _ _ (acs h)
 |agg cs us h=>exact .agg _ _ (vi h)
 |tup=>exact .undef _
 |ob=>simp only[renA];split<;>first|exact .ob _ _ _ _|exact .undef _
theorem Rel.norm(tl bl pl:List Nat)(h:Rel X κ H s a w):Rel X (κ.norm s bl pl) H (V.norm tl bl pl s) a w:=by
 have bx:∀{d b'},find d (V.norm tl bl pl s).boxes=some b'→∃b,find d s.boxes=some b∧d∈bl∧b'=⟨0,b.ty,renL s bl pl b.cells⟩∧(κ.norm s bl pl).blk d b'.gen=κ.blk d b.gen:=by
  intro d b' e;simp only[V.norm,fS]at e;split at e
  ·rename_i hd;rw[ar]at e;obtain⟨b,hb,rfl⟩:=e;exact⟨b,hb,hd,rfl,by simp[Con.norm,genB,hb]⟩
  ·cases e
 have pm:∀{d p'},find d (V.norm tl bl pl s).perms=some p'→∃p,find d s.perms=some p∧d∈pl∧p'=⟨0,p.e,p.sz,p.live⟩∧(κ.norm s bl pl).row d p'.gen=κ.row d p.gen:=by
  intro d p' e;simp only[V.norm,fS]at e;split at e
  ·rename_i hd;rw[ar]at e;obtain⟨p,hp,rfl⟩:=e;exact⟨p,hp,hd,rfl,by simp[Con.norm,genP,hp]⟩
  ·cases e
 refine{ size:=h.size,tmps:=?_,defers:=h.defers,fz:=h.fz,hk:=h.hk,h0:=h.h0,box:=?_,nobox:=?_,args:=?_,perm:=?_,noperm:=?_,bb:=?_,rr:=?_,br:=?_,pb:=?_,pr:=?_,keep:=h.keep,grown:=h.grown,os:=h.os,tape:=h.tape,output:=h.output}
 ·intro t v e;simp only[V.norm,fS]at e;split at e
  ·rw[ar]at e;obtain⟨v',hv,rfl⟩:=e;exact ahm (h.tmps t v' hv)
  ·cases e
 ·intro d b' e;obtain⟨b,hb,hd,rfl,hblk⟩:=bx e;rw[hblk];obtain⟨k1,m1,us,m2,m3⟩:=h.box d b hb;exact⟨by simp[Con.norm,hd,hb],m1,us,m2,vi m3⟩
 ·intro d e;simp only[V.norm,fS]at e;simp only[Con.norm];rw[if_neg];rintro⟨hd,hs⟩;rw[if_pos hd]at e;obtain⟨b,hb⟩:=fx.1 hs;rw[hb]at e;cases e
 ·intro d b' hd e;obtain⟨b,hb,-,rfl,hblk⟩:=bx e;rw[hblk];exact h.args d b hd hb
 ·intro d p' e;obtain⟨p,hp,hd,rfl,hrow⟩:=pm e;rw[hrow];exact⟨by simp[Con.norm,hd,hp],fun l=>(h.perm d p hp).2 l⟩
 ·intro d e;simp only[V.norm,fS]at e;simp only[Con.norm];rw[if_neg];rintro⟨hd,hs⟩;rw[if_pos hd]at e;obtain⟨b,hb⟩:=fx.1 hs;rw[hb]at e;cases e
 ·intro d d' b b' e e' hq;obtain⟨c,hc,-,rfl,h1⟩:=bx e;obtain⟨c',hc',-,rfl,h1'⟩:=bx e';rw[h1,h1']at hq;exact h.bb d d' c c' hc hc' hq
 ·intro d d' p p' k e e' l l' hq hq';obtain⟨c,hc,-,rfl,h1⟩:=pm e;obtain⟨c',hc',-,rfl,h1'⟩:=pm e';rw[h1]at hq;rw[h1']at hq';exact h.rr d d' c c' k hc hc' l l' hq hq'
 ·intro d d' b p e e' l;obtain⟨c,hc,-,rfl,h1⟩:=bx e;obtain⟨c',hc',-,rfl,h1'⟩:=pm e';rw[h1,h1'];exact h.br d d' c c' hc hc' l
 ·intro d b e;obtain⟨c,hc,-,rfl,h1⟩:=bx e;rw[h1];exact h.pb d c hc
 ·intro d p k e l hq;obtain⟨c,hc,-,rfl,h1⟩:=pm e;rw[h1]at hq;exact h.pr d c k hc l hq
theorem Wk.norm(tl bl pl:List Nat)(s:St):Wk s (V.norm tl bl pl s):=fun _ κ _ _ _ h=>⟨κ.norm s bl pl,h.norm tl bl pl⟩
end
theorem Wk.refl(s:St):Wk s s:=fun _ κ _ _ _ h=>⟨κ,h⟩
theorem Wk.trans{s s1 s2:St}(h:Wk s s1)(k:Wk s1 s2):Wk s s2:=fun X κ H a w hr=>
 let⟨κ1,h1⟩:=h X κ H a w hr
 k X κ1 H a w h1
def adT:List (Nat×Nat×Nat×Nat)→St→St
 | [],s=>s
 |(t,d,e,sz)::l,s=>adT l (match find t s.tmps,find d s.perms with
  |some (.one (.v (.slice none 0 0))),none=>⟨putB t (.one (.sl e sz [] (some (d,0)))) s.tmps,s.boxes,putB d ⟨0,e,sz,true⟩ s.perms⟩
  |some (.one (.nil _ _)),none=>⟨putB t (.one (.sl e sz [] (some (d,0)))) s.tmps,s.boxes,putB d ⟨0,e,sz,true⟩ s.perms⟩
  |_,_=>s)
def adB:List (Nat×Nat×Nat×Nat×Nat)→St→St
 | [],s=>s
 |(d0,i,d,e,sz)::l,s=>adB l (match find d0 s.boxes,find d s.perms with
  |some ⟨g,ty,cells⟩,none=>match cells[i]? with
   |some (.nil _ _)=>⟨s.tmps,putB d0 ⟨g,ty,cells.set i (.sl e sz [] (some (d,0)))⟩ s.boxes,putB d ⟨0,e,sz,true⟩ s.perms⟩
   |_=>s
  |_,_=>s)
theorem aeM{X:Ctx}{κ:Con}{H:Fz}{s:St}{a:Act}{w:World}(h:Rel X κ H s a w){d e sz:Nat}(hf:find d s.perms=none):
 Rel X (κ.addRow d (.slice none 0 0)) H ⟨s.tmps,s.boxes,putB d ⟨0,e,sz,true⟩ s.perms⟩ a w∧ACr (κ.addRow d (.slice none 0 0)) H (.sl e sz [] (some (d,0))) (.slice none 0 0):=by
 have h0:=h.noperm d hf;have:=h.addRow (d:=d) (e:=e) (sz:=sz) (u:=.slice none 0 0) (.inl rfl) (fun _ _ _=>by simp[Value.ownBlock]) (fun _ _ _ _ _ _ _=>by simp[Value.ownBlock]) (fun _ hq=>by simp[Value.ownBlock]at hq);rw[h0]at this;exact⟨this.1,.nil e sz _ none 0 this.2⟩
theorem Wk.adT:∀(l:List (Nat×Nat×Nat×Nat)) (s:St),Wk s (V.adT l s)
 | [],s=>.refl s
 |(t,d,e,sz)::l,s=>by
  refine Wk.trans ?_ (Wk.adT l _);split
  ·rename_i ht hd;intro X κ H a w h;obtain⟨h1,h2⟩:=aeM (e:=e) (sz:=sz) h hd;refine⟨_,{ h1 with size:=h1.size,defers:=h1.defers,tmps:=fun i v hv=>?_}⟩;simp only[cD]at hv;split at hv
   ·rename_i hti;subst hti;cases hv;have:=(cN (h.tmps t _ ht)).1;rw[this];exact .one _ _ h2
   ·exact h1.tmps i v hv
  ·rename_i ht hd;intro X κ H a w h;obtain⟨h1,h2⟩:=aeM (e:=e) (sz:=sz) h hd;refine⟨_,{ h1 with size:=h1.size,defers:=h1.defers,tmps:=fun i v hv=>?_}⟩;simp only[cD]at hv;split at hv
   ·rename_i hti;subst hti;cases hv;have:=inv_nil (h.tmps t _ ht);rw[this];exact .one _ _ h2
   ·exact h1.tmps i v hv
  ·exact .refl s
theorem Wk.adB:∀(l:List (Nat×Nat×Nat×Nat×Nat)) (s:St),Wk s (V.adB l s)
 | [],s=>.refl s
 |(d0,i,d,e,sz)::l,s=>by
  refine Wk.trans ?_ (Wk.adB l _);split
  ·rename_i g ty cells hb hd;split
   ·rename_i hc;intro X κ H a w h;obtain⟨h1,h2⟩:=aeM (e:=e) (sz:=sz) h hd;refine⟨_,h1.boxes (H':=H) (w':=w) (fun d' b' e'=>?_) (fun d' e'=>?_) (Fz.le_refl H) h1.fz (fun _ _ _=>⟨rfl,rfl⟩) (au _) rfl rfl rfl⟩
    ·rw[cD]at e';split at e'
     ·rename_i hdd;subst hdd;cases e';obtain⟨k1,m1,us,m2,m3⟩:=h1.box d0 _ hb;refine⟨_,hb,rfl,m1,us,m2,?_⟩;refine⟨by simp[m3.1],fun j c u hj hu=>?_⟩;rw[bf]at hj;split at hj
      ·rename_i hij;subst hij;split at hj
       ·cases hj;have:=m3.2 i _ u hc hu;cases this with|zero=>exact h2
       ·cases hj
      ·exact m3.2 j c u hj hu
     ·exact⟨b',e',rfl,(h1.box d' b' e').2⟩
    ·rw[cD]at e';split at e'
     ·cases e'
     ·exact e'
   ·exact .refl s
  ·exact .refl s
mutual
def tkC(d d':Nat):AC→AC
 | .sl e sz xs (some (k,g))=>match Nat.beq k d&&Nat.beq g 0 with
  |true=>.sl e sz xs (some (d',0))
  |false=>.sl e sz xs (some (k,g))
 | .clo f cs=>.clo f (tkL d d' cs)
 | .sl e sz xs none=>.sl e sz xs none
 | .any=>.any
 | .v x=>.v x
 | .nil e sz=>.nil e sz
 | .ptr k g off=>.ptr k g off
 | .ref cs off=>.ref cs off
 |c=>c
def tkL(d d':Nat):List AC→List AC
 | []=>[]
 |c::cs=>tkC d d' c::tkL d d' cs
end
def tkA(d d':Nat):AV→AV
 | .undef=>.undef
 | .one c=>.one (tkC d d' c)
 | .agg cs=>.agg (tkL d d' cs)
 | .tup _=>.undef
 | .ob d g c=>.ob d g c
def tkM{α β:Type}(f:α→β):List (Nat×α)→List (Nat×β)
 | []=>[]
 |(k,x)::l=>(k,f x)::tkM f l
theorem iY{α β:Type}{f:α→β}(d:Nat):∀l:List (Nat×α),find d (tkM f l)=(find d l).map f
 | []=>rfl
 |(k,x)::l=>by
  simp only[tkM,cW,iY d l];split<;>rfl
def rn:List (Nat×Nat)→St→St
 | [],s=>s
 |(d,d')::l,s=>rn l (match find d s.perms,find d' s.perms with
  |some ⟨0,e,sz,true⟩,none=>⟨tkM (tkA d d') s.tmps,tkM (fun b=>⟨b.gen,b.ty,tkL d d' b.cells⟩) s.boxes,putB d' ⟨0,e,sz,true⟩ (dropB d s.perms)⟩
  |_,_=>s)
mutual
theorem ago{κ κ':Con}{H:Fz}{d d':Nat}(hle:Con.le κ κ')(ht:∀u,ka κ (some (d,0)) u→ka κ' (some (d',0)) u):∀{c:AC} {u:Value},ACr κ H c u→ACr κ' H (tkC d d' c) u
 | .any,_,h=>h.mono hle (Fz.le_refl H)
 | .v _,_,h=>h.mono hle (Fz.le_refl H)
 | .nil _ _,_,h=>h.mono hle (Fz.le_refl H)
 | .ref _ _,_,h=>h.mono hle (Fz.le_refl H)
 | .ptr _ _ _,_,h=>h.mono hle (Fz.le_refl H)
 | .rref _ _ _,_,h=>h.mono hle (Fz.le_refl H)
 | .eref _ _ _ _ _,_,h=>h.mono hle (Fz.le_refl H)
 | .mref _ _,_,h=>h.mono hle (Fz.le_refl H)
 | .iref _ _,_,h=>h.mono hle (Fz.le_refl H)
 | .own _ _ _,u,h=>by cases h
 | .obox _ _,u,h=>by cases h
 | .omap _ _ _,u,h=>by cases h
 | .omrow _ _ _ _ _,u,h=>by cases h
 | .uf _ _,u,h=>by cases h
 | .bld _ _,u,h=>by cases h
 | .vref _ _ _ _,_,h=>h.mono hle (Fz.le_refl H)
 | .anyB,u,h=>by cases h with|anyB b=>exact .anyB b
 | .sl _ _ _ none,_,h=>h.mono hle (Fz.le_refl H)
 | .sl e sz xs (some (k,g)),u,h=>by
  unfold tkC;split
  ·rename_i hb;simp only[aw]at hb;have h1:=aP hb.1;have h2:=aP hb.2;subst h1;subst h2;cases h with
   |nil _ _ _ A cap hk=>exact .nil e sz _ A cap (ht _ hk)
   |sl _ _ _ _ b off cap us hc hs hl hu hr hk=>exact .sl e sz xs _ b off cap us hc hs hl hu hr (ht _ hk)
  ·exact h.mono hle (Fz.le_refl H)
 | .clo f cs,u,h=>by
  unfold tkC;cases h with
  |clo _ _ us hl hr=>
   have:=zP hle ht (cs:=cs) (us:=us) ⟨hl,hr⟩;exact .clo f _ us this.1 this.2
theorem zP{κ κ':Con}{H:Fz}{d d':Nat}(hle:Con.le κ κ')(ht:∀u,ka κ (some (d,0)) u→ka κ' (some (d',0)) u):∀{cs:List AC} {us:List Value},Cs κ H cs us→Cs κ' H (tkL d d' cs) us
 | [],us,h=>by rw[h.inv_nil];exact .nil
 |c::cs,us,h=>by
  obtain⟨u,us',rfl,h1,h2⟩:=h.inv_cons;unfold tkL;exact .cons (ago hle ht h1) (zP hle ht h2)
end
theorem Wk.rn:∀(l:List (Nat×Nat)) (s:St),Wk s (V.rn l s)
 | [],s=>.refl s
 |(d,d')::l,s=>by
  refine Wk.trans ?_ (Wk.rn l _);split
  ·rename_i e sz hd hd';intro X κ H a w h;obtain⟨hnr,htl⟩:=h.perm d _ hd;have htl:=htl rfl;simp only at hnr htl;have hne:d≠d':=fun e=>by rw[e]at hd;rw[hd]at hd';cases hd'
   have h0:κ.nr d'=0:=h.noperm d' hd';obtain⟨h1,h2⟩:=(h.drop d).addRow (d:=d') htl (fun k b hb=>by have:=h.br k d b _ hb hd rfl;simpa using this) (fun k p j hk hl hkd hj hq=>by
    simp only[St.write]at hk;rw[eL]at hk;split at hk
    ·rw[ar]at hk;obtain⟨q,_,rfl⟩:=hk;simp[Perm.dead]at hl
    ·rename_i hkd';exact hkd' (h.rr k d p _ j hk hd hl rfl hj (by simpa using hq)).symm) (fun j hj=>h.pr d _ j hd rfl (by simpa using hj))
   have hle:Con.le κ (κ.addRow d' (κ.row d 0)):=κ.le_addRow d' _;have ht:∀u,ka κ (some (d,0)) u→ka (κ.addRow d' (κ.row d 0)) (some (d',0)) u:=by
    intro u hu;obtain⟨-,hru⟩:=hu d 0 rfl;rw[h0]at h2;rw[←hru];exact h2
   rw[h0]at h1;refine⟨κ.addRow d' (κ.row d 0),{ h1 with size:=h1.size,defers:=h1.defers,tmps:=?_,box:=?_,nobox:=?_,args:=?_,bb:=?_,br:=?_,pb:=?_}⟩
   ·intro t v hv;simp only[iY,ar]at hv;obtain⟨v0,hv0,rfl⟩:=hv;have:=h.tmps t v0 hv0;cases v0 with
    |undef=>exact .undef _
    |tup=>exact .undef _
    |ob=>exact .ob _ _ _ _
    |one c=>cases this with|one _ _ hc=>exact .one _ _ (ago hle ht hc)
    |agg cs=>
     generalize a.tmps.getD t Go.undef=u at this ⊢;cases this with|agg _ us hc=>exact .agg _ _ (zP hle ht hc)
   ·intro k b hb;simp only[iY,ar]at hb;obtain⟨b0,hb0,rfl⟩:=hb;obtain⟨k1,k2,-⟩:=h1.box k b0 hb0;obtain⟨-,-,us,m2,m3⟩:=h.box k b0 hb0;exact⟨k1,k2,us,m2,zP hle ht m3⟩
   ·intro k hk;simp only[iY,Option.map_eq_none_iff]at hk;exact h1.nobox k hk
   ·intro k b hA hb;simp only[iY,ar]at hb;obtain⟨b0,hb0,rfl⟩:=hb;exact h1.args k b0 hA hb0
   ·intro k k' b b' hb hb' hq;simp only[iY,ar]at hb hb';obtain⟨b0,hb0,rfl⟩:=hb;obtain⟨b1,hb1,rfl⟩:=hb';exact h1.bb k k' b0 b1 hb0 hb1 hq
   ·intro k k' b p hb hp hl;simp only[iY,ar]at hb;obtain⟨b0,hb0,rfl⟩:=hb;exact h1.br k k' b0 p hb0 hp hl
   ·intro k b hb;simp only[iY,ar]at hb;obtain⟨b0,hb0,rfl⟩:=hb;exact h1.pb k b0 hb0
  ·exact .refl s
def xm(rl:List (Nat×Nat)):List Nat→List Nat
 | []=>[]
 |d::l=>(match find d rl with|some d'=>d'|none=>d)::xm rl l
def wkF(tl bl pl:List Nat)(rl:List (Nat×Nat))(at_:List (Nat×Nat×Nat×Nat))(ab:List (Nat×Nat×Nat×Nat×Nat))(s:St):St:=
 adB ab (adT at_ (match rl with
  | []=>norm tl bl pl s
  |rl=>norm tl bl (xm rl pl) (V.rn rl (norm tl bl pl s))))
theorem wk(tl bl pl:List Nat)(rl:List (Nat×Nat))(at_:List (Nat×Nat×Nat×Nat))(ab:List (Nat×Nat×Nat×Nat×Nat)){s s0:St}(h:wkF tl bl pl rl at_ ab s=s0):Wk s s0:=by
 subst h;unfold wkF;refine Wk.trans ?_ ((Wk.adT at_ _).trans (Wk.adB ab _));split
 ·exact Wk.norm tl bl pl s
 ·exact(Wk.norm tl bl pl s).trans ((Wk.rn _ _).trans (Wk.norm tl bl _ _))
def sx(s:St)(d:Nat):Bool:=match find (OB+d) s.tmps with
 |some (.ob _ _ .gone)=>true
 |_=>false
section
variable{P:Program}{T:Tab}{J:Kn}{M:Md}{G:Nat→Option (List AC)}{X:Ctx}{κ κ0:Con}{H H0:Fz}{s s0:St}{a a0:Act}{w w0:World}{ft:Nat→List Nat}
theorem ahl{pl bl:List Nat}{u:Value}{c:Ob}{bs:List Nat}(h:ObOk κ H w u c bs):(renO s pl c= .gone∧True)∨ObOk (κ.norm s bl pl) H w u (renO s pl c) bs:=by
 cases c with
 |row=>exact .inr h
 |rows=>exact .inr h
 |map=>exact .inr h
 |mrow=>exact .inr h
 |gone=>exact .inl ⟨rfl,trivial⟩
 |uf=>exact .inr h
 |bld=>exact .inr h
 |rowsL e2 sz2 e yss i d g=>
  simp only[renO];split
  ·rename_i hp;obtain⟨-,-,h1,h2⟩:=oR (κ:=κ) (bl:=bl) hp;refine .inr ⟨?_,h1⟩;rw[h2];exact h.1
  ·exact .inl ⟨rfl,trivial⟩
 |mrowL z e sz ks yss i d g=>
  simp only[renO];split
  ·rename_i hp;obtain⟨-,-,h1,h2⟩:=oR (κ:=κ) (bl:=bl) hp;refine .inr ⟨?_,h1⟩;rw[h2];exact h.1
  ·exact .inl ⟨rfl,trivial⟩
 |iter d g n seen=>
  simp only[renO];split
  ·rename_i hp;obtain⟨-,-,h1,h2⟩:=oR (κ:=κ) (bl:=bl) hp;obtain⟨hg,r,m,q1,q2,q3,q4⟩:=h;exact .inr ⟨h1,r,m,q1,q2,q3,by rw[h2];exact q4⟩
  ·exact .inl ⟨rfl,trivial⟩
theorem WRel.norm(tl bl pl:List Nat)(hW:WRel X κ H s a w):WRel X (κ.norm s bl pl) H (V.norm tl bl pl s) a w:=by
 obtain⟨ft,h⟩:=hW.f;have ob:∀{d g c},find (OB+d) (V.norm tl bl pl s).tmps=some (.ob d g c)→∃g0 c0,find (OB+d) s.tmps=some (.ob d g0 c0)∧isP s pl d g0=true∧g=0∧c=renO s pl c0:=by
  intro d g c e;simp only[V.norm,fS]at e;split at e
  ·rw[ar]at e;obtain⟨v,hv,he⟩:=e;cases v with
   |ob d' g' c'=>
    simp only[renA]at he;split at he
    ·rename_i hp;cases he;exact⟨g',c',hv,hp,rfl,rfl⟩
    ·cases he
   |undef=>cases he
   |one=>cases he
   |agg=>cases he
   |tup=>cases he
  ·cases e
 refine⟨h.rel.norm tl bl pl,⟨fun d=>if sx (V.norm tl bl pl s) d=true then [] else ft d,?_⟩,h.n⟩;exact{
  lt:=fun d g c e=>by
   obtain⟨g0,c0,-,h2,rfl,-⟩:=ob e;exact(oR h2).2.2.1
  ok:=fun d g c e hn=>by
   obtain⟨g0,c0,h1,h2,rfl,rfl⟩:=ob e;obtain⟨⟨p,hp,hpg⟩,-,-,h3⟩:=oR (κ:=κ) (bl:=bl) h2;have hok:=h.obs.ok d g0 c0 h1 (by rw[(h.rel.perm d p hp).1,hpg]);rw[h3];rcases ahl (s:=s) (pl:=pl) (bl:=bl) hok with⟨hg,-⟩|hk
   ·have:sx (V.norm tl bl pl s) d=true:=by unfold sx;rw[e,hg]
    rw[this,hg];rfl
   ·by_cases hgo:sx (V.norm tl bl pl s) d=true
    ·rw[if_pos hgo];unfold sx at hgo;rw[e]at hgo;cases hr:renO s pl c0<;>rw[hr]at hgo<;>first|rfl|cases hgo
    ·rw[if_neg hgo];exact hk
  nodup:=fun d=>by split;exact kf;exact h.obs.nodup d
  blk:=fun d k hk=>by
   have hk:k∈ft d:=by
    split at hk
    ·cases hk
    ·exact hk
   obtain⟨b1,b2,b3,b4,b5⟩:=h.obs.blk d k hk;refine⟨b1,b2,b3,fun d' b e=>?_,fun d' p e hl=>?_⟩
   ·simp only[V.norm,fS]at e;split at e
    ·rw[ar]at e;obtain⟨b0,hb,rfl⟩:=e;have:(κ.norm s bl pl).blk d' 0=κ.blk d' b0.gen:=by simp[Con.norm,genB,hb]
     rw[this];exact b4 d' b0 hb
    ·cases e
   ·simp only[V.norm,fS]at e;split at e
    ·rw[ar]at e;obtain⟨p0,hp,rfl⟩:=e;have:(κ.norm s bl pl).row d' 0=κ.row d' p0.gen:=by simp[Con.norm,genP,hp]
     rw[this];exact b5 d' p0 hp hl
    ·cases e
  apart:=fun d d' hne k hk hk'=>by
   split at hk
   ·cases hk
   ·split at hk'
    ·cases hk'
    ·exact h.obs.apart d d' hne k hk hk'}
theorem WkW.norm(tl bl pl:List Nat)(s:St):WkW s (V.norm tl bl pl s):=fun _ κ H _ _ h=>⟨κ.norm s bl pl,H,h.norm tl bl pl⟩
theorem WkW.refl(s:St):WkW s s:=fun _ κ H _ _ h=>⟨κ,H,h⟩
theorem WkW.trans{s s1 s2:St}(h:WkW s s1)(k:WkW s1 s2):WkW s s2:=fun X κ H a w hr=>
 let⟨κ1,H1,h1⟩:=h X κ H a w hr
 k X κ1 H1 a w h1
def reC(nm:Nat)(c:AC):Rd (AC×List Wr):=match c with
 | .rref d g n=>match Nat.beq d nm with
  |true=>.ret (.rref d g n,[])
  |false=>(obR d g).bind fun
   | .row e sz xs=>(obN nm (.row e sz xs) fun g' ws=>.ret (.one (.rref nm g' n),obW d g .gone::ws)).bind fun(v,ws)=>match v with| .one c=>.ret (c,ws)|_=>.none
   | .uf n' p=>(obN nm (.uf n' p) fun g' ws=>.ret (.one (.rref nm g' n),obW d g .gone::ws)).bind fun(v,ws)=>match v with| .one c=>.ret (c,ws)|_=>.none
   | .rows e2 sz2 e yss=>(obN nm (.rows e2 sz2 e yss) fun g' ws=>.ret (.one (.rref nm g' n),obW d g .gone::ws)).bind fun(v,ws)=>match v with| .one c=>.ret (c,ws)|_=>.none
   |_=>.none
 | .mref d g=>match Nat.beq d nm with
  |true=>.ret (.mref d g,[])
  |false=>(obR d g).bind fun
   | .map z ks vs=>(obN nm (.map z ks vs) fun g' ws=>.ret (.one (.mref nm g'),obW d g .gone::ws)).bind fun(v,ws)=>match v with| .one c=>.ret (c,ws)|_=>.none
   | .mrow z e sz ks yss=>(obN nm (.mrow z e sz ks yss) fun g' ws=>.ret (.one (.mref nm g'),obW d g .gone::ws)).bind fun(v,ws)=>match v with| .one c=>.ret (c,ws)|_=>.none
   |_=>.none
 | .nil e sz=>(obN nm (.row e sz []) fun g' ws=>.ret (.one (.rref nm g' 0),ws)).bind fun(v,ws)=>match v with| .one c=>.ret (c,ws)|_=>.none
 |_=>.none
theorem act(h:WRf X κ H s a w ft){nm:Nat}{c c':AC}{ws:List Wr}{u:Value}(hc:ACr κ H c u)(hr:Runs P G s (reC nm c) (c',ws)):∃κ',WRel X κ' H (s.writes ws) a w∧Con.le κ κ'∧ACr κ' H c' u∧(s.writes ws).boxes=s.boxes:=by
 have mv:∀{d g:Nat} {co:Ob} {c1:Nat→AC},d≠nm→g<κ.nr d→(∀κ',Con.le κ κ'→ObOk κ' H w u co (ft d))→(∀g' κ',g'=κ.nr nm→κ'=κ.addRow nm u→ACr κ' H (c1 g') u)→
  ∀{c' ws},Runs P G s ((obN nm co fun g' ws=>.ret (.one (c1 g'),obW d g .gone::ws)).bind fun(v,ws)=>match v with| .one c=>(.ret (c,ws):Rd (AC×List Wr))|_=>.none) (c',ws)→∃κ',WRel X κ' H (s.writes ws) a w∧Con.le κ κ'∧ACr κ' H c' u∧(s.writes ws).boxes=s.boxes:=by
  intro d g co c1 hne hg hok hc1 c' ws hr;obtain⟨⟨v,ws'⟩,r1,r2⟩:=az hr;have r1:=gK h.rel r1;simp only[Runs,ai]at r1;obtain⟨rfl,rfl⟩:=r1;simp only[Runs,ai]at r2;obtain⟨rfl,rfl⟩:=r2;obtain⟨h1,hfree⟩:=h.gone (d:=d) (g:=g) hg
  have h2:=h1.add nm u (h.obs.nodup d) hfree (hok _ (κ.le_addRow nm _));exact⟨_,(h2.congr (fun _=>rfl) (fun _=>rfl) (fun _=>rfl)).wrel,κ.le_addRow nm u,hc1 _ _ rfl rfl,rfl⟩
 have kp:∀{co:Ob} {bs:List Nat},ObOk κ H w u co bs→∀κ',Con.le κ κ'→ObOk κ' H w u co bs:=fun hok κ' hle=>hok.kept hle (fun _ _=>⟨rfl,rfl⟩) (Fz.le_refl _);unfold reC at hr;split at hr
 ·rename_i d g n;split at hr
  ·simp only[Runs,ai]at hr;obtain⟨rfl,rfl⟩:=hr;exact⟨κ,h.wrel,Con.le_refl κ,hc,rfl⟩
  ·rename_i hne;have hne:=eZ hne;obtain⟨co,hco,hr⟩:=az hr;obtain⟨hok,-,-⟩:=h.at_ hco;obtain⟨hg,hu,A,cap,he,hA⟩:=eU (.one _ _ hc);rw[hu]at hok;have hc1:∀g' κ',g'=κ.nr nm→κ'=κ.addRow nm u→ACr κ' H (.rref nm g' n) u:=fun g' κ' e1 e2=>by
    subst e1;subst e2;rw[he];exact .newRref κ H nm n hA
   split at hr
   ·exact mv hne hg (kp hok) hc1 hr
   ·exact mv hne hg (kp hok) hc1 hr
   ·exact mv hne hg (kp hok) hc1 hr
   ·exact hr.elim
 ·rename_i d g;split at hr
  ·simp only[Runs,ai]at hr;obtain⟨rfl,rfl⟩:=hr;exact⟨κ,h.wrel,Con.le_refl κ,hc,rfl⟩
  ·rename_i hne;have hne:=eZ hne;obtain⟨co,hco,hr⟩:=az hr;obtain⟨hok,-,-⟩:=h.at_ hco;obtain⟨hg,hu,r,he⟩:=io (.one _ _ hc);rw[hu]at hok;have hc1:∀g' κ',g'=κ.nr nm→κ'=κ.addRow nm u→ACr κ' H (.mref nm g') u:=fun g' κ' e1 e2=>by
    subst e1;subst e2;rw[he];exact .mref nm _ r (by simp[Con.addRow]) (by simp[Con.addRow])
   split at hr
   ·exact mv hne hg (kp hok) hc1 hr
   ·exact mv hne hg (kp hok) hc1 hr
   ·exact hr.elim
 ·rename_i e sz;obtain⟨⟨v,ws'⟩,r1,r2⟩:=az hr;have r1:=gK h.rel r1;simp only[Runs,ai]at r1;obtain⟨rfl,rfl⟩:=r1;simp only[Runs,ai]at r2;obtain⟨rfl,rfl⟩:=r2;have hu:=inv_nil (.one _ _ hc);subst hu
  have h2:=h.add nm (.slice none 0 0) (c:=.row e sz []) (bs:=[]) (by simp) (by simp) ⟨by simp,.inl ⟨rfl,rfl,rfl⟩⟩;exact⟨_,h2.wrel,κ.le_addRow nm _,.newRref κ H nm 0 (.inl rfl),rfl⟩
 ·exact hr.elim
inductive Adj where
 |box (b k nm:Nat)
 |tmp (t nm:Nat)
 |nilT (t nm e sz:Nat)
 |nilR (t nm e2 sz2 e:Nat)
 |frz (t:Nat)
def adjE:Adj→Rd (List Wr)
 | .box b k nm=>.box b fun
  |some ⟨g,ty,cs⟩=>match cs[k]? with
   |some c=>(reC nm c).bind fun(c',ws)=>.ret (ws++[.box b ⟨g,ty,cs.set k c'⟩])
   |none=>.none
  |none=>.none
 | .tmp t nm=>match Nat.blt t 2048 with
  |true=>.tmp t fun
   | .one c=>(reC nm c).bind fun(c',ws)=>.ret (ws++[.tmp t (.one c')])
   |_=>.none
  |false=>.none
 | .nilT t nm e sz=>match Nat.blt t 2048 with
  |true=>.tmp t fun
   | .one (.v (.slice none 0 0))=>(reC nm (.nil e sz)).bind fun(c',ws)=>.ret (ws++[.tmp t (.one c')])
   |_=>.none
  |false=>.none
 | .nilR t nm e2 sz2 e=>match Nat.blt t 2048 with
  |true=>.tmp t fun
   | .one (.v (.slice none 0 0))=>(obN nm (.rows e2 sz2 e []) fun g' ws=>.ret (.one (.rref nm g' 0),ws)).bind fun(v,ws)=>.ret (ws++[.tmp t v])
   |_=>.none
  |false=>.none
 | .frz t=>match Nat.blt t 2048 with
  |true=>.tmp t fun v=>(frzE v).bind fun(v',ws)=>.ret (ws++[.tmp t v'])
  |false=>.none
theorem aik(h:WRel X κ H s a w){x:Adj}{ws:List Wr}(hr:Runs P G s (adjE x) ws):∃κ' H',WRel X κ' H' (s.writes ws) a w:=by
 obtain⟨ft,h⟩:=h.f;cases x with
 |box b k nm=>
  simp only[adjE,Runs]at hr;split at hr
  ·rename_i g ty cs hb;split at hr
   ·rename_i c hk;obtain⟨⟨c',ws1⟩,r1,hr⟩:=az hr;simp only[Runs]at hr;subst hr;obtain⟨hnb,q1,us,q2,q3⟩:=h.rel.box b _ hb;have hkl:k<cs.length:=(aq.1 hk).1;have hku:=ad (l:=us) (i:=k) (by rw[q3.1];exact hkl)
    obtain⟨κ',k1,k2,k3,k4⟩:=act h (q3.2 k c _ hk hku) r1;obtain⟨ft',k1⟩:=k1.f;have hblk:κ'.blk b g=κ.blk b g:=k2.blk b g (by simp only at hnb;omega);have:=zQ (d:=b) (b:=⟨g,ty,cs⟩) (cs:=cs.set k c') k1 (by rw[k4];exact hb) (by
     show gO κ' H w (κ'.blk b g) ty _;rw[hblk];refine⟨q1,us,q2,by rw[dt];exact q3.1,fun j c2 u a1 a2=>?_⟩;rw[bf]at a1;split at a1
     ·rename_i hj;subst hj;cases a1;rw[hku]at a2;cases a2;exact k3
     ·exact(q3.2 j c2 u a1 a2).mono k2 (Fz.le_refl H))
    exact⟨κ',H,by rw[bQ];exact this.wrf.wrel⟩
   ·exact hr.elim
  ·exact hr.elim
 |tmp t nm=>
  simp only[adjE]at hr;split at hr
  ·rename_i ht;have ht:t<2048:=by simpa [dp]using ht
   obtain⟨v,hv,hr⟩:=hr;cases v with
   |one c=>
    obtain⟨⟨c',ws1⟩,r1,hr⟩:=az hr;simp only[Runs]at hr;subst hr;have hvr:=h.rel.tmps t _ hv;cases hvr with|one _ _ hc=>
    obtain⟨κ',k1,k2,k3,k4⟩:=act h hc r1;refine⟨κ',H,?_⟩;rw[bQ];have:=nT (vs:=[.one c']) (i:=t) k1 (by simp;omega) (fun j v hj=>by
     cases j with
     |zero=>simp at hj;subst hj;exact .one _ _ k3
     |succ j=>simp at hj)
    exact this
   |undef=>exact hr.elim
   |agg=>exact hr.elim
   |tup=>exact hr.elim
   |ob=>exact hr.elim
  ·exact hr.elim
 |nilT t nm e sz=>
  simp only[adjE]at hr;split at hr
  ·rename_i ht;have ht:t<2048:=by simpa [dp]using ht
   obtain⟨v,hv,hr⟩:=hr;simp only at hr;split at hr
   ·obtain⟨⟨c',ws1⟩,r1,hr⟩:=az hr;simp only[Runs]at hr;subst hr;have hvr:=h.rel.tmps t _ hv;have hu:=(cN hvr).1;obtain⟨κ',k1,k2,k3,k4⟩:=act (u:=.slice none 0 0) h (.zero e sz) r1;refine⟨κ',H,?_⟩;rw[bQ];exact nT (vs:=[.one c']) (i:=t) k1 (by simp;omega) (fun j v hj=>by
     cases j with
     |zero=>simp at hj;subst hj;rw[show t+0=t from rfl,hu];exact .one _ _ k3
     |succ j=>simp at hj)
   ·exact hr.elim
  ·exact hr.elim
 |nilR t nm e2 sz2 e=>
  simp only[adjE]at hr;split at hr
  ·rename_i ht;have ht:t<2048:=by simpa [dp]using ht
   obtain⟨v,hv,hr⟩:=hr;simp only at hr;split at hr
   ·obtain⟨⟨v',ws1⟩,r1,hr⟩:=az hr;simp only[Runs]at hr;subst hr;have hvr:=h.rel.tmps t _ hv;have hu:=(cN hvr).1;have r1:=gK h.rel r1;simp only[Runs,ai]at r1;obtain⟨rfl,rfl⟩:=r1
    have h2:=h.add nm (.slice none 0 0) (c:=.rows e2 sz2 e []) (bs:=[]) (by simp) (by simp) (.inl ⟨rfl,rfl,rfl⟩);refine⟨κ.addRow nm (.slice none 0 0),H,?_⟩;rw[bQ];exact nT (vs:=[.one (.rref nm (κ.nr nm) 0)]) (i:=t) h2.wrel (by simp;omega) (fun j v hj=>by
     cases j with
     |zero=>simp at hj;subst hj;rw[show t+0=t from rfl,hu];exact .one _ _ (.newRref κ H nm 0 (.inl rfl))
     |succ j=>simp at hj)
   ·exact hr.elim
  ·exact hr.elim
 |frz t=>
  simp only[adjE]at hr;split at hr
  ·rename_i ht;have ht:t<2048:=by simpa [dp]using ht
   obtain⟨v,hv,hr⟩:=hr;obtain⟨⟨v',ws1⟩,r1,hr⟩:=az hr;simp only[Runs]at hr;subst hr;obtain⟨H',k1,k2,k3⟩:=vO h.wrel (h.rel.tmps t _ hv) r1;refine⟨κ,H',?_⟩;rw[bQ];exact nT (vs:=[v']) (i:=t) k1 (by simp;omega) (fun j v hj=>by
    cases j with
    |zero=>simp at hj;subst hj;exact k3
    |succ j=>simp at hj)
  ·exact hr.elim
end
def wkFW(P:Program)(G:Nat→Option (List AC))(tl bl ol:List Nat):List Adj→St→(St→Prop)→Prop
 | [],s,K=>K (V.norm (tl++ol.map (OB+ ·)) bl ol s)
 |x::l,s,K=>runP P G s (adjE x) [] fun ws _=>writesK (fun s=>wkFW P G tl bl ol l s K) ws s.tmps s.boxes s.perms
theorem wkW{P:Program}{G:Nat→Option (List AC)}(tl bl ol:List Nat):∀(l:List Adj) {s s0:St},wkFW P G tl bl ol l s (fun s=>s=s0)→WkW s s0
 | [],s,s0,h=>by
  have h:_=s0:=h;subst h;exact WkW.norm _ _ _ s
 |x::l,s,s0,h=>by
  intro X κ H a w hr;obtain⟨ws,ls,h1,hr1⟩:=pO h;rw[writesK_eq]at h1;obtain⟨κ',H',k1⟩:=aik hr hr1;exact wkW tl bl ol l h1 X κ' H' a w k1
def argO:Arg→AV
 | .val a=>a
 | .box ty cs=>.one (.obox ty cs)
def resO:Res→WRes
 | .val a=>.val a
 | .row e sz xs=>.row e sz xs
def outO:List Arg→List (List AC)→List AC
 | .val _::xs,css=>outO xs css
 | .box ty _::xs,cs::css=>.obox ty cs::outO xs css
 |_,_=>[]
def plC(c:AC):Bool:=match c with
 | .v _=>true
 | .sl _ _ _ none=>true
 | .ref _ _=>true
 | .clo _ []=>true
 |_=>false
def plA:Arg→Bool
 | .val (.one c)=>plC c
 | .val (.agg cs)=>cs.all plC
 | .val _=>false
 | .box _ cs=>cs.all plC
def acX:List Res→Bool
 | []=>true
 | .val _::rs=>acX rs
 | .row _ _ _::_=>false
def acQ:List Res→Bool
 | []=>true
 |_::rs=>acX rs
section
variable{P:Program}{G:Nat→Option (List AC)}{H:Fz}{w:World}
theorem agt{c:AC}{u:Value}{b:List Nat}(hp:plC c=true)(h:TrR H w c u b):ACr Con.no H c u∧b=[]:=by
 cases h with
 |pers _ _ h=>exact⟨h,rfl⟩
 |own=>cases hp
 |omap=>cases hp
 |omrow=>cases hp
 |uf=>cases hp
 |bld=>cases hp
 |obox=>cases hp
 |clo f cs us bss hl hl2 hh=>
  cases cs with
  |nil=>
   obtain rfl:=aK hl;obtain rfl:=aK hl2;exact⟨.clo f [] [] rfl (by simp),rfl⟩
  |cons=>cases hp
theorem aff{c:AC}(hp:plC c=true):ownC c=false:=by
 unfold plC at hp;split at hp<;>first|rfl|cases hp
theorem ags:∀{cs:List AC} {us:List Value} {bss:List (List Nat)},cs.all plC=true→us.length=cs.length→bss.length=cs.length→(∀(j:Nat) (c:AC) (u:Value) (bj:List Nat),cs[j]?=some c→us[j]?=some u→bss[j]?=some bj→TrR H w c u bj)→Cs Con.no H cs us∧bss.flatten=[]
 | [],us,bss,_,h1,h2,_=>by
  obtain rfl:=aK h1;obtain rfl:=aK h2;exact⟨.nil,rfl⟩
 |c::cs,[],bss,_,h1,h2,_=>by simp at h1
 |c::cs,u::us,[],_,h1,h2,_=>by simp at h2
 |c::cs,u::us,b::bss,hp,h1,h2,ht=>by
  simp only[gN,aw]at hp;obtain⟨k1,rfl⟩:=agt hp.1 (ht 0 c u b rfl rfl rfl);obtain⟨k2,k3⟩:=ags hp.2 (us:=us) (bss:=bss) (by simpa using h1) (by simpa using h2) fun j c u bj a1 a2 a3=>ht (j+1) c u bj (by simpa using a1) (by simpa using a2) (by simpa using a3)
  exact⟨.cons k1 k2,by simp[k3]⟩
theorem yj{a:AV}{u:Value}{b:List Nat}(hp:plA (.val a)=true)(h:ArgW H w a u b):AVr Con.no H a u∧b=[]∧eH a=false:=by
 cases a with
 |one c=>
  obtain⟨k1,rfl⟩:=agt (show plC c=true from hp) h;exact⟨.one _ _ k1,rfl,aff hp⟩
 |undef=>cases hp
 |agg cs=>exact⟨h.1,h.2,rfl⟩
 |tup=>cases hp
 |ob=>cases hp
theorem wh:∀{xs:List Arg} {us:List Value} {bss:List (List Nat)},xs.all plA=true→ky H w (xs.map argO) us bss→mR H w xs us∧cC xs us=bss.flatten
 | [],[],[],_,_=>⟨trivial,rfl⟩
 | [],[],_::_,_,h=>by cases h
 | [],_::_,_,_,h=>by cases h
 |_::_,[],_,_,h=>by cases h
 |_::_,_::_,[],_,h=>by cases h
 | .val a::xs,u::us,b::bss,hp,h=>by
  simp only[gN,aw]at hp;obtain⟨h1,h2⟩:=h;obtain⟨k1,rfl,-⟩:=yj hp.1 h1;obtain⟨m1,m2⟩:=wh hp.2 h2;exact⟨⟨k1,m1⟩,by rw[aO,dG,←m2];rfl⟩
 | .box ty cs::xs,u::us,b::bss,hp,h=>by
  simp only[gN,aw]at hp;obtain⟨h1,h2⟩:=h;obtain⟨m1,m2⟩:=wh hp.2 h2;have h1:TrR H w (.obox ty cs) u b:=h1;cases h1 with
  |pers _ _ hc=>cases hc
  |obox _ _ k us0 bss0 q1 q2 q3 q4 q5=>
   obtain⟨p1,p2⟩:=ags (show cs.all plC=true from hp.1) q3 q4 q5;refine⟨⟨⟨k,rfl,q1,us0,q2,p1⟩,m1⟩,?_⟩;rw[aO,p2,←m2];rfl
theorem vp:∀{xs:List Arg} {us:List Value} {css:List (List AC)} {w0:World} {H0:Fz} {bss:List (List Nat)},xs.all plA=true→ky H0 w0 (xs.map argO) us bss→tp H w xs us css→∃bo,fi H w (xs.map argO) us (outO xs css) bo∧bo.flatten=cC xs us
 | [],[],[],_,_,_,_,_,_=>⟨[],trivial,rfl⟩
 | [],[],_::_,_,_,_,_,_,h=>by cases h
 | [],_::_,_,_,_,_,_,_,h=>by cases h
 | .val _::_,[],_,_,_,_,_,_,h=>by cases h
 | .box _ _::_,[],_,_,_,_,_,_,h=>by cases h
 | .box _ _::_,_::_,[],_,_,_,_,_,h=>by cases h
 |_::_,_::_,_,_,_,[],_,h,_=>by cases h
 | .val a::xs,u::us,css,w0,H0,b::bss,hp,ha,h=>by
  simp only[gN,aw]at hp;obtain⟨bo,k1,k2⟩:=vp (xs:=xs) (us:=us) (css:=css) hp.2 ha.2 h;obtain⟨-,-,ho⟩:=yj hp.1 ha.1;exact⟨bo,.inl ⟨ho,k1⟩,by rw[k2];rfl⟩
 | .box ty cs0::xs,u::us,cs::css,w0,H0,b::bss,hp,ha,h=>by
  simp only[gN,aw]at hp;obtain⟨⟨k,rfl,q1,us0,q2,q3⟩,h⟩:=h;obtain⟨bo,k1,k2⟩:=vp (xs:=xs) (us:=us) (css:=css) hp.2 ha.2 h;have ht:=TrR.obox (H:=H) (w:=w) ty cs k us0 (List.replicate cs.length []) q1 q2 q3.1 (by simp) fun j c u bj a1 a2 a3=>by
   rw[eI]at a3;split at a3
   ·cases a3;exact .pers c u (q3.2 j c u a1 a2)
   ·cases a3
  have e:(List.replicate cs.length ([]:List Nat)).flatten=[]:=by simp
  rw[e]at ht;exact⟨[k]::bo,.inr ⟨rfl,_,_,_,_,rfl,rfl,ht,k1⟩,by rw[aO,k2];rfl⟩
theorem acr{n:Nat}:∀{rs:List Res} {us:List Value},acX rs=true→ResL H w n rs us→∃br,mQ H w (rs.map resO) us br∧br.flatten=[]
 | [],[],_,_=>⟨[],trivial,rfl⟩
 | [],_::_,_,h=>by cases h
 |_::_,[],_,h=>by cases h
 | .val a::rs,u::us,hn,h=>by
  obtain⟨br,k1,k2⟩:=acr (rs:=rs) hn h.2;exact⟨[]::br,⟨⟨h.1,rfl⟩,k1⟩,by simp[k2]⟩
 | .row _ _ _::_,_::_,hn,_=>by cases hn
theorem ahk{n:Nat}{rs:List Res}{us:List Value}(hn:acQ rs=true)(h:ResL H w n rs us):∃br,mQ H w (rs.map resO) us br∧br.flatten.Nodup∧∀k∈br.flatten,n≤k:=by
 cases rs with
 |nil=>
  cases us with
  |nil=>exact⟨[],trivial,by simp,by simp⟩
  |cons=>cases h
 |cons r rs=>
  cases us with
  |nil=>cases h
  |cons u us=>
   obtain⟨br,k1,k2⟩:=acr (rs:=rs) hn h.2;cases r with
   |val a=>exact⟨[]::br,⟨⟨h.1,rfl⟩,k1⟩,by simp[k2],by simp[k2]⟩
   |row e sz xs=>
    obtain⟨⟨h1,h2,h3⟩,-⟩:=h;refine⟨u.ownBlock.toList::br,⟨⟨h1,h2,rfl⟩,k1⟩,?_,?_⟩
    ·rw[aO,k2,aX];cases u.ownBlock<;>simp
    ·rw[aO,k2,aX];intro k hk;exact h3 k (by simpa using hk)
theorem CTW.of{f:Nat}{xs:List Arg}{rs:List Res}{css:List (List AC)}(h:CT P G f xs rs css)(hp:(xs.all plA&&acQ rs)=true):CTW P G f (xs.map argO) (rs.map resO) (outO xs css):=by
 intro H w us bss hfz hG ha hnd;simp only[aw]at hp;obtain⟨k1,k2⟩:=wh hp.1 ha;refine hU (h H w us hfz hG k1 (k2▸hnd)) fun e w' ⟨v,H',he,hpost⟩=>⟨v,H',he,?_⟩;obtain⟨bo,m1,m2⟩:=vp hp.1 ha hpost.outs;obtain⟨vs,hres,rfl⟩:=hpost.res;obtain⟨br,n1,n2,n3⟩:=ahk hp.2 hres
 exact{
  le:=hpost.le,fz:=hpost.fz,keep:=fun b hb1 hb2=>hpost.keep b hb1 (by rw[k2];exact hb2),grown:=hpost.grown,os:=hpost.os,tape:=hpost.tape,output:=hpost.output
  res:=⟨vs,bo,br,m1,n1,rfl,by
   rw[m2,k2];exact aU.2 ⟨hnd,n2,fun k hk k' hk' e=>by
    subst e;have:=py ha k hk;have:=n3 k hk';omega⟩,fun k hk=>by
   rw[m2,k2]at hk;exact(aM.1 hk).imp id (n3 k)⟩}
end
section
variable{P:Program}
theorem uW{k:IntKind}{n:Int}{x:Value}(h:shp (.int k n) x=true):∃a,x= .int k a:=by
 cases x<;>simp[shp,shp1]at h;rename_i a _;exact⟨_,by rw[h]⟩
theorem uV{s:ByteArray}{x:Value}(h:shp (.string s) x=true):∃a,x= .string a:=by
 cases x<;>simp[shp,shp1]at h;exact⟨_,rfl⟩
theorem acb{s:Bool}{x:Value}(h:shp1 (.bool s) x=true):∃a,x= .bool a:=by
 cases x<;>simp[shp1]at h;exact⟨_,rfl⟩
theorem wP{k:IntKind}{n:Int}{x:Value}(h:shp1 (.int k n) x=true):∃a,x= .int k a:=by
 cases x<;>simp[shp1]at h;rename_i a _;exact⟨_,by rw[h]⟩
theorem wO{s:ByteArray}{x:Value}(h:shp1 (.string s) x=true):∃a,x= .string a:=by
 cases x<;>simp[shp1]at h;exact⟨_,rfl⟩
theorem uX{zs:Array Value}{x:Value}(h:shp (.agg zs) x=true):∃xs:Array Value,x= .agg xs∧shpL zs.toList xs.toList=true:=by
 cases x<;>simp[shp,shp1]at h;exact⟨_,rfl,h⟩
theorem aiy{z:Value}{xs:Array Value}(h:shpL [z] xs.toList=true):∃a,xs= #[a]∧shp1 z a=true:=by
 cases hx:xs.toList with
 |nil=>rw[hx]at h;cases h
 |cons a l=>
  cases l with
  |nil=>
   rw[hx]at h;simp only[shpL,gQ]at h;exact⟨a,by apply ep;simpa using hx,h⟩
  |cons=>rw[hx]at h;simp[shpL]at h
theorem agr{z z':Value}{xs:Array Value}(h:shpL [z,z'] xs.toList=true):∃a b,xs= #[a,b]∧shp1 z a=true∧shp1 z' b=true:=by
 cases hx:xs.toList with
 |nil=>rw[hx]at h;cases h
 |cons a l=>
  cases l with
  |nil=>rw[hx]at h;simp[shpL]at h
  |cons b l=>
   cases l with
   |nil=>
    rw[hx]at h;simp only[shpL,gQ,aw]at h;exact⟨a,b,by apply ep;simpa using hx,h.1,h.2⟩
   |cons=>rw[hx]at h;simp[shpL]at h
def ip(es:List MapEntry)(i:Nat)(r:Option Nat):Option (Nat×Value):=r.map fun j=>(i+j,((es[j]?).map (·.val)).getD Go.undef)
theorem sB(e:MapEntry)(es:List MapEntry)(i:Nat)(r:Option Nat):ip (e::es) i (r.map (· +1))=ip es (i+1) r:=by
 cases r with
 |none=>rfl
 |some j=>simp[ip,ge,Nat.add_comm 1 j]
theorem oZ{kt:Nat}{z:Value}(heq:∀x y,shp z x=true→shp z y=true→∀w,(Op.equal kt x y).run P w= .ok (kEq x y) w){x:Value}(hx:shp z x=true)(w:World):∀(es:List MapEntry) (i:Nat),(∀e∈es,shp z e.key=true)→
 (Instr.findAsking kt x es i).run P w= .ok (ip es i (bL x (es.map (·.key)))) w
 | [],i,_=>by simp[Instr.findAsking,bL,ip]
 |e::es,i,h=>by
  have h1:=heq x e.key hx (h e (by simp)) w;simp only[Instr.findAsking,aY,h1,aF,bE,bL];cases kEq x e.key with
  |true=>simp[ip]
  |false=>
   simp only[cJ,if_false];rw[oZ heq hx w es (i+1) fun e' he=>h e' (by simp[he]),sB]
theorem qh{d:TypeDesc}{z:Value}(heq:∀x y,shp z x=true→shp z y=true→Instr.sameNow d x y=some (kEq x y)){x:Value}(hx:shp z x=true):∀(es:List MapEntry) (i:Nat),(∀e∈es,shp z e.key=true)→
 Instr.findNow d x es i=some (ip es i (bL x (es.map (·.key))))
 | [],i,_=>by simp[Instr.findNow,bL,ip]
 |e::es,i,h=>by
  have h1:=heq x e.key hx (h e (by simp));simp only[Instr.findNow,h1,bE,bL];cases kEq x e.key with
  |true=>simp[ip]
  |false=>
   simp only;rw[qh heq hx es (i+1) fun e' he=>h e' (by simp[he]),sB]
def KeyT(P:Program)(kt:Nat)(z:Value):Prop:=∀x,shp z x=true→(∀em w,(Instr.checkKey em 10000 kt x).run P w= .ok () w)∧Instr.sameBits 10000 x x=true∧
 ∀(es:List MapEntry),(∀e∈es,shp z e.key=true)→∀w,(Instr.findKey kt x es).run P w= .ok ((bL x (es.map (·.key))).map fun i=>(i,((es[i]?).map (·.val)).getD Go.undef)) w
theorem sC(es:List MapEntry)(r:Option Nat):ip es 0 r=r.map fun i=>(i,((es[i]?).map (·.val)).getD Go.undef):=by
 cases r<;>simp[ip]
theorem we(a b:ByteArray):(a==b)=decide (a=b):=by
 rw[←lh,beq_toListBytes]
theorem adp{kt:Nat}{k:IntKind}(hu:P.underlying kt=some (.int k))(n:Int):KeyT P kt (.int k n):=by
 intro x hx;obtain⟨a,rfl⟩:=uW hx;have hc:∀m em w,(Instr.checkKey em (m+1) kt (.int k a)).run P w= .ok () w:=fun m em w=>by simp[Instr.checkKey,aA hu]
 refine⟨fun em w=>hc 9999 em w,by simp[Instr.sameBits],fun es hes w=>?_⟩;rw[MapKept.run_findKey hu (qh (z:=.int k n) (fun x y h1 h2=>by
  obtain⟨a,rfl⟩:=uW h1;obtain⟨b,rfl⟩:=uW h2;simp only[Instr.sameNow,if_pos,kEq,k1,fh,iR,am];exact ry a b) hx es 0 hes),sC]
theorem ado{kt:Nat}(hu:P.underlying kt=some .string)(s:ByteArray):KeyT P kt (.string s):=by
 intro x hx;obtain⟨a,rfl⟩:=uV hx;have hc:∀m em w,(Instr.checkKey em (m+1) kt (.string a)).run P w= .ok () w:=fun m em w=>by simp[Instr.checkKey,aA hu]
 refine⟨fun em w=>hc 9999 em w,by simp[Instr.sameBits,we],fun es hes w=>?_⟩;rw[MapKept.run_findKey hu (qh (z:=.string s) (fun x y h1 h2=>by
  obtain⟨a,rfl⟩:=uV h1;obtain⟨b,rfl⟩:=uV h2;simp only[Instr.sameNow,kEq,k1,am];exact we a b) hx es 0 hes),sC]
theorem qe{kt:Nat}{z:Value}(hw:(match P.underlying kt with|some (.array _ _)|some (.struct _)=>true|_=>false)=true)(hc:∀x,shp z x=true→∀em w,(Instr.checkKey em 10000 kt x).run P w= .ok () w)(hb:∀x,shp z x=true→Instr.sameBits 10000 x x=true)
 (heq:∀x y,shp z x=true→shp z y=true→∀w,(Op.equal kt x y).run P w= .ok (kEq x y) w):KeyT P kt z:=by
 intro x hx;refine⟨hc x hx,hb x hx,fun es hes w=>?_⟩;rw[run_findKey_eq w hw,oZ heq hx w es 0 hes,sC]
theorem afM{fs:List Field}{t o:Nat}(h:(fs.map fun f=>(f.name != "_",f.type,f.offset))=[(true,t,o)]):∃f,fs=[f]∧f.name≠ "_" ∧f.type=t∧f.offset=o:=by
 cases fs with
 |nil=>cases h
 |cons f fs=>
  cases fs with
  |nil=>
   simp only[bE,fY,gU,ai,and_true]at h;exact⟨f,rfl,by simpa using h.1,h.2.1,h.2.2⟩
  |cons=>simp at h
theorem afL{fs:List Field}{t o t' o':Nat}(h:(fs.map fun f=>(f.name != "_",f.type,f.offset))=[(true,t,o),(true,t',o')]):∃f g,fs=[f,g]∧(f.name≠ "_" ∧f.type=t∧f.offset=o)∧g.name≠ "_" ∧g.type=t'∧g.offset=o':=by
 cases fs with
 |nil=>cases h
 |cons f fs=>
  cases fs with
  |nil=>simp at h
  |cons g fs=>
   cases fs with
   |nil=>
    simp only[bE,fY,gU,ai,and_true]at h;exact⟨f,g,rfl,⟨by simpa using h.1.1,h.1.2.1,h.1.2.2⟩,by simpa using h.2.1,h.2.2.1,h.2.2.2⟩
   |cons=>simp at h
theorem pi{kt:Nat}{em:Bool}{xs:Array Value}(hu:P.underlying kt=some (.struct (P.fieldsOf kt)))(w:World)(m:Nat)(h:∀f∈(P.fieldsOf kt).toList,∃a,(part f.type xs f.offset).run P w= .ok a w∧(Instr.checkKey em m f.type a).run P w= .ok () w):(Instr.checkKey em (m+1) kt (.agg xs)).run P w= .ok () w:=by
 simp only[Instr.checkKey,aY,aA hu,aF];rw[←Array.forIn_toList];generalize (P.fieldsOf kt).toList=fs at h
 induction fs with
 |nil=>simp
 |cons f fs ih=>
  obtain⟨a,h1,h2⟩:=h f (by simp);have ih:=ih fun g hg=>h g (by simp[hg]);by_cases hn:f.name= "_"
  ·simpa [hn]using ih
  ·simpa [hn,h1,h2]using ih
theorem vD{kt ts:Nat}(hu:P.underlying kt=some (.struct (P.fieldsOf kt)))(hst:P.stoodInHeld kt=false)(h9:P.underlying ts=some .string)(hf:((P.fieldsOf kt).toList.map fun f=>(f.name != "_",f.type,f.offset))=[(true,ts,0)]) (s:ByteArray):KeyT P kt (.agg #[.string s]):=by
 obtain⟨f,ef,en,et,eo⟩:=afM hf;have inv:∀x,shp (.agg #[.string s]) x=true→∃a,x= .agg #[.string a]:=by
  intro x hx;obtain⟨xs,rfl,h⟩:=uX hx;obtain⟨y,rfl,h'⟩:=aiy h;obtain⟨a,rfl⟩:=wO h';exact⟨a,rfl⟩
 have hp:∀(a:ByteArray) w,(part ts #[.string a] 0).run P w= .ok (.string a) w:=fun a w=>by simp[part,isAgg,aA h9]
 refine qe (by rw[hu]) (fun x hx em w=>?_) (fun x hx=>?_) fun x y hx hy w=>?_
 ·obtain⟨a,rfl⟩:=inv x hx;have hc:∀m em w,(Instr.checkKey em (m+1) ts (.string a)).run P w= .ok () w:=fun m em w=>by simp[Instr.checkKey,aA h9]
  refine pi hu w 9999 fun g hg=>?_;rw[ef]at hg;obtain rfl:=ax.1 hg;rw[et,eo];exact⟨_,hp a w,hc 9998 em w⟩
 ·obtain⟨a,rfl⟩:=inv x hx;simp[Instr.sameBits,we]
 ·obtain⟨a,rfl⟩:=inv x hx;obtain⟨b,rfl⟩:=inv y hy;have q:=jO (P:=P) w 9998 ts a b h9;show(Op.equalIn (9999+1) kt _ _).run P w=_;rw[run_equalIn_agg w 9999 kt _ _ hu hst,ef];simp only[Op.eqFields,en,ne_eq,not_false_eq_true,if_true,aY,et,eo,hp,aF,q,lh]
  by_cases h:a=b<;>simp[h,kEq,kL,k1]
theorem aaA{kt ts tb:Nat}(hu:P.underlying kt=some (.struct (P.fieldsOf kt)))(hst:P.stoodInHeld kt=false)(h9:P.underlying ts=some .string)(h4:P.underlying tb=some .bool)(hf:((P.fieldsOf kt).toList.map fun f=>(f.name != "_",f.type,f.offset))=[(true,ts,0),(true,tb,1)]) (s:ByteArray) (b0:Bool):KeyT P kt (.agg #[.string s,.bool b0]):=by
 obtain⟨f,g,ef,⟨en,et,eo⟩,en',et',eo'⟩:=afL hf;have inv:∀x,shp (.agg #[.string s,.bool b0]) x=true→∃a b,x= .agg #[.string a,.bool b]:=by
  intro x hx;obtain⟨xs,rfl,h⟩:=uX hx;obtain⟨y,y',rfl,h,h'⟩:=agr h;obtain⟨a,rfl⟩:=wO h;obtain⟨b,rfl⟩:=acb h';exact⟨a,b,rfl⟩
 have hp:∀(a:ByteArray) (b:Bool) w,(part ts #[.string a,.bool b] 0).run P w= .ok (.string a) w:=fun a b w=>by simp[part,isAgg,aA h9]
 have hp':∀(a:ByteArray) (b:Bool) w,(part tb #[.string a,.bool b] 1).run P w= .ok (.bool b) w:=fun a b w=>by simp[part,isAgg,aA h4]
 refine qe (by rw[hu]) (fun x hx em w=>?_) (fun x hx=>?_) fun x y hx hy w=>?_
 ·obtain⟨a,b,rfl⟩:=inv x hx;have hc:∀m em w,(Instr.checkKey em (m+1) ts (.string a)).run P w= .ok () w:=fun m em w=>by simp[Instr.checkKey,aA h9]
  have hc':∀m em w,(Instr.checkKey em (m+1) tb (.bool b)).run P w= .ok () w:=fun m em w=>by simp[Instr.checkKey,aA h4]
  refine pi hu w 9999 fun g' hg=>?_;rw[ef]at hg;rcases aV.1 hg with rfl|hg
  ·rw[et,eo];exact⟨_,hp a b w,hc 9998 em w⟩
  ·obtain rfl:=ax.1 hg;rw[et',eo'];exact⟨_,hp' a b w,hc' 9998 em w⟩
 ·obtain⟨a,b,rfl⟩:=inv x hx;simp[Instr.sameBits,we]
 ·obtain⟨a,b,rfl⟩:=inv x hx;obtain⟨a',b',rfl⟩:=inv y hy;have q:=jO (P:=P) w 9998 ts a a' h9;have q':=run_equalIn_bool (P:=P) w 9998 tb b b' h4;show(Op.equalIn (9999+1) kt _ _).run P w=_;rw[run_equalIn_agg w 9999 kt _ _ hu hst,ef]
  simp only[Op.eqFields,en,en',ne_eq,not_false_eq_true,if_true,aY,Sem.run_ite,et,eo,et',eo',hp,hp',aF,q,q',lh];by_cases h:a=a'<;>cases b<;>cases b'<;>simp[h,kEq,kL,k1]
theorem vF{kt ti:Nat}{k:IntKind}{i:TypeInfo}(hu:P.underlying kt=some (.array 2 ti))(h3:P.underlying ti=some (.int k))(hi:P.info? ti=some i)(hc1:P.cellsOf ti=1)(m n:Int):KeyT P kt (.agg #[.int k m,.int k n]):=by
 have inv:∀x,shp (.agg #[.int k m,.int k n]) x=true→∃a b,x= .agg #[.int k a,.int k b]:=by
  intro x hx;obtain⟨xs,rfl,h⟩:=uX hx;obtain⟨y,y',rfl,h,h'⟩:=agr h;obtain⟨a,rfl⟩:=wP h;obtain⟨b,rfl⟩:=wP h';exact⟨a,b,rfl⟩
 have hp:∀(a b:Int) w,(part ti #[.int k a,.int k b] 0).run P w= .ok (.int k a) w:=fun a b w=>by simp[part,isAgg,aA h3]
 have hp':∀(a b:Int) w,(part ti #[.int k a,.int k b] 1).run P w= .ok (.int k b) w:=fun a b w=>by simp[part,isAgg,aA h3]
 refine qe (by rw[hu]) (fun x hx em w=>?_) (fun x hx=>?_) fun x y hx hy w=>?_
 ·obtain⟨a,b,rfl⟩:=inv x hx;have hc:∀m em (a:Int) w,(Instr.checkKey em (m+1) ti (.int k a)).run P w= .ok () w:=fun m em a w=>by simp[Instr.checkKey,aA h3]
  have hs:∀w,(sizeOf ti).run P w= .ok 1 w:=fun w=>by
   have:=Go.run_sizeOf (P:=P) w hi;simpa [hc1]using this
  have all:∀m,(Instr.checkKey em (m+1+1) kt (.agg #[.int k a,.int k b])).run P w= .ok () w:=fun m=>by
   rw[Instr.checkKey];simp only[aY,aA hu,aF];simp only[Std.Legacy.Range.forIn_eq_forIn_range',Std.Legacy.Range.size,fj,Nat.add_one_sub_one,Nat.div_one];have:List.range' 0 2=[0,1]:=rfl;simp[this,hs,hp,hp',hc]
  exact all 9998
 ·obtain⟨a,b,rfl⟩:=inv x hx;simp[Instr.sameBits]
 ·obtain⟨a,b,rfl⟩:=inv x hx;obtain⟨a',b',rfl⟩:=inv y hy;have q:=run_equalIn_int (P:=P) w 9998 ti k k a a' h3;have q':=run_equalIn_int (P:=P) w 9998 ti k k b b' h3;show(Op.equalIn (9999+1) kt _ _).run P w=_;rw[run_equalIn_array w 9999 _ _ hu hi,hc1,show List.range 2=[0,1] from rfl]
  simp only[Op.eqItems,Nat.zero_mul,Nat.one_mul,aY,Sem.run_ite,hp,hp',aF,q,q',ry];by_cases h:a=a'<;>by_cases h':b=b'<;>simp[h,h',kEq,kL,k1]
end
def zagB(P:Program)(t:Nat)(i:TI):Bool:=match P.info? t with
 |some ti=>match ti.zero with
  |some (.agg _)=>i.agg
  |some _=> !i.agg
  |none=>true
 |none=>true
theorem agS:(ajt.all fun t i=>zagB Tryz.prog t i)=true:=by kernel_rfl
theorem key3:keyZ T 3=some (.int .i64 0):=by kernel_rfl
theorem key9:keyZ T 9=some (.string .empty):=by kernel_rfl
theorem adq:keyZ T 92=some (.agg #[.string .empty])∧keyZ T 130=some (.agg #[.string .empty])∧keyZ T 200=some (.agg #[.string .empty]):=⟨by kernel_rfl,by kernel_rfl,by kernel_rfl⟩
theorem agE:keyZ T 168=some (.agg #[.string .empty,.bool false])∧keyZ T 281=some (.agg #[.string .empty,.bool false]):=⟨by kernel_rfl,by kernel_rfl⟩
theorem adr:keyZ T 244=some (.agg #[.int .i64 0,.int .i64 0])∧keyZ T 300=some (.agg #[.int .i64 0,.int .i64 0])∧keyZ T 303=some (.agg #[.int .i64 0,.int .i64 0]):=⟨by kernel_rfl,by kernel_rfl,by kernel_rfl⟩
theorem und4:Tryz.prog.underlying 4=some .bool:=by kernel_rfl
theorem ajf:∃i,Tryz.prog.info? 3=some i:=by
 have:(Tryz.prog.info? 3).isSome=true:=by kernel_rfl
 exact fx.1 this
theorem sW:Tryz.prog.cellsOf 3=1:=by kernel_rfl
theorem EK:EnvK Tryz.prog T where
 zag:=by
  intro t i h ti z hti hz;have:=TT.get_all agS h;unfold zagB at this;rw[hti]at this;simp only[hz]at this;cases z<;>simp_all
 key:=by
  intro kt z h;have hm:kt∈adn:=by
   unfold keyZ at h;split at h
   ·rename_i hq;exact kY.1 hq
   ·cases h
  obtain⟨i3,hi3⟩:=ajf;have fin:∀z',keyZ T kt=some z'→KeyT Tryz.prog kt z'→∀x,shp z x=true→(∀em w,(Instr.checkKey em 10000 kt x).run Tryz.prog w= .ok () w)∧Instr.sameBits 10000 x x=true∧
   ∀(es:List MapEntry),(∀e∈es,shp z e.key=true)→∀w,(Instr.findKey kt x es).run Tryz.prog w= .ok ((bL x (es.map (·.key))).map fun i=>(i,((es[i]?).map (·.val)).getD Go.undef)) w:=by
   intro z' hz' hk;rw[h]at hz';cases hz';exact hk
  simp only[adn,aV,List.not_mem_nil,or_false]at hm;rcases hm with rfl|rfl|rfl|rfl|rfl|rfl|rfl|rfl|rfl|rfl
  ·exact fin _ key3 (adp und3 0)
  ·exact fin _ key9 (ado und9 _)
  ·exact fin _ adq.1 (vD (by kernel_rfl) (by kernel_rfl) und9 (by kernel_rfl) _)
  ·exact fin _ adq.2.1 (vD (by kernel_rfl) (by kernel_rfl) und9 (by kernel_rfl) _)
  ·exact fin _ agE.1 (aaA (by kernel_rfl) (by kernel_rfl) und9 und4 (by kernel_rfl) _ _)
  ·exact fin _ adq.2.2 (vD (by kernel_rfl) (by kernel_rfl) und9 (by kernel_rfl) _)
  ·exact fin _ adr.1 (vF (by kernel_rfl) und3 hi3 sW _ _)
  ·exact fin _ agE.2 (aaA (by kernel_rfl) (by kernel_rfl) und9 und4 (by kernel_rfl) _ _)
  ·exact fin _ adr.2.1 (vF (by kernel_rfl) und3 hi3 sW _ _)
  ·exact fin _ adr.2.2 (vF (by kernel_rfl) und3 hi3 sW _ _)
def fu(fn:Func):Code:=match fn.body with
 |some c=>c
 |none=>.skip
def okFn(fn:Func)(n:Nat):Bool:=match fn.body with
 |some c=>jR fn.ntmps n c&&Nat.ble n fn.ntmps
 |none=>false
abbrev Ct(f:Nat)(xs:List Arg)(rs:List Res)(css:List (List AC)):Prop:=CT Tryz.prog G f xs rs css
theorem ct{f:Nat}{fn:Func}{xs:List Arg}{rs:List Res}{css:List (List AC)}(hf:Tryz.prog.funcs[f]?=some fn)(hok:okFn fn xs.length=true)
 (he:evF Tryz.prog T J G fn.results.toList (fu fn) xs fun rs' css'=>rs'=rs∧css'=css):Ct f xs rs css:=by
 unfold okFn at hok;unfold fu at he;cases hb:fn.body with
 |none=>rw[hb]at hok;cases hok
 |some c=>
  rw[hb]at hok he;simp only[aw]at hok;exact ajs E hf hb hok.1 hok.2 he
section
variable(P:Program)(T:Tab)(J:Kn)(G:Nat→Option (List AC))
theorem cL{α:Type}{s:St}{K K':α→List Loc→Prop}(hK:∀a ls,K a ls→K' a ls):∀{r:Rd α} {ls:List Loc},runP P G s r ls K→runP P G s r ls K'
 | .ret a,ls,h=>hK a ls h
 | .tmp t k,ls,h=>by
  unfold runP at h ⊢;split<;>rename_i h1<;>rw[h1]at h
  ·exact cL hK h
  ·exact h
 | .box d k,ls,h=>cL (r:=k _) hK h
 | .perm d k,ls,h=>cL (r:=k _) hK h
 | .need p k,ls,h=>⟨h.1,cL (r:=k) hK h.2⟩
 | .elem xs i k,ls,h=>h.imp fun _ h=>⟨h.1,cL (r:=k _) hK h.2⟩
 | .call f xs k,ls,h=>h.imp fun _ h=>h.imp fun _ h=>⟨h.1,cL (r:=k _ _) hK h.2⟩
 | .ite b k1 k2,ls,h=>by
  cases b
  ·exact cL (r:=k2) hK h
  ·exact cL (r:=k1) hK h
 | .key ks x k,ls,h=>h.imp fun _ h=>⟨h.1,cL (r:=k _) hK h.2⟩
 | .mval vs x k,ls,h=>h.imp fun _ h=>⟨h.1,cL (r:=k _) hK h.2⟩
 | .elemR vs x k,ls,h=>h.imp fun _ h=>⟨h.1,cL (r:=k _) hK h.2⟩
 | .elemK vs x k,ls,h=>h.imp fun _ h=>⟨h.1,cL (r:=k _) hK h.2⟩
 | .callW f xs k,ls,h=>h.imp fun _ h=>h.imp fun _ h=>⟨h.1,cL (r:=k _ _) hK h.2⟩
 | .none,ls,h=>h.elim
theorem xK{ops:Array Oper}{K K':St→Prop}(hK:∀s,K s→K' s):∀{os:List Oper} {s:St},evS P T J G ops os s K→evS P T J G ops os s K'
 | [],s,h=>hK s h
 |o::os,⟨ts,bs,ps⟩,h=>by
  refine cL P G (r:=evO T J G ops o) (fun ws ls h=>?_) h;rw[writesK_eq]at h ⊢;exact xK hK h
end
section
variable{P:Program}{T:Tab}{J:Kn}{G:Nat→Option (List AC)}
theorem cut{s:St}{r:Rd (List Wr)}{ls:List Loc}{ops:Array Oper}{os:List Oper}{ts:List (Nat×AV)}{bs:List (Nat×Box)}{ps:List (Nat×Perm)}{K:St→Prop}(s1:St)
 (h:runP P G s r ls fun ws _=>writesK (fun s=>evS P T J G ops os s fun st=>st=s1) ws ts bs ps) (h2:K s1):
 runP P G s r ls fun ws _=>writesK (fun s=>evS P T J G ops os s K) ws ts bs ps:=
 cL P G (fun ws ls h=>by
  rw[writesK_eq]at h ⊢;exact xK P T J G (fun s hs=>by rw[hs];exact h2) h) h
end
theorem ahV{rv:List ResultVar}{c:Code}{xs:List Arg}{K:List Res→List (List AC)→Prop}{ts:List (Nat×AV)}{bs:List (Nat×Box)}(h0:cZ 0 xs=(ts,bs))
 (h:evC Tryz.prog T J G c ⟨ts,bs,[]⟩ fun e s=>match e with
  | .exit _=>False
  |_=>resP T rv s fun rs=>finP bs s fun css=>K rs css):evF Tryz.prog T J G rv c xs K:=by
 unfold evF;rw[pA,h0];exact h
theorem seqC{a b:Code}{s:St}{K:Ex→St→Prop}(h:evC Tryz.prog T J G a s fun
 | .normal,s=>evC Tryz.prog T J G b s K
 |e,s=>K e s):evC Tryz.prog T J G (.seq a b) s K:=h
theorem regS{id:Nat}{ops:Array Oper}{s:St}{K:Ex→St→Prop}(h:evS Tryz.prog T J G ops ops.toList s (K .normal)):evC Tryz.prog T J G (.region id ops false) s K:=h
theorem kh{ops:Array Oper}{o:Oper}{os:List Oper}{ts:List (Nat×AV)}{bs:List (Nat×Box)}{ps:List (Nat×Perm)}{K:St→Prop}(s1:St)
 (h:runP Tryz.prog G ⟨ts,bs,ps⟩ (evO T J G ops o) [] fun ws _=>writesK (fun st=>st=s1) ws ts bs ps) (h2:evS Tryz.prog T J G ops os s1 K):
 evS Tryz.prog T J G ops (o::os) ⟨ts,bs,ps⟩ K:=
 cL _ _ (r:=evO T J G ops o) (fun ws ls h=>by
  rw[writesK_eq]at h ⊢;rw[h];exact h2) h
theorem endS{ops:Array Oper}{s:St}{K:St→Prop}(h:K s):evS Tryz.prog T J G ops [] s K:=h

end
end Go.Proofs.YtgkenhpfiempbaaGreatDoor.V
