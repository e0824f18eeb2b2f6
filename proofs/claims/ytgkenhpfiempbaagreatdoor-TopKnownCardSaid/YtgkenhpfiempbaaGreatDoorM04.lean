/-
  Part M04: B8, B9, B10, B11, B12, B13, B14, B15. Conditions stand in the theorems.
-/
import Derived.Test.YtgkenhpfiempbaaGreatDoorM03
import Derived.Carry
import Derived.MapKept
import Derived.Maps.RangeRun
set_option linter.all false
set_option maxRecDepth 1000000
set_option maxHeartbeats 8000000
namespace Go.Proofs.YtgkenhpfiempbaaGreatDoor.V
open Go Go.Proofs
noncomputable section
section
variable{P:Program}{T:Tab}{J:Kn}{M:Md}{G:Nat→Option (List AC)}{X:Ctx}{κ:Con}{H:Fz}{s:St}{a:Act}{w:World}{ft:Nat→List Nat}
theorem acl{w':World}{e2 sz2 e:Nat}{yss:List (List (List AC))}{L:Option (Nat×Value)}{bss:List (List Nat)}{b cap i:Nat}{cur:Array Value}{ys:List (List AC)}{bs':List Nat}{u:Value}
 (hw:w'.heap[b]?=some (.cells (cur.toList.take i++[u]++cur.toList.drop (i+1)).toArray e (0,0))) (h3:yss.length≤cap) (h4:cap≤maxLen) (h5:cur.size=cap) (h6:∀i,H b i=none) (h7:bss.length=yss.length)
 (h8:∀(j:Nat) (v:Value) (ys:List (List AC)) (bj:List Nat),cur[j]?=some v→yss[j]?=some ys→bss[j]?=some bj→ej L j v bj (RowO H w' v e2 sz2 ys bj)) (hi:i<yss.length)
 (hL:∀i0 v,L=some (i0,v)→i0=i) (hrow:RowO H w' u e2 sz2 ys bs'):nO H w' (.slice (some ⟨b,0,none⟩) yss.length cap) e2 sz2 e (yss.set i ys) none (b::(bss.set i bs').flatten):=by
 have hic:i<cur.toList.length:=by simp;omega
 refine .inr ⟨b,cap,_,bss.set i bs',by simp,hw,by simpa using h3,h4,by simp;omega,h6,by simpa using h7,fun j v ys' bj a1 a2 a3=>?_,rfl⟩;simp only[ej];rw[List.getElem?_toArray,fp,dN]at a1;have htk:(cur.toList.take i).length=i:=by rw[dx];omega
 rw[htk]at a1;by_cases hij:i=j
 ·subst hij;rw[if_neg (eB _),ch]at a1;rw[cV hi]at a2;rw[cV (by omega)]at a3;simp only[iA,aZ,am]at a1 a2 a3;subst a1;subst a2;subst a3;exact hrow
 ·rw[eG hij]at a2 a3;have hv:cur[j]?=some v:=by
   split at a1
   ·rename_i hlt;rw[bM,if_pos hlt]at a1;simpa using a1
   ·rename_i hge;rw[show j-i=(j-i-1)+1 by omega,iA,cd,cI,show i+1+(j-i-1)=j by omega]at a1;simpa using a1
  have hj:=h8 j v ys' bj hv a2 a3;cases L with
  |none=>exact hj
  |some p=>
   obtain⟨i0,v0⟩:=p;have hii:=hL i0 v0 rfl;simp only[ej]at hj;rw[if_neg (by omega)]at hj;exact hj
theorem abf(E:Env P T J)(hG:bK G H)(h:WRel X κ H s a w){o:Oper}(hok:okOp X.N X.A o=true){t:Nat}{x y:Operand}(ho:o.op= .store t x y){v:AV}{ws:List Wr}(hr:Runs P G s (evW T J M G o) (v,ws)):cm P X κ H s a o v ws w:=by
 simp only[evW,ho]at hr;obtain⟨p,q,h1,h2,hr'⟩:=opd2 hG h.rel hr;clear hr;unfold abS at hr';split at hr'
 ·rename_i d g sz' i off;obtain⟨c,hc,hr⟩:=az hr';clear hr';obtain⟨ft,h⟩:=h.f;obtain⟨hob,hn,-⟩:=h.at_ hc;obtain⟨hg,b,n,cap,hu,hi,he⟩:=sq h1;rw[hu]at hob
  have rowsCase:∀{e2 sz2 e:Nat} {yss:List (List (List AC))} {L:Option (Nat×Value)} {d' g' n':Nat} {e' sz'':Nat} {ys:List (List AC)} {ti:TI},nO H w (.slice (some ⟨b,0,none⟩) n cap) e2 sz2 e yss L (ft d)→(∀i0 v,L=some (i0,v)→i0=i)→off=0→sz'=1→T t=some ti→q= .one (.rref d' g' n')→
   Runs P G s (obR d' g') (.row e' sz'' ys)→e2=e'→sz2=sz''→ti.size=1→(∀e3 sz3 xs,c≠ .row e3 sz3 xs)→cm P X κ H s a o .undef [obW d' g' .gone,obW d g (.rows e2 sz2 e (yss.set i ys))] w:=by
   intro e2 sz2 e yss L d' g' n' e' sz'' ys ti hrows hL h0 h01 hT hq hc' he1 he2 hts hcn;subst h0;subst h01;subst he1;subst he2;subst hq;obtain⟨hob',hn',hf'⟩:=h.at_ hc';obtain⟨hg',hu',A,cp,hyv,hA⟩:=eU h2;rw[hu']at hob';have hdd:d≠d':=by
    intro e;subst e;obtain⟨-,-,hf⟩:=h.at_ hc;rw[hf]at hf';simp only[am,AV.ob.injEq]at hf';exact hcn _ _ _ hf'.2.2
   rcases hrows with⟨qq,-⟩|⟨b',cap',cur,bss,qq,k2,k3,k4,k5,k6,k7,k8,hft⟩
   ·cases qq
   ·simp only[bR,am,gf]at qq;obtain⟨⟨rfl,-⟩,rfl,rfl⟩:=qq;have hone:(a.eval y).cells= #[a.eval y]:=by rw[hyv];rfl
    have hic:i<cur.size:=by omega
    obtain⟨w',hrun,hstep,hnew⟩:=rH E hT ho (b:=b) (off:=i*1+0) (cur:=cur) (e:=e) he h.rel.fz k6 k2 (by rw[hone,hts];rfl) (by rw[hone];simp;omega) (by rw[hone,hyv];simp[Value.oneCell']);rw[hone,eF,fl]at hnew;obtain⟨g1,f1⟩:=h.gone (d:=d') (g:=g') hg'
    have hft1:setF ft d' [] d=ft d:=dy _ _ hdd;obtain⟨g2,f2⟩:=g1.gone (d:=d) (g:=g) hg;rw[hft1]at f2;have hb0:b∈ft d:=by rw[hft];exact aI ..
    have g3:=g2.step hstep (.inl (f2 b hb0));have hnd:=h.obs.nodup d;rw[hft,bF]at hnd;have hiy:i<bss.length:=by omega
    have hfa:=lL bss i hiy;have hfs:=iX bss i hiy (ft d');have hn3:=hnd.2;rw[hfa]at hn3;obtain⟨n1,n2,n3⟩:=vw hn3;have hin:∀k,k∈(bss.take i).flatten++(bss.drop (i+1)).flatten→k∈bss.flatten:=fun k hk=>by
     rw[hfa];rcases aM.1 hk with hk|hk
     ·exact aL _ (aL _ hk)
     ·exact aQ _ hk
    have hd':∀k∈ft d',k∉ft d:=fun k hk=>h.obs.apart d' d (Ne.symm hdd) k hk;have fd':∀k∈ft d',Free X κ H ((s.write (obW d' g' .gone)).write (obW d g .gone)) w (setF (setF ft d' []) d []) k:=fun k hk=>(f1 k hk).setF (by simp)
    have hrow':RowO H w' (a.eval y) e2 sz2 ys (ft d'):=RowO.kept hob' (fun k hk=>⟨hstep.heap k (h.obs.blk d' k hk).1 fun e=>hd' k hk (e▸hb0),rfl⟩) (Fz.le_refl H)
    have h8:∀(j:Nat) (v:Value) (ys:List (List AC)) (bj:List Nat),cur[j]?=some v→yss[j]?=some ys→bss[j]?=some bj→ej L j v bj (RowO H w' v e2 sz2 ys bj):=fun j v ys bj a1 a2 a3=>
     (k8 j v ys bj a1 a2 a3).imp fun r=>r.kept (fun k hk=>⟨hstep.heap k (h.obs.blk d k (by rw[hft];exact aD _ (gc a3 hk))).1 fun e=>hnd.1 (e▸gc a3 hk),rfl⟩) (Fz.le_refl H)
    have hres:=acl (e:=e) (cap:=cap) hnew k3 k4 k5 k6 k7 h8 hi hL hrow';have g4:=g3.set (d:=d) (g:=g) (c:=.rows e2 sz2 e (yss.set i ys)) (bs:=b::(bss.set i (ft d')).flatten) hn (cQ _ _ _)
     (by
      rw[hfs];refine bF.2 ⟨fun hq=>?_,qZ n1 (h.obs.nodup d') fun k hk hk'=>hd' k hk' (by rw[hft];exact aD _ (hin k hk))⟩;rcases aM.1 hq with hq|hq
      ·rcases aM.1 hq with hq|hq
       ·exact hnd.1 (hin b (aL _ hq))
       ·exact hd' b hq hb0
      ·exact hnd.1 (hin b (aQ _ hq)))
     (by
      rw[hfs];intro k hk;rcases aV.1 hk with rfl|hk
      ·exact(f2 k hb0).step hstep (.inr k6)
      ·have hk2:k∈ft d'∨k∈bss.flatten:=by
        rcases aM.1 hk with hk|hk
        ·rcases aM.1 hk with hk|hk
         ·exact .inr (hin k (aL _ hk))
         ·exact .inl hk
        ·exact .inr (hin k (aQ _ hk))
       rcases hk2 with hk|hk
       ·exact(fd' k hk).step hstep (.inl fun e=>hd' k hk (e▸hb0))
       ·exact(f2 k (by rw[hft];exact aD _ hk)).step hstep (.inl fun e=>hnd.1 (e▸hk)))
     (by
      show nO H w' (κ.row d g) e2 sz2 e _ none _;rw[hu];exact hres)
    have g5:=g4.congr (s':=s.writes [obW d' g' .gone,obW d g (.rows e2 sz2 e (yss.set i ys))]) (fun t=>(dF _ _ _ _ _).symm) (fun _=>rfl) (fun _=>rfl);intro K Q hn';unfold Oper.wp;rw[hrun,gy];exact hn' κ H w' undef g5.wrel (.undef _)
  have rowCase:∀{e sz:Nat} {xs:List (List AC)} {old cs:List AC} {ti:TI} (c2:Ob),RowO H w (.slice (some ⟨b,0,none⟩) n cap) e sz xs (ft d)→xs[i]?=some old→Cs Con.no H cs (a.eval y).cells.toList→sz=sz'→T t=some ti→ti.size=cs.length→off+cs.length≤old.length→
   (∀w' bs,RowO H w' (κ.row d g) e sz (xs.set i (over old off cs)) bs→ObOk κ H w' (κ.row d g) c2 bs)→cm P X κ H s a o .undef [obW d g c2] w:=by
   intro e sz xs old cs ti c2 hrow hold hcy hsz hT hts hle hc2;subst hsz;obtain⟨hs,⟨qq,-⟩|⟨b',cap',cur,qq,k2,k3,k4,k5,k6,k7,hft⟩⟩:=hrow
   ·cases qq
   ·simp only[bR,am,gf]at qq;obtain⟨⟨rfl,-⟩,rfl,rfl⟩:=qq;have hol:old.length=sz:=hs old (bi hold);have hi1:(i+1)*sz≤xs.length*sz:=dn _ hi;have hi2:xs.length*sz≤cap*sz:=dn _ k3;rw[dQ]at hi1
    have hys:(a.eval y).cells.size=cs.length:=by rw[←hcy.1];simp
    obtain⟨w',hrun,hstep,hnew⟩:=rH E hT ho (b:=b) (off:=i*sz+off) (cur:=cur) (e:=e) he h.rel.fz k6 k2 (by rw[hys,hts]) (by rw[hys,k5];omega) hcy.oneCell;obtain⟨g1,f1⟩:=h.gone (d:=d) (g:=g) hg;rw[hft]at f1;have fb:=f1 b (ax.2 rfl);have g2:=g1.step hstep (.inl fb)
    have hov:=Cs.over (i*sz+off) k7 hcy (by rw[dk hs];omega);rw[tT hs hold (by omega)]at hov;have hnl:(cur.toList.take (i*sz+off)++(a.eval y).cells.toList++cur.toList.drop (i*sz+off+(a.eval y).cells.size)).toArray.toList.take (xs.length*sz)=
     (cur.toList.take (xs.length*sz)).take (i*sz+off)++(a.eval y).cells.toList++(cur.toList.take (xs.length*sz)).drop (i*sz+off+(a.eval y).cells.toList.length):=by
     have l2:(a.eval y).cells.toList.length=cs.length:=by simpa using hys
     rw[l2,hys];rw[List.take_take,jl (by omega:i*sz+off≤xs.length*sz)];have l1:(cur.toList.take (i*sz+off)).length=i*sz+off:=by simp;omega
     show List.take (xs.length*sz) (cur.toList.take (i*sz+off)++(a.eval y).cells.toList++cur.toList.drop (i*sz+off+cs.length))=_;rw[List.take_append,cU (by rw[aH,l1,l2];omega),aH,l1,l2,←List.drop_take]
    have g3:=g2.set (d:=d) (g:=g) (c:=c2) (bs:=[b]) hn (cQ _ _ _) (by simp) (fun k hk=>by
     obtain rfl:=ax.1 hk;exact fb.step hstep (.inr k6))
     (hc2 w' [b] ⟨fun x hx=>by
      rcases List.mem_or_eq_of_mem_set hx with hx|rfl
      ·exact hs x hx
      ·rw[rV];exact hol,.inr ⟨b,cap,_,by rw[hu];simp,hnew,by simpa using k3,k4,by simp[k5];omega,k6,by
       rw[dt,hnl];exact hov,rfl⟩⟩)
    have g4:=g3.congr (s':=s.writes [obW d g c2]) (fun t=>(dF _ _ _ _ _).symm) (fun _=>rfl) (fun _=>rfl);intro K Q hn';unfold Oper.wp;rw[hrun,gy];exact hn' κ H w' undef g4.wrel (.undef _)
  split at hr
  ·rename_i e sz xs;split at hr
   ·rename_i cs ti hcs hT;obtain⟨old,⟨-,hold⟩,hr⟩:=hr;have hold:xs[i]?=some old:=hold;simp only at hr;split at hr
    ·rename_i hb;simp only[aw]at hb;simp only[Runs,ai]at hr;obtain⟨rfl,rfl⟩:=hr;rw[fH]at hcs;obtain⟨q',hq1,hq2⟩:=hcs;exact rowCase _ hob hold (lQ (dO hq1 h2) hq2) (aP hb.1.1) hT (aP hb.1.2) (bB hb.2) fun _ _ hr=>hr
    ·exact hr.elim
   ·exact hr.elim
  ·rename_i nu pu;split at hr
   ·rename_i v ti hT hb;simp only[aw]at hb;split at hr
    ·rename_i hts;simp only[Runs,ai]at hr;obtain⟨rfl,rfl⟩:=hr;obtain⟨l,hl,hp,hrow⟩:=hob;have hil:i<l.length:=by
      obtain⟨-,⟨qq,-⟩|⟨b',cap',cur,qq,-⟩⟩:=hrow
      ·cases qq
      ·simp only[bR,cG]at qq;omega
     have h01:=aP hb.2;subst h01
     refine rowCase (old:=[.v (.int .i64 l[i])]) (cs:=[.v (.int .i64 v)]) _ hrow (by simp[hil]) (lQ (dO (v':=.one (.v (.int .i64 v))) rfl h2) rfl) (aP hb.1).symm hT (aP hts) (au _) fun w' bs hr=>⟨l.set i v,by rw[dt];exact hl,⟨l,hp,rfl⟩,?_⟩;rw[bX]
     exact hr
    ·exact hr.elim
   ·exact hr.elim
  ·rename_i e2 sz2 e yss;split at hr
   ·rename_i d' g' n' ti hT;obtain⟨c',hc',hr⟩:=az hr;split at hr
    ·rename_i e' sz'' ys;split at hr
     ·rename_i hb;simp only[aw]at hb;simp only[Runs,ai]at hr;obtain⟨rfl,rfl⟩:=hr;exact rowsCase hob (fun _ _ e=>by cases e) rfl rfl hT rfl hc' (aP hb.1.1) (aP hb.1.2) (aP hb.2) (fun _ _ _ e=>by cases e)
     ·exact hr.elim
    ·exact hr.elim
   ·exact hr.elim
  ·rename_i e2 sz2 e yss i0 d0 g0;split at hr
   ·rename_i d' g' n' ti hT;obtain⟨c',hc',hr⟩:=az hr;split at hr
    ·rename_i e' sz'' ys;split at hr
     ·rename_i hb;simp only[aw]at hb;obtain⟨hii,hr⟩:=hr;simp only[Runs,ai]at hr;obtain⟨rfl,rfl⟩:=hr;exact rowsCase hob.1 (fun _ _ e=>by cases e;exact hii.symm) rfl rfl hT rfl hc' (aP hb.1.1) (aP hb.1.2) (aP hb.2) (fun _ _ _ e=>by cases e)
     ·exact hr.elim
    ·exact hr.elim
   ·exact hr.elim
  ·exact hr.elim
 ·exact dZ E hG h hok hr'
end
section
variable{P:Program}{T:Tab}{J:Kn}{M:Md}{G:Nat→Option (List AC)}{X:Ctx}{κ:Con}{H:Fz}{s:St}{a:Act}{w:World}{ft:Nat→List Nat}
theorem wW{e sz n cap:Nat}{xs:List (List AC)}{us rest:List Value}{w1:World}(hw:w1.heap=w.heap)(hnone:∀i,H w.heap.size i=none)
 (hx:∀x∈xs,x.length=sz) (hn:n=xs.length) (hc:Cs Con.no H xs.flatten us) (hcap:n≤cap) (hmax:cap≤maxLen) (hlen:us.length+rest.length=cap*sz):
 RowO H (w1.alloc (.cells (us++rest).toArray e)) (.slice (some ⟨w.heap.size,0,none⟩) n cap) e sz xs [w.heap.size]:=by
 subst hn;have hnew:(w1.alloc (.cells (us++rest).toArray e)).heap[w.heap.size]?=some (.cells (us++rest).toArray e (0,0)):=by
  have:=dA w1 (.cells (us++rest).toArray e)
  rwa [hw]at this
 have hul:us.length=xs.length*sz:=by rw[hc.1,dk hx]
 refine⟨hx,.inr ⟨w.heap.size,cap,_,rfl,hnew,hcap,hmax,by simp[hlen],hnone,?_,rfl⟩⟩;have:(us++rest).toArray.toList.take (xs.length*sz)=us:=by simp[←hul]
 rw[this];exact hc
theorem ov(h:WRf X κ H s a w ft){t ty e sz bytes:Nat}{ie:TypeInfo}{z:Value}(ht:P.underlying t=some (.slice e))(hie:P.info? e=some ie)(hz:ie.zero=some z)(hsz:ie.size=sz)(hby:ie.bytes=bytes)(hzs:z.cells.size=sz)
 {xs ys:List (List AC)} {sv:Value} {A:Option Addr} {c:Nat} {bs:List Nat} (hrow:RowO H w sv e sz xs bs) (hbs:∀k∈bs,Free X κ H s w ft k)
 (hys:∀y∈ys,y.length=sz) (hy:ys=[]∨∃b off us,A=some ⟨b,off,none⟩∧us.length=ys.flatten.length∧(∀(k:Nat) (u:Value),us[k]?=some u→H b (off+k)=some u)∧Cs Con.no H ys.flatten us)
 (hlim:xs.length+ys.length≤lim bytes):
 ∃u w' bs',(Builtin.append_ #[t,t] ty #[sv,.slice A ys.length c]).run P w= .ok u w'∧WRf X κ H s a w' ft∧RowO H w' u e sz (xs++ys) bs'∧bs'.Nodup∧(∀k∈bs',Free X κ H s w' ft k)∧
  ∃A' cap',u= .slice A' (xs.length+ys.length) cap'∧(xs.length+ys.length=0∨∃b,A'=some ⟨b,0,none⟩):=by
 obtain⟨l1,l2,l3⟩:=yW hlim;obtain⟨hxs,hrow⟩:=hrow;have hall:∀y∈xs++ys,y.length=sz:=fun y hy=>(aM.1 hy).elim (hxs y) (hys y);have hnone:∀i,H w.heap.size i=none:=fun i=>h.rel.new i;by_cases hy0:ys=[]
 ·subst hy0;simp only[aX,bJ,fl];rcases hrow with⟨rfl,rfl,rfl⟩|⟨b,cap,cur,rfl,q⟩
  ·exact⟨_,_,[],je ht hie none A 0 0 c (au _) w,h,⟨by simp,.inl ⟨rfl,rfl,rfl⟩⟩,by simp,by simp,none,0,rfl,.inl rfl⟩
  ·exact⟨_,_,bs,je ht hie (some ⟨b,0,none⟩) A xs.length cap c q.2.1 w,h,⟨hxs,.inr ⟨b,cap,cur,rfl,q⟩⟩,by rw[q.2.2.2.2.2.2];simp,hbs,_,cap,rfl,.inr ⟨b,rfl⟩⟩
 ·obtain⟨b,off,us,rfl,u1,u2,u3⟩:=hy.resolve_left hy0;have hnews:∀(j:Nat) (u:Value),us[j]?=some u→w.cell? ((⟨b,off,none⟩:Addr).add j)=some u:=fun j u hj=>by rw[dI];exact h.rel.fz _ _ _ (u2 j u hj)
  have hul:us.length=ys.length*ie.size:=by rw[u1,dk hys,hsz]
  have hm:0<ys.length:=eP.2 hy0;have hfl:(xs++ys).flatten=xs.flatten++ys.flatten:=by simp
  have hzl:∀k,(Builtin.zeroCells z.cells k).toList.length=k*sz:=fun k=>by rw[bO,size_zeroCells,hzs]
  have harr:∀(l:List Value) (z:Array Value),(l++z.toList).toArray=l.toArray++z:=fun l z=>by apply ep;simp
  have fresh:∀(o:Obj),WRf X κ H s a (w.drew.alloc o) ft∧Free X κ H s (w.drew.alloc o) ft w.heap.size:=fun o=>by
   have hs:=fq h.rel.fz o w.drew ⟨rfl,rfl,rfl,rfl⟩;have hnew:=dA w.drew o;exact⟨h.step hs (.inr (au _)),h.fresh (au _) (ay.1 hnew).1 hnone⟩
  rcases hrow with⟨rfl,rfl,rfl⟩|⟨g,cap,cur,rfl,hcur,r1,r2,r3,r4,r5,rfl⟩
  ·have hrun:=run_append_nil (P:=P) w t ty e ie z ht hie hz ⟨b,off,none⟩ ys.length c us hul hnews hm (by simpa using l3) (by rw[hby];simp only[bJ,bA]at l2;omega);have hge:=grownCap_ge w ys.length 0 e
   have hR:=wW (w1:=w.drew) (e:=e) (n:=ys.length) (cap:=grownCap w ys.length 0 e) (us:=us) (rest:=(Builtin.zeroCells z.cells (grownCap w ys.length 0 e-ys.length)).toList) rfl hnone hys rfl u3 hge (gY w _ 0 e (by simpa using l1)) (by rw[hzl,hul,hsz,←fm];congr 1;omega)
   rw[harr]at hR;obtain⟨f1,f2⟩:=fresh (.cells (us.toArray++Builtin.zeroCells z.cells (grownCap w ys.length 0 e-ys.length)) e)
   refine⟨_,_,[w.heap.size],hrun,f1,by simpa using hR,by simp,fun k hk=>by obtain rfl:=ax.1 hk;exact f2,some ⟨w.heap.size,0,none⟩,grownCap w ys.length 0 e,by simp,.inr ⟨_,rfl⟩⟩
  ·by_cases hroom:xs.length+ys.length≤cap
   ·have hfit:xs.length*ie.size+us.length≤cur.size:=by rw[r3,hul,hsz,←fm];exact dn _ hroom
    have hrun:=run_append_room (P:=P) w t ty e ie ht hie g xs.length cap cur hcur ⟨b,off,none⟩ ys.length c us hul hnews u3.oneCell hroom hfit;rw[hsz]at hfit hul hrun;generalize hnc:(cur.toList.take (xs.length*sz)++us++cur.toList.drop (xs.length*sz+us.length)).toArray=nc at hrun
    have hb:=hbs g (ax.2 rfl);have hstep:Step H w g H (w.setRow g nc):={
     le:=Fz.le_refl H
     fz:=fun k i v hv=>by
      have hk:k≠g:=fun e=>by subst e;rw[r4]at hv;cases hv
      rw[cell_setRow_other w g nc ⟨k,i,none⟩ hk];exact h.rel.fz k i v hv
     heap:=fun k _ hk=>setRow_other w g k nc hk
     kept:=fun _ _=>rfl
     grown:=by simp
     os:=rfl
     tape:=rfl
     output:=rfl}
    refine⟨_,_,[g],hrun,h.step hstep (.inl hb),⟨hall,.inr ⟨g,cap,nc,by simp,setRow_heap w g cur nc e (0,0) hcur,by simpa using hroom,r2,by rw[←hnc,←r3];simp;omega,r4,?_,rfl⟩⟩,by simp,fun k hk=>by
     obtain rfl:=ax.1 hk;exact hb.step hstep (.inr r4),_,_,rfl,.inr ⟨g,rfl⟩⟩
    have hl1:(cur.toList.take (xs.length*sz)).length=xs.length*sz:=by rw[dx];simp;omega
    have:nc.toList.take ((xs++ys).length*sz)=cur.toList.take (xs.length*sz)++us:=by
     rw[←hnc,aH,fm,←hul];show List.take _ (cur.toList.take (xs.length*sz)++us++_)=_;rw[List.take_append_of_le_length (by rw[aH,hl1];omega),cU (by rw[aH,hl1];omega)]
    rw[this,hfl];exact r5.append u3
   ·
    generalize holds:cur.toList.take (xs.length*sz)=olds at r5;have hol:olds.length=xs.length*ie.size:=by rw[r5.1,dk hxs,hsz]
    have hrun:=run_append_grow (P:=P) w t ty e ie z ht hie hz ⟨g,0,none⟩ xs.length cap olds hol (fun j u hj=>by
     rw[dI,bA,ii w g j cur e (0,0) hcur];rw[←holds,bM]at hj;split at hj
     ·simpa using hj
     ·cases hj) ⟨b,off,none⟩ ys.length c us hul hnews (by omega) l3 (growslice_fits (by omega) (by rw[hby];exact l2))
    have hge:=grownCap_ge w (xs.length+ys.length) cap e;rw[hsz]at hul hol
    have hR:=wW (w1:=w.drew) (e:=e) (n:=xs.length+ys.length) (cap:=grownCap w (xs.length+ys.length) cap e) (us:=olds++us) (rest:=(Builtin.zeroCells z.cells (grownCap w (xs.length+ys.length) cap e-(xs.length+ys.length))).toList) rfl hnone hall (by simp) (by rw[hfl];exact r5.append u3) hge
     (gY w _ cap e l1) (by rw[hzl,aH,hul,hol,←fm,←fm];congr 1;omega)
    rw[harr]at hR;obtain⟨f1,f2⟩:=fresh (.cells ((olds++us).toArray++Builtin.zeroCells z.cells (grownCap w (xs.length+ys.length) cap e-(xs.length+ys.length))) e);have e1:olds.toArray++us.toArray=(olds++us).toArray:=by simp
    rw[e1]at hrun;exact⟨_,_,[w.heap.size],hrun,f1,hR,by simp,fun k hk=>by obtain rfl:=ax.1 hk;exact f2,_,_,rfl,.inr ⟨_,rfl⟩⟩
theorem yk{g0 d0:Nat}(h:WRf X κ H s a w ft)(hg:g0<κ.nr d0){t ty e e2 sz2 bytes:Nat}{ie:TypeInfo}{z:Value}(ht:P.underlying t=some (.slice e))(hie:P.info? e=some ie)(hz:ie.zero=some z)(hsz:ie.size=1)(hby:ie.bytes=bytes)(hzs:z.cells.size=1)
 {yss:List (List (List AC))} {sv:Value} {A:Option Addr} {c:Nat} (hrow:nO H w sv e2 sz2 e yss none (ft d0))
 (hy:∃b off us,A=some ⟨b,off,none⟩∧us.length=1∧(∀(k:Nat) (u:Value),us[k]?=some u→H b (off+k)=some u)∧Cs Con.no H [.v (.slice none 0 0)] us)
 (hlim:yss.length+1≤lim bytes):
 ∃u w' bs',(Builtin.append_ #[t,t] ty #[sv,.slice A 1 c]).run P w= .ok u w'∧WRf X κ H (s.write (obW d0 g0 .gone)) a w' (setF ft d0 [])∧nO H w' u e2 sz2 e (yss++[[]]) none bs'∧bs'.Nodup∧(∀k∈bs',Free X κ H (s.write (obW d0 g0 .gone)) w' (setF ft d0 []) k)∧
  ∃A' cap',u= .slice A' (yss.length+1) cap'∧(yss.length+1=0∨∃b,A'=some ⟨b,0,none⟩):=by
 obtain⟨g1,f1⟩:=h.gone (d:=d0) (g:=g0) hg;have hnd:=h.obs.nodup d0
 obtain⟨vals,inner,b0,hvl,hvr,hbs,hin⟩:∃(vals:List Value) (bss:List (List Nat)) (b0:List Nat),vals.length=yss.length∧RowO H w sv e 1 (vals.map fun v=>[AC.v v]) b0∧ft d0=b0++bss.flatten∧bss.length=yss.length∧(∀(j:Nat) (v:Value) (ys:List (List AC)) (bj:List Nat),vals[j]?=some v→yss[j]?=some ys→bss[j]?=some bj→RowO H w v e2 sz2 ys bj):=by
  rcases hrow with⟨rfl,rfl,h3⟩|⟨b,cap,cur,bss,rfl,h2,h3,h4,h5,h6,h7,h8,h9⟩
  ·exact⟨[],[],[],rfl,⟨by simp,.inl ⟨rfl,rfl,rfl⟩⟩,by rw[h3];rfl,rfl,by simp⟩
  ·refine⟨cur.toList.take yss.length,bss,[b],by simp;omega,⟨(fun x hx=>by obtain⟨v,-,rfl⟩:=bZ.1 hx;rfl),.inr ⟨b,cap,cur,?_,h2,?_,h4,by rw[h5,eF],h6,?_,rfl⟩⟩,by rw[h9];rfl,h7,?_⟩
   ·simp;omega
   ·simp;omega
   ·have e1:((cur.toList.take yss.length).map fun v=>[AC.v v]).flatten=(cur.toList.take yss.length).map AC.v:=by
     generalize cur.toList.take yss.length=l
     induction l with
     |nil=>rfl
     |cons x l ih=>simp[ih]
    rw[e1];have hl:((cur.toList.take yss.length).map fun v=>[AC.v v]).length*1=yss.length:=by simp;omega
    rw[hl];refine⟨by simp,fun j c u hc hu=>?_⟩;rw[aG,hu]at hc;cases hc;refine .v u ?_;have hj:cur[j]?=some u:=by
     rw[bM]at hu;split at hu
     ·simpa using hu
     ·cases hu
    have hjl:j<yss.length:=by
     rw[bM]at hu;split at hu
     ·assumption
     ·cases hu
    have:=h8 j u _ _ hj (ad hjl) (ad (l:=bss) (i:=j) (by omega));have:RowO H w u e2 sz2 _ _:=this;obtain⟨-,⟨rfl,-⟩|⟨b',cap',cur',rfl,-⟩⟩:=this<;>rfl
   ·intro j v ys bj a1 a2 a3;have hj:cur[j]?=some v:=by
     rw[bM]at a1;split at a1
     ·simpa using a1
     ·cases a1
    exact h8 j v ys bj hj a2 a3
 have hb0:∀k∈b0,k∈ft d0:=fun k hk=>by rw[hbs];exact aL _ hk
 have hin0:∀k∈inner.flatten,k∈ft d0:=fun k hk=>by rw[hbs];exact aQ _ hk
 rw[hbs]at hnd;obtain⟨n1,n2,n3⟩:=aU.1 hnd
 let X':Ctx:={ W0:=w,H0:=H,Pr:=fun b=>X.Pr b∨b∈inner.flatten,N:=X.N,A:=X.A,ab:=X.ab,ds:=X.ds,np:=X.np,pv:=X.pv,lt:=fun b hb=>hb.elim (fun hp=>bd (X.lt b hp) h.rel.grown) fun hk=>(f1 b (hin0 b hk)).lt}
 have g1':WRf X' κ H (s.write (obW d0 g0 .gone)) a w (setF ft d0 []):={
  rel:={ g1.rel with
   hk:=fun _ _=>rfl
   h0:=Fz.le_refl H
   pb:=fun d b e hp=>hp.elim (g1.rel.pb d b e) fun hk=>(f1 _ (hin0 _ hk)).box d b e rfl
   pr:=fun d p k e hl hk hp=>hp.elim (g1.rel.pr d p k e hl hk) fun hki=>(f1 k (hin0 k hki)).tail d p e hl hk
   keep:=fun _ _=>rfl
   grown:=au _
   os:=rfl
   tape:=rfl
   output:=rfl}
  obs:={ g1.obs with blk:=fun d k hk=>(g1.obs.blk d k hk).imp id fun q=>q.imp id fun q=>⟨fun hp=>hp.elim q.1 fun hki=>(f1 k (hin0 k hki)).ob d hk,q.2⟩}
  n:=g1.n}
 have hfree0:∀k∈b0,Free X' κ H (s.write (obW d0 g0 .gone)) w (setF ft d0 []) k:=fun k hk=>by
  have:=f1 k (hb0 k hk);exact⟨this.lt,this.fz,fun hp=>hp.elim this.pr fun hki=>n3 k hk k hki rfl,this.box,this.tail,this.ob⟩
 obtain⟨bq,off,us,hA,hul,hH,hCs⟩:=hy
 obtain⟨u,w',bs',hrun,q1,q2,q3,q4,A',cap',hu,hA'⟩:=ov (ty:=ty) (A:=A) (c:=c) g1' ht hie hz hsz hby hzs (xs:=vals.map fun v=>[AC.v v]) (ys:=[[.v (.slice none 0 0)]]) hvr hfree0 (by simp) (.inr ⟨bq,off,us,hA,by simpa using hul,hH,by simpa using hCs⟩) (by simp[hvl];omega)
 have hkeep:∀k∈inner.flatten,w'.heap[k]?=w.heap[k]? ∧H k=H k:=fun k hk=>⟨q1.rel.keep k (.inr hk),rfl⟩;have q1':WRf X κ H (s.write (obW d0 g0 .gone)) a w' (setF ft d0 []):={
  rel:={ q1.rel with
   hk:=fun b hp=>g1.rel.hk b hp
   h0:=g1.rel.h0
   pb:=fun d b e hp=>q1.rel.pb d b e (.inl hp)
   pr:=fun d p k e hl hk hp=>q1.rel.pr d p k e hl hk (.inl hp)
   keep:=fun b hp=>(q1.rel.keep b (.inl hp)).trans (g1.rel.keep b hp)
   grown:=dR g1.rel.grown q1.rel.grown
   os:=q1.rel.os.trans g1.rel.os
   tape:=q1.rel.tape.trans g1.rel.tape
   output:=q1.rel.output.trans g1.rel.output}
  obs:={ q1.obs with blk:=fun d k hk=>(q1.obs.blk d k hk).imp id fun q=>q.imp id fun q=>⟨fun hp=>q.1 (.inl hp),q.2⟩}
  n:=q1.n}
 have hgr:w.heap.size≤w'.heap.size:=q1.rel.grown;have hf':∀k∈bs',Free X κ H (s.write (obW d0 g0 .gone)) w' (setF ft d0 []) k:=fun k hk=>by
  have:=q4 k hk;exact⟨this.lt,this.fz,fun hp=>this.pr (.inl hp),this.box,this.tail,this.ob⟩
 have hfi:∀k∈inner.flatten,Free X κ H (s.write (obW d0 g0 .gone)) w' (setF ft d0 []) k:=fun k hk=>by
  have:=f1 k (hin0 k hk);exact⟨bd this.lt hgr,this.fz,this.pr,this.box,this.tail,this.ob⟩
 have hlen:((vals.map fun v=>[AC.v v])++[[AC.v (.slice none 0 0)]]).length=yss.length+1:=by simp[hvl]
 obtain⟨-,⟨-,q,-⟩|⟨b',cap2,cur',hu',r1,r2,r3,r4,r5,r6,rfl⟩⟩:=q2
 ·simp at q
 ·rw[hlen]at hu' r2 r6;rw[eF]at r4 r6;have hfl:((vals.map fun v=>[AC.v v])++[[AC.v (.slice none 0 0)]]).flatten=(vals++[Value.slice none 0 0]).map AC.v:=by
   rw[fA,bw]
   congr 1
   generalize vals=l
   induction l with
   |nil=>rfl
   |cons x l ih=>simp[ih]
  rw[hfl]at r6;have hcell:∀(j:Nat) (v:Value),(vals++[Value.slice none 0 0])[j]?=some v→cur'[j]?=some v:=by
   intro j v hj;have hjl:j<yss.length+1:=by
    have:=(aq.1 hj).1;simp[hvl]at this;omega
   have hc:cur'.toList[j]?=some (cur'[j]'(by omega)):=by rw[cA];exact aE _
   have hu2:(cur'.toList.take (yss.length+1))[j]?=some (cur'[j]'(by omega)):=by rw[bM,if_pos hjl];exact hc
   have:=r6.2 j (.v v) _ (by rw[aG,hj];rfl) hu2;cases this;simpa using hc
  refine⟨u,w',b'::(inner++[[]]).flatten,by simpa using hrun,q1',.inr ⟨b',cap2,cur',inner++[[]],by rw[hu'];simp,r1,by simp;omega,r3,r4,r5,by simp[hin.1],?_,rfl⟩,?_,?_,?_⟩
  ·intro j v ys bj a1 a2 a3;show RowO H w' v e2 sz2 ys bj;rcases eA j yss.length with hj|hj
   ·rw[bH hj]at a2;rw[bH (by rw[hin.1];exact hj)]at a3;have hv:=ad (l:=vals) (i:=j) (by omega);have:=hcell j _ (by rw[bH (by omega)];exact hv);rw[a1]at this;cases this
    exact(hin.2 j _ ys bj hv a2 a3).kept (fun k hk=>hkeep k (gc a3 hk)) (Fz.le_refl H)
   ·have hjl:j=yss.length:=by
     have:=(aq.1 a2).1;simp at this;omega
    subst hjl;rw[cj (au _),ch]at a2;cases a2;rw[cj (by rw[hin.1];exact au _),hin.1,ch]at a3;cases a3;have:=hcell yss.length (.slice none 0 0) (by rw[cj (by omega),hvl,ch];rfl)
    rw[a1]at this;cases this;exact⟨by simp,.inl ⟨rfl,rfl,rfl⟩⟩
  ·simp only[fA,aO,fJ,aX];refine bF.2 ⟨fun hk=>(q4 b' (ax.2 rfl)).pr (.inr hk),n2⟩
  ·intro k hk;rcases aV.1 hk with rfl|hk
   ·exact hf' _ (ax.2 rfl)
   ·simp only[fA,aO,fJ,aX]at hk;exact hfi k hk
  ·exact⟨_,_,hu',.inr ⟨b',rfl⟩⟩
theorem yQ(E:Env P T J)(hG:bK G H)(h:WRel X κ H s a w){o:Oper}(hok:okOp X.N X.A o=true){c:Call}(ho:o.op= .call c){x y:Operand}{t:Nat}(hcal:c.callee= .builtin .append)(hargs:c.args.toList=[x,y])(hty:c.argTypes.toList=[t,t]){v:AV}{ws:List Wr}
 (hr:Runs P G s ((opd G x).bind fun s=>(opd G y).bind fun y=>wo T J M G o t s y) (v,ws)):cm P X κ H s a o v ws w:=by
 obtain⟨p,q,h1,h2,hr'⟩:=opd2 hG h.rel hr;clear hr;have hr:=hr';clear hr';have ha:c.args= #[x,y]:=by apply ep;rw[hargs]
 have hta:c.argTypes= #[t,t]:=by apply ep;rw[hty]
 have hex:∀{u w'},(Builtin.append_ #[t,t] o.type #[a.eval x,a.eval y]).run P w= .ok u w'→(execOp a.eval o).run P w= .ok (.value u) w':=fun{u w'} hh=>by
  simp[execOp,ho,resolve,hcal,ha,invoke,builtin,hta,hh]
 unfold wo at hr;split at hr
 ·rename_i i d hT hd;obtain⟨-,dd,hdd,hund,-⟩:=E.tab t i hT;split at hr
  ·rename_i e sz bytes hk;rw[hk]at hund;obtain⟨rfl,ie,z,hie,hsz,hby,hz,hzs,hpos⟩:=hund;split at hr
   ·rename_i ys hys;obtain⟨A,cy,hyv,k1,k2,k3⟩:=mI h2 hys;have onNil:∀{v ws},a.eval x= .slice none 0 0→Runs P G s (.need (ys.length≤lim bytes) (obN d (.row e sz ys) fun g ws=>.ret (.one (.rref d g ys.length),ws))) (v,ws)→cm P X κ H s a o v ws w:=by
     rintro v ws hx0 ⟨hlim,hr⟩;obtain⟨ft,h⟩:=h.f;have hr:=gK h.rel hr;simp only[Runs,ai]at hr;obtain⟨rfl,rfl⟩:=hr
     obtain⟨u,w',bs',hrun,g1,g2,g3,g4,A',cap',hu,hA⟩:=ov (ty:=o.type) (A:=A) (c:=cy) h hdd hie hz hsz hby hzs (xs:=[]) (ys:=ys) (bs:=[]) ⟨by simp,.inl ⟨rfl,rfl,rfl⟩⟩ (by simp) k2 k3 (by simpa using hlim);have g5:=g1.add d u (c:=.row e sz ys) g3 g4 (show RowO H w' u e sz ys bs' by simpa using g2)
     intro K Q hn;unfold Oper.wp;rw[hex (by rw[hx0,hyv];exact hrun),bN];refine hn _ H w' _ g5.wrel ?_;simp only[bJ,bA]at hu hA;rw[hu];exact .one _ _ (.newRref κ H d _ hA)
    split at hr
    ·rename_i d0 g0 n0;obtain⟨ft,h⟩:=h.f;obtain⟨c0,hc0,hr⟩:=az hr;obtain⟨hob,hn0,-⟩:=h.at_ hc0;obtain⟨hg,hu0,-⟩:=eU h1;split at hr
     ·rename_i e' sz' xs;split at hr
      ·rename_i hb;simp only[aw]at hb;have e1:=aP hb.1;have e2:=aP hb.2;subst e1;subst e2;obtain⟨hlim,hr⟩:=hr;have hr:=gK h.rel hr;simp only[Runs,ai]at hr;obtain⟨rfl,rfl⟩:=hr;obtain⟨g1,f1⟩:=h.gone (d:=d0) (g:=g0) hg;rw[hu0]at hob
       obtain⟨u,w',bs',hrun,q1,q2,q3,q4,A',cap',hu,hA⟩:=ov (ty:=o.type) (A:=A) (c:=cy) g1 hdd hie hz hsz hby hzs (xs:=xs) (ys:=ys) hob f1 k2 k3 hlim;have q5:=q1.add d u (c:=.row e sz (xs++ys)) q3 q4 q2;intro K Q hn;unfold Oper.wp;rw[hex (by rw[hyv];exact hrun),bN]
       refine hn (κ.addRow d u) H w' u (WRf.wrel (ft:=setF (setF (setF ft d0 []) d []) d bs') ?_) ?_
       ·cases hdd0:Nat.beq d d0 with
        |true=>
         have:=aP hdd0;subst this;exact q5.congr (fun t=>(dF _ _ _ _ _).symm) (fun _=>rfl) (fun _=>rfl)
        |false=>exact q5.congr (fun _=>rfl) (fun _=>rfl) (fun _=>rfl)
       ·rw[hu];exact .one _ _ (.newRref κ H d _ hA)
      ·exact hr.elim
     ·rename_i e2 sz2 e' yss;split at hr
      ·rename_i hq1 hq2 hq3;have hb:=Bool.and_eq_true_iff.1 hq2;clear hq3;have e1:=aP hb.1;have e2':=aP hb.2;subst e1;subst e2';obtain⟨hlim,hr⟩:=hr;have hr:=gK h.rel hr;simp only[Runs,ai]at hr;obtain⟨rfl,rfl⟩:=hr;rw[hu0]at hob
       obtain⟨bq,off,us,r1,r2,r3,r4⟩:=k3.resolve_left (by simp);obtain⟨u,w',bs',hrun,q1,q2,q3,q4,A',cap',hu,hA⟩:=yk (ty:=o.type) (A:=A) (c:=cy) h hg hdd hie hz hsz hby hzs hob ⟨bq,off,us,r1,by simpa using r2,r3,by simpa using r4⟩ hlim;have q5:=q1.add d u (c:=.rows e2 sz2 e (yss++[[]])) q3 q4 q2
       intro K Q hn;unfold Oper.wp;rw[hex (by rw[hyv];exact hrun),bN];refine hn (κ.addRow d u) H w' u (WRf.wrel (ft:=setF (setF (setF ft d0 []) d []) d bs') ?_) ?_
       ·cases hdd0:Nat.beq d d0 with
        |true=>
         have:=aP hdd0;subst this;exact q5.congr (fun t=>(dF _ _ _ _ _).symm) (fun _=>rfl) (fun _=>rfl)
        |false=>exact q5.congr (fun _=>rfl) (fun _=>rfl) (fun _=>rfl)
       ·rw[hu];exact .one _ _ (.newRref κ H d _ hA)
      ·exact hr.elim
     ·exact hr.elim
    ·split at hr
     ·exact onNil (inv_nil h1) hr
     ·exact dZ E hG h hok hr
    ·split at hr
     ·exact onNil (cN h1).1 hr
     ·exact dZ E hG h hok hr
    ·exact dZ E hG h hok hr
   ·exact hr.elim
  ·exact hr.elim
 ·exact hr.elim
theorem rW(E:Env P T J)(hG:bK G H)(h:WRel X κ H s a w){o:Oper}(hok:okOp X.N X.A o=true){t len:Nat}{parts:Array (Nat×Operand)}(ho:o.op= .buildSlice t len parts){v:AV}{ws:List Wr}(hr:Runs P G s (evW T J M G o) (v,ws)):cm P X κ H s a o v ws w:=by
 simp only[evW,ho]at hr;split at hr
 ·obtain⟨vs,hvs,hr1⟩:=az hr;clear hr;obtain⟨hl1,hl2⟩:=nW hG h.rel hvs;split at hr1
  ·rename_i i d hT hd hlen;obtain⟨-,dd,hdd,hund,-⟩:=E.tab t i hT;simp only[aw]at hlen;have hlen1:=aP hlen.1;split at hr1
   ·rename_i e n by' hk
    rw[hk]at hund;obtain⟨rfl,ie,z,hie,hsz,-,hz,hzs,hpos⟩:=hund;split at hr1
    ·rename_i xs hxs hble;obtain⟨hx1,hx2⟩:=qo hxs;simp only[aw]at hble;have hb1:len≤64:=bB hble.1;have hb2:n≤64:=bB hble.2;have hsmall:len*n≤4096:=by
      have:=Nat.mul_le_mul hb1 hb2;omega
     have key:∀z0:Array Value,∃out:List Value,Instr.fill (fun i=>some (i*n,n)) ((Array.range (len*n)).map fun k=>z0[k % z0.size]!) (parts.map fun(i,x)=>(i,a.eval x)).toList=some out.toArray∧Cs Con.no H xs.flatten out:=by
      intro z0;obtain⟨out,hf,hco⟩:=oh (κ:=κ) (H:=H) (i:=0) (idx:=parts.toList.map (·.1)) (us:=(parts.map fun(i,x)=>(i,a.eval x)).toList) (pre:=[]) (zs:=((Array.range (len*n)).map fun k=>z0[k % z0.size]!).toList) (pc:=[]) hxs hlen.2 (by simp[hl1]) (by simp[hl1])
       (fun j k v u h1 h2 h3=>by
        simp only[Array.toList_map,aG,ar]at h1 h3;obtain⟨⟨i,x⟩,hx,hx1⟩:=h1;obtain⟨⟨i',x'⟩,hx',rfl⟩:=h3;rw[hx]at hx';cases hx';simp only at hx1 ⊢;exact⟨hx1.symm,hl2 j x v (by rw[aG,hx];rfl) h2⟩) .nil (by simp) (by simp[hlen1])
      rw[dG,Array.toArray_toList]at hf;exact⟨out,hf,by simpa using hco⟩
     have h24:¬(len*n > 2 ^ 24):=by omega
     have fin:∀out:List Value,Cs Con.no H xs.flatten out→(execOp a.eval o).run P w= .ok (.value (.slice (some ⟨w.heap.size,0,none⟩) len len)) (w.alloc (.cells out.toArray e))→cm P X κ H s a o v ws w:=by
      intro out hco hrun;have hol:out.length=len*n:=by rw[hco.1,dk hx2,hx1,hlen1]
      rw[hx1,←hlen1]at hr1;exact se (us:=out) (rest:=[]) (cap:=len) (n:=len) (w1:=w) h ⟨rfl,rfl,rfl,rfl⟩ hx2 (by rw[hx1,hlen1]) hco (au _) (by simp only[maxLen];omega) (by simpa using hol) (by rw[aX];exact hrun) hr1
     by_cases h0:len*n=0
     ·obtain⟨out,hf,hco⟩:=key #[];refine fin out hco ?_;simp only[execOp,ho,Instr.buildSlice,aY,aA hdd,aF,run_sizeOf hie w,hsz,h0,show ¬((0:Nat) > 2 ^ 24) by omega,if_false,if_true,bu];rw[h0]at hf;rw[hf];simp[newRow]
     ·obtain⟨out,hf,hco⟩:=key z.cells;refine fin out hco ?_;simp only[execOp,ho,Instr.buildSlice,aY,aA hdd,aF,run_sizeOf hie w,hsz,h24,if_false,h0,bu,zeroValue,typeInfo,run_program,hie,hz];rw[hf];simp[newRow]
    ·exact hr1.elim
   ·exact hr1.elim
  ·exact hr1.elim
 ·exact dZ E hG h hok hr
theorem abg(E:Env P T J)(hG:bK G H)(h:WRel X κ H s a w){o:Oper}(hok:okOp X.N X.A o=true){t:Nat}{x:Operand}{lo hi mx:Option Operand}(ho:o.op= .slice t x lo hi mx){v:AV}{ws:List Wr}(hr:Runs P G s (evW T J M G o) (v,ws)):cm P X κ H s a o v ws w:=by
 simp only[evW,ho]at hr;obtain⟨p,h1,hr1⟩:=opd1 hG h.rel hr;clear hr;split at hr1
 ·rename_i d g n;split at hr1
  ·rename_i ti hT;obtain⟨-,dd,hdd,hund,-⟩:=E.tab t ti hT;obtain⟨vh,hh1,hr2⟩:=az hr1;have hh:=yM hG h.rel hh1;split at hr2
   ·rename_i hv e sz by' hbh hk
    rw[hk]at hund;obtain⟨rfl,ie,z,hie,hsz,-⟩:=hund;obtain⟨⟨h0,h2⟩,hr3⟩:=hr2;obtain⟨c,hc,hr4⟩:=az hr3;obtain⟨ft,h⟩:=h.f;obtain⟨hob,hn,-⟩:=h.at_ hc;obtain⟨hg,hu,A,cap,he,hA⟩:=eU h1;rw[hu]at hob;split at hr4
    ·rename_i e' sz' xs;split at hr4
     ·rename_i hb;simp only[aw]at hb;have e1:=aP hb.1;have e2:=aP hb.2;subst e1;subst e2;have hr:=gK h.rel hr4;simp only[Runs,ai]at hr;obtain⟨rfl,rfl⟩:=hr;obtain⟨g1,f1⟩:=h.gone (d:=d) (g:=g) hg;have hlen:xs.length=n:=by
       obtain⟨-,⟨q,rfl,-⟩|⟨b,cap',cur,q,-⟩⟩:=hob
       ·rw[he]at q;simp only[bR]at q;exact q.2.1.symm
       ·rw[he]at q;simp only[bR]at q;exact q.2.1.symm
      have hcap:n≤cap:=by
       obtain⟨-,⟨q,-⟩|⟨b,cap',cur,q,-,r1,-⟩⟩:=hob
       ·rw[he]at q;simp only[bR]at q;omega
       ·rw[he]at q;simp only[bR]at q;omega
      have hrow:RowO H w (.slice A hv.toNat cap) e sz (xs.take hv.toNat) (ft d):=by
       obtain⟨hs,⟨q,rfl,q2⟩|⟨b,cap',cur,q,r0,r1,r2,r3,r4,r5,q2⟩⟩:=hob
       ·rw[he]at q;simp only[bR]at q;obtain⟨rfl,rfl,rfl⟩:=q;have:hv.toNat=0:=by omega
        rw[this];exact⟨by simp,.inl ⟨rfl,rfl,q2⟩⟩
       ·rw[he]at q;simp only[bR]at q;obtain⟨rfl,rfl,rfl⟩:=q;have hle:hv.toNat≤xs.length:=by omega
        have hlt:(xs.take hv.toNat).length=hv.toNat:=by simp;omega
        refine⟨fun x hx=>hs x (List.mem_of_mem_take hx),.inr ⟨b,cap,cur,by rw[hlt],r0,by rw[hlt];omega,r2,r3,r4,?_,q2⟩⟩;rw[hlt,lJ hs];have:=r5.take (hv.toNat*sz)
        rwa [List.take_take,jl (dn _ hle)]at this
      have g2:=g1.add d (.slice A hv.toNat cap) (c:=.row e sz (xs.take hv.toNat)) (h.obs.nodup d) f1 hrow;have g3:=g2.congr (s':=s.writes [.perm d ⟨κ.nr d,0,0,false⟩,obW d (κ.nr d) (.row e sz (xs.take hv.toNat))]) (fun t=>(dF _ _ _ _ _).symm) (fun _=>rfl) (fun _=>rfl)
      have hrun:(execOp a.eval o).run P w= .ok (.value (.slice A hv.toNat cap)) w:=by
       rcases nB hbh hh with⟨rfl,rfl,-⟩|⟨y,k,_,rfl,ey,-⟩
       ·simp only[execOp,ho,he,Instr.sliceAt,Instr.slice,Instr.sliceBounds,aY,aA hdd,aF,fc,bW,bu,if_true,run_sizeOf hie w,cv];cases A with
        |none=>simp
        |some A=>simp[Addr.add]
       ·simp only[execOp,ho,he,ey,Instr.sliceAt,Instr.slice,Instr.sliceBounds,aY,aA hdd,aF,fc,bW,bu,if_true];rw[jE (by omega) (by omega)];simp only[aF,run_sizeOf hie w,bu];cases A with
        |none=>simp
        |some A=>simp[Addr.add]
      intro K Q hn';unfold Oper.wp;rw[hrun,bN];exact hn' _ H w _ g3.wrel (.one _ _ (.newRref κ H d _ (by
       rcases hA with rfl|hA
       ·exact .inl (by omega)
       ·exact .inr hA)))
     ·exact hr4.elim
    ·exact hr4.elim
   ·exact hr2.elim
  ·rename_i l ti hT;obtain⟨-,dd,hdd,hund,-⟩:=E.tab t ti hT;split at hr1
   ·obtain⟨lv,hlv,hr2⟩:=opd1 hG h.rel hr1;split at hr2
    ·rename_i l e by' hk
     rw[hk]at hund;obtain⟨rfl,ie,z,hie,hsz,-⟩:=hund;obtain⟨c,hc,hr4⟩:=az hr2;obtain⟨ft,hf⟩:=h.f;obtain⟨hob,hn,-⟩:=hf.at_ hc;obtain⟨hg,hu,A,cap,he,hA⟩:=eU h1;rw[hu]at hob;split at hr4
     ·rename_i e' sz' xs;obtain⟨⟨h0,h2⟩,hr5⟩:=hr4;simp only[Runs,ai]at hr5;obtain⟨rfl,rfl⟩:=hr5;obtain⟨b,rfl⟩:∃b,A=some ⟨b,0,none⟩:=by
       rcases hA with rfl|hA
       ·omega
       ·exact hA
      have hcap:n≤cap:=by
       obtain⟨-,⟨q,-⟩|⟨b,cap',cur,q,-,r1,-⟩⟩:=hob
       ·rw[he]at q;simp only[bR]at q;omega
       ·rw[he]at q;simp only[bR]at q;omega
      have hv:=(cN hlv).1;refine cm.value h (u:=.slice (some ⟨b,l.toNat,none⟩) (n-l.toNat) (cap-l.toNat)) ?_ (.one _ _ (.vref d g l.toNat (n-l.toNat) b n cap hg (hu.trans he) (by omega)))
      simp only[execOp,ho,he,hv,Instr.sliceAt,Instr.slice,Instr.sliceBounds,aY,aA hdd,aF,fc,bW,bu,if_true];rw[jE (by omega) (by omega)];have hne:cap≠l.toNat:=by omega
      simp only[aF,run_sizeOf hie w,bu,if_neg hne,Addr.add,hsz];simp;omega
     ·exact hr4.elim
    ·exact hr2.elim
   ·exact hr1.elim
  ·exact hr1.elim
 ·exact dZ E hG h hok hr1
end
structure EnvK(P:Program)(T:Tab):Prop where
 zag:∀t i,T t=some i→∀ti z,P.info? t=some ti→ti.zero=some z→(i.agg=true↔∃cs,z= .agg cs)
 key:∀kt z,keyZ T kt=some z→∀x,shp z x=true→(∀em w,(Instr.checkKey em 10000 kt x).run P w= .ok () w)∧Instr.sameBits 10000 x x=true∧
  ∀(es:List MapEntry),(∀e∈es,shp z e.key=true)→∀w,(Instr.findKey kt x es).run P w= .ok ((bL x (es.map (·.key))).map fun i=>(i,((es[i]?).map (·.val)).getD Go.undef)) w
theorem rL{a b c:Value}(h:shp1 a b=true)(k:shp1 b c=true):shp1 a c=true:=by
 cases a<;>cases b<;>simp only[shp1,cJ,bC]at h<;>cases c<;>simp only[shp1,cJ,bC]at k ⊢;exact h.trans k
theorem rK:∀{a b c:List Value},shpL a b=true→shpL b c=true→shpL a c=true
 | [],[],[],_,_=>rfl
 | [],[],_::_,_,k=>by cases k
 | [],_::_,_,h,_=>by cases h
 |_::_,[],_,h,_=>by cases h
 |_::_,_::_,[],_,k=>by cases k
 |a::Qa,b::bs,c::cs,h,k=>by
  simp only[shpL,aw]at h k ⊢;exact⟨rL h.1 k.1,rK h.2 k.2⟩
theorem mU{a b:Value}:shp a b=true↔(∃Qa bs:Array Value,a= .agg Qa∧b= .agg bs∧shpL Qa.toList bs.toList=true)∨shp1 a b=true:=by
 cases a<;>cases b<;>simp[shp,shp1]
theorem tI{a b:Value}(h:shp1 a b=true):shp1 b a=true:=by
 cases a<;>cases b<;>simp[shp1]at h ⊢;exact h.symm
theorem tH:∀{a b:List Value},shpL a b=true→shpL b a=true
 | [],[],_=>rfl
 | [],_::_,h=>by cases h
 |_::_,[],h=>by cases h
 |a::Qa,b::bs,h=>by
  simp only[shpL,aw]at h ⊢;exact⟨tI h.1,tH h.2⟩
theorem rJ{a b:Value}(h:shp a b=true):shp b a=true:=by
 rcases mU.1 h with⟨Qa,bs,rfl,rfl,h⟩|h
 ·exact mU.2 (.inl ⟨bs,Qa,rfl,rfl,tH h⟩)
 ·exact mU.2 (.inr (tI h))
theorem mT{a b c:Value}(h:shp a b=true)(k:shp b c=true):shp a c=true:=by
 rcases mU.1 h with⟨Qa,bs,rfl,rfl,h⟩|h<;>rcases mU.1 k with⟨bs',cs,e,rfl,k⟩|k
 ·cases e;exact rK h k
 ·cases c<;>simp[shp1]at k
 ·subst e;cases a<;>simp[shp1]at h
 ·exact mU.2 (.inr (rL h k))
section
variable{P:Program}{T:Tab}{J:Kn}{M:Md}{G:Nat→Option (List AC)}{X:Ctx}{κ:Con}{H:Fz}{s:St}{a:Act}{w:World}{ft:Nat→List Nat}
theorem qc{α β:Type}{f:α→Option β}:∀{l:List α} {ys:List β},l.mapM f=some ys→ys.length=l.length∧∀(j:Nat) (x:α) (y:β),l[j]?=some x→ys[j]?=some y→f x=some y
 | [],ys,h=>by simp at h;subst h;simp
 |x::l,ys,h=>by
  rw[List.mapM_cons]at h;simp only[Option.pure_def,Option.bind_eq_bind,fH,am]at h;obtain⟨y,h1,ys',h2,rfl⟩:=h;obtain⟨k1,k2⟩:=qc h2;refine⟨by simp[k1],fun j x' y' hx hy=>?_⟩;cases j with
  |zero=>simp at hx hy;subst hx;subst hy;exact h1
  |succ j=>exact k2 j x' y' (by simpa using hx) (by simpa using hy)
theorem yZ{v:AV}{u kv:Value}(h:AVr κ H v u)(hk:keyV v=some kv):u=kv:=by
 unfold keyV at hk;split at hk
 ·cases hk;exact(cN h).1
 ·cases hk;exact(cN h).1
 ·rename_i cs;split at hk
  ·rename_i vs hvs;cases hk;obtain⟨k1,k2⟩:=qc hvs;cases h with
   |agg _ us hc=>
    congr 1
    apply ep;simp only;apply ce;intro j;by_cases hj:j<cs.length
    ·have hu:j<us.length:=by rw[hc.1];exact hj
     have hv:j<vs.length:=by rw[k1];exact hj
     have e1:=ad hj;have e2:=ad hu;have e3:=ad hv;have r:=hc.2 j _ _ e1 e2;have q:=k2 j _ _ e1 e3;rw[e2,e3];generalize cs[j]=c at r q;generalize us[j]=uu at r ⊢;split at q
     ·cases r;exact q
     ·cases r;exact q
     ·cases r;exact q
     ·cases q
    ·rw[bI (by rw[hc.1];omega),bI (by rw[k1];omega)]
  ·cases hk
 ·cases hk
theorem yV{v:AV}{u:Value}{mv:MV}(h:AVr κ H v u)(hm:mvOf v=some mv):MVr H mv u:=by
 unfold mvOf at hm;split at hm
 ·rename_i c;rw[ar]at hm;obtain⟨c',h1,rfl⟩:=hm;cases h with|one _ _ h=>exact⟨c',rfl,fR h1 h⟩
 ·rename_i cs;rw[ar]at hm;obtain⟨cs',h1,rfl⟩:=hm;cases h with|agg _ us h=>exact⟨us,rfl,iO h1 h⟩
 ·cases hm
theorem zF{v:AV}{u:Value}{mv:MV}(h:MVr H mv u)(hm:avOf mv=some v):AVr Con.no H v u:=by
 obtain⟨g,cs⟩:=mv;cases g with
 |false=>
  obtain⟨c,rfl,h⟩:=h;simp only[avOf,am]at hm;subst hm;exact .one _ _ h
 |true=>
  obtain⟨us,rfl,h⟩:=h;simp only[avOf,am]at hm;subst hm;exact .agg _ _ h
theorem rz(E:Env P T J)(EK:EnvK P T){t:Nat}{v:AV}(h:nQ T t=some v):∃ti z,P.info? t=some ti∧ti.zero=some z∧∀κ H,AVr κ H v z:=by
 unfold nQ at h;split at h
 ·rename_i i hT;obtain⟨⟨ti,z,hi,hsz,hz,hzz⟩,-⟩:=E.tab t i hT;have hag:=EK.zag t i hT ti z hi hz;split at h
  ·rename_i ha;cases h;obtain⟨zs,rfl⟩:=hag.1 ha;refine⟨ti,_,hi,hz,fun κ H=>?_⟩;have:=hzz κ H;simp only[Value.cells]at this;exact .agg _ _ this
  ·rename_i ha hcs;cases h;refine⟨ti,_,hi,hz,fun κ H=>?_⟩;have:=hzz κ H;rw[hcs]at this;have hne:∀zs,z≠ .agg zs:=fun zs e=>by rw[hag.2 ⟨zs,e⟩]at ha;cases ha
   have hc:z.cells= #[z]:=by cases z<;>first|rfl|exact absurd rfl (hne _)
   rw[hc]at this;obtain⟨u,us,e,h1,h2⟩:=this.inv_cons;simp only[gU]at e;obtain⟨rfl,-⟩:=e;exact .one _ _ h1
  ·cases h
 ·cases h
theorem gM{x:Value}:∀{ks:List Value} {i:Nat},bL x ks=some i→i<ks.length
 | [],i,h=>by cases h
 |k::ks,i,h=>by
  unfold bL at h;split at h
  ·cases h;simp
  ·rw[ar]at h;obtain⟨j,hj,rfl⟩:=h;have:=gM hj;simp;omega
theorem sI(EK:EnvK P T){kt:Nat}{z z' kv:Value}(hz':keyZ T kt=some z')(h1:shp z' z=true)(h2:shp z' kv=true){es:Array MapEntry}{ks:List Value}(hks:∀k∈ks,shp z k=true)(hl:es.size=ks.length)
 (hk:∀(i:Nat) (en:MapEntry) (k:Value),es[i]?=some en→ks[i]?=some k→en.key=k):(Instr.findKey kt kv es.toList).run P w= .ok ((bL kv ks).map fun i=>(i,((es[i]?).map (·.val)).getD Go.undef)) w:=by
 have hmap:es.toList.map (·.key)=ks:=by
  apply ce;intro j;rw[aG,cA];by_cases hj:j<ks.length
  ·have e1:=ad hj;have e2:es[j]?=some es[j]:=aE (by omega);rw[e1,e2,bW,hk j _ _ e2 e1]
  ·rw[bI (by omega),fZ (by omega)];rfl
 have:=(EK.key kt z' hz' kv h2).2.2 es.toList (fun e he=>by
  have:e.key∈es.toList.map (·.key):=bZ.2 ⟨e,he,rfl⟩;rw[hmap]at this;exact mT h1 (hks _ this)) w
 rw[hmap]at this;simpa using this
end
section
variable{P:Program}{T:Tab}{J:Kn}{M:Md}{G:Nat→Option (List AC)}{X:Ctx}{κ:Con}{H:Fz}{s:St}{a:Act}{w:World}{ft:Nat→List Nat}
theorem jX{r:Nat}{es:Array MapEntry}{cl:Nat}(hb:w.heap[r]?=some (.map es cl)):(getObj r).run P w= .ok (.map es cl) w:=by simp[getObj,Sem.run,hb]
theorem mh{r:Nat}{es:Array MapEntry}{cl:Nat}(hb:w.heap[r]?=some (.map es cl))(o:Obj):(setObj r o).run P w= .ok () { w with heap:=w.heap.setIfInBounds r o}:=by simp[setObj,Sem.run,hb]
theorem oO(hfz:FzOk H w){r:Nat}{es:Array MapEntry}{cl:Nat}(hr:w.heap[r]?=some (.map es cl))(o:Obj):Step H w r H { w with heap:=w.heap.setIfInBounds r o}∧({ w with heap:=w.heap.setIfInBounds r o}:World).heap[r]?=some o∧∀i,H r i=none:=by
 have hnone:∀i,H r i=none:=fun i=>by
  cases hv:H r i with
  |none=>rfl
  |some v=>
   have:=hfz r i v hv;simp[World.cell?,hr]at this
 have hlt:=(ay.1 hr).1;refine⟨{ le:=Fz.le_refl H,fz:=fun k i v hv=>?_,heap:=fun k _ hk=>by simp[cb,Ne.symm hk],kept:=fun _ _=>rfl,grown:=by simp,os:=rfl,tape:=rfl,output:=rfl},by simp[hlt],hnone⟩;have hk:k≠r:=fun e=>by subst e;rw[hnone]at hv;cases hv
 rw[cell_of_heap (w:=w) (by simp[cb,Ne.symm hk])];exact hfz k i v hv
theorem yN(h:WRel X κ H s a w){o:Oper}{t:Nat}(ho:o.op= .makeMap t none){v:AV}{ws:List Wr}(hr:Runs P G s (evW T J M G o) (v,ws)):cm P X κ H s a o v ws w:=by
 simp only[evW,ho]at hr;split at hr
 ·rename_i d i hd hT;have key:∀(c:Ob),ObOk (κ.addRow d (.map (some w.heap.size))) H (w.alloc (.map #[] 0)) (.map (some w.heap.size)) c [w.heap.size]→∀{v ws},Runs P G s (obN d c fun g ws=>.ret (.one (.mref d g),ws)) (v,ws)→cm P X κ H s a o v ws w:=by
   intro c hc v ws hr;obtain⟨ft,h⟩:=h.f;have hr:=gK h.rel hr;simp only[Runs,ai]at hr;obtain⟨rfl,rfl⟩:=hr;have hs:=fq h.rel.fz (.map #[] 0) w ⟨rfl,rfl,rfl,rfl⟩;have hnew:=dA w (.map #[] 0);have g1:=h.step hs (.inr (au _))
   have g2:=g1.add d (.map (some w.heap.size)) (c:=c) (bs:=[w.heap.size]) (by simp) (fun k hk=>by
    obtain rfl:=ax.1 hk;exact h.fresh (au _) (ay.1 hnew).1 fun i=>h.rel.new i) hc
   intro K Q hn;unfold Oper.wp;have hrun:(execOp a.eval o).run P w= .ok (.value (.map (some w.heap.size))) (w.alloc (.map #[] 0)):=by
    have:(Instr.makeMap t none).run P w= .ok (.map (some w.heap.size)) (w.alloc (.map #[] 0)):=rfl;simp[execOp,ho,this]
   rw[hrun,bN];exact hn _ H _ _ g2.wrel (.one _ _ (.mref d _ _ (by simp[Con.addRow]) (by simp[Con.addRow])))
  have hnew:=dA w (.map #[] 0);split at hr
  ·split at hr
   ·exact key (.mrow _ _ _ [] []) (show nP H _ _ _ _ _ [] [] none _ from⟨_,#[],[],rfl,by simp,hnew,rfl,rfl,rfl,by simp,rfl⟩) hr
   ·exact key (.map _ [] []) (show MapO H _ _ _ [] [] _ from⟨_,#[],rfl,rfl,by simp,hnew,rfl,rfl,by simp⟩) hr
   ·exact hr.elim
  ·exact hr.elim
 ·exact hr.elim
theorem abj(E:Env P T J)(hG:bK G H)(h:WRel X κ H s a w){o:Oper}(hok:okOp X.N X.A o=true){t:Nat}(ho:o.op= .alloc t){v:AV}{ws:List Wr}(hr:Runs P G s (evW T J M G o) (v,ws)):cm P X κ H s a o v ws w:=by
 simp only[evW,ho]at hr;split at hr
 ·split at hr
  ·rename_i d i hd hT;split at hr
   ·rename_i ht hzero;obtain rfl:=aP ht;obtain⟨⟨ti,z,hi,hsz,hz,hzz⟩,-⟩:=E.tab _ i hT;have hcz:Cs κ H i.zero z.cells.toList:=hzz κ H;rw[hzero]at hcz;obtain⟨u1,us1,e1,k1,hcz⟩:=hcz.inv_cons;obtain⟨u2,us2,e2,k2,hcz⟩:=hcz.inv_cons;obtain rfl:=hcz.inv_nil;cases k1;cases k2;subst e2
    have hcells:z.cells= #[.pointer none,.slice none 0 0]:=by
     rw[←Array.toList_inj];exact e1
    obtain⟨ft,h⟩:=h.f;have hr:=gK h.rel hr;simp only[Runs,ai]at hr;obtain⟨rfl,rfl⟩:=hr;have hs:=fq h.rel.fz (.cells #[.pointer none,.slice none 0 0] 74) w ⟨rfl,rfl,rfl,rfl⟩;have hnew:=dA w (.cells #[.pointer none,.slice none 0 0] 74)
    have hlt:=(ay.1 hnew).1;have g1:=h.step hs (.inr (au _));have hc:BldO H (w.alloc (.cells #[.pointer none,.slice none 0 0] 74)) (.pointer (some ⟨w.heap.size,0,none⟩)) true .empty [w.heap.size]:=
     ⟨w.heap.size,rfl,hlt,fun i=>h.rel.new i,.inr ⟨rfl,_,_,[],hnew,.inl rfl,⟨(by intro x hx;cases hx),.inl ⟨rfl,rfl,rfl⟩⟩,rfl⟩⟩
    have g2:=g1.add d (.pointer (some ⟨w.heap.size,0,none⟩)) (c:=.bld true .empty) (bs:=[w.heap.size]) (by simp) (fun k hk=>by
     obtain rfl:=ax.1 hk;exact h.fresh (au _) hlt fun i=>h.rel.new i) hc
    intro K Q hn;unfold Oper.wp;have hrun:(execOp a.eval o).run P w= .ok (.value (.pointer (some ⟨w.heap.size,0,none⟩))) (w.alloc (.cells #[.pointer none,.slice none 0 0] 74)):=by
     simp[execOp,ho,Instr.alloc,zeroValue,typeInfo,hi,hz,newVar,newRow,hcells]
    rw[hrun,bN];exact hn _ H _ _ g2.wrel (.one _ _ (.iref d _ _ (by simp[Con.addRow]) (by simp[Con.addRow])))
   ·exact hr.elim
  ·exact hr.elim
 ·exact dZ E hG h hok hr
theorem mM{v v':AV}{u u':Value}(h1:AVr κ H v u)(h2:AVr κ H v' u'):AVr κ H (.tup [v,v']) (.tuple #[u,u']):=by
 refine .tup [v,v'] [u,u'] rfl fun j x y a1 a2=>?_
 match j,a1,a2 with
 |0,a1,a2=>cases a1;cases a2;exact h1
 |1,a1,a2=>cases a1;cases a2;exact h2
theorem la{t:Nat}{kt el:Nat}{ti:TI}(E:Env P T J)(hT:T t=some ti)(hk:ti.kind= .map kt el):P.underlying t=some (.map kt el):=by
 obtain⟨-,d,hd,hund,-⟩:=E.tab t ti hT;rw[hk]at hund;rw[hd];exact congrArg some hund
theorem kA{el:Nat}{ti:TypeInfo}{z:Value}(hi:P.info? el=some ti)(hz:ti.zero=some z)(w:World):(zeroValue el).run P w= .ok z w:=by
 simp[zeroValue,typeInfo,hi,hz]
theorem sK{x:Value}{ks:List Value}{j:Nat}(h:bL x ks=some j):∃k,ks[j]?=some k:=⟨_,ad (gM h)⟩
theorem abh(E:Env P T J)(EK:EnvK P T)(hG:bK G H)(h:WRel X κ H s a w){o:Oper}{t:Nat}{x y:Operand}{ok:Bool}(ho:o.op= .lookup t x y ok){v:AV}{ws:List Wr}(hr:Runs P G s (evW T J M G o) (v,ws)):cm P X κ H s a o v ws w:=by
 simp only[evW,ho]at hr;obtain⟨p,q,h1,h2,hr'⟩:=opd2 hG h.rel hr;clear hr;unfold aax at hr';split at hr'
 ·rename_i d g kv ti hkv hT;have hky:=yZ h2 hkv;split at hr'
  ·rename_i kt el hk;have hund:=la E hT hk;obtain⟨c,hc,hr⟩:=az hr';clear hr';obtain⟨ft,h⟩:=h.f;obtain⟨hob,hn,-⟩:=h.at_ hc;obtain⟨hg,hu,r,he⟩:=io h1;rw[hu,he]at hob
   have run:∀{z z':Value} {es:Array MapEntry} {ks:List Value} {cl:Nat} {val:Value} {found:Bool},keyZ T kt=some z'→shp z' z=true→shp z' kv=true→(∀k∈ks,shp z k=true)→w.heap[r]?=some (.map es cl)→es.size=ks.length→
    (∀(i:Nat) (en:MapEntry) (k:Value),es[i]?=some en→ks[i]?=some k→en.key=k)→
    (∀j,bL kv ks=some j→found=true∧∃en,es[j]?=some en∧en.val=val)→(bL kv ks=none→found=false∧(zeroValue el).run P w= .ok val w)→
    (execOp a.eval o).run P w= .ok (.value (if ok then .tuple #[val,.bool found] else val)) w:=by
    intro z z' es ks cl val found hz hs1 hs2 hks hw hl hkk hsome hnone;have hf:=sI (w:=w) EK hz hs1 hs2 hks hl hkk;have hck:=(EK.key kt z' hz kv hs2).1;simp only[execOp,ho,Instr.lookup,he,hky,aY,aA hund,aF,jX hw,bu,hck,hf]
    cases hj:bL kv ks with
    |none=>
     obtain⟨rfl,hz⟩:=hnone hj;cases ok<;>simp[hz]
    |some j=>
     obtain⟨rfl,en,hen,rfl⟩:=hsome j hj;cases ok<;>simp[hen]
   split at hr
   ·rename_i z ks vs;split at hr
    ·rename_i z' hz';split at hr
     ·rename_i hb;simp only[aw]at hb;obtain⟨r',es,e1,-,hks,hw,hl1,hl2,hall⟩:=hob;cases e1;obtain⟨res,hres,hr⟩:=hr;cases res with
      |none=>
       simp only at hr;split at hr
       ·rename_i zv hzv;obtain⟨ti',zz,hti,hzz,hav⟩:=rz E EK hzv;simp only[Runs,ai]at hr;obtain⟨rfl,rfl⟩:=hr;have hrun:=run (val:=zz) (found:=false) hz' hb.1 hb.2 hks hw hl1 (fun i en k a1 a2=>by
         have hi:i<vs.length:=by rw[hl2,←hl1];exact(ay.1 a1).1
         exact(hall i en k _ a1 a2 (ad hi)).2.1) (fun j hj=>by rw[hres]at hj;cases hj) (fun _=>⟨rfl,kA hti hzz w⟩)
        refine cm.value h.wrel hrun ?_;cases ok with
        |true=>exact mM (hav κ H) (bP rfl)
        |false=>exact hav κ H
       ·exact hr.elim
      |some j=>
       simp only at hr;obtain⟨mv,hmv,hr⟩:=hr;simp only at hr;split at hr
       ·rename_i vv hvv;simp only[Runs,ai]at hr;obtain⟨rfl,rfl⟩:=hr;have hjlt:=gM hres;have hen:es[j]?=some es[j]:=aE (by omega);obtain⟨k,hkj⟩:=sK hres;obtain⟨-,-,hm⟩:=hall j _ k mv hen hkj hmv
        have hrun:=run (val:=es[j].val) (found:=true) hz' hb.1 hb.2 hks hw hl1 (fun i en k a1 a2=>by
         have hi:i<vs.length:=by rw[hl2,←hl1];exact(ay.1 a1).1
         exact(hall i en k _ a1 a2 (ad hi)).2.1) (fun j' hj=>by rw[hres]at hj;cases hj;exact⟨rfl,_,hen,rfl⟩) (fun hj=>by rw[hres]at hj;cases hj)
        have hav:=(zF hm hvv).mono (Con.no_le κ) (Fz.le_refl H);refine cm.value h.wrel hrun ?_;cases ok with
        |true=>exact mM hav (bP rfl)
        |false=>exact hav
       ·exact hr.elim
     ·exact hr.elim
    ·exact hr.elim
   ·rename_i z e sz ks yss;split at hr
    ·rename_i e' sz' by' hz' hel
     rw[ar]at hz' hel;obtain⟨z',hz',hb⟩:=hz';obtain⟨eli,hTe,hel⟩:=hel;simp only[aw]at hb;split at hr
     ·rename_i hes;simp only[aw]at hes;have hee:=aP hes.1;have hss:=aP hes.2;subst hee;subst hss;obtain⟨r',es,bss,e1,hks,hw,hl1,hl2,hl3,hall,hft⟩:=hob;cases e1;have hkeys:∀(i:Nat) (en:MapEntry) (k:Value),es[i]?=some en→ks[i]?=some k→en.key=k:=fun i en k a1 a2=>by
       have hi:=(ay.1 a1).1;exact(hall i en k _ _ a1 a2 (ad (by omega)) (ad (by omega))).2.1
      obtain⟨res,hres,hr⟩:=hr;cases res with
      |none=>
       simp only at hr;split at hr
       ·rename_i zv hzv;obtain⟨ti',zz,hti,hzz,hav⟩:=rz E EK hzv;simp only[Runs,ai]at hr;obtain⟨rfl,rfl⟩:=hr;have hrun:=run (val:=zz) (found:=false) hz' hb.1 hb.2 hks hw hl1 hkeys (fun j hj=>by rw[hres]at hj;cases hj) (fun _=>⟨rfl,kA hti hzz w⟩)
        exact cm.value h.wrel hrun (hav κ H)
       ·exact hr.elim
      |some j=>
       simp only at hr;obtain⟨ys,hys,hr⟩:=hr;simp only at hr;split at hr
       ·rename_i t' hdst;split at hr
        ·rename_i htk;simp only[aw,dg]at htk;have hne:=eZ htk.2;have hr:=gK h.rel hr;simp only[Runs,ai]at hr;obtain⟨rfl,rfl⟩:=hr;have hjlt:=gM hres;have hen:es[j]?=some es[j]:=aE (by omega);obtain⟨k,hkj⟩:=sK hres
         have hjb:j<bss.length:=by omega
         have hbj:=ad hjb;obtain⟨-,-,hrow⟩:=hall j _ k ys _ hen hkj hys hbj;simp only[ej]at hrow;have hrun:=run (val:=es[j].val) (found:=true) hz' hb.1 hb.2 hks hw hl1 hkeys (fun j' hj=>by rw[hres]at hj;cases hj;exact⟨rfl,_,hen,rfl⟩) (fun hj=>by rw[hres]at hj;cases hj)
         have hnd:=h.obs.nodup d;rw[hft,bF]at hnd;obtain⟨h1,hfree⟩:=h.gone (d:=d) (g:=g) hg;rw[hft]at hfree;have hfa:=lL bss j hjb;have hfs:=iX bss j hjb [];rw[aX]at hfs;have hn3:=hnd.2;rw[hfa]at hn3;obtain⟨n1,n2,n3⟩:=vw hn3
         have h2:=h1.add t' es[j].val (c:=.row e sz ys) (bs:=bss[j]) n2 (fun k hk=>hfree k (aD _ (gc hbj hk))) hrow;have hfr2:∀k∈r::(bss.set j []).flatten,k∉bss[j]∧k∈r::bss.flatten:=by
          intro k hk;rcases aV.1 hk with rfl|hk
          ·exact⟨fun hq=>hnd.1 (gc hbj hq),aI ..⟩
          ·rw[hfs]at hk;exact⟨n3 k hk,aD _ (by
            rw[hfa];rcases aM.1 hk with hk|hk
            ·exact aL _ (aL _ hk)
            ·exact aQ _ hk)⟩
         have hnrd:(κ.addRow t' es[j].val).nr d=g+1:=by simp[Con.addRow,Ne.symm hne,hn]
         have hrowd:(κ.addRow t' es[j].val).row d g= .map (some r):=by
          rw[(κ.le_addRow t' es[j].val).row d g hg,hu];exact he
         have hrowt:(κ.addRow t' es[j].val).row t' (κ.nr t')=es[j].val:=by simp[Con.addRow]
         have h3:=h2.set (d:=d) (g:=g) (c:=.mrowL z e sz ks yss j t' (κ.nr t')) (bs:=r::(bss.set j []).flatten) hnrd (by rw[dy _ _ (Ne.symm hne),dy _ _ (Ne.symm hne),cQ])
          (by
           refine bF.2 ⟨fun hq=>hnd.1 ?_,by rw[hfs];exact n1⟩;rw[hfs]at hq;rw[hfa];rcases aM.1 hq with hq|hq
           ·exact aL _ (aL _ hq)
           ·exact aQ _ hq)
          (fun k hk=>(hfree k (hfr2 k hk).2).add h1 (hfr2 k hk).1)
          (by
           refine⟨⟨r,es,bss.set j [],hrowd,hks,hw,hl1,hl2,by simpa using hl3,fun i en k ys' bj a1 a2 a3 a4=>?_,rfl⟩,by simp[Con.addRow]⟩;rw[bf]at a4;simp only[ej];split at a4
           ·rename_i hij;rw[if_pos hij];subst hij;rw[hen]at a1;cases a1;obtain⟨m1,m2,-⟩:=hall j _ k ys _ hen a2 hys hbj;cases a4;exact⟨m1,m2,hrowt.symm,rfl⟩
           ·rename_i hij;rw[if_neg hij];have:=hall i en k ys' bj a1 a2 a3 a4;simpa [ej]using this)
         have h4:=h3.congr (s':=s.writes ([.perm t' ⟨κ.nr t',0,0,false⟩,obW t' (κ.nr t') (.row e sz ys)]++[obW d g (.mrowL z e sz ks yss j t' (κ.nr t'))])) (fun t=>(qI _ _ _ _ _ _ _).symm) (fun _=>rfl) (fun _=>rfl)
         obtain⟨A,cp,hcs,hAA⟩:∃A cp,es[j].val= .slice A ys.length cp∧(ys.length=0∨∃b,A=some ⟨b,0,none⟩):=by
          obtain⟨hys0,hA⟩:=hrow;rcases hA with⟨q,rfl,-⟩|⟨b',cap',cur',q,-⟩
          ·exact⟨none,0,q,.inl rfl⟩
          ·exact⟨_,_,q,.inr ⟨_,rfl⟩⟩
         intro K Q hn';unfold Oper.wp;rw[hrun,bN];refine hn' _ H w _ h4.wrel ?_;simp only[cJ,if_false];rw[hcs];exact .one _ _ (.newRref κ H t' _ hAA)
        ·exact hr.elim
       ·exact hr.elim
     ·exact hr.elim
    ·exact hr.elim
   ·exact hr.elim
  ·exact hr'.elim
 ·exact hr'.elim
end
section
variable{P:Program}{T:Tab}{J:Kn}{M:Md}{G:Nat→Option (List AC)}{X:Ctx}{κ:Con}{H:Fz}{s:St}{a:Act}{w:World}{ft:Nat→List Nat}
theorem agF:∀{Qa bs:List Value},kL Qa bs=true→Qa=bs
 | [],[],_=>rfl
 | [],_::_,h=>by cases h
 |_::_,[],h=>by cases h
 |a::Qa,b::bs,h=>by
  simp only[kL,aw]at h;have:a=b:=by
   have h1:=h.1;cases a<;>cases b<;>simp[k1]at h1<;>simp_all
  rw[this,agF h.2]
theorem ahG{a b:Value}(h:kEq a b=true):a=b:=by
 cases a<;>cases b<;>simp only[kEq]at h<;>first
  |(rw[Value.agg.injEq];exact ep (agF h))
  |(simp[k1]at h;done)
  |(simp[k1]at h;simp_all)
theorem sL{x:Value}:∀{ks:List Value} {j:Nat},bL x ks=some j→ks[j]?=some x
 | [],j,h=>by cases h
 |k::ks,j,h=>by
  unfold bL at h;split at h
  ·rename_i he;cases h;rw[ahG he];rfl
  ·rw[ar]at h;obtain⟨i,hi,rfl⟩:=h;simpa using sL hi
def jM(es:Array MapEntry)(kv xv:Value):Option Nat→Obj
 |some i=>.map (es.modify i fun e=>{ e with val:=xv}) es.size
 |none=>.map (es.push { key:=kv,val:=xv,born:=es.size}) (es.size+1)
def nI(ks:List Value)(kv:Value):Option Nat→List Value
 |some _=>ks
 |none=>ks++[kv]
def iS{α:Type}(vs:List α)(v:α):Option Nat→List α
 |some i=>vs.set i v
 |none=>vs++[v]
theorem zL(EK:EnvK P T){t kt el r:Nat}{z z' kv xv:Value}{es:Array MapEntry}{ks:List Value}(hund:P.underlying t=some (.map kt el))(hz':keyZ T kt=some z')(h1:shp z' z=true)(h2:shp z' kv=true)(hks:∀k∈ks,shp z k=true)(hw:w.heap[r]?=some (.map es es.size))(hl:es.size=ks.length)
 (hk:∀(i:Nat) (en:MapEntry) (k:Value),es[i]?=some en→ks[i]?=some k→en.key=k):
 (Instr.mapUpdate t (.map (some r)) kv xv).run P w= .ok () { w with heap:=w.heap.setIfInBounds r (jM es kv xv (bL kv ks))}:=by
 have hf:=sI (w:=w) EK hz' h1 h2 hks hl hk;have hck:=(EK.key kt z' hz' kv h2).1;have hsb:=(EK.key kt z' hz' kv h2).2.1;simp only[Instr.mapUpdate,aY,aA hund,aF,jX hw,hck,hf];cases hj:bL kv ks with
 |none=>simp only[fc];exact mh hw _
 |some j=>
  have hlt:=gM hj;have hen:es[j]?=some es[j]:=aE (by omega);have hkk:=hk j _ _ hen (sL hj);simp only[bW,hen,bG,hkk,Instr.keyThatStays,hsb,if_true,aY,bu,aF]
  have:(es.modify j fun e=>{ e with key:=kv,val:=xv})=es.modify j fun e=>{ e with val:=xv}:=by
   apply kg;intro i;rw[cB,cB];split
   ·rename_i hij;subst hij;rw[hen];simp[hkk]
   ·rfl
  rw[this,mh hw];rfl
theorem aas{z kv xv:Value}{ks:List Value}{vs:List MV}{mv:MV}{r:Nat}{es:Array MapEntry}{w':World}(hks:∀k∈ks,shp z k=true)(hkv:shp z kv=true)(hl1:es.size=ks.length)(hl2:vs.length=ks.length)
 (hall:∀(i:Nat) (en:MapEntry) (k:Value) (v:MV),es[i]?=some en→ks[i]?=some k→vs[i]?=some v→en.born=i∧en.key=k∧MVr H v en.val) (hx:MVr H mv xv) (H':Fz) (hH:Fz.le H H')
 (hw:w'.heap[r]?=some (jM es kv xv (bL kv ks))):
 MapO H' w' (.map (some r)) z (nI ks kv (bL kv ks)) (iS vs mv (bL kv ks)) [r]:=by
 cases hj:bL kv ks with
 |none=>
  rw[hj]at hw;simp only[jM,nI,iS]at hw ⊢;refine⟨r,es.push { key:=kv,val:=xv,born:=es.size},rfl,rfl,fun k hk=>?_,by rw[Array.size_push];exact hw,by simp[hl1],by simp[hl2],fun i en k v a1 a2 a3=>?_⟩
  ·rcases aM.1 hk with hk|hk
   ·exact hks k hk
   ·obtain rfl:=ax.1 hk;exact hkv
  ·rw[dT]at a1;rw[dN]at a2 a3;split at a1
   ·rename_i hi;rw[if_neg (by omega)]at a2 a3;cases a1;subst hi;rw[hl1,ch]at a2;rw[hl2,←hl1,ch]at a3;cases a2;cases a3;exact⟨rfl,rfl,hx.mono hH⟩
   ·rename_i hi;have:=(ay.1 a1).1;rw[if_pos (by omega)]at a2 a3;obtain⟨q1,q2,q3⟩:=hall i en k v a1 a2 a3;exact⟨q1,q2,q3.mono hH⟩
 |some j=>
  rw[hj]at hw;simp only[jM,nI,iS]at hw ⊢;have hjl:=gM hj;refine⟨r,es.modify j fun e=>{ e with val:=xv},rfl,rfl,hks,by rw[Array.size_modify];exact hw,by simp[hl1],by simp[hl2],fun i en k v a1 a2 a3=>?_⟩;rw[cB]at a1;rw[bf]at a3;split at a1
  ·rename_i hij;rw[if_pos hij]at a3;subst hij;rw[ar]at a1;obtain⟨en',he',rfl⟩:=a1;have hv:j<vs.length:=by omega
   rw[if_pos hv]at a3;cases a3;obtain⟨q1,q2,-⟩:=hall j en' k _ he' a2 (ad hv);exact⟨q1,q2,hx.mono hH⟩
  ·rename_i hij;rw[if_neg hij]at a3;obtain⟨q1,q2,q3⟩:=hall i en k v a1 a2 a3;exact⟨q1,q2,q3.mono hH⟩
theorem adj{z kv xv:Value}{e sz:Nat}{ks:List Value}{yss:List (List (List AC))}{ys:List (List AC)}{L:Option (Nat×Value)}{r:Nat}{es:Array MapEntry}{bss:List (List Nat)}{bx:List Nat}{w':World}(hks:∀k∈ks,shp z k=true)(hkv:shp z kv=true)(hl1:es.size=ks.length)(hl2:yss.length=ks.length)(hl3:bss.length=ks.length)
 (hall:∀(i:Nat) (en:MapEntry) (k:Value) (ys:List (List AC)) (bj:List Nat),es[i]?=some en→ks[i]?=some k→yss[i]?=some ys→bss[i]?=some bj→en.born=i∧en.key=k∧ej L i en.val bj (RowO H w' en.val e sz ys bj)) (hx:RowO H w' xv e sz ys bx)
 (hL:∀i v,L=some (i,v)→bL kv ks=some i)
 (hw:w'.heap[r]?=some (jM es kv xv (bL kv ks))):
 nP H w' (.map (some r)) z e sz (nI ks kv (bL kv ks)) (iS yss ys (bL kv ks)) none (r::(iS bss bx (bL kv ks)).flatten):=by
 cases hj:bL kv ks with
 |none=>
  rw[hj]at hw;simp only[jM,nI,iS]at hw ⊢;refine⟨r,es.push { key:=kv,val:=xv,born:=es.size},bss++[bx],rfl,fun k hk=>?_,by rw[Array.size_push];exact hw,by simp[hl1],by simp[hl2],by simp[hl3],fun i en k v bj a1 a2 a3 a4=>?_,rfl⟩
  ·rcases aM.1 hk with hk|hk
   ·exact hks k hk
   ·obtain rfl:=ax.1 hk;exact hkv
  ·rw[dT]at a1;rw[dN]at a2 a3 a4;split at a1
   ·rename_i hi;rw[if_neg (by omega)]at a2 a3 a4;cases a1;subst hi;rw[hl1,ch]at a2;rw[hl2,←hl1,ch]at a3;rw[hl3,←hl1,ch]at a4;cases a2;cases a3;cases a4;exact⟨rfl,rfl,hx⟩
   ·rename_i hi;have:=(ay.1 a1).1;rw[if_pos (by omega)]at a2 a3 a4;obtain⟨q1,q2,q3⟩:=hall i en k v bj a1 a2 a3 a4;cases L with
    |none=>exact⟨q1,q2,q3⟩
    |some p=>have:=hL p.1 p.2 rfl;rw[hj]at this;cases this
 |some j=>
  rw[hj]at hw;simp only[jM,nI,iS]at hw ⊢;have hjl:=gM hj;refine⟨r,es.modify j fun e=>{ e with val:=xv},bss.set j bx,rfl,hks,by rw[Array.size_modify];exact hw,by simp[hl1],by simp[hl2],by simp[hl3],fun i en k v bj a1 a2 a3 a4=>?_,rfl⟩;rw[cB]at a1
  rw[bf]at a3 a4;split at a1
  ·rename_i hij;rw[if_pos hij]at a3 a4;subst hij;rw[ar]at a1;obtain⟨en',he',rfl⟩:=a1;have hv:j<yss.length:=by omega
   have hv':j<bss.length:=by omega
   rw[if_pos hv]at a3;rw[if_pos hv']at a4;cases a3;cases a4;obtain⟨q1,q2,-⟩:=hall j en' k _ _ he' a2 (ad hv) (ad hv');exact⟨q1,q2,hx⟩
  ·rename_i hij;rw[if_neg hij]at a3 a4;obtain⟨q1,q2,q3⟩:=hall i en k v bj a1 a2 a3 a4;refine⟨q1,q2,?_⟩;cases L with
   |none=>exact q3
   |some p=>
    have hp:=hL p.1 p.2 rfl;rw[hj]at hp;simp only[am]at hp;simp only[ej]at q3 ⊢;rw[if_neg (by omega)]at q3;exact q3
end
section
variable{P:Program}{T:Tab}{J:Kn}{M:Md}{G:Nat→Option (List AC)}{X:Ctx}{κ:Con}{H:Fz}{s:St}{a:Act}{w:World}{ft:Nat→List Nat}
theorem oI(E:Env P T J)(EK:EnvK P T)(hG:bK G H)(h:WRel X κ H s a w){o:Oper}{t:Nat}{m k x:Operand}(ho:o.op= .mapUpdate t m k x∨o.op= .insert t m k x){v:AV}{ws:List Wr}
 (hr:Runs P G s ((opd G m).bind fun m=>(opd G k).bind fun k=>(opd G x).bind fun x=>match(T t).map TI.kind with
 |some (.map kt _)=>match keyZ T kt with
  |some z'=>updE z' m k x
  |none=>.none
 |_=>.none) (v,ws)):cm P X κ H s a o v ws w:=by
 obtain⟨p,q,h1,h2,hr1⟩:=opd2 hG h.rel hr;obtain⟨y,h3,hr'⟩:=opd1 hG h.rel hr1;clear hr hr1;split at hr'
 ·rename_i kt el hTk;rw[ar]at hTk;obtain⟨ti,hT,hk⟩:=hTk;have hund:=la E hT hk;split at hr'
  ·rename_i z' hz';have exec:∀{w'},(Instr.mapUpdate t (a.eval m) (a.eval k) (a.eval x)).run P w= .ok () w'→(execOp a.eval o).run P w= .ok .skip w':=fun{w'} hh=>by
    rcases ho with ho|ho<;>simp[execOp,ho,hh]
   unfold updE at hr';split at hr'
   ·rename_i d g kv hkv;have hky:=yZ h2 hkv;obtain⟨c,hc,hr⟩:=az hr';clear hr';obtain⟨ft,h⟩:=h.f;obtain⟨hob,hn,-⟩:=h.at_ hc;obtain⟨hg,hu,r,he⟩:=io h1;have hrd:κ.row d g= .map (some r):=hu.trans he;rw[hrd]at hob
    have rowCase:∀{z:Value} {e sz:Nat} {ks:List Value} {yss:List (List (List AC))} {L:Option (Nat×Value)} {d' g' n':Nat} {ys:List (List AC)} {es:Array MapEntry} {bss:List (List Nat)},shp z' z=true→shp z' kv=true→(∀k∈ks,shp z k=true)→
     w.heap[r]?=some (.map es es.size)→es.size=ks.length→yss.length=ks.length→bss.length=ks.length→
     (∀(i:Nat) (en:MapEntry) (k:Value) (ys:List (List AC)) (bj:List Nat),es[i]?=some en→ks[i]?=some k→yss[i]?=some ys→bss[i]?=some bj→en.born=i∧en.key=k∧ej L i en.val bj (RowO H w en.val e sz ys bj))→ft d=r::bss.flatten→
     (∀i v,L=some (i,v)→bL kv ks=some i)→y= .one (.rref d' g' n')→Runs P G s (obR d' g') (.row e sz ys)→(∀e3 sz3 xs,c≠ .row e3 sz3 xs)→
     cm P X κ H s a o .undef [obW d' g' .gone,obW d g (.mrow z e sz (nI ks kv (bL kv ks)) (iS yss ys (bL kv ks)))] w:=by
     intro z e sz ks yss L d' g' n' ys es bss hs1 hs2 hks hw hl1 hl2 hl3 hall hft hL hy hc' hcn;subst hy;obtain⟨hob',hn',hf'⟩:=h.at_ hc';obtain⟨hg',hu',A,cp,hyv,hA⟩:=eU h3;rw[hu']at hob';have hdd:d≠d':=by
      intro e;subst e;obtain⟨-,-,hf⟩:=h.at_ hc;rw[hf]at hf';simp only[am,AV.ob.injEq]at hf';exact hcn _ _ _ hf'.2.2
     have hkk:∀(i:Nat) (en:MapEntry) (k:Value),es[i]?=some en→ks[i]?=some k→en.key=k:=fun i en k a1 a2=>by
      have hi:=(ay.1 a1).1;exact(hall i en k _ _ a1 a2 (ad (by omega)) (ad (by omega))).2.1
     have hrun:=zL (w:=w) EK hund hz' hs1 hs2 hks hw hl1 hkk (xv:=a.eval x);generalize hob2:jM es kv (a.eval x) (bL kv ks)=o2 at hrun;obtain⟨hstep,hnew,hnone⟩:=oO h.rel.fz hw o2;obtain⟨g1,f1⟩:=h.gone (d:=d') (g:=g') hg';have hft1:setF ft d' [] d=ft d:=dy _ _ hdd
     obtain⟨g2,f2⟩:=g1.gone (d:=d) (g:=g) hg;rw[hft1]at f2;have hr0:r∈ft d:=by rw[hft];exact aI ..
     have g3:=g2.step hstep (.inl (f2 r hr0));have hnd:=h.obs.nodup d;rw[hft,bF]at hnd;have hd':∀k∈ft d',k∉ft d:=fun k hk=>h.obs.apart d' d (Ne.symm hdd) k hk
     have fd':∀k∈ft d',Free X κ H ((s.write (obW d' g' .gone)).write (obW d g .gone)) w (setF (setF ft d' []) d []) k:=fun k hk=>(f1 k hk).setF (by simp)
     have hrow':RowO H { w with heap:=w.heap.setIfInBounds r o2} (a.eval x) e sz ys (ft d'):=RowO.kept hob' (fun k hk=>⟨hstep.heap k (h.obs.blk d' k hk).1 fun e=>hd' k hk (e▸hr0),rfl⟩) (Fz.le_refl H)
     have hall':∀(i:Nat) (en:MapEntry) (k:Value) (ys:List (List AC)) (bj:List Nat),es[i]?=some en→ks[i]?=some k→yss[i]?=some ys→bss[i]?=some bj→en.born=i∧en.key=k∧ej L i en.val bj (RowO H { w with heap:=w.heap.setIfInBounds r o2} en.val e sz ys bj):=fun i en k ys bj a1 a2 a3 a4=>by
      obtain⟨q1,q2,q3⟩:=hall i en k ys bj a1 a2 a3 a4;exact⟨q1,q2,q3.imp fun ro=>ro.kept (fun k hk=>⟨hstep.heap k (h.obs.blk d k (by rw[hft];exact aD _ (gc a4 hk))).1 fun e=>hnd.1 (e▸gc a4 hk),rfl⟩) (Fz.le_refl H)⟩
     have hres:=adj hks (mT (rJ hs1) hs2) hl1 hl2 hl3 hall' hrow' hL (hnew.trans (congrArg some hob2.symm));have hblk:∀k,k∈(iS bss (ft d') (bL kv ks)).flatten→k∈ft d'∨k∈bss.flatten:=by
      intro k hk;cases hj:bL kv ks with
      |none=>rw[hj]at hk;simp only[iS,fA,aO,fJ,aX,aM]at hk;exact hk.symm
      |some j=>
       rw[hj]at hk;have hjl:j<bss.length:=by have:=gM hj;omega
       simp only[iS,iX bss j hjl]at hk;rw[lL bss j hjl];simp only[aM]at hk ⊢;rcases hk with(hk|hk)|hk
       ·exact .inr (.inl (.inl hk))
       ·exact .inl hk
       ·exact .inr (.inr hk)
     have hnodup:(iS bss (ft d') (bL kv ks)).flatten.Nodup:=by
      cases hj:bL kv ks with
      |none=>
       simp only[iS,fA,aO,fJ,aX];exact aU.2 ⟨hnd.2,h.obs.nodup d',fun x hx y hy e=>hd' y hy (by rw[hft,←e];exact aD _ hx)⟩
      |some j=>
       have hjl:j<bss.length:=by have:=gM hj;omega
       simp only[iS,iX bss j hjl];have hn3:=hnd.2;have hfa:=lL bss j hjl;rw[hfa]at hn3;obtain⟨n1,-,-⟩:=vw hn3;refine qZ n1 (h.obs.nodup d') fun k hk hk'=>hd' k hk' ?_;rw[hft,hfa];refine aD _ ?_;rcases aM.1 hk with hk|hk
       ·exact aL _ (aL _ hk)
       ·exact aQ _ hk
     have g4:=g3.set (d:=d) (g:=g) hn (cQ _ _ _) (bF.2 ⟨fun hq=>(hblk r hq).elim (fun hq=>hd' r hq hr0) hnd.1,hnodup⟩)
      (fun k hk=>by
       rcases aV.1 hk with rfl|hk
       ·exact(f2 k hr0).step hstep (.inr hnone)
       ·rcases hblk k hk with hk|hk
        ·exact(fd' k hk).step hstep (.inl fun e=>hd' k hk (e▸hr0))
        ·exact(f2 k (by rw[hft];exact aD _ hk)).step hstep (.inl fun e=>hnd.1 (e▸hk)))
      (c:=.mrow z e sz _ _) (by
       show nP H _ (κ.row d g) _ _ _ _ _ none _;rw[hrd];exact hres)
     have g5:=g4.congr (s':=s.writes [obW d' g' .gone,obW d g (.mrow z e sz (nI ks kv (bL kv ks)) (iS yss ys (bL kv ks)))]) (fun t=>(dF _ _ _ _ _).symm) (fun _=>rfl) (fun _=>rfl);intro K Q hn';unfold Oper.wp;rw[exec (by rw[he,hky];exact hrun),gy]
     exact hn' κ H _ undef g5.wrel (.undef _)
    split at hr
    ·rename_i z ks vs;split at hr
     ·rename_i mv hmv hb;simp only[aw]at hb;obtain⟨r',es,e1,hft,hks,hw,hl1,hl2,hall⟩:=hob;cases e1;obtain⟨res,hres,hr⟩:=hr;have fin:cm P X κ H s a o .undef [obW d g (.map z (nI ks kv (bL kv ks)) (iS vs mv (bL kv ks)))] w:=by
       have hkk:∀(i:Nat) (en:MapEntry) (k:Value),es[i]?=some en→ks[i]?=some k→en.key=k:=fun i en k a1 a2=>by
        have hi:=(ay.1 a1).1;exact(hall i en k _ a1 a2 (ad (by omega))).2.1
       have hrun:=zL (w:=w) EK hund hz' hb.1 hb.2 hks hw hl1 hkk (xv:=a.eval x);generalize hob2:jM es kv (a.eval x) (bL kv ks)=o2 at hrun;obtain⟨hstep,hnew,hnone⟩:=oO h.rel.fz hw o2;obtain⟨g2,f2⟩:=h.gone (d:=d) (g:=g) hg;have hr0:r∈ft d:=by rw[hft];exact aI ..
       have g3:=g2.step hstep (.inl (f2 r hr0));have hres:=aas hks (mT (rJ hb.1) hb.2) hl1 hl2 hall (yV h3 hmv) H (Fz.le_refl H) (hnew.trans (congrArg some hob2.symm));have g4:=g3.set (d:=d) (g:=g) hn (cQ _ _ _) (bs:=[r]) (by simp) (fun k hk=>by
        obtain rfl:=ax.1 hk;exact(f2 k hr0).step hstep (.inr hnone)) (c:=.map z _ _) (by
        show MapO H _ (κ.row d g) _ _ _ _;rw[hrd];exact hres)
       have g5:=g4.congr (s':=s.writes [obW d g (.map z (nI ks kv (bL kv ks)) (iS vs mv (bL kv ks)))]) (fun t=>(dF _ _ _ _ _).symm) (fun _=>rfl) (fun _=>rfl);intro K Q hn';unfold Oper.wp;rw[exec (by rw[he,hky];exact hrun),gy];exact hn' κ H _ undef g5.wrel (.undef _)
      rw[hres]at fin;cases res with
      |none=>
       simp only[Runs,ai]at hr;obtain⟨rfl,rfl⟩:=hr;exact fin
      |some j=>
       simp only[Runs,ai]at hr;obtain⟨rfl,rfl⟩:=hr;exact fin
     ·exact hr.elim
    ·rename_i z e sz ks yss;split at hr
     ·rename_i d' g' n';obtain⟨c',hc',hr⟩:=az hr;split at hr
      ·rename_i e' sz' ys;split at hr
       ·rename_i hb;simp only[aw]at hb;have e1:=aP hb.1.1.1;have e2:=aP hb.1.1.2;subst e1;subst e2;obtain⟨r',es,bss,e1,hks,hw,hl1,hl2,hl3,hall,hft⟩:=hob;cases e1;obtain⟨res,hres,hr⟩:=hr
        have fin:=rowCase (L:=none) hb.1.2 hb.2 hks hw hl1 hl2 hl3 hall hft (fun _ _ e=>by cases e) rfl hc' (fun _ _ _ e=>by cases e);rw[hres]at fin;cases res with
        |none=>
         simp only[Runs,ai]at hr;obtain⟨rfl,rfl⟩:=hr;exact fin
        |some j=>
         simp only[Runs,ai]at hr;obtain⟨rfl,rfl⟩:=hr;exact fin
       ·exact hr.elim
      ·exact hr.elim
     ·exact hr.elim
    ·rename_i z e sz ks yss i0 d0 g0;split at hr
     ·rename_i d' g' n';obtain⟨c',hc',hr⟩:=az hr;split at hr
      ·rename_i e' sz' ys;split at hr
       ·rename_i hb;simp only[aw]at hb;have e1:=aP hb.1.1.1;have e2:=aP hb.1.1.2;subst e1;subst e2;obtain⟨⟨r',es,bss,e1,hks,hw,hl1,hl2,hl3,hall,hft⟩,-⟩:=hob;cases e1;obtain⟨res,hres,hr⟩:=hr;cases res with
        |none=>exact hr.elim
        |some j=>
         obtain⟨hji,hr⟩:=hr;simp only[Runs,ai]at hr;obtain⟨rfl,rfl⟩:=hr;have fin:=rowCase (L:=some (i0,κ.row d0 g0)) hb.1.2 hb.2 hks hw hl1 hl2 hl3 hall hft (fun _ _ e=>by cases e;rw[hres,hji]) rfl hc' (fun _ _ _ e=>by cases e);rw[hres]at fin;exact fin
       ·exact hr.elim
      ·exact hr.elim
     ·exact hr.elim
    ·exact hr.elim
   ·exact hr'.elim
  ·exact hr'.elim
 ·exact hr'.elim
end
section
variable{P:Program}{T:Tab}{J:Kn}{M:Md}{G:Nat→Option (List AC)}{X:Ctx}{κ:Con}{H:Fz}{s:St}{a:Act}{w:World}{ft:Nat→List Nat}
theorem acd{r:Nat}{o:Obj}(h:w.heap[r]?=some o):({ w with heap:=w.heap.setIfInBounds r o}:World)=w:=by
 have:w.heap.setIfInBounds r o=w.heap:=by
  apply kg;intro i;rw[cb];split
  ·rename_i hi;subst hi;rw[h,if_pos (ay.1 h).1]
  ·rfl
 rw[this]
theorem xi(E:Env P T J)(EK:EnvK P T)(hG:bK G H)(h:WRel X κ H s a w){o:Oper}{t:Nat}{m k:Operand}(ho:o.op= .mapEntry t m k){v:AV}{ws:List Wr}(hr:Runs P G s (evW T J M G o) (v,ws)):cm P X κ H s a o v ws w:=by
 simp only[evW,ho]at hr;obtain⟨p,q,h1,h2,hr'⟩:=opd2 hG h.rel hr;clear hr;unfold adW at hr';split at hr'
 ·rename_i d g kv ti hkv hT;have hky:=yZ h2 hkv;split at hr'
  ·rename_i kt el hk;have hund:=la E hT hk;obtain⟨c,hc,hr⟩:=az hr';clear hr';obtain⟨ft,h⟩:=h.f;obtain⟨hob,hn,-⟩:=h.at_ hc;obtain⟨hg,hu,r,he⟩:=io h1;have hrd:κ.row d g= .map (some r):=hu.trans he;rw[hrd]at hob;split at hr
   ·rename_i z ks vs;split at hr
    ·rename_i hzz;rw[ar]at hzz;obtain⟨z',hz',hb⟩:=hzz;simp only[aw]at hb;obtain⟨r',es,e1,hft,hks,hw,hl1,hl2,hall⟩:=hob;cases e1;have hkk:∀(i:Nat) (en:MapEntry) (k:Value),es[i]?=some en→ks[i]?=some k→en.key=k:=fun i en k a1 a2=>by
      have hi:=(ay.1 a1).1;exact(hall i en k _ a1 a2 (ad (by omega))).2.1
     have hf:=sI (w:=w) EK hz' hb.1 hb.2 hks hl1 hkk;have hck:=(EK.key kt z' hz' kv hb.2).1;have hsb:=(EK.key kt z' hz' kv hb.2).2.1;obtain⟨res,hres,hr⟩:=hr;rw[hres]at hf;cases res with
     |none=>
      simp only at hr;split at hr
      ·rename_i mv zv hmv hzv;obtain⟨ti',zz,hti,hzz,hav⟩:=rz E EK hzv;rw[hzv,gF]at hmv;simp only[Runs,ai]at hr;obtain⟨rfl,rfl⟩:=hr;generalize hob2:jM es kv zz (bL kv ks)=o2;obtain⟨hstep,hnew,hnone⟩:=oO h.rel.fz hw o2;obtain⟨g2,f2⟩:=h.gone (d:=d) (g:=g) hg
       have hr0:r∈ft d:=by rw[hft];exact aI ..
       have g3:=g2.step hstep (.inl (f2 r hr0));have hres':=aas hks (mT (rJ hb.1) hb.2) hl1 hl2 hall (yV (hav κ H) hmv) H (Fz.le_refl H) (hnew.trans (congrArg some hob2.symm));rw[hres]at hres';have g4:=g3.set (d:=d) (g:=g) hn (cQ _ _ _) (bs:=[r]) (by simp) (fun k hk=>by
        obtain rfl:=ax.1 hk;exact(f2 k hr0).step hstep (.inr hnone)) (c:=.map z (ks++[kv]) (vs++[mv])) (by
        show MapO H _ (κ.row d g) _ _ _ _;rw[hrd];exact hres')
       have g5:=g4.congr (s':=s.writes [obW d g (.map z (ks++[kv]) (vs++[mv]))]) (fun t=>(dF _ _ _ _ _).symm) (fun _=>rfl) (fun _=>rfl);have hrun:(execOp a.eval o).run P w= .ok (.value (.tuple #[zz,goInt es.size])) { w with heap:=w.heap.setIfInBounds r o2}:=by
        rw[←hob2,hres];simp only[execOp,ho,Instr.mapEntry,he,hky,aY,aA hund,aF,jX hw,hck,hf,fc,kA hti hzz w,mh hw,bu,jM]
       intro K Q hn';unfold Oper.wp;rw[hrun,bN];refine hn' κ H _ _ g5.wrel (mM (hav κ H) ?_);rw[hl1];exact bP rfl
      ·exact hr.elim
     |some j=>
      simp only at hr;obtain⟨mv,hmv,hr⟩:=hr;simp only at hr;split at hr
      ·rename_i vv hvv;simp only[Runs,ai]at hr;obtain⟨rfl,rfl⟩:=hr;have hlt:=gM hres;have hen:es[j]?=some es[j]:=aE (by omega);obtain⟨q1,q2,q3⟩:=hall j _ _ mv hen (sL hres) hmv;have hmod:(es.modify j fun e=>{ e with key:=kv})=es:=by
        apply kg;intro i;rw[cB];split
        ·rename_i hij;subst hij;rw[hen,bW,←q2]
        ·rfl
       have hrun:(execOp a.eval o).run P w= .ok (.value (.tuple #[es[j].val,goInt j])) w:=by
        have hsm:=acd hw;simp only[execOp,ho,Instr.mapEntry,he,hky,aY,aA hund,aF,jX hw,hck,hf,bW,hen,bG,q2,Instr.keyThatStays,hsb,if_true,bu,hmod,mh hw,hsm,q1]
       exact cm.value h.wrel hrun (mM ((zF q3 hvv).mono (Con.no_le κ) (Fz.le_refl H)) (bP rfl))
      ·exact hr.elim
    ·exact hr.elim
   ·exact hr.elim
  ·exact hr'.elim
 ·exact hr'.elim
theorem abG{es:Array MapEntry}(hall:∀(i:Nat) (en:MapEntry),es[i]?=some en→en.born=i){n:Nat}(hn:n<es.size):es.findIdx? (fun e=>(e.born:Int)==(n:Int))=some n:=by
 rw[Array.findIdx?_eq_some_iff_getElem];refine⟨hn,?_,fun j hj=>?_⟩
 ·rw[hall n _ (aE hn)];simp
 ·rw[hall j _ (aE (by omega))];simp;omega
theorem tA(E:Env P T J)(hG:bK G H)(h:WRel X κ H s a w){o:Oper}{t:Nat}{m n x:Operand}(ho:o.op= .entryStore t m n x){v:AV}{ws:List Wr}(hr:Runs P G s (evW T J M G o) (v,ws)):cm P X κ H s a o v ws w:=by
 simp only[evW,ho]at hr;obtain⟨p,q,h1,h2,hr1⟩:=opd2 hG h.rel hr;obtain⟨y,h3,hr'⟩:=opd1 hG h.rel hr1;clear hr hr1;split at hr'
 ·unfold qK at hr';split at hr'
  ·rename_i d g nn mv hmv;obtain⟨c,hc,hr⟩:=az hr';clear hr';obtain⟨ft,h⟩:=h.f;obtain⟨hob,hn,-⟩:=h.at_ hc;obtain⟨hg,hu,r,he⟩:=io h1;have hrd:κ.row d g= .map (some r):=hu.trans he;rw[hrd]at hob;split at hr
   ·rename_i z ks vs;obtain⟨⟨hn0,hn1⟩,hr⟩:=hr;simp only[Runs,ai]at hr;obtain⟨rfl,rfl⟩:=hr;obtain⟨r',es,e1,hft,hks,hw,hl1,hl2,hall⟩:=hob;cases e1;have hborn:∀(i:Nat) (en:MapEntry),es[i]?=some en→en.born=i:=fun i en a1=>by
     have hi:=(ay.1 a1).1;exact(hall i en _ _ a1 (ad (by omega)) (ad (by omega))).1
    have hfi:=abG hborn (n:=nn.toNat) (by omega);rw[Int.toNat_of_nonneg hn0]at hfi;have hnv:=(cN h2).1;have hrun:(execOp a.eval o).run P w= .ok .skip { w with heap:=w.heap.setIfInBounds r (.map (es.modify nn.toNat fun e=>{ e with val:=a.eval x}) es.size)}:=by
     simp only[execOp,ho,Instr.entryStore,he,hnv,aY,aF,jX hw,asInt,asIntOf,bu,hfi,mh hw]
    obtain⟨hstep,hnew,hnone⟩:=oO h.rel.fz hw (.map (es.modify nn.toNat fun e=>{ e with val:=a.eval x}) es.size);obtain⟨g2,f2⟩:=h.gone (d:=d) (g:=g) hg;have hr0:r∈ft d:=by rw[hft];exact aI ..
    have g3:=g2.step hstep (.inl (f2 r hr0));have g4:=g3.set (d:=d) (g:=g) hn (cQ _ _ _) (bs:=[r]) (by simp) (fun k hk=>by
     obtain rfl:=ax.1 hk;exact(f2 k hr0).step hstep (.inr hnone)) (c:=.map z ks (vs.set nn.toNat mv)) (by
     show MapO H _ (κ.row d g) _ _ _ _;rw[hrd];refine⟨r,es.modify nn.toNat fun e=>{ e with val:=a.eval x},rfl,rfl,hks,by rw[Array.size_modify];exact hnew,by simp[hl1],by simp[hl2],fun i en k v a1 a2 a3=>?_⟩;rw[cB]at a1;rw[bf]at a3;split at a1
     ·rename_i hij;rw[if_pos hij]at a3;subst hij;rw[ar]at a1;obtain⟨en',he',rfl⟩:=a1;rw[if_pos hn1]at a3;cases a3;obtain⟨q1,q2,-⟩:=hall _ en' k _ he' a2 (ad hn1);exact⟨q1,q2,yV h3 hmv⟩
     ·rename_i hij;rw[if_neg hij]at a3;exact hall i en k v a1 a2 a3)
    have g5:=g4.congr (s':=s.writes [obW d g (.map z ks (vs.set nn.toNat mv))]) (fun t=>(dF _ _ _ _ _).symm) (fun _=>rfl) (fun _=>rfl);intro K Q hn';unfold Oper.wp;rw[hrun,gy];exact hn' κ H _ undef g5.wrel (.undef _)
   ·exact hr.elim
  ·exact hr'.elim
 ·exact hr'.elim
theorem acG(E:Env P T J)(hG:bK G H)(h:WRel X κ H s a w){o:Oper}{t:Nat}{x:Operand}(ho:o.op= .range t x){v:AV}{ws:List Wr}(hr:Runs P G s (evW T J M G o) (v,ws)):cm P X κ H s a o v ws w:=by
 simp only[evW,ho]at hr;obtain⟨p,h1,hr'⟩:=opd1 hG h.rel hr;clear hr;split at hr'
 ·rename_i d g t' kt el hd hTk;rw[ar]at hTk;obtain⟨ti,hT,hk⟩:=hTk;have hund:=la E hT hk;obtain⟨c,hc,hr⟩:=az hr';clear hr';obtain⟨ft,h⟩:=h.f;obtain⟨hob,hn,-⟩:=h.at_ hc;obtain⟨hg,hu,r,he⟩:=io h1;have hrd:κ.row d g= .map (some r):=hu.trans he;rw[hrd]at hob
  split at hr
  ·rename_i z ks vs;split at hr
   ·rename_i htd;have htd:=eZ htd;have hr:=gK h.rel hr;simp only[Runs,ai]at hr;obtain⟨rfl,rfl⟩:=hr;obtain⟨r',es,e1,hft,hks,hw,hl1,hl2,hall⟩:=hob;cases e1;have hs:=fq h.rel.fz (.mapIter (some r) es.size #[] es.size) w ⟨rfl,rfl,rfl,rfl⟩
    have hnew:=dA w (.mapIter (some r) es.size #[] es.size);have g1:=h.step hs (.inr (au _));have g2:=g1.add t' (.pointer (some ⟨w.heap.size,0,none⟩)) (c:=.iter d g ks.length []) (bs:=[w.heap.size]) (by simp) (fun k hk=>by
     obtain rfl:=ax.1 hk;exact h.fresh (au _) (ay.1 hnew).1 fun i=>h.rel.new i)
     ⟨by simp[Con.addRow,Ne.symm htd];exact hg,w.heap.size,r,rfl,rfl,by rw[←hl1];exact hnew,by rw[(κ.le_addRow t' _).row d g hg];exact hrd⟩
    have hrun:(execOp a.eval o).run P w= .ok (.value (.pointer (some ⟨w.heap.size,0,none⟩))) (w.alloc (.mapIter (some r) es.size #[] es.size)):=by
     simp[execOp,ho,Instr.range,he,aA hund,jX hw]
    intro K Q hn';unfold Oper.wp;rw[hrun,bN];exact hn' _ H _ _ g2.wrel (.one _ _ (.iref t' _ _ (by simp[Con.addRow]) (by simp[Con.addRow])))
   ·exact hr.elim
  ·exact hr.elim
 ·exact hr'.elim
theorem oS{d g:Nat}{u:Value}(h:AVr κ H (.one (.iref d g)) u):g<κ.nr d∧κ.row d g=u∧∃r,u= .pointer (some ⟨r,0,none⟩):=by
 cases h with|one _ _ h=>cases h with|iref _ _ r hg hu=>exact⟨hg,hu,r,rfl⟩
theorem ajn{k:Value}{v:AV}(h:avK k=some v):AVr κ H v k:=by
 unfold avK at h;split at h
 ·rename_i cs;split at h
  ·rename_i vs hvs;cases h;obtain⟨k1,k2⟩:=qc hvs;have:Cs κ H vs cs.toList:=⟨k1.symm,fun j c u h1 h2=>by
    have:=k2 j u c h2 h1;split at this
    ·cases this;exact .v _ rfl
    ·cases this;exact .v _ rfl
    ·cases this;exact .v _ rfl
    ·cases this⟩
   exact .agg _ cs.toList this
  ·cases h
 ·cases h;exact bP rfl
 ·cases h;exact bP rfl
 ·cases h
theorem acK(hG:bK G H)(h:WRel X κ H s a w){o:Oper}{x:Operand}(ho:o.op= .entry x){v:AV}{ws:List Wr}(hr:Runs P G s (evW T J M G o) (v,ws)):cm P X κ H s a o v ws w:=by
 simp only[evW,ho]at hr;obtain⟨p,h1,hr'⟩:=opd1 hG h.rel hr;clear hr;split at hr'
 ·rename_i d g;obtain⟨c,hc,hr⟩:=az hr';clear hr';obtain⟨ft,h⟩:=h.f;obtain⟨hob,hn,-⟩:=h.at_ hc;obtain⟨hg,hu,r,he⟩:=oS h1;split at hr
  ·rename_i md mg n i seen;obtain⟨c',hc',hr⟩:=az hr;obtain⟨hob',hn',-⟩:=h.at_ hc';obtain⟨-,r',m,e1,-,hit,hmr⟩:=hob;rw[hu,he]at e1;cases e1;split at hr
   ·rename_i z ks vs;obtain⟨hkn,hr⟩:=hr;obtain⟨k,hki,hr⟩:=hr;obtain⟨mv,hmv,hr⟩:=hr;simp only at hr;split at hr
    ·rename_i kv vv hk hv;simp only[Runs,ai]at hr;obtain⟨rfl,rfl⟩:=hr;obtain⟨r',es,e1,-,hks,hw,hl1,hl2,hall⟩:=hob';rw[hmr]at e1;cases e1;have hi:i<es.size:=by rw[hl1];exact(aq.1 hki).1
     have hen:es[i]?=some es[i]:=aE hi;obtain⟨q1,q2,q3⟩:=hall i _ k mv hen hki hmv;have hborn:∀(i:Nat) (en:MapEntry),es[i]?=some en→en.born=i:=fun i en a1=>by
      have hi:=(ay.1 a1).1;exact(hall i en _ _ a1 (ad (by omega)) (ad (by omega))).1
     have hnd:(es.toList.map (·.born)).Nodup:=by
      have:es.toList.map (·.born)=List.range es.size:=by
       apply ce;intro j;rw[aG,cA];by_cases hj:j<es.size
       ·rw[aE hj,bW,hborn j _ (aE hj),List.getElem?_range hj]
       ·rw[fZ (by omega),bI (by simp;omega)];rfl
      rw[this];exact List.nodup_range
     have hrev:(i::seen).reverse.toArray=seen.reverse.toArray.push es[i].born:=by
      rw[q1];simp
     rw[hrev]at hit;have hrun:=run_entry_at (P:=P) w r m n seen.reverse.toArray es es.size es[i] (by rw[hl1,hkn];exact hit) hw (by simp) hnd;rw[q2]at hrun;refine cm.value h.wrel (u:=.tuple #[k,es[i].val]) ?_ (mM (ajn hk) ((zF q3 hv).mono (Con.no_le κ) (Fz.le_refl H)))
     simp only[execOp,ho,he,aY,hrun,aF,bu]
    ·exact hr.elim
   ·exact hr.elim
  ·exact hr.elim
 ·exact hr'.elim
end
section
variable{P:Program}{T:Tab}{J:Kn}{M:Md}{G:Nat→Option (List AC)}{X:Ctx}{κ:Con}{H:Fz}{s:St}{a:Act}{w:World}{ft:Nat→List Nat}
theorem afq(hG:bK G H)(E:Env P T J)(h:WRel X κ H s a w){o:Oper}(hok:okOp X.N X.A o=true){t:Nat}{x:Operand}(ho:o.op= .box t x){v:AV}{ws:List Wr}(hr:Runs P G s (evW T J M G o) (v,ws)):cm P X κ H s a o v ws w:=by
 simp only[evW,ho]at hr;split at hr
 ·obtain⟨p,h1,hr'⟩:=opd1 hG h.rel hr;clear hr;split at hr'
  ·rename_i cs hcs;simp only[Runs,ai]at hr';obtain⟨rfl,rfl⟩:=hr';rw[fH]at hcs;obtain⟨cs0,hc0,hk⟩:=hcs;have hcc:=iO hk (lQ h1 hc0);obtain⟨ft,h⟩:=h.f;have hs0:=fq h.rel.fz (.cells (a.eval x).cells t) w ⟨rfl,rfl,rfl,rfl⟩
   have hnew:=dA w (.cells (a.eval x).cells t);have hle:Fz.le H (H.more w.heap.size 0 (a.eval x).cells.toList):=Fz.le_more fun i _ _=>h.rel.new i;have hs:Step H w w.heap.size (H.more w.heap.size 0 (a.eval x).cells.toList) (w.alloc (.cells (a.eval x).cells t)):={ hs0 with
    le:=hle
    fz:=fun b i u hu=>by
     by_cases hb:b=w.heap.size
     ·subst hb;simp only[Fz.more]at hu;split at hu
      ·rw[ii _ _ i _ t (0,0) hnew];simpa using hu
      ·rw[h.rel.new]at hu;cases hu
     ·rw[Fz.more_other H 0 _ hb]at hu;exact hs0.fz b i u hu
    kept:=fun b hb=>Fz.more_other H 0 _ hb}
   have g1:=h.step hs (.inr (au _));have hrun:(execOp a.eval o).run P w= .ok (.value (.pointer (some ⟨w.heap.size,0,none⟩))) (w.alloc (.cells (a.eval x).cells t)):=by
    simp[execOp,ho,Instr.box,newVar,newRow]
   intro K Q hn';unfold Oper.wp;rw[hrun,bN];refine hn' κ _ _ _ g1.wrel (.one _ _ ?_)
   have:=ACr.ref (κ:=κ) (H:=H.more w.heap.size 0 (a.eval x).cells.toList) cs 0 w.heap.size 0 (a.eval x).cells.toList hcc.1 (fun j u hj=>Fz.more_at H _ 0 _ j u hj) (fun j c u hc hu=>(hcc.2 j c u hc hu).mono (Con.le_refl _) hle);exact this
  ·exact hr'.elim
 ·exact dZ E hG h hok hr
theorem afo(E:Env P T J)(hG:bK G H)(h:WRel X κ H s a w){o:Oper}(hok:okOp X.N X.A o=true){c:Call}(ho:o.op= .call c){x:Operand}{t:Nat}(hcal:c.callee= .builtin .len)(hargs:c.args.toList=[x])(hty:c.argTypes.toList=[t]){v:AV}{ws:List Wr}
 (hr:Runs P G s ((opd G x).bind fun v=>lenW T J G o t v) (v,ws)):cm P X κ H s a o v ws w:=by
 obtain⟨p,h1,hr'⟩:=opd1 hG h.rel hr;clear hr;have ha:c.args= #[x]:=by apply ep;rw[hargs]
 have hta:c.argTypes= #[t]:=by apply ep;rw[hty]
 unfold lenW at hr';split at hr'
 ·rename_i d g n;split at hr'
  ·rename_i ti hT;obtain⟨-,dd,hdd,hund,-⟩:=E.tab t ti hT;split at hr'
   ·rename_i e sz by' hk
    rw[hk]at hund;obtain⟨rfl,-⟩:=hund;simp only[Runs,ai]at hr';obtain⟨rfl,rfl⟩:=hr';obtain⟨-,-,A,cap,he,-⟩:=eU h1;exact cm.value h (by simp[execOp,ho,resolve,hcal,ha,invoke,builtin,hta,he,Builtin.len_,aA hdd,goInt]) (bP rfl)
   ·exact hr'.elim
  ·exact hr'.elim
 ·rename_i d g;split at hr'
  ·rename_i ti hT;split at hr'
   ·rename_i kt el hk;have hund:=la E hT hk;obtain⟨c0,hc,hr⟩:=az hr';obtain⟨ft,h⟩:=h.f;obtain⟨hob,hn,-⟩:=h.at_ hc;obtain⟨hg,hu,r,he⟩:=io h1;rw[hu,he]at hob;split at hr
    ·rename_i z ks vs;simp only[Runs,ai]at hr;obtain⟨rfl,rfl⟩:=hr;obtain⟨r',es,e1,-,hks,hw,hl1,-⟩:=hob;cases e1;exact cm.value h.wrel (by simp[execOp,ho,resolve,hcal,ha,invoke,builtin,hta,he,Builtin.len_,aA hund,jX hw,goInt,hl1]) (bP rfl)
    ·exact hr.elim
   ·exact hr'.elim
  ·exact hr'.elim
 ·exact dZ E hG h hok hr'
theorem adu{u:Value}(h:AVr κ H (.one .anyB) u):∃b,u= .bool b:=by
 cases h with|one _ _ h=>cases h with|anyB b=>exact⟨b,rfl⟩
theorem abi(E:Env P T J)(hG:bK G H)(h:WRel X κ H s a w){o:Oper}(hok:okOp X.N X.A o=true){op:BinOp}{t t':Nat}{x y:Operand}(ho:o.op= .binOp op t x y t'){v:AV}{ws:List Wr}(hr:Runs P G s (evW T J M G o) (v,ws)):cm P X κ H s a o v ws w:=by
 simp only[evW,ho]at hr;obtain⟨p,q,h1,h2,hr'⟩:=opd2 hG h.rel hr;clear hr;have key:∀{x' y' u:Value},a.eval x=x'→a.eval y=y'→(eqGuard op t x y x' y').run P w= .ok () w→(binOp op t x' y').run P w= .ok u w→(execOp a.eval o).run P w= .ok (.value u) w:=
  fun{x' y' u} e1 e2 hgd hu=>by simp only[execOp,ho,e1,e2,aY,hgd,aF,hu,bu]
 split at hr'
 ·rename_i r hnl;unfold nlE at hnl;split at hnl
  ·rename_i e0 sz0 by0 hTk
   rw[ar]at hTk;obtain⟨ti,hT,hk⟩:=hTk;obtain⟨-,dd,hdd,hund,-⟩:=E.tab t ti hT;rw[hk]at hund;obtain⟨rfl,-⟩:=hund;have fin:∀{v:AV} {A:Option Addr} {n cap:Nat},a.eval x= .slice A n cap→AVr κ H v (.bool A.isNone)→cm P X κ H s a o v [] w:=fun{v A n cap} e hv=>by
    refine cm.value h (key e (cN h2).1 (by unfold eqGuard;simp) ?_) hv;have h1:∀d,(Op.equalIn (d+1) t (.slice A n cap) (.slice none 0 0)).run P w= .ok A.isNone w:=by
     intro d;unfold Op.equalIn;cases A<;>simp[aA hdd]
    simp only[binOp,Op.equal,aY];rw[show Op.maxDepth=9999+1 from rfl,h1];rfl
   split at hnl
   ·simp only[am]at hnl;subst hnl;simp only[Runs,ai]at hr';obtain⟨rfl,rfl⟩:=hr';generalize hx:a.eval x=u at h1;cases h1 with|one _ _ h1=>cases h1 with|sl=>exact fin hx (bP rfl)
   ·simp only[am]at hnl;subst hnl;simp only[Runs,ai]at hr';obtain⟨rfl,rfl⟩:=hr';generalize hx:a.eval x=u at h1;cases h1 with|one _ _ h1=>cases h1 with
     |nil=>exact fin hx (.one _ _ (.anyB _))
     |sl=>exact fin hx (.one _ _ (.anyB _))
   ·simp only[am]at hnl;subst hnl;simp only[Runs,ai]at hr';obtain⟨rfl,rfl⟩:=hr';exact fin (inv_nil h1) (bP rfl)
   ·simp only[am]at hnl;subst hnl;simp only[Runs,ai]at hr';obtain⟨rfl,rfl⟩:=hr';exact fin (cN h1).1 (bP rfl)
   ·cases hnl
  ·cases hnl
 split at hr'
 ·rename_i r hsh;unfold shE at hsh;split at hsh
  ·simp only[am]at hsh;subst hsh;obtain⟨hb,hr'⟩:=hr';simp only[Runs,ai]at hr';obtain⟨rfl,rfl⟩:=hr';have hb':¬_<(0:Int):=Int.not_lt.2 hb;refine cm.value h (key (cN h1).1 (cN h2).1 (by unfold eqGuard;simp) ?_) (bP rfl);simp[binOp,Op.shift,hb']
  ·simp only[am]at hsh;subst hsh;obtain⟨hb,hr'⟩:=hr';simp only[Runs,ai]at hr';obtain⟨rfl,rfl⟩:=hr';have hb':¬_<(0:Int):=Int.not_lt.2 hb;refine cm.value h (key (cN h1).1 (cN h2).1 (by unfold eqGuard;simp) ?_) (bP rfl);simp[binOp,Op.shift,hb']
  ·split at hsh
   ·rename_i hk;have hk:=mj hk;subst hk;simp only[am]at hsh;subst hsh;simp only[Runs,ai]at hr';obtain⟨rfl,rfl⟩:=hr';refine cm.value h (key (cN h1).1 (cN h2).1 (by unfold eqGuard;simp) ?_) (bP rfl);simp[binOp,Op.intBits]
   ·cases hsh
  ·split at hsh
   ·rename_i hk;have hk:=mj hk;subst hk;simp only[am]at hsh;subst hsh;simp only[Runs,ai]at hr';obtain⟨rfl,rfl⟩:=hr';refine cm.value h (key (cN h1).1 (cN h2).1 (by unfold eqGuard;simp) ?_) (bP rfl);simp[binOp,Op.intBits]
   ·cases hsh
  ·cases hsh
 ·exact dZ E hG h hok hr'
theorem ahs(hG:bK G H)(h:WRel X κ H s a w){o:Oper}{t:Nat}{x:Operand}(ho:o.op= .unOp .neg t x){v:AV}{ws:List Wr}(hr:Runs P G s (evW T J M G o) (v,ws)):cm P X κ H s a o v ws w:=by
 simp only[evW,ho]at hr;obtain⟨p,h1,hr'⟩:=opd1 hG h.rel hr;split at hr'
 ·simp only[Runs,ai]at hr';obtain⟨rfl,rfl⟩:=hr';refine cm.value h ?_ (bP rfl);simp[execOp,ho,(cN h1).1,Op.unary,Op.intArith]
 ·exact hr'.elim
end
end
end Go.Proofs.YtgkenhpfiempbaaGreatDoor.V
