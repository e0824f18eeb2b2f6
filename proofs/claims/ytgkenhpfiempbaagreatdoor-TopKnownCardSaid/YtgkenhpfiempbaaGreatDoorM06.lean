/-
  Part M06: B20, B21, B22, B23, B24. Conditions stand in the theorems.
-/
import Derived.Test.YtgkenhpfiempbaaGreatDoorM05
import Derived.Maps.RangeRun
set_option linter.all false
set_option maxRecDepth 1000000
set_option maxHeartbeats 8000000
namespace Go.Proofs.YtgkenhpfiempbaaGreatDoor.V
open Go Go.Proofs
noncomputable section
section
variable{P:Program}{T:Tab}{J:Kn}{M:Md}{G:Nat→Option (List AC)}{X:Ctx}{κ:Con}{H:Fz}{s:St}{a:Act}{w:World}{ft:Nat→List Nat}
theorem xY(E:Env P T J)(hG:bK G H)(hWR:WRel X κ H s a w){o:Oper}{d f dv gv lo n:Nat}{u0:Value}(hv:AVr κ H (.one (.vref dv gv lo n)) u0)
 (hrun:∀fn c,P.funcs[f]?=some fn→fn.body=some c→(fn.name== "runtime.NumGoroutine")=false→(execOp a.eval o).run P w= .ok (.enter f #[u0]) w) {v:AV} {ws:List Wr} (hr:Runs P G s (zC J d f dv gv lo) (v,ws)):cm P X κ H s a o v ws w:=by
 obtain⟨ft,h⟩:=hWR.f;unfold zC at hr;split at hr
 ·rename_i hck;simp only[aw]at hck;obtain⟨hfb,-⟩:=hck;obtain⟨fn,c,hfn,hbody,hname⟩:=E.fbs f hfb;obtain⟨ob,hob,hr1⟩:=az hr;obtain⟨hok,hn,-⟩:=h.at_ hob;cases hv with|one _ _ hv=>
  cases hv with|vref _ _ _ _ b n0 cap hg hu hln=>
  split at hr1
  ·rename_i e sz xs;split at hr1
   ·rename_i hsz;obtain rfl:=aP hsz;rw[hu]at hok;obtain⟨hs1,⟨q,-⟩|⟨b',cap',cur,q,hw,hcap,hmx,hcs,hnone,hcc,hft⟩⟩:=hok
    ·cases q
    ·simp only[bR,am,gf,and_true]at q;obtain⟨rfl,rfl,rfl⟩:=q;obtain⟨rs,cs,hct,hr3⟩:=hr1;have hxl:xs.flatten.length=xs.length:=by rw[dk hs1,eF]
     have hcl:(cur.toList.take xs.length).length=xs.length:=by
      have hcs':cur.size=cap:=by rw[hcs,eF]
      simp only[dx,bO,hcs'];exact jl hcap
     rw[eF]at hcc
     let H2:Fz:=fun k i=>if k=b then cur[i]? else H k i
     have hle:Fz.le H H2:=fun k i v hv=>by
      by_cases e:k=b
      ·subst e;rw[hnone]at hv;cases hv
      ·simp[H2,e,hv]
     have hfz2:FzOk H2 w:=fun k i v hv=>by
      by_cases e:k=b
      ·subst e;simp only[H2,if_true]at hv;unfold World.cell?;simp only[hw];simpa using hv
      ·simp only[H2,e,if_false]at hv;exact h.rel.fz k i v hv
     have hdl:(xs.drop lo).length=n:=by rw[cr];omega
     have harg:ky H2 w [.one (.sl e 1 (xs.drop lo) none)] [.slice (some ⟨b,lo,none⟩) n (cap-lo)] [[]]:=by
      refine⟨.pers _ _ ?_,trivial⟩;have hfd:(xs.drop lo).flatten=xs.flatten.drop lo:=by
       have:=lK hs1 lo;rw[eF]at this;exact this
      rw[←hdl];refine .sl e 1 (xs.drop lo) none b lo (cap-lo) ((cur.toList.take xs.length).drop lo) (by rw[hdl];omega) (fun x hx=>hs1 x (fo hx)) ?_ ?_ ?_ (ka.none _ _)
      ·rw[hfd,cr,cr,hcl,hxl]
      ·intro k u hk;rw[cI]at hk;have:cur.toList[lo+k]?=some u:=by
        rw[bM]at hk;split at hk
        ·exact hk
        ·cases hk
       simp only[H2,if_true];simpa using this
      ·intro k c u hc' hk;rw[hfd,cI]at hc';rw[cI]at hk;exact(hcc.2 _ _ _ hc' hk).mono (Con.le_refl _) hle
     intro K Q hn';unfold Oper.wp;rw[hrun fn c hfn hbody hname,Oper.upon_enter];refine hU (hct H2 w _ _ hfz2 (hG.mono hle) harg (by simp)) fun e' w' hpost=>?_;obtain⟨rv,H',rfl,hp⟩:=hpost;show K (a.put o.dst rv) w';simp only at hr3;split at hr3
     ·rename_i e1 sz1 ys;obtain⟨hsc,hr4⟩:=hr3;obtain⟨vsr,bo,br,p1,p2,rfl,p3,p4⟩:=hp.res;have hbo:bo=[]:=by
       cases bo with
       |nil=>rfl
       |cons x bo=>
        have p1:(eH (.one (.sl e 1 (xs.drop lo) none))=false∧fi H' w' [] [] [] (x::bo))∨(eH (.one (.sl e 1 (xs.drop lo) none))=true∧∃c cs' b bs',([]:List AC)=c::cs'∧x::bo=b::bs'∧TrR H' w' c _ b∧fi H' w' [] [] cs' bs'):=p1;rcases p1 with⟨-,q⟩|⟨q,-⟩
        ·exact q.elim
        ·cases q
      subst hbo;obtain⟨v1,b1,rfl,rfl,p6⟩:∃v1 b1,vsr=[v1]∧br=[b1]∧RowO H' w' v1 e1 sz1 ys b1:=by
       cases vsr with
       |nil=>cases br<;>exact p2.elim
       |cons v1 l=>
        cases br with
        |nil=>exact p2.elim
        |cons b1 l2=>
         obtain⟨p2,p5⟩:=p2;cases l with
         |nil=>
          cases l2 with
          |nil=>exact⟨v1,b1,rfl,rfl,p2⟩
          |cons=>exact p5.elim
         |cons=>cases l2<;>exact p5.elim
      simp only[fJ,dG,aO,aX]at p3 p4
      let H3:Fz:=fun k i=>if k=b then none else H' k i
      have hle3:Fz.le H H3:=fun k i v hv=>by
       by_cases e:k=b
       ·subst e;rw[hnone]at hv;cases hv
       ·simp only[H3,e,if_false];exact hp.le k i v (by simp[H2,e,hv])
      have hfz3:FzOk H3 w':=fun k i v hv=>by
       by_cases e:k=b
       ·subst e;simp[H3]at hv
       ·simp only[H3,e,if_false]at hv;exact hp.fz k i v hv
      have hkeep:∀k,k<w.heap.size→w'.heap[k]?=w.heap[k]? ∧H3 k=H k:=fun k hk=>by
       obtain⟨k1,k2⟩:=hp.keep k hk (by simp);refine⟨k1,?_⟩;funext i;by_cases e:k=b
       ·subst e;simp[H3,hnone]
       ·simp only[H3,e,if_false];rw[k2];simp[H2,e]
      have hge:∀k∈b1,w.heap.size≤k:=fun k hk=>by
       rcases p4 k hk with q|q
       ·cases q
       ·exact q
      have g1:WRf X κ H3 s a w' ft:=by
       have:=(h.after (B:=[]) (bs:=[]) (by simp) (by simp) (by simp) hle3 hfz3 (fun k hk _=>hkeep k hk) hp.grown hp.os hp.tape hp.output (by simp)).1;exact this
      have hlt:=RowO.lt p6;have hbw:b<w.heap.size:=oU hw;have hrow:RowO H3 w' v1 e1 sz1 ys b1:=by
       obtain⟨r0,r⟩:=p6;refine⟨r0,r.imp id ?_⟩;rintro⟨k,cp,cur1,q1,q2,q3,q4,q5,q6,q7,rfl⟩;have hkb:k≠b:=by
        have:=hge k (ax.2 rfl);omega
       refine⟨k,cp,cur1,q1,q2,q3,q4,q5,fun i=>by simp only[H3,hkb,if_false];exact q6 i,?_,rfl⟩;refine⟨q7.1,fun j c u hc hu=>?_⟩;have hm:=bi hc;obtain⟨y,hy,hcy⟩:=dM.1 hm;obtain⟨x,rfl⟩:=hsc y hy c hcy;have:=q7.2 j _ u hc hu;cases this with|v _ hx=>exact .v _ hx
      have hr5:=gK g1.rel hr4;simp only[Runs,ai]at hr5;obtain⟨rfl,rfl⟩:=hr5;have hfree:∀k∈b1,Free X κ H3 s w' ft k:=fun k hk=>h.rel |> fun hr=>⟨hlt k hk,fun i=>(by
       have:=RowO.fz hrow k hk;exact this i),fun hpp=>by have:=X.lt k hpp;have:=hr.grown;have:=hge k hk;omega,fun d b e hq=>by have:=hr.box_lt e;have:=hge k hk;omega,fun d p e hl hq=>by have:=((hr.perm d p e).2 hl).lt hq;have:=hge k hk;omega,fun x hx=>by have:=(h.obs.blk x k hx).1;have:=hge k hk;omega⟩
      have g2:=g1.add d v1 (c:=.row e1 sz1 ys) (bs:=b1) p3 hfree hrow;refine hn' _ H3 w' _ g2.wrel (.one _ _ ?_);obtain⟨-,⟨rfl,rfl,-⟩|⟨k,cp,cur1,rfl,-⟩⟩:=hrow
      ·exact .newRref κ H3 d 0 (.inl rfl)
      ·exact .newRref κ H3 d _ (.inr ⟨k,rfl⟩)
     ·exact hr3.elim
   ·exact hr1.elim
  ·exact hr1.elim
 ·exact hr.elim
theorem xX(E:Env P T J)(hG:bK G H)(hWR:WRel X κ H s a w)(hM:X.A≤M.A){o:Oper}{d f:Nat}{vs:List AV}{us:List Value}(hl:us.length=vs.length)(hv:∀(j:Nat) (v:AV) (u:Value),vs[j]?=some v→us[j]?=some u→AVr κ H v u)
 (hrun:∀fn c,P.funcs[f]?=some fn→fn.body=some c→(fn.name== "runtime.NumGoroutine")=false→(execOp a.eval o).run P w= .ok (.enter f us.toArray) w) {v:AV} {ws:List Wr} (hr:Runs P G s (wb J M d f vs) (v,ws)):cm P X κ H s a o v ws w:=by
 unfold wb at hr;split at hr
 ·rename_i dv gv lo n
  match us,hl with
  | [u0],_=>exact xY E hG hWR (hv 0 _ u0 rfl rfl) hrun hr
 ·exact zA E hG hWR hM hl hv hrun hr
theorem acL(E:Env P T J)(hG:bK G H)(h:WRel X κ H s a w)(hM:X.A≤M.A){o:Oper}{c:Call}{f:Operand}(ho:o.op= .call c)(hcal:c.callee= .value f){v:AV}{ws:List Wr}
 (hr:Runs P G s ((opds G c.args.toList).bind fun vs=>(opd G f).bind fun
  | .one (.clo g caps)=>wb J M (o.dst.getD 1023) g (vs++caps.map .one)
  |_=>.none) (v,ws)):cm P X κ H s a o v ws w:=by
 obtain⟨vs,hvs,hr1⟩:=az hr;clear hr;obtain⟨hl1,hl2⟩:=nW hG h.rel hvs;have hpt:∀(j:Nat) (v:AV) (u:Value),vs[j]?=some v→(c.args.toList.map a.eval)[j]?=some u→AVr κ H v u:=by
  intro j v u h1 h2;rw[aG,ar]at h2;obtain⟨x,hx,rfl⟩:=h2;exact hl2 j x v hx h1
 have hlen:(c.args.toList.map a.eval).length=vs.length:=by rw[cG,hl1]
 generalize hus:c.args.toList.map a.eval=us at hpt hlen;have hargs:c.args.map a.eval=us.toArray:=by rw[yh,hus]
 obtain⟨p,hp,hr2⟩:=opd1 hG h.rel hr1;split at hr2
 ·rename_i g caps;cases hp with|one _ _ hp=>
  generalize he:a.eval f=fv at hp;cases hp with
  |clo _ _ cus hcl hcr=>
   refine xX E hG h hM (us:=us++cus) (by simp[hlen,hcl]) (fun j v u hj hu=>?_) (fun fn cc hfn hbody hname=>?_) hr2
   ·rw[dN]at hj hu;rw[hlen]at hu;split at hj
    ·rename_i hlt;rw[if_pos hlt]at hu;exact hpt j v u hj hu
    ·rename_i hlt;rw[if_neg hlt]at hu;rw[aG,ar]at hj;obtain⟨cc,hcc,rfl⟩:=hj;exact .one _ _ (hcr _ cc u hcc hu)
   ·have hname':¬fn.name= "runtime.NumGoroutine" :=by simpa using hname
    simp[execOp,ho,resolve,hcal,hargs,he,Deferred.ofValue,invoke,callFunc,hfn,hbody,hname']
 ·exact hr2.elim
theorem acP(E:Env P T J)(EK:EnvK P T)(hG:bK G H)(h:WRel X κ H s a w)(hM:X.A≤M.A){o:Oper}(hok:okOp X.N X.A o=true){v:AV}{ws:List Wr}(hr:Runs P G s (evW T J M G o) (v,ws)):cm P X κ H s a o v ws w:=by
 have base:∀{v ws},Runs P G s (it T J G o) (v,ws)→cm P X κ H s a o v ws w:=fun hr=>dZ E hG h hok hr;cases ho:o.op
 case move x=>simp only[evW,ho]at hr;exact agx hG h (.inl ho) hr
 case assign x=>simp only[evW,ho]at hr;exact agx hG h (.inr ho) hr
 case box=>exact afq hG E h hok ho hr
 case alloc=>exact abj E hG h hok ho hr
 case makeSlice=>simp only[evW,ho]at hr;exact vr E hG h ho hr
 case buildSlice=>exact rW E hG h hok ho hr
 case makeMap t n=>
  cases n with
  |none=>exact yN h ho hr
  |some n=>simp only[evW,ho]at hr;exact base hr
 case lookup=>exact abh E EK hG h ho hr
 case mapUpdate=>simp only[evW,ho]at hr;exact oI E EK hG h (.inl ho) hr
 case insert=>simp only[evW,ho]at hr;exact oI E EK hG h (.inr ho) hr
 case mapEntry=>exact xi E EK hG h ho hr
 case entryStore=>exact tA E hG h ho hr
 case range=>exact acG E hG h ho hr
 case entry=>exact acK hG h ho hr
 case load=>exact acH E hG h hok ho hr
 case store=>exact abf E hG h hok ho hr
 case nilCheck=>simp only[evW,ho]at hr;exact vq E hG h hok ho hr
 case fieldAddr=>exact tw E hG h hok ho hr
 case indexAddr=>exact tv E hG h hok ho hr
 case slice=>exact abg E hG h hok ho hr
 case binOp=>exact abi E hG h hok ho hr
 case unOp op t x=>
  cases op with
  |neg=>exact ahs hG h ho hr
  |_=>simp only[evW,ho]at hr;exact base hr
 case call c=>
  cases hc:c.callee with
  |value f=>simp only[evW,ho,hc]at hr;exact acL E hG h hM ho hc hr
  |builtin b=>
   cases b with
   |len=>
    simp only[evW,ho,hc]at hr;split at hr
    ·rename_i x t h1 h2;exact afo E hG h hok ho hc h1 h2 hr
    ·exact hr.elim
   |append=>
    simp only[evW,ho,hc]at hr;split at hr
    ·rename_i x y t t' h1 h2;split at hr
     ·rename_i hb;obtain rfl:=aP hb;exact yQ E hG h hok ho hc h1 h2 hr
     ·exact hr.elim
    ·exact hr.elim
   |_=>simp only[evW,ho,hc]at hr;exact base hr
  |_=>simp only[evW,ho,hc]at hr;exact base hr
 all_goals(simp only[evW,ho]at hr;exact base hr)
theorem aap{ls:List Loc}:∀{ws:List Wr},aaq ls ws=true→∀l∈ls,l∉ws.map Wr.loc
 | [],_,_,_=>by simp
 |x::ws,h,l,hl=>by
  simp only[aaq,aw]at h;have h1:∀{ls:List Loc},allB (fun l=> !l.eq x.loc) ls=true→∀l∈ls,l≠x.loc:=by
   intro ls
   induction ls with
   |nil=>simp
   |cons y ls ih=>
    intro h l hl;simp only[allB,aw,dg]at h;rcases aV.1 hl with rfl|hl
    ·intro e;rw[Loc.eq_iff.2 e]at h;cases h.1
    ·exact ih h.2 l hl
  rw[bE,aV,not_or];exact⟨h1 h.1 l hl,aap h.2 l hl⟩
theorem rY{s s':St}{d g:Nat}{c:Ob}(h1:dC (.tmp (OB+d)) s' s)(h2:dC (.perm d) s' s)(hr:Runs P G s (obR d g) c):Runs P G s' (obR d g) c:=by
 unfold obR at hr ⊢;simp only[Runs]at hr ⊢;rw[show find d s'.perms=find d s.perms from h2];split at hr
 ·rename_i hp;split at hr
  ·rename_i hb;obtain⟨v,hv,hr⟩:=hr;refine⟨v,(show find (OB+d) s'.tmps=find (OB+d) s.tmps from h1).trans hv,?_⟩;cases v with
   |ob d' g' c'=>
    dsimp only at hr ⊢;cases hq:Nat.beq d' d&&Nat.beq g' g with
    |true=>rw[hq]at hr;exact hr
    |false=>rw[hq]at hr;exact hr.elim
   |undef=>exact hr.elim
   |one=>exact hr.elim
   |agg=>exact hr.elim
   |tup=>exact hr.elim
  ·exact hr.elim
 ·exact hr.elim
theorem aih(h:WRf X κ H s a w ft){d g t tg i:Nat}{z:Value}{e sz:Nat}{ks:List Value}{yss:List (List (List AC))}{ys:List (List AC)}(h1:find (OB+d) s.tmps=some (.ob d g (.mrowL z e sz ks yss i t tg)))(h2:κ.nr d=g+1)(h3:find (OB+t) s.tmps=some (.ob t tg (.row e sz ys)))(h4:κ.nr t=tg+1)(h5:yss[i]?=some ys):
 WRel X κ H (s.writes [obW t tg .gone,obW d g (.mrow z e sz ks yss)]) a w:=by
 have hne:t≠d:=fun e=>by subst e;rw[h1]at h3;cases h3
 obtain⟨⟨r,es,bss,hu,q1,q2,q3,q4,q5,q6,q7⟩,q8⟩:=h.obs.ok d g _ h1 h2;have hrow:RowO H w (κ.row t tg) e sz ys (ft t):=h.obs.ok t tg _ h3 h4;obtain⟨k1,k2⟩:=h.gone (d:=t) (g:=tg) (by omega);obtain⟨k3,k4⟩:=k1.gone (d:=d) (g:=g) (by omega);rw[dy _ _ (Ne.symm hne)]at k4
 have hil:i<yss.length:=(aq.1 h5).1;have hib:i<bss.length:=by omega
 have hbi:bss[i]=[]:=by
  have:=q6 i _ _ ys bss[i] (aE (xs:=es) (i:=i) (by omega)) (ad (l:=ks) (i:=i) (by omega)) h5 (ad hib);have hL:=this.2.2;simp only[ej,if_pos]at hL;exact hL.2
 have hfl:=lL bss i hib;rw[hbi,aX]at hfl;have hnd:=h.obs.nodup d;rw[q7,bF,hfl]at hnd;have hfs:=iX bss i hib (ft t)
 have hdis:∀k∈(bss.take i).flatten++(bss.drop (i+1)).flatten,k∉ft t:=fun k hk hkt=>h.obs.apart d t (Ne.symm hne) k (by rw[q7,hfl];exact aD _ hk) hkt;have hrt:r∉ft t:=fun hkt=>h.obs.apart d t (Ne.symm hne) r (by rw[q7];exact aI ..) hkt
 have hmem:∀k,k∈(bss.set i (ft t)).flatten→k∈ft t∨k∈(bss.take i).flatten++(bss.drop (i+1)).flatten:=by
  intro k hk;rw[hfs]at hk;rcases aM.1 hk with hk|hk
  ·rcases aM.1 hk with hk|hk
   ·exact .inr (aL _ hk)
   ·exact .inl hk
  ·exact .inr (aQ _ hk)
 have hfree2:∀k∈ft t,Free X κ H ((s.write (obW t tg .gone)).write (obW d g .gone)) w (setF (setF ft t []) d []) k:=by
  intro k hk;have:=(k2 k hk).setF (d:=d) (g:=g) (c:=.gone) (bs:=[]) (by simp);exact this
 have k5:=k3.set0 (d:=d) (g:=g) (c:=.mrow z e sz ks yss) (bs:=r::(bss.set i (ft t)).flatten) h2 (by
  rw[bF];refine⟨fun hk=>?_,by rw[hfs];exact qZ hnd.2 (h.obs.nodup t) hdis⟩;rcases hmem r hk with hk|hk
  ·exact hrt hk
  ·exact hnd.1 hk) (fun k hk=>by
  rcases aV.1 hk with rfl|hk
  ·exact k4 k (by rw[q7];exact aI ..)
  ·rcases hmem k hk with hk|hk
   ·exact hfree2 k hk
   ·exact k4 k (by rw[q7,hfl];exact aD _ hk))
  ⟨r,es,bss.set i (ft t),hu,q1,q2,q3,q4,by simp[q5],fun j en k ys' bj a1 a2 a3 a4=>by
   rw[bf]at a4;by_cases hij:i=j
   ·subst hij;rw[if_pos rfl,if_pos hib]at a4;cases a4;rw[h5]at a3;cases a3;obtain⟨z1,z2,z3⟩:=q6 i en k ys bss[i] a1 a2 h5 (ad hib);simp only[ej,if_pos]at z3;exact⟨z1,z2,by show RowO _ _ _ _ _ _ _;rw[z3.1];exact hrow⟩
   ·rw[if_neg hij]at a4;obtain⟨z1,z2,z3⟩:=q6 j en k ys' bj a1 a2 a3 a4;simp only[ej,if_neg hij]at z3;exact⟨z1,z2,z3⟩,rfl⟩
 refine(k5.congr (s':=s.writes [obW t tg .gone,obW d g (.mrow z e sz ks yss)]) (fun x=>?_) (fun _=>rfl) (fun _=>rfl)).wrel;exact(dF x (OB+d) _ _ _).symm
theorem agc(h:WRf X κ H s a w ft){d g t tg i:Nat}{e2 sz2 e:Nat}{yss:List (List (List AC))}{ys:List (List AC)}(h1:find (OB+d) s.tmps=some (.ob d g (.rowsL e2 sz2 e yss i t tg)))(h2:κ.nr d=g+1)(h3:find (OB+t) s.tmps=some (.ob t tg (.row e2 sz2 ys)))(h4:κ.nr t=tg+1)(h5:i<yss.length):
 WRel X κ H (s.writes [obW t tg .gone,obW d g (.rows e2 sz2 e (yss.set i ys))]) a w:=by
 have hne:t≠d:=fun e=>by subst e;rw[h1]at h3;cases h3
 obtain⟨hrows,q8⟩:=h.obs.ok d g _ h1 h2;have hrow:RowO H w (κ.row t tg) e2 sz2 ys (ft t):=h.obs.ok t tg _ h3 h4;obtain⟨k1,k2⟩:=h.gone (d:=t) (g:=tg) (by omega);obtain⟨k3,k4⟩:=k1.gone (d:=d) (g:=g) (by omega);rw[dy _ _ (Ne.symm hne)]at k4
 rcases hrows with⟨-,qq,-⟩|⟨b,cap,cur,bss,hu,q2,q3,q4,q5,q6,q7,q9,hft⟩
 ·subst qq;simp at h5
 have hib:i<bss.length:=by omega
 have hic:i<cur.size:=by omega
 have hL:=q9 i cur[i] yss[i] bss[i] (aE hic) (ad h5) (ad hib);simp only[ej,if_pos]at hL;obtain⟨hcv,hbi⟩:=hL;have hfl:=lL bss i hib;rw[hbi,aX]at hfl;have hnd:=h.obs.nodup d;rw[hft,bF,hfl]at hnd
 have hfs:=iX bss i hib (ft t);have hdis:∀k∈(bss.take i).flatten++(bss.drop (i+1)).flatten,k∉ft t:=fun k hk hkt=>h.obs.apart d t (Ne.symm hne) k (by rw[hft,hfl];exact aD _ hk) hkt
 have hrt:b∉ft t:=fun hkt=>h.obs.apart d t (Ne.symm hne) b (by rw[hft];exact aI ..) hkt;have hmem:∀k,k∈(bss.set i (ft t)).flatten→k∈ft t∨k∈(bss.take i).flatten++(bss.drop (i+1)).flatten:=by
  intro k hk;rw[hfs]at hk;rcases aM.1 hk with hk|hk
  ·rcases aM.1 hk with hk|hk
   ·exact .inr (aL _ hk)
   ·exact .inl hk
  ·exact .inr (aQ _ hk)
 have hfree2:∀k∈ft t,Free X κ H ((s.write (obW t tg .gone)).write (obW d g .gone)) w (setF (setF ft t []) d []) k:=by
  intro k hk;exact(k2 k hk).setF (d:=d) (g:=g) (c:=.gone) (bs:=[]) (by simp)
 have k5:=k3.set0 (d:=d) (g:=g) (c:=.rows e2 sz2 e (yss.set i ys)) (bs:=b::(bss.set i (ft t)).flatten) h2 (by
  rw[bF];refine⟨fun hk=>?_,by rw[hfs];exact qZ hnd.2 (h.obs.nodup t) hdis⟩;rcases hmem b hk with hk|hk
  ·exact hrt hk
  ·exact hnd.1 hk) (fun k hk=>by
  rcases aV.1 hk with rfl|hk
  ·exact k4 k (by rw[hft];exact aI ..)
  ·rcases hmem k hk with hk|hk
   ·exact hfree2 k hk
   ·exact k4 k (by rw[hft,hfl];exact aD _ hk))
  (.inr ⟨b,cap,cur,bss.set i (ft t),by rw[hu];simp,q2,by simpa using q3,q4,q5,q6,by simpa using q7,fun j v ys' bj a1 a2 a3=>by
   simp only[ej];rw[bf]at a2 a3;by_cases hij:i=j
   ·subst hij;rw[if_pos rfl,if_pos h5]at a2;rw[if_pos rfl,if_pos hib]at a3;cases a2;cases a3;rw[aE hic]at a1;cases a1;rw[hcv];exact hrow
   ·rw[if_neg hij]at a2 a3;have:=q9 j v ys' bj a1 a2 a3;simp only[ej,if_neg hij]at this;exact this,rfl⟩)
 refine(k5.congr (s':=s.writes [obW t tg .gone,obW d g (.rows e2 sz2 e (yss.set i ys))]) (fun x=>?_) (fun _=>rfl) (fun _=>rfl)).wrel;exact(dF x (OB+d) _ _ _).symm
def ib(N A:Nat)(np:List Nat)(o:Oper):Bool:=okOp N A o&&(match o.dst with
 |some d=> !memN d np
 |none=>true)
theorem rX{N A:Nat}{np:List Nat}{o:Oper}(h:ib N A np o=true):∀d,o.dst=some d→d∉np:=by
 intro d hd;simp only[ib,hd,aw,dg]at h;intro hm;rw[kY.2 hm]at h;cases h.2
theorem oK{N A:Nat}{np:List Nat}{o:Oper}(h:ib N A np o=true):okOp N A o=true:=by
 simp only[ib,aw]at h;exact h.1
theorem nd{d:Nat}{v:AV}{u:Value}(h:WRel X κ H s a w)(hd:d<X.N)(hnp:d∉X.np)(hv:AVr κ H v u):WRel X κ H (s.write (.tmp d v)) (a.put (some d) u) w:=by
 obtain⟨ft,h⟩:=h.f;refine⟨h.rel.put hd hv,⟨ft,?_⟩,h.n.1,fun i hi=>?_⟩
 rotate_left
 ·have:=h.n.2 i hi;have hne:d≠i:=fun e=>hnp (e▸hi);simp only[Act.put,aB,cb,if_neg hne]at this ⊢;exact this
 refine h.obs.upd h.rel [] (Con.le_refl κ) (Fz.le_refl H) (fun _ _ _ _=>⟨rfl,rfl⟩) (au _) (fun x _=>?_) (fun d b e=>.inl ⟨b,e,rfl⟩) (fun d p e hl=>.inl ⟨p,e,hl,rfl⟩) (fun _ _=>rfl) (fun x hx=>by cases hx) (fun x hx=>by cases hx) (fun x hx=>by cases hx) (fun x hx=>by cases hx);have:=h.n.1
 exact bV (by unfold OB;omega) _ _
theorem xJ(E:Env P T J)(EK:EnvK P T)(hG:bK G H)(h:WRel X κ H s a w)(hM:X.A≤M.A){o:Oper}(hok:ib X.N X.A X.np o=true){ws:List Wr}(hr:Runs P G s (sM T J M G o) ws){K:Act→World→Prop}{Q:Exit→Act→World→Prop}
 (hK:∀κ' H' a' w',WRel X κ' H' (s.writes ws) a' w'→K a' w'):o.wp P a w K Q:=by
 obtain⟨⟨v,ws'⟩,h1,h2⟩:=az hr;refine acP E EK hG h hM (oK hok) h1 K Q fun κ' H' w' u hrel hv=>?_;simp only at h2;cases hdst:o.dst with
 |none=>
  rw[hdst]at h2;simp only[Runs]at h2;subst h2;exact hK κ' H' _ w' hrel
 |some d=>
  rw[hdst]at h2;have hd:=oJ (oK hok) d hdst;have hnp:=rX hok d hdst;simp only at h2;split at h2
  ·rename_i x d0 dm hf;split at h2
   ·rename_i hno;have hno:=aap hno;simp only[Runs]at h2;split at h2
    ·rename_i g e sz l hp;obtain⟨ws2,h3,h4⟩:=az h2;simp only[Runs]at h4;subst h4;rw[bQ]at hK;unfold agM at h3;obtain⟨c,hc,h5⟩:=az h3;clear h3 h2;have hc':=rY (cS (hno _ (by simp)) s) (cS (hno _ (by simp)) s) hc;obtain⟨ft',hf'⟩:=hrel.f
     obtain⟨-,n1,f1⟩:=hf'.at_ hc';split at h5
     ·rename_i z e sz ks yss i t tg;split at h5
      ·rename_i ht;have ht:=aP ht;obtain⟨c2,hc2,h6⟩:=az h5;clear h5;rw[←ht]at hno;have hc2':=rY (cS (hno _ (by simp)) s) (cS (hno _ (by simp)) s) hc2;obtain⟨-,n2,f2⟩:=hf'.at_ hc2';split at h6
       ·rename_i e' sz' ys;split at h6
        ·rename_i hb;simp only[aw]at hb;have hb1:=aP hb.1;have hb2:=aP hb.2;subst hb1;subst hb2;obtain⟨hy,h7⟩:=h6;have h7:_=ws2:=h7;subst h7;have:=aih hf' f1 n1 f2 n2 hy;refine hK κ' H' _ w' ?_;rw[bQ];exact nd this hd hnp hv
        ·exact h6.elim
       ·exact h6.elim
      ·exact h5.elim
     ·rename_i e2 sz2 e yss i t tg;split at h5
      ·rename_i ht;have ht:=aP ht;obtain⟨c2,hc2,h6⟩:=az h5;clear h5;rw[←ht]at hno;have hc2':=rY (cS (hno _ (by simp)) s) (cS (hno _ (by simp)) s) hc2;obtain⟨-,n2,f2⟩:=hf'.at_ hc2';split at h6
       ·rename_i e' sz' ys;split at h6
        ·rename_i hb;simp only[aw]at hb;have hb1:=aP hb.1;have hb2:=aP hb.2;subst hb1;subst hb2;obtain⟨hy,h7⟩:=h6;have h7:_=ws2:=h7;subst h7;have:=agc hf' f1 n1 f2 n2 hy;refine hK κ' H' _ w' ?_;rw[bQ];exact nd this hd hnp hv
        ·exact h6.elim
       ·exact h6.elim
      ·exact h5.elim
     ·exact h5.elim
    ·exact h2.elim
   ·exact h2.elim
  ·simp only[Runs]at h2;subst h2;refine hK κ' H' _ w' ?_;rw[bQ];exact nd hrel hd hnp hv
end
section
variable(P:Program)(T:Tab)(J:Kn)(M:Md)(G:Nat→Option (List AC))
def evWS(ops:Array Oper):List Oper→St→(St→Prop)→Prop
 | [],s,K=>K s
 |o::os,⟨ts,bs,ps⟩,K=>runP P G ⟨ts,bs,ps⟩ (evWO T J M G ops o) [] fun ws _=>writesK (fun s=>evWS ops os s K) ws ts bs ps
def evWD(ops:Array Oper):List Oper→St→List (List Loc×List Loc)→(St→Prop)→Prop
 | [],s,acc,K=>ja ops acc=true∧K s
 |o::os,⟨ts,bs,ps⟩,acc,K=>runP P G ⟨ts,bs,ps⟩ (evWO T J M G ops o) [] fun ws ls=>writesK (fun s=>evWD ops os s (acc++[(ls,ws.map Wr.loc)]) K) ws ts bs ps
def WkW(s s0:St):Prop:=∀X κ H a w,WRel X κ H s a w→∃κ' H',WRel X κ' H' s0 a w
def isLk(o:Oper):Bool:=match o.op with
 | .lookup .. =>true
 |_=>false
def isMe(o:Oper):Bool:=match o.op with
 | .mapEntry .. =>true
 |_=>false
def ixOf(p:Oper→Bool):List Oper→Nat
 | []=>0
 |o::os=>match p o with
  |true=>0
  |false=>ixOf p os+1
def zI(ops:Array Oper)(jx kx:Nat)(l2:List Loc)(rw:List (List Loc×List Loc)):Bool:=
 match mf ops.toList [] with
 |some wt=>((apart wt (rw.set jx (((rw.getD jx ([],[])).1++l2).filter (fun l=> !tX [l] (rw.getD kx ([],[])).2),(rw.getD jx ([],[])).2))&&Nat.blt jx kx)&&Nat.blt kx rw.length)&&
  (List.range rw.length).all fun i=>((Nat.beq i kx|| Nat.beq i jx)|| (match Nat.blt i jx with
   |true=>(wt.getD jx []).contains i
   |false=>(wt.getD i []).contains jx))|| !tX (rw.getD kx ([],[])).2 (rw.getD i ([],[])).2
 |none=>false
def evWX(jx kx:Nat)(ops:Array Oper):List Oper→Nat→St→List (List Loc×List Loc)→Option (St×Oper×List Wr)→List Loc→(St→Prop)→Prop
 | [],_,s,acc,_,l2,K=>zI ops jx kx l2 acc=true∧K s
 |o::os,n,⟨ts,bs,ps⟩,acc,sv,l2,K=>runP P G ⟨ts,bs,ps⟩ (evWO T J M G ops o) [] fun ws ls=>match Nat.beq n kx with
  |true=>match sv with
   |some (⟨tj,bj,pj⟩,oj,wj)=>writesK (fun s2=>runP P G s2 (evWO T J M G ops oj) [] fun wj2 lj2=>wj2=wj∧writesK (fun s=>evWX jx kx ops os (n+1) s (acc++[(ls,ws.map Wr.loc)]) none lj2 K) ws ts bs ps) ws tj bj pj
   |none=>False
  |false=>writesK (fun s=>evWX jx kx ops os (n+1) s (acc++[(ls,ws.map Wr.loc)]) (match Nat.beq n jx with
   |true=>some (⟨ts,bs,ps⟩,o,ws)
   |false=>sv) l2 K) ws ts bs ps
def allP{α:Type}(p:α→Prop):List α→Prop
 | []=>True
 | [x]=>p x
 |x::y::l=>p x∧allP p (y::l)
def getB:List Bool→Nat→Bool
 | [],_=>false
 |b::_,0=>b
 |_::l,n+1=>getB l n
def setB:List Bool→Nat→List Bool
 | [],_=>[]
 |_::l,0=>true::l
 |b::l,n+1=>b::setB l n
def jh(l:List Bool):List Edge→Bool
 | []=>true
 |e::es=>match Region.binds .any e with
  |true=>match getB l e.on with
   |true=>jh l es
   |false=>false
  |false=>jh l es
def rdyG(l:List Bool):Nat→List Oper→List Bool→List Nat
 |i,o::os,b::bs=>match b with
  |true=>rdyG l (i+1) os bs
  |false=>match jh l o.after.toList with
   |true=>i::rdyG l (i+1) os bs
   |false=>rdyG l (i+1) os bs
 |_,_,_=>[]
def evWA(ops:Array Oper):Nat→List Bool→St→(St→Prop)→Prop
 |0,l,s,K=>rdyG l 0 ops.toList l=[]∧K s
 |n+1,l,⟨ts,bs,ps⟩,K=>match rdyG l 0 ops.toList l with
  | []=>K ⟨ts,bs,ps⟩
  |i::is=>allP (fun i=>match ops[i]? with
   |some o=>runP P G ⟨ts,bs,ps⟩ (evWO T J M G ops o) [] fun ws _=>writesK (fun s=>evWA ops n (setB l i) s K) ws ts bs ps
   |none=>False) (i::is)
def pZ(o:Oper):Option (Operand×Nat):=match o.op,o.dst,o.guard with
 | .next x false,some t,none=>some (x,t)
 |_,_,_=>none
def adf(x:Operand):Rd (Nat×Nat×Nat×Nat×Nat×List Nat):=(opd G x).bind fun
 | .one (.iref d g)=>(obR d g).bind fun
  | .iter md mg n seen=>(obR md mg).bind fun
   | .map _ ks _=>.need (ks.length=n) (.ret (d,g,md,mg,n,seen))
   |_=>.none
  |_=>.none
 |_=>.none
def evCW:Code→St→(Ex→St→Prop)→Prop
 | .skip,s,K=>K .normal s
 | .region id ops draw,s,K=>match draw with
  |true=>match memN id M.hand with
   |true=>evWX P T J M G (ixOf isLk ops.toList) (ixOf isMe ops.toList) ops ops.toList 0 s [] none [] (K .normal)
   |false=>match memN id M.any with
    |true=>∃S:St→Prop,evWA P T J M G ops ops.size (List.replicate ops.size false) s (fun s=>∃s0,WkW s s0∧S s0)∧∀s0,S s0→K .normal s0
    |false=>evWD P T J M G ops ops.toList s [] (K .normal)
  |false=>match ops.toList with
   |o::os=>match pZ o with
    |some (x,t)=>runP P G s (adf G x) [] fun(d,g,md,mg,n,seen) _=>
     ((∀i,i<n→i∈seen)→evWS P T J M G ops os (s.write (.tmp t (.tup [.one (.v (.bool false))]))) (K .normal))∧
     ∀i,i<n→i∉seen→evWS P T J M G ops os ((s.write (obW d g (.iter md mg n (i::seen)))).write (.tmp t (.tup [.one (.v (.bool true)),.undef,.undef]))) (K .normal)
    |none=>evWS P T J M G ops (o::os) s (K .normal)
   | []=>K .normal s
 | .seq a b,s,K=>evCW a s fun
  | .normal,s=>evCW b s K
  |e,s=>K e s
 | .cond c a b,s,K=>runP P G s (opd G c) [] fun v _=>match v with
  | .one (.v (.bool t))=>iteP t (evCW a s K) (evCW b s K)
  | .one .anyB=>evCW a s K∧evCW b s K
  |_=>False
 | .block id b,s,K=>evCW b s fun
  | .exit i,s=>match Nat.beq i id with
   |true=>K .normal s
   |false=>K (.exit i) s
  |e,s=>K e s
 | .loop b,s,K=>∃(I:Nat→St→Prop),(∃n s0,WkW s s0∧I n s0)∧∀n s,I n s→evCW b s fun
  | .normal,s=>∃m s0,m<n∧WkW s s0∧I m s0
  |e,s=>K e s
 | .exit id,s,K=>K (.exit id) s
 | .ret,s,K=>K .ret s
 |_,_,_=>False
end
section
variable{P:Program}{T:Tab}{J:Kn}{M:Md}{G:Nat→Option (List AC)}{X:Ctx}{κ:Con}{H:Fz}{s:St}{a:Act}{w:World}{ft:Nat→List Nat}
theorem WRel.congr{s':St}(h:WRel X κ H s a w)(ht:∀t,find t s'.tmps=find t s.tmps)(hb:∀d,find d s'.boxes=find d s.boxes)(hp:∀d,find d s'.perms=find d s.perms):WRel X κ H s' a w:=by
 obtain⟨ft,h⟩:=h.f;exact(h.congr ht hb hp).wrel
theorem nw(E:Env P T J)(EK:EnvK P T)(hG:bK G H)(h:WRel X κ H s a w)(hM:X.A≤M.A){ops:Array Oper}{i:Nat}{o:Oper}(ho:ops[i]?=some o)(hok:ib X.N X.A X.np o=true){ws:List Wr}(hr:Runs P G s (evWO T J M G ops o) ws)
 {K:Act→World→Prop} {Q:Exit→Act→World→Prop} (hK:∀κ' H' a' w',WRel X κ' H' (s.writes ws) a' w'→K a' w'):wpOp P ops Q i K a w:=by
 have run:∀{ws:List Wr},Runs P G s (sM T J M G o) ws→(∀κ' H' a' w',WRel X κ' H' (s.writes ws) a' w'→K a' w')→o.wp P a w K Q:=fun hr hK=>xJ E EK hG h hM hok hr hK;have skip:WRel X κ H (s.writes (dstW o (.tup []))) (a.put o.dst undef) w:=by
  unfold dstW;cases hdst:o.dst with
  |none=>exact h
  |some d=>exact nd h (oJ (oK hok) d hdst) (rX hok d hdst) (show AVr κ H (.tup []) (.tuple ([]:List Value).toArray) from .tup [] [] rfl (by simp))
 unfold wpOp;simp only[ho];unfold evWO at hr;split at hr
 ·rename_i hg;have:Region.wanted o (yielded ops a.tmps)=true:=by simp[Region.wanted,hg]
  rw[if_pos this];exact .inl (run hr hK)
 ·rename_i g want hg;split at hr
  ·rename_i t ht;obtain⟨v,hv,hr⟩:=hr;have hav:=h.rel.tmps t v hv;have hy:∀b:Bool,a.tmps.getD t undef= .bool b→yielded ops a.tmps g=some b:=by
    intro b hb;unfold yielded;rw[ht,gF];rw[aB]at hb;cases hq:a.tmps[t]? with
    |none=>rw[hq]at hb;cases hb
    |some u=>rw[hq]at hb;simp only[bG]at hb;rw[hb]
   have hn:∀vs,v= .tup vs→yielded ops a.tmps g=none:=by
    rintro vs rfl;unfold yielded;rw[ht,gF];rw[aB]at hav;cases hq:a.tmps[t]? with
    |none=>rfl
    |some u=>
     rw[hq]at hav;simp only[bG]at hav;cases hav;rfl
   cases want with
   |true=>
    simp only at hr;split at hr
    ·rename_i b;have hb:=hy b (cN hav).1;rcases hr with⟨rfl,hr⟩|⟨rfl,hr⟩
     ·rw[if_pos (by simp[Region.wanted,hg,hb])];exact .inl (run hr hK)
     ·rw[if_neg (by simp[Region.wanted,hg,hb])];simp only[Runs]at hr;subst hr;exact hK κ H _ w skip
    ·rename_i vs;rw[if_neg (by simp[Region.wanted,hg,hn vs rfl])];simp only[Runs]at hr;subst hr;exact hK κ H _ w skip
    ·exact hr.elim
   |false=>
    simp only at hr;split at hr
    ·rename_i b;have hb:=hy b (cN hav).1;rcases hr with⟨rfl,hr⟩|⟨rfl,hr⟩
     ·rw[if_neg (by simp[Region.wanted,hg,hb])];simp only[Runs]at hr;subst hr;exact hK κ H _ w skip
     ·rw[if_pos (by simp[Region.wanted,hg,hb])];exact .inl (run hr hK)
    ·rename_i vs;rw[if_neg (by simp[Region.wanted,hg,hn vs rfl])];simp only[Runs]at hr;subst hr;exact hK κ H _ w skip
    ·exact hr.elim
  ·exact hr.elim
theorem ql(E:Env P T J)(EK:EnvK P T)(hX:bK G X.H0)(hM:X.A≤M.A){ops:Array Oper}(hd:∀o∈ops.toList,ib X.N X.A X.np o=true){Q:Exit→Act→World→Prop}{K:St→Prop}:∀(os:List Oper) (i:Nat),ops.toList.drop i=os→∀(s:St) (κ:Con) (H:Fz) (a:Act) (w:World),WRel X κ H s a w→evWS P T J M G ops os s K→
 (∀s κ H a w,WRel X κ H s a w→K s→Q .normal a w)→wpOps P ops Q (List.range' i os.length) a w
 | [],i,hos,s,κ,H,a,w,h,he,hQ=>by
  simp only[evWS]at he;simp only[bJ,iL,wpOps];exact hQ s κ H a w h he
 |o::os,i,hos,⟨ts,bs,ps⟩,κ,H,a,w,h,he,hQ=>by
  have hi:ops[i]?=some o:=by
   have:ops.toList[i]?=some o:=by rw[←jm,hos];rfl
   simpa using this
  have hmem:o∈ops.toList:=bi (by simpa using hi);simp only[evWS]at he;obtain⟨ws,ls,h1,-,h3⟩:=cK he;rw[writesK_eq]at h1;have hr:=h3 ⟨ts,bs,ps⟩ ⟨fun _ _=>rfl,fun _ _=>rfl,fun _ _=>rfl⟩;rw[aT,gG,lr]
  refine nw E EK (hX.mono h.rel.h0) h hM hi (hd o hmem) hr fun κ' H' a' w' hrel=>?_;refine ql E EK hX hM hd os (i+1) ?_ _ κ' H' a' w' hrel h1 hQ;rw[←dD,hos];rfl
theorem adR{ops:Array Oper}{K:St→Prop}:∀{os:List Oper} {s:St} {acc:List (List Loc×List Loc)},evWD P T J M G ops os s acc K→
 ∃(W:List (List Wr)) (L:List (List Loc)),W.length=os.length∧L.length=os.length∧ja ops (acc++(L.zip (W.map (·.map Wr.loc))))=true∧K (wall W s)∧
  ∀j o,os[j]?=some o→∃ws ls,W[j]?=some ws∧L[j]?=some ls∧∀s',ln (wall (W.take j) s) s' ls→Runs P G s' (evWO T J M G ops o) ws
 | [],s,acc,h=>by
  simp only[evWD]at h;exact⟨[],[],rfl,rfl,by simpa using h.1,h.2,by simp⟩
 |o::os,⟨ts,bs,ps⟩,acc,h=>by
  simp only[evWD]at h;obtain⟨ws,ls,h1,-,h3⟩:=cK h;rw[writesK_eq]at h1;obtain⟨W,L,k1,k2,k3,k4,k5⟩:=adR h1;refine⟨ws::W,ls::L,by simp[k1],by simp[k2],by simpa using k3,k4,fun j o' hj=>?_⟩;cases j with
  |zero=>
   simp only[aZ,am]at hj;subst hj;exact⟨ws,ls,rfl,rfl,h3⟩
  |succ j=>
   obtain⟨ws',ls',m1,m2,m3⟩:=k5 j o' (by simpa using hj);exact⟨ws',ls',by simpa using m1,by simpa using m2,m3⟩
theorem zh{jx kx:Nat}{ops:Array Oper}{K:St→Prop}:∀{os:List Oper} {n:Nat} {s:St} {acc:List (List Loc×List Loc)} {sv:Option (St×Oper×List Wr)} {l2:List Loc},evWX P T J M G jx kx ops os n s acc sv l2 K→
 ∃(W:List (List Wr)) (L:List (List Loc)) (l3:List Loc),W.length=os.length∧L.length=os.length∧zI ops jx kx l3 (acc++(L.zip (W.map (·.map Wr.loc))))=true∧K (wall W s)∧
  (∀j o,os[j]?=some o→∃ws ls,W[j]?=some ws∧L[j]?=some ls∧∀s',ln (wall (W.take j) s) s' ls→Runs P G s' (evWO T J M G ops o) ws)∧
  (kx<n→l3=l2)∧
  (∀sj oj wj,sv=some (sj,oj,wj)→jx<n→n≤kx→kx<n+os.length→∃wk,W[kx-n]?=some wk∧∀s',ln (sj.writes wk) s' l3→Runs P G s' (evWO T J M G ops oj) wj)∧
  (n≤jx→jx<kx→kx<n+os.length→∃wk oj wj,W[kx-n]?=some wk∧os[jx-n]?=some oj∧W[jx-n]?=some wj∧∀s',ln ((wall (W.take (jx-n)) s).writes wk) s' l3→Runs P G s' (evWO T J M G ops oj) wj)
 | [],n,s,acc,sv,l2,h=>by
  simp only[evWX]at h;exact⟨[],[],l2,rfl,rfl,by simpa using h.1,h.2,by simp,fun _=>rfl,fun _ _ _ _ h1 h2 h3=>by simp at h3;omega,fun h1 h2 h3=>by simp at h3;omega⟩
 |o::os,n,⟨ts,bs,ps⟩,acc,sv,l2,h=>by
  simp only[evWX]at h;obtain⟨ws,ls,h1,-,h3⟩:=cK h;have eff:∀{W:List (List Wr)} {L:List (List Loc)},(∀j o,os[j]?=some o→∃ws' ls,W[j]?=some ws'∧L[j]?=some ls∧∀s',ln (wall (W.take j) (St.writes ⟨ts,bs,ps⟩ ws)) s' ls→Runs P G s' (evWO T J M G ops o) ws')→
   ∀j o',(o::os)[j]?=some o'→∃ws' ls',(ws::W)[j]?=some ws'∧(ls::L)[j]?=some ls'∧∀s',ln (wall ((ws::W).take j) ⟨ts,bs,ps⟩) s' ls'→Runs P G s' (evWO T J M G ops o') ws':=by
   intro W L k5 j o' hj;cases j with
   |zero=>
    simp only[aZ,am]at hj;subst hj;exact⟨ws,ls,rfl,rfl,h3⟩
   |succ j=>
    obtain⟨ws',ls',m1,m2,m3⟩:=k5 j o' (by simpa using hj);exact⟨ws',ls',by simpa using m1,by simpa using m2,m3⟩
  split at h1
  ·rename_i hn;obtain rfl:=eX hn;split at h1
   ·rename_i tj bj pj oj wj;rw[writesK_eq]at h1;obtain⟨wj2,lj2,⟨g1,g2⟩,-,g3⟩:=cK h1;subst g1;rw[writesK_eq]at g2;obtain⟨W,L,l3,k1,k2,k3,k4,k5,k6,-,-⟩:=zh g2;obtain rfl:=k6 (ah _)
    refine⟨ws::W,ls::L,l3,by simp[k1],by simp[k2],by simpa using k3,k4,eff k5,fun hh=>absurd hh (eB _),?_,fun a b _=>absurd b (by omega)⟩;intro sj oj' wj' hsv _ _ _;cases hsv;exact⟨ws,by simp,g3⟩
   ·exact h1.elim
  ·rename_i hn;have hne:n≠kx:=fun e=>by subst e;rw[Nat.beq_refl]at hn;cases hn
   rw[writesK_eq]at h1;obtain⟨W,L,l3,k1,k2,k3,k4,k5,k6,k7,k8⟩:=zh h1;have sub:∀{m:Nat},n<m→m-n=(m-(n+1))+1:=fun hm=>by omega
   refine⟨ws::W,ls::L,l3,by simp[k1],by simp[k2],by simpa using k3,k4,eff k5,fun hh=>k6 (by omega),?_,?_⟩
   ·intro sj oj wj hsv a b c;have hnj:Nat.beq n jx=false:=by
     cases hb:Nat.beq n jx with
     |false=>rfl
     |true=>have:=eX hb;omega
    obtain⟨wk,q1,q2⟩:=k7 sj oj wj (by rw[hnj];exact hsv) (by omega) (by omega) (by simp at c;omega);exact⟨wk,by rw[sub (by omega),cd];exact q1,q2⟩
   ·intro a b c;rcases Nat.eq_or_lt_of_le a with rfl|hlt
    ·obtain⟨wk,q1,q2⟩:=k7 _ _ _ (by rw[Nat.beq_refl]) (by omega) (by omega) (by simp at c;omega);exact⟨wk,o,ws,by rw[sub (by omega),cd];exact q1,by simp,by simp,by simpa [wall]using q2⟩
    ·obtain⟨wk,oj,wj,q1,q2,q3,q4⟩:=k8 (by omega) b (by simp at c;omega);exact⟨wk,oj,wj,by rw[sub (by omega),cd];exact q1,by rw[sub hlt,cd];exact q2,by rw[sub hlt,cd];exact q3,by rw[sub hlt,gI];exact q4⟩
theorem uK(E:Env P T J)(EK:EnvK P T)(hX:bK G X.H0)(hM:X.A≤M.A){ops:Array Oper}(hd:∀o∈ops.toList,ib X.N X.A X.np o=true){Q:Exit→Act→World→Prop}{K:St→Prop}{s0:St}{W:List (List Wr)}{L:List (List Loc)}{wt:List (List Nat)}
 (hWl:W.length=ops.size) (hLl:L.length=ops.size) (hwt:mf ops.toList []=some wt) (hap:apart wt (L.zip (W.map (·.map Wr.loc)))=true) (hK:K (wall W s0))
 (heff:∀j o,ops[j]?=some o→∃ws ls,W[j]?=some ws∧L[j]?=some ls∧∀listed:Array Bool,listed.size=ops.size→wu ops listed→listed.getD j false=false→(∀i∈kX o,listed.getD i false=true)→ln (wall (W.take j) s0) (at_ listed W s0) ls→Runs P G (at_ listed W s0) (evWO T J M G ops o) ws)
 (hQ:∀s κ H a w,WRel X κ H s a w→K s→Q .normal a w):
 ∀(fuel:Nat) (listed:Array Bool),listed.size=ops.size→(listed.toList.filter (!·)).length=fuel→wu ops listed→∀(κ:Con) (H:Fz) (a:Act) (w:World),WRel X κ H (at_ listed W s0) a w→wpAny P .any ops Q fuel listed a w:=by
 have hrw:∀(j:Nat) (ws:List Wr) (ls:List Loc),W[j]?=some ws→L[j]?=some ls→(L.zip (W.map (·.map Wr.loc)))[j]?=some (ls,ws.map Wr.loc):=by
  intro j ws ls h1 h2;rw[dX];exact⟨h2,by rw[aG,h1];rfl⟩
 have hWj:∀j:Nat,j<ops.size→∃ws ls,W[j]?=some ws∧L[j]?=some ls:=fun j hj=>⟨W[j]'(by omega),L[j]'(by omega),ad _,ad _⟩;intro fuel
 induction fuel with
 |zero=>
  intro listed hsz hcount hcl κ H a w h;have hall:∀j,j<ops.size→listed.getD j false=true:=by
   intro j hj;have hm:listed[j]'(by omega)∈listed.toList:=by simp
   have hnil:=aK hcount;have:¬(listed[j]'(by omega)=false):=fun hf=>by
    have:listed[j]'(by omega)∈listed.toList.filter (!·):=gS.2 ⟨hm,by simp[hf]⟩;rw[hnil]at this;cases this
   rw[aB,aE (by omega)];simpa using this
  refine⟨?_,hQ _ κ H a w h ?_⟩
  ·rw[fK];intro j hj;obtain⟨h0,o,ho,-⟩:=jG.1 hj;have:=hall j (ay.1 ho).1;rw[aB]at this h0;cases hq:listed[j]? with
   |none=>rw[hq]at this;cases this
   |some b=>rw[hq]at this h0;simp at this h0;rw[this]at h0;cases h0
  ·unfold at_;rw[sD W 0 s0 fun j _ hj=>hall j (by omega)];exact hK
 |succ fuel ih=>
  intro listed hsz hcount hcl κ H a w h;refine⟨fun hnone=>?_,fun j hj=>?_⟩
  ·
   exfalso;have hex:∃j,j<ops.size∧listed.getD j false=false:=by
    have hne:listed.toList.filter (!·)≠[]:=fun e=>by rw[e]at hcount;cases hcount
    obtain⟨b,hb⟩:=List.exists_mem_of_ne_nil _ hne;obtain⟨hb1,hb2⟩:=gS.1 hb;obtain⟨j,hj⟩:=bT.1 hb1;have hjl:=(aq.1 hj).1;refine⟨j,by simp at hjl;omega,?_⟩;rw[aB,←cA,hj];simpa using hb2
   have hmin:∃j,j<ops.size∧listed.getD j false=false∧∀i,i<j→listed.getD i false=true:=by
    obtain⟨j,hj,hf⟩:=hex
    induction j using Nat.strongRecOn with
    |_ j ihj=>
     by_cases hall:∀i,i<j→listed.getD i false=true
     ·exact⟨j,hj,hf,hall⟩
     ·obtain⟨i,hi⟩:=Classical.not_forall.1 hall;obtain⟨hi1,hi2⟩:=Classical.not_imp.1 hi;exact ihj i hi1 (by omega) (by simpa using hi2)
   obtain⟨j,hj,hf,hall⟩:=hmin;have:j∈Region.ready .any ops listed:=by
    rw[jG];refine⟨?_,ops[j],aE hj,fun e he hb=>?_⟩
    ·rw[aB]at hf ⊢;rw[aE (by omega)]at hf ⊢;exact hf
    ·obtain⟨-,-,h3⟩:=qT hwt;have:=(h3 j ops[j] (by simp[hj])).1 e.on (ne.2 ⟨e,he,hb,rfl⟩);simp only[bJ,bA]at this;exact hall e.on this
   rw[hnone]at this;cases this
  ·obtain⟨h0,o,ho,hedges⟩:=jG.1 hj;have hjs:j<ops.size:=(ay.1 ho).1;have hjf:listed.getD j false=false:=by
    rw[aB,aE (by omega)]at h0 ⊢;exact h0
   have hon:∀i∈kX o,listed.getD i false=true:=fun i hi=>by
    obtain⟨e,he,hb,rfl⟩:=ne.1 hi;exact hedges e he hb
   obtain⟨ws,ls,hW,hL,hruns⟩:=heff j o ho;have hwj:∀i∈wt.getD j [],listed.getD i false=true:=fQ hwt hcl (j+1) j (ah j) o ho hon;have ahead:∀(i:Nat) (wsi:List Wr),W[i]?=some wsi→i<j→listed.getD i false=false→∀l∈ls,l∉wsi.map Wr.loc:=by
    intro i wsi hi hij hnl l hl hm;obtain⟨wsi',lsi,e1,e2⟩:=hWj i (by omega);rw[hi]at e1;cases e1;exact(nF hap hij (hrw i _ _ hi e2) (hrw j _ _ hW hL) (fun hmem=>by rw[hwj i hmem]at hnl;cases hnl)).1 l hm hl
   have behind:∀(k:Nat) (wsk:List Wr),W[k]?=some wsk→j<k→listed.getD k false=true→(∀l∈ls,l∉wsk.map Wr.loc)∧∀l∈ws.map Wr.loc,l∉wsk.map Wr.loc:=by
    intro k wsk hk hjk hlk;have hks:k<ops.size:=by have:=(aq.1 hk).1;omega
    obtain⟨wsk',lsk,e1,e2⟩:=hWj k hks;rw[hk]at e1;cases e1;have hn:j∉wt.getD k []:=fun hmem=>by
     have:=fQ hwt hcl (k+1) k (ah k) ops[k] (aE hks) (hcl k _ (aE hks) hlk) j hmem;rw[hjf]at this;cases this
    have:=nF hap hjk (hrw j _ _ hW hL) (hrw k _ _ hk e2) hn;exact⟨this.2.2,this.2.1⟩
   have hagree:ln (wall (W.take j) s0) (at_ listed W s0) ls:=by
    refine pF fun l hl=>?_;have hft:=nk (sel:=fun i=>decide (i<j)) (m:=j) W 0 s0 (fun _ _=>rfl) (aR _);rw[fj]at hft;rw[←hft];refine fE W 0 s0 s0 (fun i wsi hi hne=>?_) (.refl l s0);simp only[bA]at hne;rcases db i j with hlt|rfl|hgt
    ·simp only[hlt,fh]at hne;exact ahead i wsi hi hlt (by simpa using hne) l hl
    ·simp[hjf]at hne
    ·have:¬i<j:=by omega
     simp only[this,eQ]at hne;exact(behind i wsi hi hgt (by simpa using hne)).1 l hl
   refine nw E EK (hX.mono h.rel.h0) h hM ho (hd o (bi (by simpa using ho))) (hruns listed hsz hcl hjf hon hagree) fun κ' H' a' w' hrel=>?_;refine ih (listed.setIfInBounds j true) (by simp[hsz]) ?_ ?_ κ' H' a' w' ?_
   ·
    have hlt:j<listed.size:=by omega
    have hjv:listed.toList[j]?=some false:=by
     rw[aB,←cA]at hjf;cases hq:listed.toList[j]? with
     |none=>have:=gH.1 hq;simp at this;omega
     |some b=>rw[hq]at hjf;simp at hjf;rw[hjf]
    rw[gA];have:=og listed.toList j hjv;omega
   ·intro k ok hok hk i hi;by_cases hkj:k=j
    ·subst hkj;rw[ho]at hok;cases hok;exact kJ (hon i hi)
    ·rw[getD_set_ne false (Ne.symm hkj)]at hk;exact kJ (hcl k ok hok hk i hi)
   ·
    have hnew:∀i,(listed.setIfInBounds j true).getD i false=if i=j then true else listed.getD i false:=by
     intro i;by_cases hij:i=j
     ·subst hij;rw[if_pos rfl,aB];simp[show i<listed.size by omega]
     ·rw[if_neg hij,getD_set_ne false (Ne.symm hij)]
    have hsame:∀l,dC l (at_ (listed.setIfInBounds j true) W s0) ((at_ listed W s0).writes ws):=by
     intro l;by_cases hl:l∈ws.map Wr.loc
     ·
      have hA:dC l (at_ listed W s0) (fold (fun i=>decide (i<j)&&listed.getD i false) 0 W s0):=by
       refine fE W 0 s0 s0 (fun i wsi hi hne=>?_) (.refl l s0);simp only[bA]at hne;rcases db i j with hlt|rfl|hgt
       ·simp[hlt]at hne
       ·simp[hjf]at hne
       ·have:¬i<j:=by omega
        simp only[this,eQ,fM]at hne;exact(behind i wsi hi hgt (by simpa using hne)).2 l hl
      have hB:dC l (at_ (listed.setIfInBounds j true) W s0) (fold (fun i=>(decide (i<j)&&listed.getD i false)|| decide (i=j)) 0 W s0):=by
       refine fE W 0 s0 s0 (fun i wsi hi hne=>?_) (.refl l s0);simp only[bA,hnew]at hne;rcases db i j with hlt|rfl|hgt
       ·simp[hlt,fW hlt]at hne
       ·simp at hne
       ·have h1:¬i<j:=by omega
        have h2:¬i=j:=by omega
        simp only[h1,h2,eQ,fM,gP,if_false]at hne;exact(behind i wsi hi hgt (by simpa using hne)).2 l hl
      have hC:=nl (sel:=fun i=>decide (i<j)&&listed.getD i false) (sel':=fun i=>(decide (i<j)&&listed.getD i false)|| decide (i=j)) (m:=j) W 0 s0 ws (aR _) (by simpa using hW)
       (fun i hi=>by simp[fW hi]) (by simp) (by simp) (fun i hi=>by
        have h1:¬i<j:=by omega
        have h2:¬i=j:=by omega
        simp[h1,h2])
      rw[hC]at hB;exact hB.trans (hA.writes ws).symm
     ·refine dC.trans ?_ (cS hl _).symm;refine fE W 0 s0 s0 (fun i wsi hi hne=>?_) (.refl l s0);simp only[bA,hnew]at hne;by_cases hij:i=j
      ·subst hij;rw[hW]at hi;cases hi;exact hl
      ·simp[hij]at hne
    exact hrel.congr (fun t=>hsame (.tmp t)) (fun d=>hsame (.box d)) (fun d=>hsame (.perm d))
end
section
open Go.ChangeMaps (setBlock)
section
variable{P:Program}{T:Tab}{J:Kn}{M:Md}{G:Nat→Option (List AC)}{X:Ctx}{κ:Con}{H:Fz}{s:St}{a:Act}{w:World}{ft:Nat→List Nat}
def gC(N A:Nat)(np:List Nat):Code→Bool
 | .region _ ops _=>ops.toList.all (ib N A np)
 | .seq a b=>gC N A np a&&gC N A np b
 | .cond _ a b=>gC N A np a&&gC N A np b
 | .block _ b=>gC N A np b
 | .loop b=>gC N A np b
 |_=>true
theorem zj(h:WRel X κ H s a w):WRel X κ H s a { w with drawn:=w.drawn+1}:=by
 obtain⟨ft,h⟩:=h.f;refine⟨{ h.rel with defers:=h.rel.defers,size:=h.rel.size,tmps:=h.rel.tmps},⟨ft,?_⟩,h.n⟩;exact{ lt:=h.obs.lt,ok:=fun d g c e hn=>(h.obs.ok d g c e hn).kept (Con.le_refl κ) (fun _ _=>⟨rfl,rfl⟩) (Fz.le_refl H),nodup:=h.obs.nodup,blk:=h.obs.blk,apart:=h.obs.apart}
theorem ade{o:Oper}{x:Operand}{t:Nat}(h:pZ o=some (x,t)):o.op= .next x false∧o.dst=some t∧o.guard=none:=by
 unfold pZ at h;split at h
 ·rename_i h1 h2 h3;cases h;exact⟨h1,h2,h3⟩
 ·cases h
theorem abm(hG:bK G H)(hWR:WRel X κ H s a w){o:Oper}{x:Operand}(ho:o.op= .next x false){d g md mg n:Nat}{seen:List Nat}(hr:Runs P G s (adf G x) (d,g,md,mg,n,seen)){K:Act→World→Prop}{Q:Exit→Act→World→Prop}
 (h1:(∀i,i<n→i∈seen)→K (a.put o.dst (.tuple #[.bool false])) w)
 (h2:∀i,i<n→i∉seen→∀κ' H' w' k v,WRel X κ' H' (s.write (obW d g (.iter md mg n (i::seen)))) a w'→K (a.put o.dst (.tuple #[.bool true,k,v])) w'):o.wp P a w K Q:=by
 obtain⟨ft,h⟩:=hWR.f;unfold adf at hr;obtain⟨p,hp,hr'⟩:=opd1 hG h.rel hr;clear hr;split at hr'
 ·rename_i d' g';obtain⟨c,hc,hr⟩:=az hr';clear hr';obtain⟨hob,hn,-⟩:=h.at_ hc;obtain⟨hg,hu,r,he⟩:=oS hp;split at hr
  ·rename_i md' mg' n' seen';obtain⟨c',hc',hr2⟩:=az hr;clear hr;obtain⟨hob',hn',-⟩:=h.at_ hc';split at hr2
   ·rename_i z ks vs;obtain⟨hkn,hr2⟩:=hr2;simp only[Runs,ai]at hr2;obtain⟨rfl,rfl,rfl,rfl,rfl,rfl⟩:=hr2;obtain⟨hmg,r',m,e1,hft,hit,hmr⟩:=hob;rw[hu,he]at e1;cases e1;obtain⟨r2,es,e2,-,hks,hw,hl1,hl2,hall⟩:=hob';rw[hmr]at e2;cases e2
    have hborn:∀(i:Nat) (en:MapEntry),es[i]?=some en→en.born=i:=fun i en a1=>by
     have hi:=(ay.1 a1).1;exact(hall i en _ _ a1 (ad (by omega)) (ad (by omega))).1
    have hrun:=run_next_at (P:=P) w o.type r m n' n' seen'.reverse.toArray es es.size hit hw (fun x hx=>by
     obtain⟨i,hi⟩:=bT.1 hx;rw[cA]at hi;rw[hborn i x hi];have:=(ay.1 hi).1;omega) (au _)
    unfold Oper.wp;rcases hrun with⟨hz,hrun⟩|⟨e,hmem,w1,hw1,hrun⟩
    ·have hx:(execOp a.eval o).run P w= .ok (.value (.tuple #[.bool false])) w:=by
      simp only[execOp,ho,he,aY,hrun,aF,bu]
     rw[hx,bN];refine h1 fun i hi=>?_;have hnil:leftOf es seen'.reverse.toArray= #[]:=Array.eq_empty_of_size_eq_zero hz;unfold leftOf at hnil;rw[Array.filter_eq_empty_iff]at hnil;have hi':i<es.size:=by omega
     have:=hnil es[i] (by simp);rw[hborn i _ (aE hi')]at this;simpa using this
    ·have hx:(execOp a.eval o).run P w= .ok (.value (.tuple #[.bool true,e.key,e.val])) (setBlock w1 r (.mapIter (some m) n' (seen'.reverse.toArray.push e.born) es.size)):=by
      simp only[execOp,ho,he,aY,hrun,aF,bu]
     rw[hx,bN];unfold leftOf at hmem;obtain⟨hm1,hm2⟩:e∈es∧¬e.born∈seen':=by simpa using hmem
     obtain⟨i,hi⟩:=Array.mem_iff_getElem?.1 hm1;have hib:=hborn i e hi;have hil:=(ay.1 hi).1;rw[hib]at hm2 ⊢;refine h2 i (by omega) (by simpa using hm2) κ H _ _ _ ?_;have hbg:κ.nr d'=g'+1:=hn;obtain⟨k1,k2⟩:=h.gone (d:=d') (g:=g') hg;have hnone:∀i,H r i=none:=fun i=>by
      cases hv:H r i with
      |none=>rfl
      |some v=>
       have:=h.rel.fz r i v hv;simp[World.cell?,hit]at this
     have hw1h:w1.heap=w.heap∧w1.os=w.os∧w1.tape=w.tape∧w1.output=w.output:=by
      rcases hw1 with rfl|rfl<;>exact⟨rfl,rfl,rfl,rfl⟩
     have hlt:=(ay.1 hit).1;have hs:Step H w r H (setBlock w1 r (.mapIter (some m) n' (seen'.reverse.toArray.push i) es.size)):={
      le:=Fz.le_refl H
      fz:=fun k j v hv=>by
       have hk:k≠r:=fun e=>by subst e;rw[hnone]at hv;cases hv
       rw[cell_of_heap (w:=w) (by simp[setBlock,hw1h.1,cb,Ne.symm hk])];exact h.rel.fz k j v hv
      heap:=fun k _ hk=>by simp[setBlock,hw1h.1,cb,Ne.symm hk]
      kept:=fun _ _=>rfl
      grown:=by simp[setBlock,hw1h.1]
      os:=hw1h.2.1
      tape:=hw1h.2.2.1
      output:=hw1h.2.2.2}
     have hfr:=k2 r (by rw[hft];simp);have k3:=k1.step hs (.inl hfr);have k4:=k3.set0 (d:=d') (g:=g') (c:=.iter md' mg' n' (i::seen')) (bs:=[r]) hbg (by simp) (fun k hk=>by
      obtain rfl:=ax.1 hk;exact hfr.step hs (.inr hnone))
      ⟨hmg,r,m,by rw[hu,he],rfl,by simp[setBlock,hw1h.1,hlt];omega,hmr⟩
     exact(k4.congr (s':=s.write (obW d' g' (.iter md' mg' n' (i::seen')))) (fun t=>(dF t (OB+d') _ _ _).symm) (fun _=>rfl) (fun _=>rfl)).wrel
   ·exact hr2.elim
  ·exact hr.elim
 ·exact hr'.elim
theorem adQ(E:Env P T J)(EK:EnvK P T)(hX:bK G X.H0)(hM:X.A≤M.A){id:Nat}{ops:Array Oper}(hd:∀o∈ops.toList,ib X.N X.A X.np o=true){Q:Exit→Act→World→Prop}{K:Ex→St→Prop}{s:St}{κ:Con}{H:Fz}{a:Act}{w:World}{jx kx:Nat}
 (h:WRel X κ H s a w) (he:evWX P T J M G jx kx ops ops.toList 0 s [] none [] (K .normal)) (hQ:∀ex s κ H a w,WRel X κ H s a w→K ex s→Q ex.toExit a w):(Code.region id ops true).wp P Q a w:=by
 obtain⟨W,L,l3,h1,h2,h3,h4,h5,-,-,h8⟩:=zh he;simp only[dG]at h3;unfold zI at h3;split at h3
 ·rename_i wt hwt;simp only[aw]at h3;obtain⟨⟨⟨hap,hjk⟩,hkl⟩,hex⟩:=h3;have blt:∀{a b:Nat},Nat.blt a b=true→a<b:=fun h=>by simpa [dp]using h
  have blt':∀{a b:Nat},a<b→Nat.blt a b=true:=fun h=>by simpa [dp]using h
  have hjk:=blt hjk;have hkl:=blt hkl;have hsz:W.length=ops.size:=by simpa using h1
  have hsz2:L.length=ops.size:=by simpa using h2
  generalize hrw:L.zip (W.map (·.map Wr.loc))=rw_ at hap hex hkl;have hrl:rw_.length=ops.size:=by rw[←hrw];simp[hsz,hsz2]
  have hrg:∀(j:Nat) (ws:List Wr) (ls:List Loc),W[j]?=some ws→L[j]?=some ls→rw_[j]?=some (ls,ws.map Wr.loc):=by
   intro j ws ls h1 h2;rw[←hrw,dX];exact⟨h2,by rw[aG,h1];rfl⟩
  rw[hrl]at hkl
  ·obtain⟨wk,oj,wj,q1,q2,q3,q4⟩:=h8 (aR _) hjk (by simpa using hkl);simp only[fj]at q1 q2 q3 q4;obtain⟨wj',lj,r1,r2,r3⟩:=h5 jx oj q2;rw[q3]at r1;cases r1;have hLk:∃lk,L[kx]?=some lk:=⟨L[kx]'(by omega),ad _⟩;obtain⟨lk,hLk⟩:=hLk
   have gk:rw_.getD kx ([],[])=(lk,wk.map Wr.loc):=by rw[aC,hrg kx wk lk q1 hLk];rfl
   have gj:rw_.getD jx ([],[])=(lj,wj.map Wr.loc):=by rw[aC,hrg jx wj lj q3 r2];rfl
   rw[gk,gj]at hap;rw[gk]at hex;simp only at hap hex;generalize hl4:(lj++l3).filter (fun l=> !tX [l] (wk.map Wr.loc))=l4 at hap;have no:∀{a b:List Loc},tX a b=false→∀l∈a,l∉b:=by
    intro a b hm l hl hl';unfold tX at hm;have:(a.any fun x=>b.any fun y=>x.eq y)=true:=eT.2 ⟨l,hl,eT.2 ⟨l,hl',Loc.eq_iff.2 rfl⟩⟩;rw[this]at hm;cases hm
   have hin4:∀l,l∈lj∨l∈l3→l∉wk.map Wr.loc→l∈l4:=by
    intro l hl hn;rw[←hl4,gS];refine⟨aM.2 hl,?_⟩;cases hm:tX [l] (wk.map Wr.loc) with
    |false=>rfl
    |true=>
     unfold tX at hm;obtain⟨x,hx,hy⟩:=eT.1 hm;obtain⟨y,hy,he⟩:=eT.1 hy;obtain rfl:=ax.1 hx;obtain rfl:=Loc.eq_iff.1 he;exact absurd hy hn
   have hLset:(L.set jx l4).zip (W.map (·.map Wr.loc))=rw_.set jx (l4,wj.map Wr.loc):=by
    rw[←hrw];refine ce fun i=>?_;rw[bf];by_cases hij:jx=i
    ·subst hij;have:jx<(L.zip (W.map (·.map Wr.loc))).length:=by rw[hrw,hrl];omega
     rw[if_pos rfl,if_pos this];rw[dX];exact⟨by rw[bf];simp;omega,by rw[aG,q3];rfl⟩
    ·rw[if_neg hij];simp only[List.zip_eq_zipWith,List.getElem?_zipWith,bf,if_neg hij]
   have apartI:∀(i:Nat) (wsi:List Wr),W[i]?=some wsi→i≠kx→i≠jx→(i<jx→i∉wt.getD jx [])→(jx<i→jx∉wt.getD i [])→∀l,l∈lj∨l∈l3→l∉wsi.map Wr.loc:=by
    intro i wsi hi hik hij n1 n2 l hl hm;have his:i<ops.size:=by have:=(aq.1 hi).1;omega
    have hLi:∃li,L[i]?=some li:=⟨L[i]'(by omega),ad _⟩;obtain⟨li,hLi⟩:=hLi;have gi:rw_.getD i ([],[])=(li,wsi.map Wr.loc):=by rw[aC,hrg i wsi li hi hLi];rfl
    by_cases hwl:l∈wk.map Wr.loc
    ·have h1:=cO.1 hex i (fI.2 (by omega));rw[gi]at h1;simp only[fe,dg]at h1;rcases h1 with((h1|h1)|h1)|h1
     ·exact hik (eX h1)
     ·exact hij (eX h1)
     ·rcases Nat.lt_or_gt_of_ne hij with hlt|hgt
      ·rw[show Nat.blt i jx=true from blt' hlt]at h1;exact n1 hlt (go.1 h1)
      ·have:Nat.blt i jx=false:=by
        cases hb:Nat.blt i jx with
        |false=>rfl
        |true=>have:=blt hb;omega
       rw[this]at h1;exact n2 hgt (go.1 h1)
     ·exact no h1 l hwl hm
    ·have h4:=hin4 l hl hwl;have gi':(rw_.set jx (l4,wj.map Wr.loc))[i]?=some (li,wsi.map Wr.loc):=by rw[bf,if_neg (Ne.symm hij)];exact hrg i wsi li hi hLi
     have gj':(rw_.set jx (l4,wj.map Wr.loc))[jx]?=some (l4,wj.map Wr.loc):=by rw[bf,if_pos rfl,if_pos (by omega)]
     rcases Nat.lt_or_gt_of_ne hij with hlt|hgt
     ·exact(nF hap hlt gi' gj' (n1 hlt)).1 l hm h4
     ·exact(nF hap hgt gj' gi' (n2 hgt)).2.2 l h4 hm
   refine kB E.any ?_;have hdrew:WRel X κ H s a { w with drawn:=w.drawn+1}:=zj h
   refine uK E EK hX hM hd (W:=W) (L:=L.set jx l4) (s0:=s) hsz (by simpa using hsz2) hwt (by rw[hLset];exact hap) h4 (fun j o ho=>?_) (fun s κ H a w h hk=>hQ .normal s κ H a w h hk) ops.size (Array.replicate ops.size false) (by simp) (by simp) ?_ κ H a _ ?_
   ·by_cases hj:jx=j
    ·subst hj;have ho':ops.toList[jx]?=some o:=by simpa using ho
     rw[q2]at ho';cases ho';refine⟨wj,l4,q3,by rw[bf,if_pos rfl,if_pos (by omega)],fun listed lsz hcl hjf hon _=>?_⟩;have n1:∀i,i<jx→listed.getD i false=false→i∉wt.getD jx []:=fun i _ hf hm=>by
      have:=fQ hwt hcl (jx+1) jx (ah jx) oj ho hon i hm;rw[hf]at this;cases this
     have n2:∀i,i<ops.size→listed.getD i false=true→jx∉wt.getD i []:=fun i hi hf hm=>by
      have:=fQ hwt hcl (i+1) i (ah i) ops[i] (aE hi) (hcl i _ (aE hi) hf) jx hm;rw[hjf]at this;cases this
     have hft:=nk (sel:=fun i=>decide (i<jx)) (m:=jx) W 0 s (fun _ _=>rfl) (aR _);rw[fj]at hft;have len:∀{i:Nat} {wsi:List Wr},W[i]?=some wsi→i<ops.size:=fun hi=>by have:=(aq.1 hi).1;omega
     cases hkf:listed.getD kx false with
     |false=>
      refine r3 _ (pF fun l hl=>?_);rw[←hft];refine fE W 0 s s (fun i wsi hi hne=>?_) (.refl l s);simp only[bA]at hne;rcases db i jx with hlt|rfl|hgt
      ·simp only[hlt,fh]at hne;exact apartI i wsi hi (by omega) (by omega) (fun _=>n1 i hlt (by simpa using hne)) (fun hh=>by omega) l (.inl hl)
      ·simp[hjf]at hne
      ·have:¬i<jx:=by omega
       simp only[this,eQ]at hne;refine apartI i wsi hi (fun e=>by subst e;rw[hkf]at hne;exact hne rfl) (by omega) (fun hh=>by omega) (fun _=>n2 i (len hi) (by simpa using hne)) l (.inl hl)
     |true=>
      refine q4 _ (pF fun l hl=>?_);have hC:=nl (sel:=fun i=>decide (i<jx)) (sel':=fun i=>decide (i<jx)|| decide (i=kx)) (m:=kx) W 0 s wk (aR _) (by simpa using q1)
       (fun i hi=>by simp[fW hi]) (by simp;omega) (by simp) (fun i hi=>by
        have h1:¬i<jx:=by omega
        have h2:¬i=kx:=by omega
        simp[h1,h2])
      rw[←hft,←hC];refine fE W 0 s s (fun i wsi hi hne=>?_) (.refl l s);simp only[bA]at hne;by_cases hik:i=kx
      ·subst hik;simp[hkf]at hne
      ·simp only[hik,eQ,gP]at hne;rcases db i jx with hlt|rfl|hgt
       ·simp only[hlt,fh]at hne;exact apartI i wsi hi hik (by omega) (fun _=>n1 i hlt (by simpa using hne)) (fun hh=>by omega) l (.inr hl)
       ·simp[hjf]at hne
       ·have:¬i<jx:=by omega
        simp only[this,eQ]at hne;exact apartI i wsi hi hik (by omega) (fun hh=>by omega) (fun _=>n2 i (len hi) (by simpa using hne)) l (.inr hl)
    ·obtain⟨ws,ls,m1,m2,m3⟩:=h5 j o (by simpa using ho);exact⟨ws,ls,m1,by rw[bf,if_neg hj];exact m2,fun _ _ _ _ _ hh=>m3 _ hh⟩
   ·intro j o ho hj;rw[aB]at hj;simp only[dE]at hj;split at hj<;>simp at hj
   ·have:at_ (Array.replicate ops.size false) W s=s:=by
     unfold at_;refine iH W 0 s fun j _=>?_;rw[aB,dE];split<;>rfl
    rw[this];exact hdrew
 ·cases h3
theorem yo{α:Type}{p:α→Prop}:∀{l:List α},allP p l→∀x∈l,p x
 | [],_,x,hx=>by cases hx
 | [y],h,x,hx=>by obtain rfl:=ax.1 hx;exact h
 |y::z::l,h,x,hx=>by
  rcases aV.1 hx with rfl|hx
  ·exact h.1
  ·exact yo h.2 x hx
theorem aaJ:∀(l:List Bool) (i:Nat),getB l i=l.toArray.getD i false
 | [],i=>by simp[getB]
 |b::l,0=>by simp[getB]
 |b::l,i+1=>by
  have:=aaJ l i;simp only[getB,this];simp[aB]
theorem zV:∀(l:List Bool) (i:Nat),(setB l i).toArray=l.toArray.setIfInBounds i true
 | [],i=>by simp[setB]
 |b::l,0=>by simp[setB]
 |b::l,i+1=>by
  have:=congrArg Array.toList (zV l i);simp at this;simp[setB,this]
theorem wR:∀(l:List Bool) (i:Nat),(setB l i).length=l.length
 | [],i=>rfl
 |b::l,0=>rfl
 |b::l,i+1=>by simp[setB,wR l i]
theorem qx(l:List Bool):∀es:List Edge,jh l es=true↔∀e∈es,Region.binds .any e=true→l.toArray.getD e.on false=true
 | []=>by simp[jh]
 |e::es=>by
  have ih:=qx l es;unfold jh;rw[aaJ];cases hb:Region.binds .any e with
  |true=>
   cases hg:l.toArray.getD e.on false with
   |true=>simp only[ih,aV,forall_eq_or_imp,hb,hg,true_implies,true_and]
   |false=>
    refine⟨(fun h=>nomatch h),fun h=>?_⟩;have:=h e (aI ..) hb;rw[hg]at this;cases this
  |false=>simp only[ih,aV,forall_eq_or_imp,hb,cJ,false_implies,true_and]
theorem xo{l:List Bool}{j:Nat}:∀{i:Nat} {os:List Oper} {bs:List Bool},j∈rdyG l i os bs↔∃k o,j=i+k∧os[k]?=some o∧bs[k]?=some false∧jh l o.after.toList=true
 |i,[],bs=>by simp[rdyG]
 |i,o::os,[]=>by simp[rdyG]
 |i,o::os,b::bs=>by
  have ih:=xo (l:=l) (j:=j) (i:=i+1) (os:=os) (bs:=bs);have shift:(∃k o',j=i+1+k∧os[k]?=some o'∧bs[k]?=some false∧jh l o'.after.toList=true)→∃k o',j=i+k∧(o::os)[k]?=some o'∧(b::bs)[k]?=some false∧jh l o'.after.toList=true:=by
   rintro⟨k,o',h1,h2,h3,h4⟩;exact⟨k+1,o',by omega,by simpa using h2,by simpa using h3,h4⟩
  have back:∀{k o'},j=i+k→(o::os)[k]?=some o'→(b::bs)[k]?=some false→jh l o'.after.toList=true→k≠0→∃k o',j=i+1+k∧os[k]?=some o'∧bs[k]?=some false∧jh l o'.after.toList=true:=by
   intro k o' h1 h2 h3 h4 h0;obtain⟨k,rfl⟩:∃m,k=m+1:=⟨k-1,by omega⟩;exact⟨k,o',by omega,by simpa using h2,by simpa using h3,h4⟩
  unfold rdyG;cases b with
  |true=>
   simp only;rw[ih];constructor
   ·exact shift
   ·rintro⟨k,o',h1,h2,h3,h4⟩;exact back h1 h2 h3 h4 fun e=>by subst e;simp at h3
  |false=>
   cases ha:jh l o.after.toList with
   |true=>
    simp only[aV];rw[ih];constructor
    ·rintro(rfl|h)
     ·exact⟨0,o,rfl,rfl,rfl,ha⟩
     ·exact shift h
    ·rintro⟨k,o',h1,h2,h3,h4⟩;by_cases h0:k=0
     ·subst h0;exact .inl (by omega)
     ·exact .inr (back h1 h2 h3 h4 h0)
   |false=>
    simp only;rw[ih];constructor
    ·exact shift
    ·rintro⟨k,o',h1,h2,h3,h4⟩;refine back h1 h2 h3 h4 fun e=>?_;subst e;simp only[aZ,am]at h2;subst h2;rw[ha]at h4;cases h4
theorem mY{ops:Array Oper}{l:List Bool}(hl:l.length=ops.size){j:Nat}:j∈Region.ready .any ops l.toArray↔j∈rdyG l 0 ops.toList l:=by
 rw[jG,xo];constructor
 ·rintro⟨h1,o,h2,h3⟩;refine⟨j,o,by omega,by simpa using h2,?_,(qx l _).2 fun e he hb=>h3 e (by simpa using he) hb⟩;have hj:j<l.length:=by rw[hl];exact(ay.1 h2).1
  rw[aB]at h1;rw[ad hj];have:l.toArray[j]?=some l[j]:=by simp[hj]
  rw[this,bG]at h1;rw[h1]
 ·rintro⟨k,o,h0,h1,h2,h3⟩;obtain rfl:j=k:=by omega
  refine⟨?_,o,by simpa using h1,fun e he hb=>(qx l _).1 h3 e (by simpa using he) hb⟩;rw[aB];have:l.toArray[j]?=some false:=by simpa using h2
  rw[this];rfl
theorem uv(E:Env P T J)(EK:EnvK P T)(hX:bK G X.H0)(hM:X.A≤M.A){ops:Array Oper}(hd:∀o∈ops.toList,ib X.N X.A X.np o=true){Q:Exit→Act→World→Prop}{K:St→Prop}:∀(n:Nat) (l:List Bool) (s:St) (κ:Con) (H:Fz) (a:Act) (w:World),l.length=ops.size→WRel X κ H s a w→evWA P T J M G ops n l s K→
 (∀s κ H a w,WRel X κ H s a w→K s→Q .normal a w)→wpAny P .any ops Q n l.toArray a w
 |0,l,s,κ,H,a,w,hl,h,he,hQ=>⟨fK.2 fun j hj=>(by
  have:=(mY hl).1 hj;rw[he.1]at this;cases this),hQ s κ H a w h he.2⟩
 |n+1,l,⟨ts,bs,ps⟩,κ,H,a,w,hl,h,he,hQ=>by
  unfold evWA at he;split at he
  ·rename_i hr;exact⟨fun _=>hQ _ κ H a w h he,fun i hi=>(by rw[mY hl,hr]at hi;cases hi)⟩
  ·rename_i i is hr;refine⟨fun hn=>?_,fun j hj=>?_⟩
   ·have:i∈Region.ready .any ops l.toArray:=(mY hl).2 (by rw[hr];exact aI ..);rw[hn]at this;cases this
   rw[mY hl,hr]at hj;have hj:=yo he j hj;split at hj
   ·rename_i o ho;have hmem:o∈ops.toList:=bi (by simpa using ho);obtain⟨ws,ls,h1,-,h3⟩:=cK hj;rw[writesK_eq]at h1;have hrr:=h3 ⟨ts,bs,ps⟩ ⟨fun _ _=>rfl,fun _ _=>rfl,fun _ _=>rfl⟩;refine nw E EK (hX.mono h.rel.h0) h hM ho (hd o hmem) hrr fun κ' H' a' w' hrel=>?_
    have:=uv E EK hX hM hd n (setB l j) _ κ' H' a' w' ((wR l j).trans hl) hrel h1 hQ;rw[zV]at this;exact this
   ·exact hj.elim
theorem lf(E:Env P T J)(EK:EnvK P T)(hX:bK G X.H0)(hM:X.A≤M.A):∀(c:Code),gC X.N X.A X.np c=true→∀(s:St) (K:Ex→St→Prop) (κ:Con) (H:Fz) (a:Act) (w:World),WRel X κ H s a w→evCW P T J M G c s K→
 ∀(Q:Exit→Act→World→Prop),(∀ex s κ H a w,WRel X κ H s a w→K ex s→Q ex.toExit a w)→c.wp P Q a w:=by
 intro c
 induction c with
 |skip=>intro _ s K κ H a w h he Q hQ;exact wp_skip (hQ .normal s κ H a w h he)
 |region id ops draw=>
  intro hok s K κ H a w h he Q hQ;have hd:∀o∈ops.toList,ib X.N X.A X.np o=true:=fun o ho=>cO.1 hok o ho;unfold evCW at he;split at he
  ·split at he
   ·exact adQ E EK hX hM hd h he hQ
   ·split at he
    ·obtain⟨S,he,hS⟩:=he;have hgo:=uv (Q:=Q) E EK hX hM hd _ _ s κ H a _ (by simp) (zj h) he fun s κ H a w h hk=>?_
     ·rw[List.toArray_replicate]at hgo;exact kB E.any hgo
     obtain⟨s0,hw,hs⟩:=hk;obtain⟨κ',H',h'⟩:=hw X κ H a w h;exact hQ .normal s0 κ' H' a w h' (hS s0 hs)
    rename_i he;obtain⟨W,L,h1,h2,h3,h4,h5⟩:=adR he;simp only[dG]at h3;unfold ja at h3;split at h3
    ·rename_i wt hwt;refine kB E.any ?_;have hdrew:WRel X κ H s a { w with drawn:=w.drawn+1}:=zj h
     refine uK E EK hX hM hd (W:=W) (L:=L) (s0:=s) (by simpa using h1) (by simpa using h2) hwt h3 h4 (fun j o ho=>by obtain⟨ws,ls,m1,m2,m3⟩:=h5 j o (by simpa using ho);exact⟨ws,ls,m1,m2,fun _ _ _ _ _ hh=>m3 _ hh⟩) (fun s κ H a w h hk=>hQ .normal s κ H a w h hk) ops.size (Array.replicate ops.size false) (by simp) (by simp) ?_ κ H a _ ?_
     ·intro j o ho hj;rw[aB]at hj;simp only[dE]at hj;split at hj<;>simp at hj
     ·have:at_ (Array.replicate ops.size false) W s=s:=by
       unfold at_;refine iH W 0 s fun j _=>?_;rw[aB,dE];split<;>rfl
      rw[this];exact hdrew
    ·cases h3
  ·refine wp_region ?_;rw[oD];split at he
   ·rename_i o os hops;have hsz:ops.size=os.length+1:=by rw[←bO,hops];rfl
    have ho:ops[0]?=some o:=by
     have:ops.toList[0]?=some o:=by rw[hops];rfl
     simpa using this
    split at he
    ·rename_i x t hnx;obtain⟨⟨d,g,md,mg,n,seen⟩,ls,h1,-,h3⟩:=cK he;have hr:=h3 s ⟨fun _ _=>rfl,fun _ _=>rfl,fun _ _=>rfl⟩;have hrest:∀(s:St) (κ:Con) (H:Fz) (a:Act) (w:World),WRel X κ H s a w→evWS P T J M G ops os s (K .normal)→wpOps P ops Q (List.range' 1 os.length) a w:=fun s κ H a w h he=>by
      refine ql E EK hX hM hd os 1 (by rw[hops];rfl) s κ H a w h he fun s κ H a w h hk=>hQ .normal s κ H a w h hk
     rw[hsz,gG,lr];unfold wpOp;simp only[ho];obtain⟨hop,hdst,hg⟩:=ade hnx;have hw:Region.wanted o (yielded ops a.tmps)=true:=by simp[Region.wanted,hg]
     rw[if_pos hw];left;have ht:=oJ (oK (hd o (by rw[hops];exact aI ..))) t hdst;have hnp:=rX (hd o (by rw[hops];exact aI ..)) t hdst;refine abm (hX.mono h.rel.h0) h hop hr (fun hall=>?_) (fun i hi hni κ' H' w' k v h'=>?_)
     ·rw[hdst];exact hrest _ κ H _ w (nd h ht hnp (.tup _ [.bool false] rfl fun j v u a1 a2=>by
       cases j with
       |zero=>simp at a1 a2;subst a1;subst a2;exact bP rfl
       |succ j=>simp at a1)) (h1.1 hall)
     ·rw[hdst];exact hrest _ κ' H' _ w' (nd h' ht hnp (.tup _ [.bool true,k,v] rfl fun j v u a1 a2=>by
       match j with
       |0=>simp at a1 a2;subst a1;subst a2;exact bP rfl
       |1=>simp at a1;subst a1;exact .undef _
       |2=>simp at a1;subst a1;exact .undef _
       |j+3=>simp at a1)) (h1.2 i hi hni)
    ·have:=ql E EK hX hM hd (Q:=Q) (K:=K .normal) ops.toList 0 rfl s κ H a w h (by rw[hops];exact he) fun s κ H a w h hk=>hQ .normal s κ H a w h hk;simpa using this
   ·rename_i hops;have:ops.size=0:=by rw[←bO,hops];rfl
    rw[this];exact hQ .normal s κ H a w h he
 |seq x y ihx ihy=>
  intro hok s K κ H a w h he Q hQ;simp only[gC,aw]at hok;refine wp_seq (ihx hok.1 s _ κ H a w h he _ fun ex s κ H a w h hk=>?_);cases ex with
  |normal=>exact ihy hok.2 s K κ H a w h hk Q hQ
  |exit i=>exact hQ (.exit i) s κ H a w h hk
  |ret=>exact hQ .ret s κ H a w h hk
 |cond c x y ihx ihy=>
  intro hok s K κ H a w h he Q hQ;simp only[gC,aw]at hok;simp only[evCW]at he;obtain⟨v,ls,h1,-,h3⟩:=cK he;have hv:=jr (hX.mono h.rel.h0) h.rel (h3 s ⟨fun _ _=>rfl,fun _ _=>rfl,fun _ _=>rfl⟩);split at h1
  ·rename_i t;have hb:=(cN hv).1;cases t with
   |true=>exact wp_cond_true hb (ihx hok.1 s K κ H a w h h1 Q hQ)
   |false=>exact wp_cond_false hb (ihy hok.2 s K κ H a w h h1 Q hQ)
  ·obtain⟨t,hb⟩:=adu hv;cases t with
   |true=>exact wp_cond_true hb (ihx hok.1 s K κ H a w h h1.1 Q hQ)
   |false=>exact wp_cond_false hb (ihy hok.2 s K κ H a w h h1.2 Q hQ)
  ·exact h1.elim
 |block id b ih=>
  intro hok s K κ H a w h he Q hQ;refine wp_block (ih hok s _ κ H a w h he _ fun ex s κ H a w h hk=>?_);cases ex with
  |normal=>exact hQ .normal s κ H a w h hk
  |exit i=>
   show(if i=id then Q .normal a w else Q (.exit i) a w);simp only at hk;split at hk
   ·rename_i hi;rw[if_pos (aP hi)];exact hQ .normal s κ H a w h hk
   ·rename_i hi;rw[if_neg (eZ hi)];exact hQ (.exit i) s κ H a w h hk
  |ret=>exact hQ .ret s κ H a w h hk
 |loop b ih=>
  intro hok s K κ H a w h he Q hQ;simp only[evCW]at he;obtain⟨I,⟨n0,s0,hw0,hI0⟩,hround⟩:=he
  let In:Act→World→Nat→Prop:=fun a w n=>∃s κ H,WRel X κ H s a w∧I n s
  refine wp_loop (fun a w=>∃n,In a w n) (fun a w=>measure (In a w)) ?_ fun a w hI=>?_
  ·obtain⟨κ',H',h'⟩:=hw0 X κ H a w h;exact⟨n0,s0,κ',H',h',hI0⟩
  ·obtain⟨⟨s,κ,H,h,hIs⟩,hmin⟩:=jB hI;refine ih hok s _ κ H a w h (hround _ s hIs) _ fun ex s κ H a w h hk=>?_;cases ex with
   |normal=>
    obtain⟨m,s0,hm,hw,hIm⟩:=hk;obtain⟨κ',H',h'⟩:=hw X κ H a w h;have hex:∃n,In a w n:=⟨m,s0,κ',H',h',hIm⟩;exact⟨hex,hE ((jB hex).2 m ⟨s0,κ',H',h',hIm⟩) hm⟩
   |exit i=>exact hQ (.exit i) s κ H a w h hk
   |ret=>exact hQ .ret s κ H a w h hk
 |exit id=>intro _ s K κ H a w h he Q hQ;exact wp_exit (hQ (.exit id) s κ H a w h he)
 |ret=>intro _ s K κ H a w h he Q hQ;exact wp_ret (hQ .ret s κ H a w h he)
 |rangeFunc=>intro _ s K κ H a w h he;exact he.elim
 |scope=>intro _ s K κ H a w h he;exact he.elim
 |label=>intro _ s K κ H a w h he;exact he.elim
 |goto=>intro _ s K κ H a w h he;exact he.elim
 |refuse=>intro _ s K κ H a w h he;exact he.elim
end
end
def AB(i j:Nat):Nat:=1500+16*i+j
def capW(i:Nat):Nat→List AC→Rd (List AC×List Wr)
 |_,[]=>.ret ([],[])
 |j,.obox ty cs::l=>match Nat.blt cs.length 64&&Nat.blt j 16&&Nat.blt i 32 with
  |true=>(unfL (AB i j) 0 cs).bind fun(cs',ws)=>(capW i (j+1) l).bind fun(l',ws')=>.ret (.ptr (AB i j) 0 0::l',(ws++[.box (AB i j) ⟨0,ty,cs'⟩])++ws')
  |false=>.none
 |j,c::l=>match jt c with
  |some c=>(capW i (j+1) l).bind fun(l',ws')=>.ret (c::l',ws')
  |none=>.none
def aeH(i:Nat)(a:AV):Rd (AV×List Wr):=match a with
 | .one (.obox ty cs)=>(capW i 0 [.obox ty cs]).bind fun
  |([c],ws)=>.ret (.one c,ws)
  |_=>.none
 | .one (.clo f cs)=>(capW i 0 cs).bind fun(cs,ws)=>.ret (.one (.clo f cs),ws)
 | .one (.own e sz xs)=>(unfC (3000+i) (.own e sz xs)).bind fun(c,ws)=>.ret (.one c,ws)
 | .one (.uf n p)=>(unfC (3000+i) (.uf n p)).bind fun(c,ws)=>.ret (.one c,ws)
 | .one (.omap z ks vs)=>(unfC (3000+i) (.omap z ks vs)).bind fun(c,ws)=>.ret (.one c,ws)
 | .one (.omrow z e sz ks yss)=>(unfC (3000+i) (.omrow z e sz ks yss)).bind fun(c,ws)=>.ret (.one c,ws)
 |a=>match iy a with
  |some a=>.ret (a,[])
  |none=>.none
def qw:Nat→List AV→Rd (List AV×List Wr)
 |_,[]=>.ret ([],[])
 |i,a::Qa=>match Nat.blt i 32 with
  |true=>(aeH i a).bind fun(v,ws)=>(qw (i+1) Qa).bind fun(vs,ws')=>.ret (v::vs,ws++ws')
  |false=>.none
def tmpW:Nat→List AV→List Wr
 |_,[]=>[]
 |i,v::vs=>.tmp i v::tmpW (i+1) vs
structure StA(X:Ctx)(H:Fz)(a:Act)(w:World)(κ:Con)(s:St)(ft:Nat→List Nat)(D B:Nat→Prop)(bs:List Nat)(κ':Con)(s':St)(ft':Nat→List Nat):Prop where
 wrf:WRf X κ' H s' a w ft'
 le:Con.le κ κ'
 nr:∀x,¬D x→κ'.nr x=κ.nr x
 nb:∀x,¬B x→κ'.nb x=κ.nb x
 fr:∀k,k∉bs→Fr0 X κ s w ft k→Fr0 X κ' s' w ft' k
section
variable{P:Program}{T:Tab}{J:Kn}{M:Md}{G:Nat→Option (List AC)}{X:Ctx}{κ κ0:Con}{H H0:Fz}{s s0:St}{a a0:Act}{w w0:World}{ft:Nat→List Nat}
theorem StA.refl(h:WRf X κ H s a w ft)(D B:Nat→Prop)(bs:List Nat):StA X H a w κ s ft D B bs κ s ft:=⟨h,Con.le_refl κ,fun _ _=>rfl,fun _ _=>rfl,fun _ _ h=>h⟩
theorem StA.trans{κ1 κ2:Con}{s1 s2:St}{f1 f2:Nat→List Nat}{D D1 D2 B B1 B2:Nat→Prop}{bs b1 b2:List Nat}(h:StA X H a w κ s ft D1 B1 b1 κ1 s1 f1)(k:StA X H a w κ1 s1 f1 D2 B2 b2 κ2 s2 f2)
 (hD:∀x,D1 x∨D2 x→D x) (hB:∀x,B1 x∨B2 x→B x) (hb:∀x,x∈b1∨x∈b2→x∈bs):StA X H a w κ s ft D B bs κ2 s2 f2 where
 wrf:=k.wrf
 le:=Con.le_trans h.le k.le
 nr:=fun x hx=>(k.nr x fun e=>hx (hD x (.inr e))).trans (h.nr x fun e=>hx (hD x (.inl e)))
 nb:=fun x hx=>(k.nb x fun e=>hx (hB x (.inr e))).trans (h.nb x fun e=>hx (hB x (.inl e)))
 fr:=fun x hx hf=>k.fr x (fun e=>hx (hb x (.inr e))) (h.fr x (fun e=>hx (hb x (.inl e))) hf)
theorem Stp.toA{κ':Con}{s':St}{ft':Nat→List Nat}{D B:Nat→Prop}{bs:List Nat}(h:Stp X H a w κ s ft D B bs κ' s' ft')(B':Nat→Prop):StA X H a w κ s ft D B' bs κ' s' ft':=⟨h.wrf,h.le,h.nr,fun x _=>h.nb x,h.fr⟩
theorem afa(h:WRf X κ H s a w ft){d ty k:Nat}{cs:List AC}(hA:X.A≤d∧d<2048)(hin:gO κ H w k ty cs)(hfr:Fr0 X κ s w ft k):
 StA X H a w κ s ft (fun _=>False) (· =d) [k] (κ.addBox d k) (s.write (.box d ⟨κ.nb d,ty,cs⟩)) ft∧ACr (κ.addBox d k) H (.ptr d (κ.nb d) 0) (.pointer (some ⟨k,0,none⟩)):=by
 obtain⟨m1,m2⟩:=h.rel.addBox (d:=d) (ty:=ty) (b0:=k) (cells:=cs) hin hfr.box hfr.tail hfr.pr hA;have hle:=κ.le_addBox d k;have hbx:∀d' b,find d' (putB d ⟨κ.nb d,ty,cs⟩ s.boxes)=some b→(d'=d∧(κ.addBox d k).blk d' b.gen=k)∨∃b0,find d' s.boxes=some b0∧(κ.addBox d k).blk d' b.gen=κ.blk d' b0.gen:=by
  intro d' b e;rw[cD]at e;split at e
  ·rename_i hd;subst hd;cases e;exact .inl ⟨rfl,by simp[Con.addBox]⟩
  ·exact .inr ⟨b,e,hle.blk d' b.gen (by have:=(h.rel.box d' b e).1;omega)⟩
 refine⟨⟨⟨m1,?_,h.n⟩,hle,fun _ _=>rfl,fun x hx=>by simp[Con.addBox,hx],fun k' hk' hf=>⟨hf.lt,hf.pr,fun d' b e=>?_,hf.tail,hf.ob⟩⟩,m2⟩
 ·refine h.obs.upd h.rel [] hle (Fz.le_refl H) (fun _ _ _ _=>⟨rfl,rfl⟩) (au _) (fun _ _=>rfl) (fun d' b e=>?_) (fun d' p e hl=>.inl ⟨p,e,hl,rfl⟩) (fun _ _=>rfl) (fun x hx=>by cases hx) (fun x hx=>by cases hx) (fun x hx=>by cases hx) (fun x hx=>by cases hx)
  rcases hbx d' b e with⟨-,hq⟩|⟨b0,e0,hq⟩
  ·exact .inr fun x hx=>hfr.ob x (hq▸hx)
  ·exact .inl ⟨b0,e0,hq⟩
 ·rcases hbx d' b e with⟨-,hq⟩|⟨b0,e0,hq⟩
  ·rw[hq];exact fun e=>hk' (by simp[e])
  ·rw[hq];exact hf.box d' b0 e0
def capD(i j:Nat)(x:Nat):Prop:=∃j' k,j≤j'∧j'<16∧k<64∧x=eV (AB i j') k
def capB(i j:Nat)(x:Nat):Prop:=∃j',j≤j'∧j'<16∧x=AB i j'
theorem zx{i j:Nat}{c:AC}{l:List AC}(h:∀ty cs,c≠ .obox ty cs):capW i j (c::l)=(match jt c with
 |some c=>(capW i (j+1) l).bind fun(l',ws')=>.ret (c::l',ws')
 |none=>.none):=by
 cases c<;>first|rfl|exact absurd rfl (h _ _)
theorem vZ(h0:Rel X Con.no H0 s0 a0 w0)(hA:X.A=0){i:Nat}:∀{cs cs':List AC} {j:Nat} {ws:List Wr} {us:List Value} {bss:List (List Nat)} {κ:Con} {s:St} {ft:Nat→List Nat},WRf X κ H s a w ft→Runs P G s0 (capW i j cs) (cs',ws)→
 (∀x,capD i j x→κ.nr x=0)→(∀x,capB i j x→κ.nb x=0)→us.length=cs.length→bss.length=cs.length→(∀(j:Nat) (c:AC) (u:Value) (bj:List Nat),cs[j]?=some c→us[j]?=some u→bss[j]?=some bj→TrR H w c u bj)→bss.flatten.Nodup→(∀k∈bss.flatten,Fr0 X κ s w ft k)→
 ∃κ' ft',StA X H a w κ s ft (capD i j) (capB i j) bss.flatten κ' (s.writes ws) ft'∧Cs κ' H cs' us
 | [],cs',j,ws,us,bss,κ,s,ft,h,hr,_,_,hl,hl2,_,_,_=>by
  simp only[capW,Runs,ai]at hr;obtain⟨rfl,rfl⟩:=hr;obtain rfl:=aK hl;exact⟨κ,ft,StA.refl h _ _ _,.nil⟩
 |c::cs,cs',j,ws,[],bss,κ,s,ft,h,hr,_,_,hl,hl2,ht,hnd,hf=>by simp at hl
 |c::cs,cs',j,ws,u::us,[],κ,s,ft,h,hr,_,_,hl,hl2,ht,hnd,hf=>by simp at hl2
 |c::cs,cs',j,ws,u::us,b::bss,κ,s,ft,h,hr,hnr,hnb,hl,hl2,ht,hnd,hf=>by
  have ht0:=ht 0 c u b rfl rfl rfl;have ht':∀(j:Nat) (c:AC) (u:Value) (bj:List Nat),cs[j]?=some c→us[j]?=some u→bss[j]?=some bj→TrR H w c u bj:=fun j c u bj a1 a2 a3=>ht (j+1) c u bj (by simpa using a1) (by simpa using a2) (by simpa using a3);rw[aO]at hnd hf
  obtain⟨n1,n2,n3⟩:=aU.1 hnd;have plain:∀{c'},jt c=some c'→∀{cs1 ws1},Runs P G s0 (capW i (j+1) cs) (cs1,ws1)→∃κ' ft',StA X H a w κ s ft (capD i j) (capB i j) (b::bss).flatten κ' (s.writes ws1) ft'∧Cs κ' H (c'::cs1) (u::us):=by
   intro c' hk cs1 ws1 r;obtain⟨κ1,f1,k1,k2⟩:=vZ h0 hA (us:=us) (bss:=bss) h r (fun x ⟨j',k,q1,q2,q3,q4⟩=>hnr x ⟨j',k,by omega,q2,q3,q4⟩) (fun x ⟨j',q1,q2,q3⟩=>hnb x ⟨j',by omega,q2,q3⟩) (by simpa using hl) (by simpa using hl2) ht' n2 (fun k hk=>hf k (aQ _ hk))
   refine⟨κ1,f1,k1.trans (StA.refl k1.wrf (fun _=>False) (fun _=>False) []) (fun x hx=>?_) (fun x hx=>?_) (fun x hx=>?_),.cons ?_ k2⟩
   ·obtain⟨j',k,q1,q2⟩:=hx.elim id False.elim;exact⟨j',k,by omega,q2⟩
   ·obtain⟨j',q1,q2⟩:=hx.elim id False.elim;exact⟨j',by omega,q2⟩
   ·rw[aO];exact aQ _ (hx.elim id fun h=>by cases h)
   ·cases ht0 with
    |pers _ _ hc=>exact(fR hk hc).mono (Con.no_le κ1) (Fz.le_refl H)
    |own=>cases hk
    |omap=>cases hk
    |omrow=>cases hk
    |uf=>cases hk
    |bld=>cases hk
    |obox=>cases hk
    |clo _ cc us bss hl0 hl20 hh=>
     cases cc with
     |nil=>
      obtain rfl:=aK hl0;exact(fR (κ:=Con.no) (H:=H) hk (.clo _ [] [] rfl (by simp))).mono (Con.no_le κ1) (Fz.le_refl H)
     |cons=>cases hk
  by_cases hq:∃ty cc,c= .obox ty cc
  ·obtain⟨ty,cc,rfl⟩:=hq;unfold capW at hr;split at hr
   ·rename_i hck;simp only[aw]at hck;have hlen:cc.length<64:=by simpa [dp]using hck.1.1
    have hj:j<16:=by simpa [dp]using hck.1.2
    have hi:i<32:=by simpa [dp]using hck.2
    obtain⟨⟨cc',ws1⟩,r1,hr⟩:=az hr;obtain⟨⟨l',ws2⟩,r2,hr⟩:=az hr;simp only[Runs,ai]at hr;obtain⟨rfl,rfl⟩:=hr;cases ht0 with
    |pers _ _ hc=>cases hc
    |obox _ _ k us0 bss0 h1 h2 h3 h4 h5=>
     obtain⟨m1,m2⟩:=bF.1 n1;obtain⟨κ1,f1,k1,k2⟩:=uN h0 h r1 (fun j' _ hj'=>hnr _ ⟨j,j',au _,hj,by omega,rfl⟩) h3 h4 h5 m2 fun k hk=>hf k (aL _ (aD _ hk));have hfr:=k1.fr k m1 (hf k (aL _ (aI ..)))
     have hnb1:κ1.nb (AB i j)=0:=(k1.nb _).trans (hnb _ ⟨j,au _,hj,rfl⟩);obtain⟨z1,z2⟩:=afa k1.wrf (d:=AB i j) (ty:=ty) (k:=k) (cs:=cc') ⟨by omega,by unfold AB;omega⟩ ⟨h1,us0,h2,k2⟩ hfr;rw[hnb1]at z1 z2
     have z3:=(k1.toA (capB i j)).trans z1 (D:=capD i j) (B:=capB i j) (bs:=k::bss0.flatten) (fun x hx=>by
      rcases hx with⟨j',q1,q2,rfl⟩|hx
      ·exact⟨j,j',au _,hj,by omega,rfl⟩
      ·exact hx.elim) (fun x hx=>hx.elim id fun e=>⟨j,au _,hj,e⟩) (fun x hx=>hx.elim (fun h=>aD _ h) fun h=>by simp at h;simp[h])
     obtain⟨κ2,f2,y1,y2⟩:=vZ h0 hA (us:=us) (bss:=bss) z1.wrf r2 (fun x ⟨j',k',q1,q2,q3,q4⟩=>by
      rw[z1.nr x (fun h=>h),k1.nr x (fun⟨j2,p1,p2,p3⟩=>by
       obtain⟨e1,-⟩:=jD (q4.symm.trans p3) q3 (by omega);unfold AB at e1;omega)]
      exact hnr x ⟨j',k',by omega,q2,q3,q4⟩)
      (fun x ⟨j',q1,q2,q3⟩=>by
       rw[z1.nb x (fun e=>by rw[q3]at e;unfold AB at e;omega),k1.nb x];exact hnb x ⟨j',by omega,q2,q3⟩) (by simpa using hl) (by simpa using hl2) ht' n2 (fun k' hk'=>z3.fr k' (fun e=>n3 k' e k' hk' rfl) (hf k' (aQ _ hk')))
     refine⟨κ2,f2,?_,.cons (z2.mono y1.le (Fz.le_refl H)) y2⟩;rw[bQ,bQ];exact z3.trans y1 (fun x hx=>hx.elim id fun⟨j',k',q1,q2⟩=>⟨j',k',by omega,q2⟩) (fun x hx=>hx.elim id fun⟨j',q1,q2⟩=>⟨j',by omega,q2⟩) (fun x hx=>by rw[aO];exact aM.2 hx)
   ·exact hr.elim
  ·rw[zx fun ty cc e=>hq ⟨ty,cc,e⟩]at hr;split at hr
   ·rename_i c' hk;obtain⟨⟨l',ws2⟩,r2,hr⟩:=az hr;simp only[Runs,ai]at hr;obtain⟨rfl,rfl⟩:=hr;exact plain hk r2
   ·exact hr.elim
def argD(i x:Nat):Prop:=capD i 0 x∨x=3000+i
theorem agf(h0:Rel X Con.no H0 s0 a0 w0)(hA:X.A=0)(h:WRf X κ H s a w ft){i:Nat}{av v:AV}{ws:List Wr}{u:Value}{bs:List Nat}(hr:Runs P G s0 (aeH i av) (v,ws))(hnr:∀x,argD i x→κ.nr x=0)(hnb:∀x,capB i 0 x→κ.nb x=0)(ht:ArgW H w av u bs)(hnd:bs.Nodup)(hf:∀k∈bs,Fr0 X κ s w ft k):
 ∃κ' ft',StA X H a w κ s ft (argD i) (capB i 0) bs κ' (s.writes ws) ft'∧AVr κ' H v u:=by
 have ob:∀{c c':AC} {ws:List Wr},TrR H w c u bs→Runs P G s0 (unfC (3000+i) c) (c',ws)→∃κ' ft',StA X H a w κ s ft (argD i) (capB i 0) bs κ' (s.writes ws) ft'∧AVr κ' H (.one c') u:=by
  intro c c' ws ht r;obtain⟨κ1,f1,k1,k2⟩:=abM h0 h r ((hnr _ (.inr rfl)).trans rfl) ht hnd hf
  exact⟨κ1,f1,(k1.toA (capB i 0)).trans (StA.refl k1.wrf (fun _=>False) (fun _=>False) []) (fun x hx=>.inr (hx.elim id False.elim)) (fun x hx=>hx.elim id False.elim) (fun x hx=>hx.elim id fun h=>by cases h),.one _ _ k2⟩
 unfold aeH at hr;split at hr
 ·rename_i ty cs;obtain⟨⟨l,ws1⟩,r1,hr⟩:=az hr;split at hr
  ·rename_i c ws2 hq;cases hq;simp only[Runs,ai]at hr;obtain⟨rfl,rfl⟩:=hr;obtain⟨κ1,f1,k1,k2⟩:=vZ h0 hA (us:=[u]) (bss:=[bs]) h r1 (fun x hx=>hnr x (.inl hx)) hnb rfl rfl (fun j c u bj a1 a2 a3=>by
    cases j with
    |zero=>simp at a1 a2 a3;subst a1;subst a2;subst a3;exact ht
    |succ j=>simp at a1) (by simpa using hnd) (by simpa using hf)
   refine⟨κ1,f1,k1.trans (StA.refl k1.wrf (fun _=>False) (fun _=>False) []) (fun x hx=>.inl (hx.elim id False.elim)) (fun x hx=>hx.elim id False.elim) (fun x hx=>by simpa using hx),.one _ _ (k2.2 0 c u rfl rfl)⟩
  ·exact hr.elim
 ·rename_i f cs;obtain⟨⟨l,ws1⟩,r1,hr⟩:=az hr;simp only[Runs,ai]at hr;obtain⟨rfl,rfl⟩:=hr
  have hcl:∃(us:List Value) (bss:List (List Nat)),u= .func (.func f) #[] us.toArray∧bs=bss.flatten∧us.length=cs.length∧bss.length=cs.length∧∀(j:Nat) (c:AC) (u:Value) (bj:List Nat),cs[j]?=some c→us[j]?=some u→bss[j]?=some bj→TrR H w c u bj:=by
   have ht:TrR H w (.clo f cs) u bs:=ht;cases ht with
   |pers _ _ hc=>
    cases hc with
    |clo _ _ us hl2 hr2=>
     refine⟨us,List.replicate cs.length [],rfl,by simp,hl2,by simp,fun j c u bj a1 a2 a3=>?_⟩;rw[eI]at a3;split at a3
     ·cases a3;exact .pers c u (hr2 j c u a1 a2)
     ·cases a3
   |clo _ _ us bss h1 h2 h3=>exact⟨us,bss,rfl,rfl,h1,h2,h3⟩
  obtain⟨us,bss,rfl,rfl,hl,hl2,ht'⟩:=hcl;obtain⟨κ1,f1,k1,k2⟩:=vZ h0 hA (us:=us) (bss:=bss) h r1 (fun x hx=>hnr x (.inl hx)) hnb hl hl2 ht' hnd hf
  exact⟨κ1,f1,k1.trans (StA.refl k1.wrf (fun _=>False) (fun _=>False) []) (fun x hx=>.inl (hx.elim id False.elim)) (fun x hx=>hx.elim id False.elim) (fun x hx=>by simpa using hx),.one _ _ (.clo f l us k2.1 k2.2)⟩
 ·obtain⟨⟨c,ws1⟩,r1,hr⟩:=az hr;simp only[Runs,ai]at hr;obtain⟨rfl,rfl⟩:=hr;exact ob ht r1
 ·obtain⟨⟨c,ws1⟩,r1,hr⟩:=az hr;simp only[Runs,ai]at hr;obtain⟨rfl,rfl⟩:=hr;exact ob ht r1
 ·obtain⟨⟨c,ws1⟩,r1,hr⟩:=az hr;simp only[Runs,ai]at hr;obtain⟨rfl,rfl⟩:=hr;exact ob ht r1
 ·obtain⟨⟨c,ws1⟩,r1,hr⟩:=az hr;simp only[Runs,ai]at hr;obtain⟨rfl,rfl⟩:=hr;exact ob ht r1
 ·split at hr
  ·rename_i a' hk;simp only[Runs,ai]at hr;obtain⟨rfl,rfl⟩:=hr;refine⟨κ,ft,StA.refl h _ _ _,?_⟩;cases av with
   |one c=>
    have ht:TrR H w c u bs:=ht;cases ht with
    |pers _ _ hc=>exact(dO hk (.one _ _ hc)).mono (Con.no_le κ) (Fz.le_refl H)
    |own=>cases hk
    |omap=>cases hk
    |omrow=>cases hk
    |uf=>cases hk
    |bld=>cases hk
    |obox=>cases hk
    |clo f cs us bss hl hl2 hh=>rename_i hno _ _ _ _;exact absurd rfl (hno f cs)
   |undef=>cases hk
   |agg cs=>exact(dO hk ht.1).mono (Con.no_le κ) (Fz.le_refl H)
   |tup=>cases hk
   |ob=>cases hk
  ·exact hr.elim
end
section
variable{P:Program}{T:Tab}{J:Kn}{M:Md}{G:Nat→Option (List AC)}{X:Ctx}{κ κ0:Con}{H H0:Fz}{s s0:St}{a a0:Act}{w w0:World}{ft:Nat→List Nat}
theorem aeQ{i i' j j':Nat}(h:AB i j=AB i' j')(hj:j<16)(hj':j'<16):i=i'∧j=j':=by unfold AB at h;omega
theorem tf(h0:Rel X Con.no H0 s0 a0 w0)(hA:X.A=0):∀{Qa vs:List AV} {i:Nat} {ws:List Wr} {us:List Value} {bss:List (List Nat)} {κ:Con} {s:St} {ft:Nat→List Nat},WRf X κ H s a w ft→Runs P G s0 (qw i Qa) (vs,ws)→
 (∀i',i≤i'→i'<32→∀x,argD i' x→κ.nr x=0)→(∀i',i≤i'→i'<32→∀x,capB i' 0 x→κ.nb x=0)→ky H w Qa us bss→bss.flatten.Nodup→(∀k∈bss.flatten,Fr0 X κ s w ft k)→
 ∃κ' ft',WRf X κ' H (s.writes ws) a w ft'∧Con.le κ κ'∧vs.length=us.length∧∀(j:Nat) (v:AV) (u:Value),vs[j]?=some v→us[j]?=some u→AVr κ' H v u
 | [],vs,i,ws,us,bss,κ,s,ft,h,hr,_,_,ha,_,_=>by
  simp only[qw,Runs,ai]at hr;obtain⟨rfl,rfl⟩:=hr;cases us with
  |nil=>exact⟨κ,ft,h,Con.le_refl κ,rfl,by simp⟩
  |cons=>cases bss<;>exact ha.elim
 |av::Qa,vs,i,ws,[],bss,κ,s,ft,h,hr,_,_,ha,_,_=>by cases bss<;>exact ha.elim
 |av::Qa,vs,i,ws,u::us,[],κ,s,ft,h,hr,_,_,ha,_,_=>by exact ha.elim
 |av::Qa,vs,i,ws,u::us,b::bss,κ,s,ft,h,hr,hnr,hnb,ha,hnd,hf=>by
  unfold qw at hr;split at hr
  ·rename_i hi;obtain⟨⟨v,ws1⟩,r1,hr⟩:=az hr;obtain⟨⟨vs',ws2⟩,r2,hr⟩:=az hr;simp only[Runs,ai]at hr;obtain⟨rfl,rfl⟩:=hr;rw[aO]at hnd hf;obtain⟨n1,n2,n3⟩:=aU.1 hnd;have hi:i<32:=by simpa [dp]using hi
   obtain⟨κ1,f1,k1,k2⟩:=agf h0 hA h r1 (hnr i (au _) hi) (hnb i (au _) hi) ha.1 n1 (fun k hk=>hf k (aL _ hk));obtain⟨κ2,f2,m1,m2,m3,m4⟩:=tf h0 hA k1.wrf r2 (fun i' hi' hi3 x hx=>by
    rw[k1.nr x fun hx'=>?_]
    ·exact hnr i' (by omega) hi3 x hx
    ·rcases hx with⟨j,k,q1,q2,q3,q4⟩|rfl<;>rcases hx' with⟨j',k',p1,p2,p3,p4⟩|hx'
     ·obtain⟨e,-⟩:=jD (q4.symm.trans p4) q3 p3;have:=(aeQ e q2 p2).1;omega
     ·subst hx';unfold eV AB at q4;omega
     ·unfold eV AB at p4;omega
     ·omega)
    (fun i' hi' hi3 x hx=>by
     rw[k1.nb x fun hx'=>?_]
     ·exact hnb i' (by omega) hi3 x hx
     ·obtain⟨j,q1,q2,q3⟩:=hx;obtain⟨j',p1,p2,p3⟩:=hx';have:=(aeQ (q3.symm.trans p3) q2 p2).1;omega) ha.2 n2 (fun k hk=>k1.fr k (fun e=>n3 k e k hk rfl) (hf k (aQ _ hk)))
   refine⟨κ2,f2,by rw[bQ];exact m1,Con.le_trans k1.le m2,by simp[m3],fun j v' u' a1 a2=>?_⟩;cases j with
   |zero=>simp at a1 a2;subst a1;subst a2;exact k2.mono m2 (Fz.le_refl H)
   |succ j=>exact m4 j v' u' (by simpa using a1) (by simpa using a2)
  ·exact hr.elim
theorem nT:∀{vs:List AV} {i:Nat} {s:St},WRel X κ H s a w→i+vs.length≤2048→(∀(j:Nat) (v:AV),vs[j]?=some v→AVr κ H v (a.tmps.getD (i+j) undef))→WRel X κ H (s.writes (tmpW i vs)) a w
 | [],i,s,h,_,_=>h
 |v::vs,i,s,h,hl,hv=>by
  have hl:i+(vs.length+1)≤2048:=hl;refine nT (vs:=vs) (i:=i+1) (s:=s.write (.tmp i v)) ?_ (by omega) fun j v' hj=>by
   have:=hv (j+1) v' (by simpa using hj)
   rwa [show i+1+j=i+(j+1) by omega]
  obtain⟨ft,h⟩:=h.f;refine⟨{ h.rel with size:=h.rel.size,defers:=h.rel.defers,tmps:=fun t x e=>?_},⟨ft,?_⟩,h.n⟩
  ·simp only[St.write,cW]at e;split at e
   ·rename_i hi;cases e;subst hi;exact hv 0 v rfl
   ·exact h.rel.tmps t x e
  ·refine h.obs.upd h.rel [] (Con.le_refl κ) (Fz.le_refl H) (fun _ _ _ _=>⟨rfl,rfl⟩) (au _) (fun x _=>?_) (fun d b e=>.inl ⟨b,e,rfl⟩) (fun d p e hl=>.inl ⟨p,e,hl,rfl⟩) (fun _ _=>rfl) (fun x hx=>by cases hx) (fun x hx=>by cases hx) (fun x hx=>by cases hx) (fun x hx=>by cases hx)
   exact bV (by unfold OB;omega) _ _
abbrev It2:=It ⊕ Nat
def it1(l:List It2):List It:=l.filterMap Sum.getLeft?
def itR(l:List It2):List Nat:=l.filterMap Sum.getRight?
def lc(κ:Con)(s:St)(ft:Nat→List Nat):It2→List Nat
 | .inl x=>gq κ ft x
 | .inr d=>match find d s.perms with
  |some p=>(κ.row d p.gen).ownBlock.toList
  |none=>[]
def ok2(κ:Con)(s:St):It2→Prop
 | .inl x=>okI κ s x
 | .inr d=>∃p,find d s.perms=some p∧p.live=true
theorem rh(l l':List It2):it1 (l++l')=it1 l++it1 l':=gm
theorem aaB(l l':List It2):itR (l++l')=itR l++itR l':=gm
theorem rf:∀l:List It,it1 (l.map Sum.inl)=l
 | []=>rfl
 |x::l=>by
  show x::it1 (l.map Sum.inl)=_;rw[rf l]
theorem vG:∀l:List It,itR (l.map Sum.inl)=[]
 | []=>rfl
 |x::l=>by
  show itR (l.map Sum.inl)=_;rw[vG l]
theorem nj{d k:Nat}(h:k∈lc κ s ft (.inr d)):∃p,find d s.perms=some p∧(κ.row d p.gen).ownBlock=some k:=by
 simp only[lc]at h;split at h
 ·rename_i p hp;exact⟨p,hp,by simpa using h⟩
 ·cases h
theorem adM(h:WRf X κ H s a w ft){x:It2}(hx:ok2 κ s x):∀k∈lc κ s ft x,¬X.Pr k:=by
 intro k hk;cases x with
 |inl x=>
  cases x with
  |inl x=>
   obtain rfl:=ax.1 hk;exact h.rel.pb _ _ hx
  |inr x=>exact(h.obs.blk x.1 k hk).2.2.1
 |inr d=>
  obtain⟨p,hp,hq⟩:=nj hk;obtain⟨p',hp',hl⟩:=hx;rw[hp]at hp';cases hp';exact h.rel.pr d p k hp hl hq
theorem tK(h:WRf X κ H s a w ft){x:It}{d k:Nat}(hx:okI κ s x)(hd:ok2 κ s (.inr d))(h1:k∈gq κ ft x)(h2:k∈lc κ s ft (.inr d)):False:=by
 obtain⟨p,hp,hq⟩:=nj h2;obtain⟨p',hp',hl⟩:=hd;rw[hp]at hp';cases hp';cases x with
 |inl x=>
  obtain rfl:=ax.1 h1;exact h.rel.br _ _ _ _ hx hp hl hq
 |inr x=>exact(h.obs.blk x.1 k h1).2.2.2.2 d p hp hl hq
theorem mB(h:WRf X κ H s a w ft):∀{l:List It2},(∀x∈l,ok2 κ s x)→((itB (it1 l)).map (·.1)).Nodup→((itO (it1 l)).map (·.1)).Nodup→(itR l).Nodup→(l.flatMap (lc κ s ft)).Nodup
 | [],_,_,_,_=>by simp
 |x::l,hok,h1,h2,h3=>by
  rw[de];have hok':∀x∈l,ok2 κ s x:=fun y hy=>hok y (aD _ hy);have hx:=hok x (aI ..);have hits:∀y∈it1 l,okI κ s y:=fun y hy=>by
   obtain⟨z,hz,e⟩:=dq.1 hy;cases z with
   |inl z=>simp only[Sum.getLeft?_inl,am]at e;subst e;exact hok' _ hz
   |inr z=>simp at e
  cases x with
  |inl x=>
   have e1:it1 (.inl x::l)=x::it1 l:=rfl;have e2:itR (.inl x::l)=itR l:=rfl;rw[e1]at h1 h2;rw[e2]at h3;have hn:=lI h (l:=x::it1 l) (fun y hy=>by
    rcases aV.1 hy with rfl|hy
    ·exact hx
    ·exact hits y hy) h1 h2
   rw[de]at hn;obtain⟨m1,m2,m3⟩:=aU.1 hn;have q1:((itB (it1 l)).map (·.1)).Nodup:=by
    cases x with
    |inl x=>exact(bF.1 h1).2
    |inr x=>exact h1
   have q2:((itO (it1 l)).map (·.1)).Nodup:=by
    cases x with
    |inl x=>exact h2
    |inr x=>exact(bF.1 h2).2
   refine aU.2 ⟨m1,mB h hok' q1 q2 h3,fun k hk k' hk' he=>?_⟩;subst he;obtain⟨y,hy,hky⟩:=ei.1 hk';cases y with
   |inl y=>exact m3 k hk k (ei.2 ⟨y,dq.2 ⟨_,hy,rfl⟩,hky⟩) rfl
   |inr d=>exact tK h hx (hok' _ hy) hk hky
  |inr d=>
   have e1:it1 (.inr d::l)=it1 l:=rfl;have e2:itR (.inr d::l)=d::itR l:=rfl;rw[e1]at h1 h2;rw[e2,bF]at h3;refine aU.2 ⟨?_,mB h hok' h1 h2 h3.2,fun k hk k' hk' he=>?_⟩
   ·simp only[lc];split
    ·rename_i p _;cases(κ.row d p.gen).ownBlock<;>simp
    ·simp
   ·subst he;obtain⟨y,hy,hky⟩:=ei.1 hk';cases y with
    |inl y=>exact tK h (hok' _ hy) hx hky hk
    |inr d'=>
     obtain⟨p,hp,hq⟩:=nj hk;obtain⟨p',hp',hq'⟩:=nj hky;obtain⟨p1,e1,l1⟩:=hx;obtain⟨p2,e2,l2⟩:=hok' _ hy;rw[hp]at e1;cases e1;rw[hp']at e2;cases e2;have:=h.rel.rr d d' p p' k hp hp' l1 l2 hq hq';subst this;exact h3.1 (dq.2 ⟨_,hy,rfl⟩)
end
section
variable(T:Tab)(M:Md)
def acp(v:AV):Rd (WRes×List (Nat×Box)×List (Nat×Nat)×List Nat):=match v with
 | .one (.sl e sz xs (some (d,g)))=>.perm d fun
  |some ⟨rg,re,rs,true⟩=>match Nat.beq rg g&&Nat.beq re e&&Nat.beq rs sz with
   |true=>.ret (.row e sz xs,[],[],[d])
   |false=>.ret (.val (.one (.sl e sz xs none)),[],[],[])
  |_=>.ret (.val (.one (.sl e sz xs none)),[],[],[])
 | .one (.rref d g n)=>(obR d g).bind fun
  | .row e sz xs=>.ret (.own e sz xs,[],[(d,g)],[])
  |_=>.none
 | .one (.ptr d g 0)=>(xE M d g).bind fun
  |(.obox ty cs,b,os)=>.ret (.box ty cs,[(d,b)],os,[])
  |_=>.none
 | .tup []=>.ret (.val (.tup []),[],[],[])
 |v=>match iy v with
  |some a=>.ret (.val a,[],[],[])
  |none=>.none
def wY:List AV→Rd (List WRes×List (Nat×Box)×List (Nat×Nat)×List Nat)
 | []=>.ret ([],[],[],[])
 |v::vs=>(acp M v).bind fun(r,b,o,l)=>(wY vs).bind fun(rs,bs,os,ls)=>.ret (r::rs,b++bs,o++os,l++ls)
def na:Nat→List AV→Rd (List AV)
 |_,[]=>.ret []
 |i,a::Qa=>match eH a with
  |true=>.tmp i fun v=>(na (i+1) Qa).bind fun vs=>.ret (v::vs)
  |false=>na (i+1) Qa
def rF:List AV→Option (List AC)
 | []=>some []
 | .one c::Qa=>match rF Qa with
  |some cs=>some (c::cs)
  |none=>none
 |_::_=>none
def finE(vs Qa:List AV):Rd (List WRes×List AC):=(wY M vs).bind fun(rs,bs,os,ls)=>(na 0 Qa).bind fun ovs=>(qv M ovs).bind fun(as',hs,os')=>
 match oM (fstL bs++fstL (hs.flatMap hmB))&&oM (fstL os++fstL os')&&oM ls,rF as' with
 |true,some cs=>.ret (rs,cs)
 |_,_=>.none
end
section
variable{P:Program}{T:Tab}{J:Kn}{M:Md}{G:Nat→Option (List AC)}{X:Ctx}{κ κ0:Con}{H H0:Fz}{s s0:St}{a a0:Act}{w w0:World}{ft:Nat→List Nat}
theorem afe(h:WRf X κ H s a w ft){v:AV}{r:WRes}{bs:List (Nat×Box)}{os:List (Nat×Nat)}{ls:List Nat}{u:Value}(hv:AVr κ H v u)(hr:Runs P G s (acp M v) (r,bs,os,ls)):
 ∃l:List It2,itB (it1 l)=bs∧itO (it1 l)=os∧itR l=ls∧(∀x∈l,ok2 κ s x)∧ResW H w r u (l.flatMap (lc κ s ft)):=by
 have plain:∀{a'},AVr Con.no H a' u→∀{r bs os ls},Runs P G s (.ret (.val a',[],[],[]):Rd (WRes×List (Nat×Box)×List (Nat×Nat)×List Nat)) (r,bs,os,ls)→∃l:List It2,itB (it1 l)=bs∧itO (it1 l)=os∧itR l=ls∧(∀x∈l,ok2 κ s x)∧ResW H w r u (l.flatMap (lc κ s ft)):=by
  intro a' ha r bs os ls hr;simp only[Runs,ai]at hr;obtain⟨rfl,rfl,rfl,rfl⟩:=hr;exact⟨[],rfl,rfl,rfl,by simp,ha,rfl⟩
 unfold acp at hr;split at hr
 ·rename_i e sz xs d g;have hk:=dO (v:=.one (.sl e sz xs (some (d,g)))) rfl hv;simp only[Runs]at hr;split at hr
  ·rename_i rg re rsz hp;split at hr
   ·rename_i hb;simp only[aw]at hb;have e1:=aP hb.1.1;have e2:=aP hb.1.2;have e3:=aP hb.2;subst e1;subst e2;subst e3;simp only[Runs,ai]at hr;obtain⟨rfl,rfl,rfl,rfl⟩:=hr;obtain⟨-,htl⟩:=h.rel.perm d _ hp;have htl:=htl rfl;obtain⟨-,-,-,-,-,-,htok⟩:=nZ hv
    obtain⟨-,hrow⟩:=htok d rg rfl;simp only at htl;rw[hrow]at htl;refine⟨[.inr d],rfl,rfl,rfl,fun x hx=>by obtain rfl:=ax.1 hx;exact⟨_,hp,rfl⟩,?_,htl,?_⟩
    ·cases hk with|one _ _ hk=>exact hk
    ·simp only[de,List.flatMap_nil,aX,lc,hp,hrow]
   ·exact plain hk hr
  ·exact plain hk hr
 ·rename_i d g n;obtain⟨c,hc,hr⟩:=az hr;obtain⟨hob,hn,-⟩:=h.at_ hc;obtain⟨hg,hu,-⟩:=eU hv;rw[hu]at hob;split at hr
  ·simp only[Runs,ai]at hr;obtain⟨rfl,rfl,rfl,rfl⟩:=hr;refine⟨[.inl (.inr (d,g))],rfl,rfl,rfl,fun x hx=>by obtain rfl:=ax.1 hx;exact hn,?_⟩;show RowO H w u _ _ _ _;simpa [lc,gq]using(show RowO H w u _ _ _ (ft d) from hob)
  ·exact hr.elim
 ·rename_i d g;obtain⟨⟨c,b,os'⟩,r0,hr⟩:=az hr;obtain⟨l,p1,p2,p3,p4,⟨cs,rfl⟩,p5⟩:=vQ h r0;have hu:=(gD hv).1;rw[←hu]at p5;simp only[Runs,ai]at hr;obtain⟨rfl,rfl,rfl,rfl⟩:=hr;have e1:it1 (l.map Sum.inl)=l:=rf l;have e2:itR (l.map Sum.inl)=[]:=vG l
  refine⟨l.map Sum.inl,by rw[e1,p1],by rw[e1,p2],e2,fun x hx=>?_,?_⟩
  ·obtain⟨y,hy,rfl⟩:=bZ.1 hx;exact p3 y hy
  ·rw[List.flatMap_map];exact p5
 ·refine plain ?_ hr;cases hv with
  |tup _ us hl _=>
   obtain rfl:=aK hl;exact .tup [] [] rfl (by simp)
 ·split at hr
  ·rename_i hk;exact plain (dO hk hv) hr
  ·exact hr.elim
theorem aad(h:WRf X κ H s a w ft):∀{vs:List AV} {us:List Value} {rs:List WRes} {bs:List (Nat×Box)} {os:List (Nat×Nat)} {ls:List Nat},us.length=vs.length→(∀(j:Nat) (v:AV) (u:Value),vs[j]?=some v→us[j]?=some u→AVr κ H v u)→Runs P G s (wY M vs) (rs,bs,os,ls)→
 ∃(l:List It2) (br:List (List Nat)),itB (it1 l)=bs∧itO (it1 l)=os∧itR l=ls∧(∀x∈l,ok2 κ s x)∧br.flatten=l.flatMap (lc κ s ft)∧mQ H w rs us br
 | [],[],rs,bs,os,ls,_,_,hr=>by
  simp only[wY,Runs,ai]at hr;obtain⟨rfl,rfl,rfl,rfl⟩:=hr;exact⟨[],[],rfl,rfl,rfl,by simp,rfl,trivial⟩
 | [],_::_,rs,bs,os,ls,hl,_,hr=>by simp at hl
 |_::_,[],rs,bs,os,ls,hl,_,hr=>by simp at hl
 |v::vs,u::us,rs,bs,os,ls,hl,hv,hr=>by
  unfold wY at hr;obtain⟨⟨r,b,o,l0⟩,r1,hr⟩:=az hr;obtain⟨⟨rs',bs',os',ls'⟩,r2,hr⟩:=az hr;simp only[Runs,ai]at hr;obtain⟨rfl,rfl,rfl,rfl⟩:=hr;obtain⟨l1,p1,p2,p3,p4,p5⟩:=afe h (hv 0 v u rfl rfl) r1
  obtain⟨l2,br,q1,q2,q3,q4,q5,q6⟩:=aad h (us:=us) (by simpa using hl) (fun j v u a1 a2=>hv (j+1) v u (by simpa using a1) (by simpa using a2)) r2;refine⟨l1++l2,l1.flatMap (lc κ s ft)::br,?_,?_,?_,fun x hx=>(aM.1 hx).elim (p4 x) (q4 x),by simp[q5],p5,q6⟩
  ·rw[rh,ni,p1,q1]
  ·rw[rh,nh,p2,q2]
  ·rw[aaB,p3,q3]
end
end
end Go.Proofs.YtgkenhpfiempbaaGreatDoor.V
