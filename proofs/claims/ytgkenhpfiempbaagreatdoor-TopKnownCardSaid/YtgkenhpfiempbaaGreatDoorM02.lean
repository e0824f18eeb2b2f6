/-
  Part M02: A10, A11, A12, A13, A14, A15, A16, A17. Conditions stand in the theorems.
-/
import Derived.Test.YtgkenhpfiempbaaGreatDoorM01
import Derived.Laws.BytesString
set_option linter.all false
set_option maxRecDepth 1000000
set_option maxHeartbeats 8000000
namespace Go.Proofs.YtgkenhpfiempbaaGreatDoor.V
open Go Go.Proofs
noncomputable section
section
variable{P:Program}{T:Tab}{J:Kn}{G:Nat→Option (List AC)}{X:Ctx}{κ:Con}{H:Fz}{s:St}{a:Act}{w:World}
theorem yM(hG:bK G H)(h:Rel X κ H s a w){x:Option Operand}{v:Option AV}(hr:Runs P G s (optR G x) v):
 (x=none∧v=none)∨∃y u,x=some y∧v=some u∧AVr κ H u (a.eval y):=by
 cases x with
 |none=>simp only[optR,Runs]at hr;exact .inl ⟨rfl,hr.symm⟩
 |some y=>
  simp only[optR]at hr;obtain⟨u,hu,hr⟩:=opd1 hG h hr;simp only[Runs]at hr;exact .inr ⟨y,u,rfl,hr.symm,hu⟩
theorem jE{k:IntKind}{i:Int}{y:Nat}{c:BoundsCode}(h0:0≤i)(h1:i≤y)(w:World):(Instr.sliceBound (.int k i) y c).run P w= .ok i.toNat w:=by
 simp[Instr.sliceBound,asIntOf,h0,h1]
theorem nB{dflt l:Int}{x:Option Operand}{v:Option AV}(hb:ko dflt v=some l)(hx:(x=none∧v=none)∨∃y u,x=some y∧v=some u∧AVr κ H u (a.eval y)):
 (x=none∧l=dflt∧v=none)∨∃y k u,x=some y∧a.eval y= .int k l∧v=some u:=by
 rcases hx with⟨rfl,rfl⟩|⟨y,u,rfl,rfl,hu⟩
 ·simp only[ko,am]at hb;exact .inl ⟨rfl,hb.symm,rfl⟩
 ·unfold ko at hb;split at hb
  ·rename_i h;cases h
  ·rename_i k n h;cases h;cases hb;exact .inr ⟨y,k,_,rfl,(cN hu).1,rfl⟩
  ·cases hb
theorem acF(E:Env P T J)(hG:bK G H)(h:Rel X κ H s a w){o:Oper}{t:Nat}{x:Operand}{lo hi mx:Option Operand}(ho:o.op= .slice t x lo hi mx){v:AV}{ws:List Wr}(hr:Runs P G s (evOp T J G o) (v,ws)):eM P X κ H s a o v ws w:=by
 simp only[evOp,ho]at hr;obtain⟨p,h1,hr1⟩:=opd1 hG h hr;obtain⟨vl,hl1,hr2⟩:=az hr1;obtain⟨vh,hh1,hr3⟩:=az hr2;have hl:=yM hG h hl1;have hh:=yM hG h hh1;clear hr hr1 hr2 hl1 hh1;cases mx with
 |some _=>exact hr3.elim
 |none=>
  simp only at hr3;unfold aca at hr3;split at hr3
  ·rename_i i hT;obtain⟨-,d,hd,hund,-⟩:=E.tab t i hT;split at hr3
   ·rename_i hk;rw[hk]at hund;have hd':P.underlying t=some .string:=by rw[hd];exact congrArg some hund
    split at hr3
    ·rename_i b;split at hr3
     ·rename_i l hbl;split at hr3
      ·rename_i hv hbh;simp only[Runs,ai]at hr3;obtain⟨⟨h0,h2,h3⟩,rfl,rfl⟩:=hr3;refine eM.value h ?_ (bP rfl);rcases nB hbl hl with⟨rfl,rfl,-⟩|⟨y,k,_,rfl,ey,-⟩<;>rcases nB hbh hh with⟨rfl,rfl,-⟩|⟨y',k',_,rfl,ey',-⟩
       all_goals
        simp only[execOp,ho,(cN h1).1,Instr.sliceAt,Instr.slice,Instr.sliceBounds,aY,aA hd',aF,fc,bW,kb,cJ,if_false,bu, *]
       all_goals(try rw[jE (by omega) (by omega)])
       all_goals(try simp only[aF])
       all_goals(try rw[jE (by omega) (by omega)])
       all_goals rfl
      ·exact hr3.elim
     ·exact hr3.elim
    ·exact hr3.elim
   ·rename_i e sz by' hk
    rw[hk]at hund;obtain⟨rfl,ie,z,hie,hsz,-⟩:=hund;split at hr3
    ·rename_i xs hc;split at hr3
     ·rename_i l hbl;split at hr3
      ·rename_i hv hbh;simp only[Runs,ai]at hr3;obtain⟨⟨h0,h2,h3⟩,rfl,rfl⟩:=hr3;obtain⟨A,cap,e1,k1,k2,k3⟩:=mI h1 hc;have hcut:aec xs l hv vh=(xs.drop l.toNat).take (hv.toNat-l.toNat):=by
        rcases nB hbh hh with⟨-,rfl,rfl⟩|⟨_,_,_,-,-,rfl⟩
        ·simp only[aec];rw[cU (by simp)]
        ·rfl
       have hres:=yB (κ:=κ) (H:=H) (e:=e) (l:=l.toNat) (n:=hv.toNat-l.toNat) (cap':=cap-l.toNat) k2 (by omega) (by omega) k3 (if cap=l.toNat then A else A.map (·.add (l.toNat*sz)))
        (fun b off hA hn=>by rw[if_neg (by omega),hA];simp[dI])
       rw[←hcut]at hres;refine eM.value h ?_ hres;rcases nB hbl hl with⟨rfl,rfl,-⟩|⟨y,k,_,rfl,ey,-⟩<;>rcases nB hbh hh with⟨rfl,rfl,-⟩|⟨y',k',_,rfl,ey',-⟩
       all_goals
        simp only[execOp,ho,e1,Instr.sliceAt,Instr.slice,Instr.sliceBounds,aY,aA hd,aF,fc,bW,bu,if_true, *]
       all_goals(try rw[jE (by omega) (by omega)])
       all_goals(try simp only[aF])
       all_goals(try rw[jE (by omega) (by omega)])
       all_goals simp only[aF,run_sizeOf hie w,hsz,bu]
       all_goals rfl
      ·exact hr3.elim
     ·exact hr3.elim
    ·exact hr3.elim
   ·exact hr3.elim
  ·exact hr3.elim
theorem sX:∀{xs:List (List AC)} {bs:List UInt8},lR xs=some bs→bs.length=xs.length
 | [],bs,h=>by simp only[lR,am]at h;subst h;rfl
 |x::xs,bs,h=>by
  unfold lR at h;split at h
  ·rename_i hx;cases hx
  ·rename_i n xs' hx;cases hx;rw[ar]at h;obtain⟨bs',h1,rfl⟩:=h;simp[sX h1]
  ·cases h
theorem xZ:∀{xs:List (List AC)} {bs:List UInt8} {us:List Value},lR xs=some bs→Cs κ H xs.flatten us→
 (∃ns:List Int,us=ns.map (.int .u8)∧bs=ns.map fun n=>UInt8.ofNat n.toNat)∧us.length=bs.length
 | [],bs,us,h,hc=>by
  simp only[lR,am]at h;subst h;simp at hc;rw[hc.inv_nil];exact⟨⟨[],rfl,rfl⟩,rfl⟩
 |x::xs,bs,us,h,hc=>by
  unfold lR at h;split at h
  ·rename_i hx;cases hx
  ·rename_i n xs' hx;cases hx;rw[ar]at h;obtain⟨bs',h1,rfl⟩:=h;simp only[aO,iA]at hc;obtain⟨u,us',rfl,k1,k2⟩:=hc.inv_cons;obtain⟨⟨ns,rfl,rfl⟩,h3⟩:=xZ h1 k2;cases k1;exact⟨⟨n::ns,rfl,rfl⟩,by simp⟩
  ·cases h
theorem rR:∀(ns:List Int) (r:ByteArray),ns.foldl (fun r n=>r.push (UInt8.ofNat n.toNat)) r=⟨r.data++(ns.map fun n=>UInt8.ofNat n.toNat).toArray⟩
 | [],r=>by simp
 |n::ns,r=>by
  rw[gT,rR ns];simp[ByteArray.push]
theorem yP(E:Env P T J)(hG:bK G H)(h:Rel X κ H s a w){o:Oper}{t t':Nat}{x:Operand}(ho:o.op= .convert t t' x){v:AV}{ws:List Wr}(hr:Runs P G s (evOp T J G o) (v,ws)):eM P X κ H s a o v ws w:=by
 simp only[evOp,ho]at hr;obtain⟨p,h1,hr1⟩:=opd1 hG h hr;clear hr;split at hr1
 ·rename_i k n j i hTj hTi;obtain⟨-,dj,hdj,-,-⟩:=E.tab t j hTj;obtain⟨-,d,hd,hund,-⟩:=E.tab t' i hTi;split at hr1
  ·rename_i k' hk;rw[hk]at hund;have hd':P.underlying t'=some (.int k'):=by rw[hd];exact congrArg some hund
   simp only[Runs,ai]at hr1;obtain⟨rfl,rfl⟩:=hr1;refine eM.value h ?_ (bP rfl);simp[execOp,ho,(cN h1).1,convert,aA hdj,aA hd',Conv.intToInt]
  ·exact hr1.elim
 ·rename_i e0 sz xs tok j i hTj hTi;obtain⟨-,dj,hdj,hundj,-⟩:=E.tab t j hTj;obtain⟨-,d,hd,hund,-⟩:=E.tab t' i hTi;split at hr1
  ·rename_i e _ _ bs hkj hk hbs;rw[hk]at hund;rw[hkj]at hundj;have hd':P.underlying t'=some .string:=by rw[hd];exact congrArg some hund
   have hdj':P.underlying t=some (.slice e):=by rw[hdj];exact congrArg some hundj.1
   split at hr1
   ·rename_i l hTl;obtain⟨-,dl,hdl,hundl,-⟩:=E.tab e l hTl;split at hr1
    ·rename_i hkl;rw[hkl]at hundl;have hdl':P.underlying e=some (.int .u8):=by rw[hdl];exact congrArg some hundl
     simp only[Runs,ai]at hr1;obtain⟨rfl,rfl⟩:=hr1;refine eM.value h ?_ (bP rfl);obtain⟨A,cap,e1,k1,k2,k3,-⟩:=nZ h1;have hrun:(Conv.bytesToString (.slice A xs.length cap)).run P w= .ok (.string ⟨bs.toArray⟩) w:=by
      rcases k3 with rfl|⟨b,off,us,rfl,u1,u2,u3⟩
      ·simp only[lR,am]at hbs;subst hbs;cases A<;>simp[Conv.bytesToString,loadCells,loadCellsFrom]<;>rfl
      ·obtain⟨hf,hlen⟩:=xZ hbs u3;have hl:=run_loadCells_list (P:=P) w ⟨b,off,none⟩ us (fun j u hj=>by rw[dI];exact h.fz _ _ _ (u2 j u hj));have hn:us.length=xs.length:=by rw[hlen];exact sX hbs
       rw[hn]at hl;obtain⟨ns,rfl,rfl⟩:=hf;rw[run_bytesToString w _ xs.length cap ns hl,rR];simp
     simp[execOp,ho,e1,convert,aA hdj',aA hd',aA hdl',hrun]
    ·exact hr1.elim
   ·exact hr1.elim
  ·exact hr1.elim
 ·exact hr1.elim
theorem aem:∀{vs:List AV} {cs:List AC} {us:List Value},xW vs=some cs→us.length=vs.length→(∀(j:Nat) (v:AV) (u:Value),vs[j]?=some v→us[j]?=some u→AVr κ H v u)→Cs κ H cs us
 | [],cs,us,h,hl,_=>by
  simp only[xW,am]at h;subst h;rw[aK hl];exact .nil
 |v::vs,cs,us,h,hl,hr=>by
  unfold xW at h;split at h
  ·rename_i hv;cases hv
  ·rename_i c vs' hv;cases hv;rw[ar]at h;obtain⟨cs',h1,rfl⟩:=h;cases us with
   |nil=>simp at hl
   |cons u us=>
    refine .cons ?_ (aem h1 (by simpa using hl) fun j v u hv hu=>hr (j+1) v u (by simpa using hv) (by simpa using hu));have:=hr 0 _ u rfl rfl;cases this with|one _ _ h=>exact h
  ·cases h
theorem xj(hG:bK G H)(h:Rel X κ H s a w){o:Oper}{f:Nat}{first captured:Array Operand}(ho:o.op= .makeFunc (.func f) first captured){v:AV}{ws:List Wr}(hr:Runs P G s (evOp T J G o) (v,ws)):eM P X κ H s a o v ws w:=by
 simp only[evOp,ho]at hr;split at hr
 ·rename_i hf;have hf':first= #[]:=Array.eq_empty_of_size_eq_zero (aP hf);obtain⟨vs,hvs,hr⟩:=az hr;obtain⟨h1,h2⟩:=nW hG h hvs;split at hr
  ·rename_i cs hcs;simp only[Runs,ai]at hr;obtain⟨rfl,rfl⟩:=hr;have hc:=aem (κ:=κ) (H:=H) (us:=captured.toList.map a.eval) hcs (by simp[h1]) (fun j v u hv hu=>by
    rw[aG,ar]at hu;obtain⟨x,hx,rfl⟩:=hu;exact h2 j x v hx hv)
   refine eM.value h ?_ (.one _ _ (.clo f cs _ hc.1 hc.2));simp[execOp,ho,Instr.makeFunc,hf',←Array.toList_map]
  ·exact hr.elim
 ·exact hr.elim
theorem lQ{v:AV}{u:Value}{cs:List AC}(hv:AVr κ H v u)(hc:v.cells? =some cs):Cs κ H cs u.cells.toList:=by
 cases hv with
 |undef=>cases hc
 |one c u hu=>
  cases hc;have h1:=hu.oneCell;have:u.cells= #[u]:=by cases u<;>first|rfl|(simp[Value.oneCell']at h1)
  rw[this];exact .cons hu .nil
 |agg cs us h=>cases hc;exact h
 |tup=>cases hc
 |ob=>cases hc
theorem nM(h:Rel X κ H s a w){o:Oper}{d ty:Nat}{cells:List AC}{us:List Value}(hc:Cs κ H cells us)(hA:X.A≤d∧d<2048){v:AV}{ws:List Wr}(hr:Runs P G s (lb d ty cells) (v,ws))
 (hrun:(execOp a.eval o).run P w= .ok (.value (.pointer (some ⟨w.heap.size,0,none⟩))) (w.alloc (.cells us.toArray ty))):eM P X κ H s a o v ws w:=by
 intro K Q hn;unfold Oper.wp;rw[hrun,bN];obtain⟨h1,h2⟩:=h.newBox hc d ty hA;unfold lb at hr;simp only[Runs]at hr;split at hr
 ·rename_i g t' c' hb;simp only[Runs,ai]at hr;obtain⟨rfl,rfl⟩:=hr;have hg:κ.nb d=g+1:=(h.box d _ hb).1;rw[hg]at h1 h2;exact hn _ _ _ _ (κ.le_addBox d _) h1 (.one _ _ h2)
 ·rename_i hb;simp only[Runs,ai]at hr;obtain⟨rfl,rfl⟩:=hr;have hg:κ.nb d=0:=h.nobox d hb;rw[hg]at h1 h2;exact hn _ _ _ _ (κ.le_addBox d _) h1 (.one _ _ h2)
theorem acO(E:Env P T J)(h:Rel X κ H s a w){o:Oper}{t:Nat}(ho:o.op= .alloc t)(hA:∀d,o.dst=some d→X.A≤d∧d<2048){v:AV}{ws:List Wr}(hr:Runs P G s (evOp T J G o) (v,ws)):eM P X κ H s a o v ws w:=by
 simp only[evOp,ho]at hr;split at hr
 ·rename_i d i hd hT;obtain⟨⟨ti,z,hi,hsz,hz,hzz⟩,-⟩:=E.tab t i hT;have hc:Cs κ H i.zero z.cells.toList:=hzz κ H;refine nM h hc (hA d hd) hr ?_;simp[execOp,ho,Instr.alloc,zeroValue,typeInfo,hi,hz,newVar,newRow]
 ·exact hr.elim
theorem aht(hG:bK G H)(h:Rel X κ H s a w){o:Oper}{t:Nat}{x:Operand}(ho:o.op= .box t x)(hA:∀d,o.dst=some d→X.A≤d∧d<2048){v:AV}{ws:List Wr}(hr:Runs P G s (evOp T J G o) (v,ws)):eM P X κ H s a o v ws w:=by
 simp only[evOp,ho]at hr;obtain⟨p,h1,hr1⟩:=opd1 hG h hr;clear hr;split at hr1
 ·rename_i d cs hd hcs;refine nM h (lQ h1 hcs) (hA d hd) hr1 ?_;simp[execOp,ho,Instr.box,newVar,newRow]
 ·exact hr1.elim
theorem acE(E:Env P T J)(hG:bK G H)(h:Rel X κ H s a w){o:Oper}{t:Nat}{x y:Operand}(ho:o.op= .store t x y){v:AV}{ws:List Wr}(hr:Runs P G s (evOp T J G o) (v,ws)):eM P X κ H s a o v ws w:=by
 simp only[evOp,ho]at hr;obtain⟨p,q,h1,h2,hr1⟩:=opd2 hG h hr;clear hr;split at hr1
 ·rename_i d g off cs i hcs hT;obtain⟨⟨ti,z,hi,hsz,-⟩,-⟩:=E.tab t i hT;obtain⟨b,hb,hr2⟩:=az hr1;obtain⟨hf,hg⟩:=wc hb;clear hr1 hb;split at hr2
  ·rename_i hle;simp only[Runs,ai]at hr2;obtain⟨rfl,rfl⟩:=hr2;simp only[aw]at hle;have hl1:i.size=cs.length:=aP hle.1;have hl2:off+cs.length≤b.cells.length:=bB hle.2;have hc2:=lQ h2 hcs;obtain⟨us,hu,hc,-⟩:=nA h hf
   have hov:=Cs.over off hc hc2 hl2;have hst:=run_storeCells_at (P:=P) (κ.blk d b.gen) off b.ty (a.eval y).cells.toList 0 us.toArray w hu (by simp only[fl,List.size_toArray,hc.1,hc2.1];exact hl2) hc2.oneCell;intro K Q hn;unfold Oper.wp
   have hrun:(execOp a.eval o).run P w= .ok .skip (w.setRow (κ.blk d b.gen) (us.take off++(a.eval y).cells.toList++us.drop (off+(a.eval y).cells.toList.length)).toArray):=by
    have e1:=(gD h1).1;rw[←hg]at e1;have hsz':(a.eval y).cells.size=ti.size:=by rw[hsz,hl1,←hc2.1];simp
    simp only[execOp,ho,e1,Instr.storeAt,Instr.sureAddr,storeVar,aY,bu,aF,run_sizeOf hi w,hsz',ne_eq,not_true,if_false,hst];simp
   rw[hrun,gy];have hne:∀k,k≠κ.blk d b.gen→(w.setRow (κ.blk d b.gen) (us.take off++(a.eval y).cells.toList++us.drop (off+(a.eval y).cells.toList.length)).toArray).heap[k]?=w.heap[k]? :=fun k hk=>setRow_other w _ k _ hk;have hbox:∀i,H (κ.blk d b.gen) i=none:=(h.box d b hf).2.1
   have hrel:=h.boxes (H':=H) (w':=w.setRow (κ.blk d b.gen) (us.take off++(a.eval y).cells.toList++us.drop (off+(a.eval y).cells.toList.length)).toArray) (bs:=putB d ⟨b.gen,b.ty,V.over b.cells off cs⟩ s.boxes)
    (fun d' b' e=>by
     rw[cD]at e;split at e
     ·rename_i hd;subst hd;cases e;exact⟨b,hf,rfl,hbox,_,setRow_heap w _ us.toArray _ b.ty (0,0) hu,hov⟩
     ·rename_i hd;refine⟨b',e,rfl,?_⟩;have:=(h.box d' b' e).2;exact this.kept (hne _ fun hq=>hd (h.bb d d' b b' hf e hq.symm)) rfl (Con.le_refl κ) (Fz.le_refl H))
    (fun d' e=>by
     rw[cD]at e;split at e
     ·cases e
     ·exact e)
    (Fz.le_refl H)
    (fun k i v hv=>by
     rw[cell_of_heap (w:=w) (hne k fun hq=>by subst hq;rw[hbox i]at hv;cases hv)];exact h.fz k i v hv)
    (fun k hk hkn=>⟨hne k fun hq=>hkn d b hf hq.symm,rfl⟩)
    (by simp) rfl rfl rfl
   exact hn κ H _ undef (Con.le_refl κ) hrel (.undef _)
  ·exact hr2.elim
 ·exact hr1.elim
end
section
variable{P:Program}{T:Tab}{J:Kn}{G:Nat→Option (List AC)}{X:Ctx}{κ:Con}{H:Fz}{s:St}{a:Act}{w:World}
theorem uj:∀(vs:List Value) (k off:Nat) (cells:Array Value),off+k+vs.length≤cells.size→
 ((vs.zipIdx k).foldl (fun(cs:Array Value) p=>cs.setIfInBounds (off+p.2) p.1) cells).toList=cells.toList.take (off+k)++vs++cells.toList.drop (off+k+vs.length)
 | [],k,off,cells,_=>by simp
 |v::vs,k,off,cells,hl=>by
  simp only[aT]at hl;rw[List.zipIdx_cons,gT,uj vs (k+1) off _ (by simp;omega)];simp only[gA];have h1:off+k<cells.toList.length:=by simp;omega
  rw[show off+(k+1)=off+k+1 by omega,show off+k+1+vs.length=off+k+(v::vs).length by simp;omega];rw[List.drop_set_of_lt (by simp only[aT];omega)]
  congr 1
  rw[show(List.take (off+k) cells.toList++v::vs)=(List.take (off+k) cells.toList++[v])++vs by simp]
  congr 1
  rw[List.take_set,cq h1];have h2:(List.take (off+k) cells.toList).length=off+k:=by rw[dx];exact jl (Nat.le_of_lt h1)
  rw[List.set_append,if_neg (by rw[h2];exact eB _),h2,ch];rfl
theorem ul{place:Nat→Option (Nat×Nat)}{zs:List Value}{i off n:Nat}{v:Value}{rest:List (Nat×Value)}(hp:place i=some (off,n))(hn:v.cells.size=n)(hl:off+n≤zs.length):
 Instr.fill place zs.toArray ((i,v)::rest)=Instr.fill place (zs.take off++v.cells.toList++zs.drop (off+n)).toArray rest:=by
 rw[Instr.fill,hp];have:¬(v.cells.size≠n|| decide (off+v.cells.size > zs.toArray.size))=true:=by simp[hn];omega
 show(if(decide (v.cells.size≠n)|| decide (off+v.cells.size > zs.toArray.size))=true then none else _)=_;rw[if_neg this]
 congr 1
 apply ep;have hf:=uj v.cells.toList 0 off zs.toArray (by simp[hn];omega);simp only[fl,bO,hn]at hf;rw[←hf,←Array.foldl_toList,Array.toList_zipIdx]
theorem zg{pl place:Nat→Option (Nat×Nat)}(hpl:∀i x,pl i=some x→place i=some x):∀{ps:List (Nat×AV)} {us:List (Nat×Value)} {cells cs:List AC} {zs:List Value},
 us.length=ps.length→(∀(j:Nat) (p:Nat×AV) (u:Nat×Value),ps[j]?=some p→us[j]?=some u→p.1=u.1∧AVr κ H p.2 u.2)→Cs κ H cells zs→um pl cells ps=some cs→
 ∃vs:List Value,Instr.fill place zs.toArray us=some vs.toArray∧Cs κ H cs vs
 | [],us,cells,cs,zs,hl,_,hc,hf=>by
  simp only[um,am]at hf;subst hf;rw[aK hl];exact⟨zs,rfl,hc⟩
 |(i,v)::ps,us,cells,cs,zs,hl,hr,hc,hf=>by
  cases us with
  |nil=>simp at hl
  |cons u us=>
   obtain⟨i',u⟩:=u;obtain⟨h1,h2⟩:=hr 0 _ _ rfl rfl;simp only at h1 h2;subst h1;unfold um at hf;split at hf
   ·rename_i off n vc hp hv;split at hf
    ·rename_i hb1 hb2;have hn:=aP hb1;have hle:off+n≤cells.length:=bB hb2;have hcv:=lQ h2 hv;have hsz:u.cells.size=n:=by rw[←hn,←hcv.1];simp
     rw[ul (hpl _ _ hp) hsz (by rw[hc.1];exact hle)];have hov:=Cs.over off hc hcv (by omega);rw[show(u.cells.toList.length)=n by simpa using hsz]at hov;exact zg hpl (by simpa using hl) (fun j p u hp hu=>hr (j+1) p u (by simpa using hp) (by simpa using hu)) hov hf
    ·cases hf
   ·cases hf
theorem afi(hG:bK G H)(h:Rel X κ H s a w){parts:Array (Nat×Operand)}{vs:List AV}(hvs:Runs P G s (opds G (parts.toList.map (·.2))) vs):
 (parts.map fun(i,x)=>(i,a.eval x)).toList.length=((parts.toList.map (·.1)).zip vs).length∧
 ∀(j:Nat) (p:Nat×AV) (u:Nat×Value),((parts.toList.map (·.1)).zip vs)[j]?=some p→(parts.map fun(i,x)=>(i,a.eval x)).toList[j]?=some u→p.1=u.1∧AVr κ H p.2 u.2:=by
 obtain⟨h1,h2⟩:=nW hG h hvs;refine⟨by simp[h1],fun j p u hp hu=>?_⟩;rw[dX]at hp;obtain⟨hp1,hp2⟩:=hp;simp only[Array.toList_map,aG,ar]at hp1 hu;obtain⟨⟨i,x⟩,hx,hx1⟩:=hp1;obtain⟨⟨i',x'⟩,hx',rfl⟩:=hu;rw[hx]at hx';cases hx';simp only at hx1 ⊢
 exact⟨hx1.symm,h2 j x _ (by rw[aG,hx];rfl) hp2⟩
theorem aat{α β:Type}{f:α→Option β}:∀{xs:List α} {ys:List β},ys.length=xs.length→(∀(j:Nat) (x:α) (y:β),xs[j]?=some x→ys[j]?=some y→f x=some y)→xs.mapM f=some ys
 | [],ys,hl,_=>by rw[aK hl];rfl
 |x::xs,[],hl,_=>by simp at hl
 |x::xs,y::ys,hl,h=>by
  rw[List.mapM_cons,h 0 x y rfl rfl,aat (by simpa using hl) fun j x y hx hy=>h (j+1) x y (by simpa using hx) (by simpa using hy)];rfl
theorem acM(E:Env P T J)(hG:bK G H)(h:Rel X κ H s a w){o:Oper}{t:Nat}{parts:Array (Nat×Operand)}(ho:o.op= .build t parts){v:AV}{ws:List Wr}(hr:Runs P G s (evOp T J G o) (v,ws)):eM P X κ H s a o v ws w:=by
 simp only[evOp,ho]at hr;obtain⟨vs,hvs,hr1⟩:=az hr;clear hr;obtain⟨hl,hp⟩:=afi hG h hvs;split at hr1
 ·rename_i i hT;obtain⟨⟨ti,z,hi,hsz,hz,hzz⟩,d,hd,hund,-⟩:=E.tab t i hT;have hc:Cs κ H i.zero z.cells.toList:=hzz κ H;split at hr1
  ·rename_i fs hk;rw[hk]at hund;obtain⟨fields,rfl,hfl,hfs⟩:=hund;split at hr1
   ·rename_i cs hf;simp only[Runs,ai]at hr1;obtain⟨rfl,rfl⟩:=hr1;have hm:fields.toList.mapM (fun f=>(P.info? f.type).map fun i=>(f.offset,i.size))=some (fs.map fun f=>(f.1,f.2.1)):=by
     refine aat ?_ ?_
     ·simp[hfl]
     ·intro j f x hj hx;rw[aG,ar]at hx;obtain⟨⟨o',n,g⟩,hx1,rfl⟩:=hx;obtain⟨F,ti',d',hF,hoff,hti,htsz,-⟩:=hfs j o' n g hx1;have:F=f:=by
       have h1:fields.toList[j]?=some F:=by simpa using hF
       rw[h1]at hj;exact cg hj
      subst this;simp[hti,hoff,htsz]
    obtain⟨us,hfu,hcu⟩:=zg (κ:=κ) (H:=H) (place:=((fs.map fun f=>(f.1,f.2.1)).toArray[·]?)) (fun i x hx=>by simpa [rS]using hx) hl hp hc hf;refine eM.value h ?_ (.agg _ _ hcu);have hb:P.built t (parts.map fun(i,x)=>(i,a.eval x)).toList=some us.toArray:=by
     simp only[Program.built,hi,hd,hz,hm];simpa using hfu
    simp only[execOp,ho,aY,run_build w t _ _ hb,aF,bu]
   ·exact hr1.elim
  ·rename_i len e n g hk;rw[hk]at hund;obtain⟨rfl,ie,hie,hesz⟩:=hund;split at hr1
   ·rename_i cs hf;simp only[Runs,ai]at hr1;obtain⟨rfl,rfl⟩:=hr1;obtain⟨us,hfu,hcu⟩:=zg (κ:=κ) (H:=H) (place:=fun i=>some (i*ie.size,ie.size)) (fun i x hx=>by
     split at hx
     ·rw[hesz];exact hx
     ·cases hx) hl hp hc hf
    refine eM.value h ?_ (.agg _ _ hcu);have hb:P.built t (parts.map fun(i,x)=>(i,a.eval x)).toList=some us.toArray:=by
     simp only[Program.built,hi,hd,hz,hie];simpa using hfu
    simp only[execOp,ho,aY,run_build w t _ _ hb,aF,bu]
   ·exact hr1.elim
  ·exact hr1.elim
 ·exact hr1.elim
end
section
variable{P:Program}{T:Tab}{J:Kn}{G:Nat→Option (List AC)}{X:Ctx}{κ:Con}{H:Fz}{s:St}{a:Act}{w:World}
theorem fR{c c':AC}{u:Value}(h:jt c=some c')(hu:ACr κ H c u):ACr Con.no H c' u:=by
 unfold jt at h;split at h
 ·cases h;cases hu with|v _ h=>exact .v _ h
 ·cases h;cases hu with|zero=>exact .nil _ _ none none 0 (ka.none _ _)
 ·cases h;cases hu with
  |nil _ _ _ A cap _=>exact .nil _ _ none A cap (ka.none _ _)
  |sl _ _ _ _ b off cap us hc hs hl hu hr _=>exact .sl _ _ _ none b off cap us hc hs hl hu hr (ka.none _ _)
 ·cases h;cases hu with|ref _ _ b off us hl hu hr=>exact .ref _ _ b off us hl hu hr
 ·cases h;cases hu with
  |clo _ _ us hl hr=>
   obtain rfl:=aK hl;exact .clo _ [] [] rfl (by simp)
 ·cases h
theorem iO:∀{cs cs':List AC} {us:List Value},oQ cs=some cs'→Cs κ H cs us→Cs Con.no H cs' us
 | [],cs',us,h,hc=>by simp only[oQ,am]at h;subst h;rw[hc.inv_nil];exact .nil
 |c::cs,cs',us,h,hc=>by
  unfold oQ at h;split at h
  ·rename_i x xs h1 h2;cases h;obtain⟨u,us',rfl,k1,k2⟩:=hc.inv_cons;exact .cons (fR h1 k1) (iO h2 k2)
  ·cases h
theorem dO{v v':AV}{u:Value}(h:iy v=some v')(hu:AVr κ H v u):AVr Con.no H v' u:=by
 cases v with
 |one c=>
  simp only[iy,ar]at h;obtain⟨c',h1,rfl⟩:=h;cases hu with|one _ _ hu=>exact .one _ _ (fR h1 hu)
 |agg cs=>
  simp only[iy,ar]at h;obtain⟨c',h1,rfl⟩:=h;cases hu with|agg _ us hu=>exact .agg _ _ (iO h1 hu)
 |undef=>cases h
 |tup=>cases h
 |ob=>cases h
theorem gL(h:Rel X κ H s a w){d e sz:Nat}{xs:List (List AC)}{u:Value}{g:Nat}{H':Fz}{w':World}(hs:Step H w g H' w')
 (hb:∀d b,find d s.boxes=some b→κ.blk d b.gen≠g) (hr':∀d' p,find d' s.perms=some p→p.live=true→d'≠d→(κ.row d' p.gen).ownBlock≠some g) (hp:¬X.Pr g)
 (hu:ACr Con.no H' (.sl e sz xs none) u) (ht:Tail H' w' u e sz) (hg:∀k,u.ownBlock=some k→k=g) {v:AV} {ws:List Wr} (hr:Runs P G s (eO d e sz xs) (v,ws)):
 ∃κ',Con.le κ κ'∧Rel X κ' H' (s.writes ws) a w'∧AVr κ' H' v u:=by
 have h0:=(h.drop d).step hs (Con.le_refl κ) (fun _=>rfl) (fun _=>rfl) hb (fun d' p e l=>by
  simp only[St.write]at e;rw[eL]at e;split at e
  ·rw[ar]at e;obtain⟨q,hq,rfl⟩:=e;simp[Perm.dead]at l
  ·rename_i hd;exact hr' d' p e l fun e'=>hd e'.symm) hp
 have h1:=h0.addRow (d:=d) ht (fun d' b e hq=>hb d' b e (hg _ hq)) (fun d' p k e l hd hk hq=>by
  simp only[St.write]at e;rw[eL,if_neg (fun e'=>hd e'.symm)]at e;exact hr' d' p e l hd (by rw[hk,hg k hq])) (fun k hk=>by rw[hg k hk];exact hp)
 have hval:AVr (κ.addRow d u) H' (.one (.sl e sz xs (some (d,κ.nr d)))) u:=by
  refine .one _ _ ?_;cases hu with
  |nil _ _ _ A cap _=>exact .nil _ _ _ A cap h1.2
  |sl _ _ _ _ b off cap us hc hs hl hu hr _=>exact .sl _ _ _ _ b off cap us hc hs hl hu hr h1.2
 unfold eO at hr;simp only[Runs]at hr;have fin:∀gen,κ.nr d=gen→Rel X (κ.addRow d u) H' (s.write (.perm d ⟨gen,e,sz,true⟩)) a w':=by
  intro gen hgen;subst hgen;refine h1.1.congr (fun _=>rfl) (fun _=>rfl) (fun d'=>?_);simp only[St.write,cD,eL];by_cases hd:d=d'
  ·simp[hd]
  ·simp[hd]
 split at hr
 ·rename_i gen _ _ _ hf;simp only[Runs,ai]at hr;obtain⟨rfl,rfl⟩:=hr;have:=(h.perm d _ hf).1;refine⟨κ.addRow d u,κ.le_addRow d u,fin _ this,?_⟩;rw[this]at hval;exact hval
 ·rename_i hf;simp only[Runs,ai]at hr;obtain⟨rfl,rfl⟩:=hr;have:=h.noperm d hf;refine⟨κ.addRow d u,κ.le_addRow d u,fin _ this,?_⟩;rw[this]at hval;exact hval
def Fz.more(H:Fz)(g off:Nat)(us:List Value):Fz:=fun b i=>if b=g∧off≤i∧i<off+us.length then us[i-off]? else H b i
theorem Fz.more_at(H:Fz)(g off:Nat)(us:List Value)(k:Nat)(u:Value)(h:us[k]?=some u):H.more g off us g (off+k)=some u:=by
 have hlt:=(aq.1 h).1;unfold Fz.more;rw[if_pos ⟨rfl,by omega,by omega⟩,show off+k-off=k by omega,h]
theorem Fz.more_other(H:Fz){g b:Nat}(off:Nat)(us:List Value)(h:b≠g):H.more g off us b=H b:=by
 funext i;simp[Fz.more,h]
theorem Fz.le_more{H:Fz}{g off:Nat}{us:List Value}(h:∀i,off≤i→i<off+us.length→H g i=none):Fz.le H (H.more g off us):=by
 intro b i v hv;simp only[Fz.more];split
 ·rename_i hc;obtain⟨rfl,h1,h2⟩:=hc;rw[h i h1 h2]at hv;cases hv
 ·exact hv
theorem mm(h:Rel X κ H s a w){d e sz n cap:Nat}{xs:List (List AC)}{us rest:List Value}{w1:World}(hw:w1.heap=w.heap∧w1.os=w.os∧w1.tape=w.tape∧w1.output=w.output)
 (hx:∀x∈xs,x.length=sz) (hn:n=xs.length) (hc:Cs Con.no H xs.flatten us) (hcap:n≤cap) (hmax:cap≤maxLen) (hlen:us.length+rest.length=cap*sz) {v:AV} {ws:List Wr} (hr:Runs P G s (eO d e sz xs) (v,ws)):
 ∃κ' H',Con.le κ κ'∧Rel X κ' H' (s.writes ws) a (w1.alloc (.cells (us++rest).toArray e))∧AVr κ' H' v (.slice (some ⟨w.heap.size,0,none⟩) n cap):=by
 subst hn;have hs0:=fq h.fz (.cells (us++rest).toArray e) w1 hw;have hle:Fz.le H (H.more w.heap.size 0 us):=Fz.le_more fun i _ _=>h.new i;have hcell:∀i,(w1.alloc (.cells (us++rest).toArray e)).cell? ⟨w.heap.size,i,none⟩=(us++rest)[i]? :=fun i=>by
  have:=World.cell?_alloc_new w1 (us++rest).toArray e i;rw[hw.1]at this;rw[this];simp
 have hfl:=dk hx;have hs:Step H w w.heap.size (H.more w.heap.size 0 us) (w1.alloc (.cells (us++rest).toArray e)):={ hs0 with
  le:=hle
  fz:=fun b i u hu=>by
   by_cases hb:b=w.heap.size
   ·subst hb;simp only[Fz.more]at hu;split at hu
    ·rename_i hc';simp only[fj]at hu;rw[hcell,bH (by omega)];exact hu
    ·rw[h.new]at hu;cases hu
   ·rw[Fz.more_other H 0 us hb]at hu;exact hs0.fz b i u hu
  kept:=fun b hb=>Fz.more_other H 0 us hb}
 obtain⟨κ',h0',h1,h2⟩:=gL (u:=.slice (some ⟨w.heap.size,0,none⟩) xs.length cap) h hs (fun d' b e=>fW (h.box_lt e)) (fun d' p e l _ hq=>eB _ (((h.perm d' p e).2 l).lt hq)) (fun hp=>by have:=X.lt _ hp;have:=h.grown;omega)
  (.sl e sz xs none w.heap.size 0 cap us hcap hx hc.1 (fun k u hk=>Fz.more_at H _ 0 us k u hk) (fun k c u hk hu=>(hc.2 k c u hk hu).mono (Con.le_refl _) hle) (ka.none _ _))
  (.inr ⟨w.heap.size,xs.length,cap,(us++rest).toArray,rfl,by
   have:=dA w1 (.cells (us++rest).toArray e)
   rwa [hw.1]at this,hcap,hmax,by simp[hlen],fun i hi=>by
    have hul:us.length=xs.length*sz:=by rw[hc.1,hfl]
    simp only[Fz.more];rw[if_neg (by rintro⟨_,_,h3⟩;omega)];exact h.new i⟩)
  (fun k hk=>by simpa [Value.ownBlock]using hk.symm) hr
 exact⟨κ',_,h0',h1,h2⟩
theorem qo{n:Nat}:∀{vs:List AV} {xs:List (List AC)},jC n vs=some xs→xs.length=vs.length∧(∀x∈xs,x.length=n)
 | [],xs,h=>by simp only[jC,am]at h;subst h;simp
 |v::vs,xs,h=>by
  unfold jC at h;split at h
  ·split at h
   ·rename_i cs xs' h2 h3;split at h
    ·rename_i h4;cases h;obtain⟨k1,k2⟩:=qo h3;exact⟨by simp[k1],fun x hx=>by
      rcases aV.1 hx with rfl|hx
      ·exact aP h4
      ·exact k2 x hx⟩
    ·cases h
   ·cases h
  ·cases h
theorem oh{n:Nat}:∀{vs:List AV} {xs:List (List AC)} {i:Nat} {idx:List Nat} {us:List (Nat×Value)} {pre zs:List Value} {pc:List AC},jC n vs=some xs→oT i idx=true→idx.length=vs.length→us.length=vs.length→
 (∀(j:Nat) (k:Nat) (v:AV) (u:Nat×Value),idx[j]?=some k→vs[j]?=some v→us[j]?=some u→k=u.1∧AVr κ H v u.2)→Cs Con.no H pc pre→pre.length=i*n→zs.length=vs.length*n→
 ∃out:List Value,Instr.fill (fun i=>some (i*n,n)) (pre++zs).toArray us=some out.toArray∧Cs Con.no H (pc++xs.flatten) out
 | [],xs,i,idx,us,pre,zs,pc,h,_,_,hl,_,hp,_,hz=>by
  simp only[jC,am]at h;subst h;rw[aK hl];have:zs=[]:=aK (by simpa using hz);subst this;exact⟨pre,by simp[Instr.fill],by simpa using hp⟩
 |v::vs,xs,i,idx,us,pre,zs,pc,h,ho,hi,hl,hr,hp,hpl,hz=>by
  unfold jC at h;split at h
  ·rename_i v' hk;split at h
   ·rename_i cs xs' hcs hxs;split at h
    ·rename_i hb;cases h;have hcn:=aP hb;cases idx with
     |nil=>simp at hi
     |cons k idx=>
      cases us with
      |nil=>simp at hl
      |cons u us=>
       obtain⟨i',u⟩:=u;obtain⟨h1,h2⟩:=hr 0 k v _ rfl rfl rfl;simp only at h1 h2;simp only[oT,aw]at ho;have hik:=aP ho.1;have hku:=lQ (dO hk h2) hcs;have hsz:u.cells.size=n:=by rw[←hcn,←hku.1];simp
       have hzl:(v::vs).length*n=n+vs.length*n:=by simp only[aT,dQ];omega
       subst h1;subst hik;rw[ul (off:=i*n) (n:=n) rfl hsz (by rw[aH,hpl,hz,hzl];omega)];have htake:(pre++zs).take (i*n)=pre:=by rw[←hpl];exact List.take_left
       have hdrop:(pre++zs).drop (i*n+n)=zs.drop n:=by rw[←hpl,←dD,List.drop_left]
       rw[htake,hdrop];have:=oh (i:=i+1) (idx:=idx) (us:=us) (pre:=pre++u.cells.toList) (zs:=zs.drop n) (pc:=pc++cs) hxs ho.2 (by simpa using hi) (by simpa using hl)
        (fun j k v u h1 h2 h3=>hr (j+1) k v u (by simpa using h1) (by simpa using h2) (by simpa using h3)) (hp.append hku) (by rw[aH,hpl,bO,hsz,dQ]) (by rw[cr,hz,hzl];omega)
       simpa [fp]using this
    ·cases h
   ·cases h
  ·cases h
theorem tB(E:Env P T J)(hG:bK G H)(h:Rel X κ H s a w){o:Oper}{t len:Nat}{parts:Array (Nat×Operand)}(ho:o.op= .buildSlice t len parts){v:AV}{ws:List Wr}(hr:Runs P G s (evOp T J G o) (v,ws)):eM P X κ H s a o v ws w:=by
 simp only[evOp,ho]at hr;obtain⟨vs,hvs,hr1⟩:=az hr;clear hr;obtain⟨hl1,hl2⟩:=nW hG h hvs;split at hr1
 ·rename_i i d hT hd hlen;obtain⟨-,dd,hdd,hund,-⟩:=E.tab t i hT;simp only[aw]at hlen;have hlen1:=aP hlen.1;split at hr1
  ·rename_i e n by' hk
   rw[hk]at hund;obtain⟨rfl,ie,z,hie,hsz,-,hz,hzs,hpos⟩:=hund;split at hr1
   ·rename_i xs hxs hble;obtain⟨hx1,hx2⟩:=qo hxs;simp only[aw]at hble;have hb1:len≤64:=bB hble.1;have hb2:n≤64:=bB hble.2;have hsmall:len*n≤4096:=by
     have:=Nat.mul_le_mul hb1 hb2;omega
    have key:∀z0:Array Value,∃out:List Value,Instr.fill (fun i=>some (i*n,n)) ((Array.range (len*n)).map fun k=>z0[k % z0.size]!) (parts.map fun(i,x)=>(i,a.eval x)).toList=some out.toArray∧Cs Con.no H xs.flatten out:=by
     intro z0;obtain⟨out,hf,hco⟩:=oh (κ:=κ) (H:=H) (i:=0) (idx:=parts.toList.map (·.1)) (us:=(parts.map fun(i,x)=>(i,a.eval x)).toList) (pre:=[]) (zs:=((Array.range (len*n)).map fun k=>z0[k % z0.size]!).toList) (pc:=[]) hxs hlen.2 (by simp[hl1]) (by simp[hl1])
      (fun j k v u h1 h2 h3=>by
       simp only[Array.toList_map,aG,ar]at h1 h3;obtain⟨⟨i,x⟩,hx,hx1⟩:=h1;obtain⟨⟨i',x'⟩,hx',rfl⟩:=h3;rw[hx]at hx';cases hx';simp only at hx1 ⊢;exact⟨hx1.symm,hl2 j x v (by rw[aG,hx];rfl) h2⟩) .nil (by simp) (by simp[hlen1])
     rw[dG,Array.toArray_toList]at hf;exact⟨out,hf,by simpa using hco⟩
    have h24:¬(len*n > 2 ^ 24):=by omega
    intro K Q hn;unfold Oper.wp;have fin:∀out:List Value,Cs Con.no H xs.flatten out→(execOp a.eval o).run P w= .ok (.value (.slice (some ⟨w.heap.size,0,none⟩) len len)) (w.alloc (.cells out.toArray e))→o.upon P a K Q ((execOp a.eval o).run P w):=by
     intro out hco hrun;have hol:out.length=len*n:=by rw[hco.1,dk hx2,hx1,hlen1]
     obtain⟨κ',H',h0',h1,h2⟩:=mm (n:=len) (cap:=len) (rest:=[]) (w1:=w) h ⟨rfl,rfl,rfl,rfl⟩ hx2 (by rw[hx1,hlen1]) hco (au _) (by simp only[maxLen];omega) (by simpa using hol) hr1;rw[hrun,bN];rw[aX]at h1;exact hn κ' H' _ _ h0' h1 h2
    by_cases h0:len*n=0
    ·obtain⟨out,hf,hco⟩:=key #[];refine fin out hco ?_;simp only[execOp,ho,Instr.buildSlice,aY,aA hdd,aF,run_sizeOf hie w,hsz,h0,show ¬((0:Nat) > 2 ^ 24) by omega,if_false,if_true,bu];rw[h0]at hf;rw[hf];simp[newRow]
    ·obtain⟨out,hf,hco⟩:=key z.cells;refine fin out hco ?_;simp only[execOp,ho,Instr.buildSlice,aY,aA hdd,aF,run_sizeOf hie w,hsz,h24,if_false,h0,bu,zeroValue,typeInfo,run_program,hie,hz];rw[hf];simp[newRow]
   ·exact hr1.elim
  ·exact hr1.elim
 ·exact hr1.elim
end
section
variable{P:Program}{T:Tab}{J:Kn}{G:Nat→Option (List AC)}{X:Ctx}{κ:Con}{H:Fz}{s:St}{a:Act}{w:World}
theorem je{t ty e:Nat}{i:TypeInfo}(ht:P.underlying t=some (.slice e))(hi:P.info? e=some i)(base A:Option Addr)(n cap c:Nat)(hn:n≤cap)(w:World):
 (Builtin.append_ #[t,t] ty #[.slice base n cap,.slice A 0 c]).run P w= .ok (.slice base n cap) w:=by
 cases A<;>cases base<;>simp[Builtin.append_,aA ht,sizeOf,typeInfo,hi,Builtin.lenOf,hn,Builtin.firstCells,loadCells,loadCellsFrom,storeCells]
theorem pM(h:Rel X κ H s a w)(g:Nat):Step H w g H w:=⟨Fz.le_refl H,h.fz,fun _ _ _=>rfl,fun _ _=>rfl,au _,rfl,rfl,rfl⟩
theorem yW{n bytes:Nat}(h:n≤lim bytes):n≤maxLen∧n*bytes≤140737488355328∧(n:Int)≤9223372036854775807:=by
 unfold lim at h;have h1:n*(bytes+1)≤2 ^ 46:=dR (dn _ h) (Nat.div_mul_le_self _ _);rw[Nat.mul_succ]at h1;simp only[maxLen];omega
theorem kw(h:Rel X κ H s a w){t ty d e sz bytes:Nat}{ie:TypeInfo}{z:Value}(ht:P.underlying t=some (.slice e))(hie:P.info? e=some ie)(hz:ie.zero=some z)(hsz:ie.size=sz)(hby:ie.bytes=bytes)(hzs:z.cells.size=sz)
 {xs ys:List (List AC)} {sv:Value} {A:Option Addr} {c:Nat} (hs:ACr κ H (.sl e sz xs none) sv) (htl:Tail H w sv e sz)
 (hb:∀d b,find d s.boxes=some b→sv.ownBlock≠some (κ.blk d b.gen)) (hr':∀d' p k,find d' s.perms=some p→p.live=true→d'≠d→(κ.row d' p.gen).ownBlock=some k→sv.ownBlock≠some k) (hp:∀k,sv.ownBlock=some k→¬X.Pr k)
 (hys:∀y∈ys,y.length=sz) (hy:ys=[]∨∃b off us,A=some ⟨b,off,none⟩∧us.length=ys.flatten.length∧(∀(k:Nat) (u:Value),us[k]?=some u→H b (off+k)=some u)∧Cs Con.no H ys.flatten us)
 (hlim:xs.length+ys.length≤lim bytes):
 ∃u w',(Builtin.append_ #[t,t] ty #[sv,.slice A ys.length c]).run P w= .ok u w'∧∀v ws,Runs P G s (eO d e sz (xs++ys)) (v,ws)→∃κ' H',Con.le κ κ'∧Rel X κ' H' (s.writes ws) a w'∧AVr κ' H' v u:=by
 obtain⟨l1,l2,l3⟩:=yW hlim;obtain⟨B,cap,rfl,hcap,hxs,hx,-⟩:=nZ (.one _ _ hs);have hnew:∀d' b,find d' s.boxes=some b→κ.blk d' b.gen≠w.heap.size:=fun d' b e=>fW (h.box_lt e);by_cases hy0:ys=[]
 ·
  subst hy0;refine⟨_,_,je ht hie B A xs.length cap c hcap w,fun v ws hr=>?_⟩;rw[aX]at hr;rcases htl with hq|⟨g,n,cap',cur,hq,hcur,r1,r2,r3,r4⟩
  ·simp only[bR]at hq;obtain⟨rfl,hn0,rfl⟩:=hq;obtain⟨κ',k0,k1,k2⟩:=gL (g:=w.heap.size) h (pM h _) hnew (fun d' p e l _ hq=>eB _ (((h.perm d' p e).2 l).lt hq)) (fun hp=>by have:=X.lt _ hp;have:=h.grown;omega)
    (fR (c:=.sl e sz xs none) rfl hs) (.inl (by rw[hn0])) (fun k hk=>by simp[Value.ownBlock]at hk) hr
   exact⟨κ',H,k0,k1,k2⟩
  ·simp only[bR]at hq;obtain⟨rfl,hn0,rfl⟩:=hq;obtain⟨κ',k0,k1,k2⟩:=gL (g:=g) h (pM h _) (fun d' b e hq=>hb d' b e (by simp[Value.ownBlock,hq])) (fun d' p e l hd hq=>hr' d' p g e l hd hq rfl) (hp g rfl)
    (fR (c:=.sl e sz xs none) rfl hs) (.inr ⟨g,xs.length,cap,cur,rfl,hcur,hcap,r2,r3,by rw[hn0];exact r4⟩) (fun k hk=>by simpa [Value.ownBlock]using hk.symm) hr
   exact⟨κ',H,k0,k1,k2⟩
 ·obtain⟨b,off,us,rfl,u1,u2,u3⟩:=hy.resolve_left hy0;have hnews:∀(j:Nat) (u:Value),us[j]?=some u→w.cell? ((⟨b,off,none⟩:Addr).add j)=some u:=fun j u hj=>by rw[dI];exact h.fz _ _ _ (u2 j u hj)
  have hul:us.length=ys.length*ie.size:=by rw[u1,dk hys,hsz]
  have hall:∀y∈xs++ys,y.length=sz:=fun y hy=>(aM.1 hy).elim (hxs y) (hys y);have hm:0<ys.length:=eP.2 hy0;have hfl:(xs++ys).flatten=xs.flatten++ys.flatten:=by simp
  have hzl:∀k,(Builtin.zeroCells z.cells k).toList.length=k*sz:=fun k=>by rw[bO,size_zeroCells,hzs]
  have harr:∀(l:List Value) (z:Array Value),(l++z.toList).toArray=l.toArray++z:=fun l z=>by apply ep;simp
  rcases htl with hq|⟨g,n,cap',cur,hq,hcur,r1,r2,r3,r4⟩
  ·
   simp only[bR]at hq;obtain⟨rfl,hn0,rfl⟩:=hq;have hx0:xs=[]:=aK hn0;subst hx0;have hrun:=run_append_nil (P:=P) w t ty e ie z ht hie hz ⟨b,off,none⟩ ys.length c us hul hnews hm (by simpa using l3) (by rw[hby];simp only[bJ,bA]at l2;omega)
   refine⟨_,_,hrun,fun v ws hr=>?_⟩;have hge:=grownCap_ge w ys.length 0 e;have:=mm (n:=ys.length) (cap:=grownCap w ys.length 0 e) (rest:=(Builtin.zeroCells z.cells (grownCap w ys.length 0 e-ys.length)).toList) (w1:=w.drew) h ⟨rfl,rfl,rfl,rfl⟩ hall (by simp) (by rw[hfl];simpa using u3) hge
    (gY w _ 0 e (by simpa using l1)) (by rw[hzl,hul,hsz,←fm];congr 1;omega) hr
   rw[harr]at this;simpa using this
  ·simp only[bR]at hq;obtain⟨rfl,hn0,rfl⟩:=hq;subst hn0;obtain⟨olds,o1,o2,o3⟩:∃olds:List Value,olds.length=xs.flatten.length∧(∀(k:Nat) (u:Value),olds[k]?=some u→H g k=some u)∧Cs Con.no H xs.flatten olds:=by
    rcases hx with rfl|⟨b',off',us',e',h1,h2,h3⟩
    ·exact⟨[],rfl,by simp,.nil⟩
    ·simp only[am,gf]at e';obtain⟨rfl,rfl,-⟩:=e';exact⟨us',h1,fun k u hk=>by simpa using h2 k u hk,h3⟩
   have hol:olds.length=xs.length*ie.size:=by rw[o1,dk hxs,hsz]
   by_cases hroom:xs.length+ys.length≤cap
   ·
    have hfit:xs.length*ie.size+us.length≤cur.size:=by rw[r3,hul,hsz,←fm];exact dn _ hroom
    have hrun:=run_append_room (P:=P) w t ty e ie ht hie g xs.length cap cur hcur ⟨b,off,none⟩ ys.length c us hul hnews u3.oneCell hroom hfit;refine⟨_,_,hrun,fun v ws hr=>?_⟩;rw[hsz]at hfit hul hol ⊢;generalize hnc:(cur.toList.take (xs.length*sz)++us++cur.toList.drop (xs.length*sz+us.length)).toArray=nc
    have hncs:nc.size=cap*sz:=by rw[←hnc,←r3];simp;omega
    have hncel:∀i,nc[i]?=if i<xs.length*sz then cur[i]? else if i<xs.length*sz+us.length then us[i-xs.length*sz]? else cur[i]? :=by
     intro i;rw[←hnc];simp only[List.getElem?_toArray,fp];have hlt:(cur.toList.take (xs.length*sz)).length=xs.length*sz:=by simp;omega
     split
     ·rename_i hi;rw[bH (by omega),bM,if_pos hi];simp
     ·rename_i hi;rw[cj (by omega),hlt];split
      ·rename_i hi2;rw[bH (by omega)]
      ·rename_i hi2;rw[cj (by omega),cI];rw[show xs.length*sz+us.length+(i-xs.length*sz-us.length)=i by omega];simp
    have hcell:∀i,(w.setRow g nc).cell? ⟨g,i,none⟩=nc[i]? :=fun i=>cell_setRow_same w g i cur nc e (0,0) hcur;have hle:Fz.le H (H.more g (xs.length*sz) us):=Fz.le_more fun i hi _=>r4 i hi;have hstep:Step H w g (H.more g (xs.length*sz) us) (w.setRow g nc):={
     le:=hle
     fz:=fun b' i u hu=>by
      by_cases hbg:b'=g
      ·subst hbg;rw[hcell,hncel];simp only[Fz.more]at hu;split at hu
       ·rename_i hc';rw[if_neg (by omega),if_pos hc'.2.2];exact hu
       ·rename_i hc';have hi:i<xs.length*sz:=by
         rcases eA i (xs.length*sz) with h'|h'
         ·exact h'
         ·rw[r4 i h']at hu;cases hu
        rw[if_pos hi];have:=h.fz _ _ _ hu
        rwa [ii w _ i cur e (0,0) hcur]at this
      ·rw[Fz.more_other H _ us hbg]at hu;rw[cell_setRow_other w g nc ⟨b',i,none⟩ hbg];exact h.fz _ _ _ hu
     heap:=fun b' _ hb'=>setRow_other w g b' nc hb'
     kept:=fun b' hb'=>Fz.more_other H _ us hb'
     grown:=by simp
     os:=rfl
     tape:=rfl
     output:=rfl}
    have hcs:=(o3.mono (Con.le_refl _) hle).append (u3.mono (Con.le_refl _) hle);have hul':olds.length=xs.length*sz:=by rw[o1,dk hxs]
    obtain⟨κ',k0,k1,k2⟩:=gL (g:=g) (u:=.slice (some ⟨g,0,none⟩) (xs.length+ys.length) cap) h hstep (fun d' b e hq=>hb d' b e (by simp[Value.ownBlock,hq])) (fun d' p e l hd hq=>hr' d' p g e l hd hq rfl) (hp g rfl)
     (by
      have:=ACr.sl (κ:=Con.no) (H:=H.more g (xs.length*sz) us) e sz (xs++ys) none g 0 cap (olds++us) (by simpa using hroom) hall (by rw[hfl];exact hcs.1)
       (fun k u hk=>by
        rw[dN]at hk;split at hk
        ·rw[bA];exact hle _ _ _ (o2 k u hk)
        ·rename_i hk';have:=Fz.more_at H g (xs.length*sz) us _ u hk
         rwa [hul',show xs.length*sz+(k-xs.length*sz)=0+k by omega]at this)
       (by rw[hfl];exact hcs.2) (ka.none _ _)
      simpa using this)
     (.inr ⟨g,xs.length+ys.length,cap,nc,rfl,setRow_heap w g cur nc e (0,0) hcur,hroom,r2,hncs,fun i hi=>by
      rw[fm]at hi;simp only[Fz.more];rw[if_neg (by rintro⟨_,_,h3⟩;omega)];exact r4 i (by omega)⟩)
     (fun k hk=>by simpa [Value.ownBlock]using hk.symm) hr
    exact⟨κ',_,k0,k1,k2⟩
   ·
    have hrun:=run_append_grow (P:=P) w t ty e ie z ht hie hz ⟨g,0,none⟩ xs.length cap olds hol (fun j u hj=>by rw[dI,bA];exact h.fz _ _ _ (o2 j u hj)) ⟨b,off,none⟩ ys.length c us hul hnews (by omega) l3 (growslice_fits (by omega) (by rw[hby];exact l2))
    refine⟨_,_,hrun,fun v ws hr=>?_⟩;have hge:=grownCap_ge w (xs.length+ys.length) cap e;rw[hsz]at hul hol
    have:=mm (n:=xs.length+ys.length) (cap:=grownCap w (xs.length+ys.length) cap e) (us:=olds++us) (rest:=(Builtin.zeroCells z.cells (grownCap w (xs.length+ys.length) cap e-(xs.length+ys.length))).toList) (w1:=w.drew) h ⟨rfl,rfl,rfl,rfl⟩ hall (by simp) (by rw[hfl];exact o3.append u3) hge
     (gY w _ cap e l1) (by rw[hzl,aH,hul,hol,←fm,←fm];congr 1;omega) hr
    rw[harr]at this;simpa using this
theorem ym(E:Env P T J)(h:Rel X κ H s a w){d t ty:Nat}{x y:AV}{xv yv:Value}(hx:AVr κ H x xv)(hy:AVr κ H y yv){v:AV}{ws:List Wr}(hr:Runs P G s (wq T d t x y) (v,ws)):
 ∃u w' κ' H',Con.le κ κ'∧(Builtin.append_ #[t,t] ty #[xv,yv]).run P w= .ok u w'∧Rel X κ' H' (s.writes ws) a w'∧AVr κ' H' v u:=by
 unfold wq at hr;split at hr
 ·rename_i i hT;obtain⟨-,dd,hdd,hund,-⟩:=E.tab t i hT;split at hr
  ·rename_i e sz bytes hk;rw[hk]at hund;obtain⟨rfl,ie,z,hie,hsz,hby,hz,hzs,hpos⟩:=hund;split at hr
   ·rename_i ys hys;obtain⟨A,c,rfl,k1,k2,k3⟩:=mI hy hys;split at hr
    ·
     obtain⟨e1,-⟩:=cN hx;subst e1;obtain⟨hlim,hr⟩:=hr
     obtain⟨u,w',h1,h2⟩:=kw h (ty:=ty) (d:=d) (xs:=[]) (ys:=ys) (sv:=.slice none 0 0) (A:=A) (c:=c) hdd hie hz hsz hby hzs (.nil e sz none none 0 (ka.none _ _)) (.inl rfl) (fun _ _ _=>by simp[Value.ownBlock]) (fun _ _ _ _ _ _ _=>by simp[Value.ownBlock]) (fun _ hq=>by simp[Value.ownBlock]at hq) k2 k3 (by simpa using hlim)
     obtain⟨κ',H',h0',h3,h4⟩:=h2 v ws (by simpa using hr);exact⟨u,w',κ',H',h0',h1,h3,h4⟩
    ·
     have e1:=inv_nil hx;subst e1;obtain⟨hlim,hr⟩:=hr
     obtain⟨u,w',h1,h2⟩:=kw h (ty:=ty) (d:=d) (xs:=[]) (ys:=ys) (sv:=.slice none 0 0) (A:=A) (c:=c) hdd hie hz hsz hby hzs (.nil e sz none none 0 (ka.none _ _)) (.inl rfl) (fun _ _ _=>by simp[Value.ownBlock]) (fun _ _ _ _ _ _ _=>by simp[Value.ownBlock]) (fun _ hq=>by simp[Value.ownBlock]at hq) k2 k3 (by simpa using hlim)
     obtain⟨κ',H',h0',h3,h4⟩:=h2 v ws (by simpa using hr);exact⟨u,w',κ',H',h0',h1,h3,h4⟩
    ·rename_i e' sz' xs d0 g0;simp only[Runs]at hr;split at hr
     ·rename_i rg re rs hf;split at hr
      ·rename_i hb1 hb2;simp only[aw]at hb2;have hg:=aP hb1;have e1:=aP hb2.1.1.1;have e2:=aP hb2.1.1.2;have e3:=aP hb2.1.2;have e4:=aP hb2.2;subst e1;subst e2;subst e3;subst e4;subst hg;obtain⟨hlim,hr⟩:=hr;obtain⟨-,-,-,-,-,-,htok⟩:=nZ hx
       obtain⟨-,hrow⟩:=htok d0 rg rfl;obtain⟨hnr,htail⟩:=h.perm d0 _ hf;have htail:=htail rfl;simp only at hrow htail;rw[hrow]at htail;have hxc:ACr κ H (.sl e sz xs none) xv:=by
        have:AVr κ H (.one (.sl e sz xs none)) xv:=(dO (v:=.one (.sl e sz xs (some (d0,rg)))) rfl hx).mono (Con.no_le κ) (Fz.le_refl H);cases this with|one _ _ h=>exact h
       have hbb:∀d b,find d s.boxes=some b→xv.ownBlock≠some (κ.blk d b.gen):=fun d' b e=>by
        have:=h.br d' d0 b _ e hf rfl;simp only at this
        rwa [hrow]at this
       have hpp:∀k,xv.ownBlock=some k→¬X.Pr k:=fun k hk=>h.pr d0 _ k hf rfl (by simp only;rwa [hrow]);split at hr
       ·rename_i hd;have hd:=aP hd;subst hd;obtain⟨u,w',h1,h2⟩:=kw h (ty:=ty) (d:=d0) (A:=A) (c:=c) hdd hie hz hsz hby hzs hxc htail hbb (fun d' p k e l hd hk hq=>hd (h.rr d' d0 p _ k e hf l rfl hk (by simp only;rwa [hrow]))) hpp k2 k3 hlim;obtain⟨κ',H',h0',h3,h4⟩:=h2 v ws hr
        exact⟨u,w',κ',H',h0',h1,h3,h4⟩
       ·rename_i hd;have hd:=eZ hd;have hdrop:=h.drop d0;obtain⟨u,w',h1,h2⟩:=kw hdrop (ty:=ty) (d:=d) (A:=A) (c:=c) hdd hie hz hsz hby hzs hxc htail hbb (fun d' p k e l hd' hk hq=>by
         simp only[St.write]at e;rw[eL]at e;split at e
         ·rw[ar]at e;obtain⟨q,hq',rfl⟩:=e;simp[Perm.dead]at l
         ·rename_i hne;exact hne (h.rr d' d0 p _ k e hf l rfl hk (by simp only;rwa [hrow])).symm) hpp k2 k3 hlim
        obtain⟨⟨v',ws'⟩,hr1,hr2⟩:=az hr;simp only[Runs,ai]at hr2;obtain⟨rfl,rfl⟩:=hr2;have hr1':Runs P G (s.write (.drop d0)) (eO d e sz (xs++ys)) (v',ws'):=by
         unfold eO at hr1 ⊢;simp only[Runs]at hr1 ⊢;have:find d (s.write (.drop d0)).perms=find d s.perms:=by simp only[St.write];rw[eL,if_neg hd]
         rw[this];cases hq:find d s.perms with
         |none=>rw[hq]at hr1;exact hr1
         |some p=>rw[hq]at hr1;exact hr1
        obtain⟨κ',H',h0',h3,h4⟩:=h2 v' ws' hr1';exact⟨u,w',κ',H',h0',h1,h3,h4⟩
      ·exact hr.elim
     ·exact hr.elim
    ·exact hr.elim
   ·exact hr.elim
  ·exact hr.elim
 ·exact hr.elim
end
section
variable{P:Program}{T:Tab}{J:Kn}{G:Nat→Option (List AC)}{X:Ctx}{κ:Con}{H:Fz}{s:St}{a:Act}{w:World}
def Al(κ:Con)(Qa:List Arg)(us:List Value)(bs:List (Nat×Box)):Prop:=
 ∀H' w' css,tp H' w' Qa us css→css.length=bs.length∧∀(i d:Nat) (b:Box) (cs:List AC),bs[i]?=some (d,b)→css[i]?=some cs→gO Con.no H' w' (κ.blk d b.gen) b.ty cs
theorem wm(h:Rel X κ H s a w):∀{vs:List AV} {us:List Value} {Qa:List Arg} {bs:List (Nat×Box)},Runs P G s (te vs) (Qa,bs)→us.length=vs.length→(∀(j:Nat) (v:AV) (u:Value),vs[j]?=some v→us[j]?=some u→AVr κ H v u)→
 mR H w Qa us∧cC Qa us=bs.map (fun x=>κ.blk x.1 x.2.gen)∧(∀x∈bs,find x.1 s.boxes=some x.2)∧(bs.map (·.1)).Nodup∧Al κ Qa us bs
 | [],us,Qa,bs,hr,hl,_=>by
  simp only[te,Runs,ai]at hr;obtain⟨rfl,rfl⟩:=hr;rw[aK hl];exact⟨trivial,rfl,by simp,by simp,fun _ _ css h=>by cases css with|nil=>simp|cons=>exact h.elim⟩
 |v::vs,[],_,_,_,hl,_=>by simp at hl
 |v::vs,u::us,Qa,bs,hr,hl,hv=>by
  have hu:=hv 0 v u rfl rfl;have hv':∀(j:Nat) (v:AV) (u:Value),vs[j]?=some v→us[j]?=some u→AVr κ H v u:=fun j v u h1 h2=>hv (j+1) v u (by simpa using h1) (by simpa using h2)
  have val:∀{Qa bs},Runs P G s (match iy v with|some a=>(te vs).bind fun(Qa,bs)=>.ret (.val a::Qa,bs)|none=>(.none:Rd (List Arg×List (Nat×Box)))) (Qa,bs)→
   mR H w Qa (u::us)∧cC Qa (u::us)=bs.map (fun x=>κ.blk x.1 x.2.gen)∧(∀x∈bs,find x.1 s.boxes=some x.2)∧(bs.map (·.1)).Nodup∧Al κ Qa (u::us) bs:=by
   intro Qa bs hr;split at hr
   ·rename_i a' hk;obtain⟨⟨as',bs'⟩,hr1,hr2⟩:=az hr;simp only[Runs,ai]at hr2;obtain⟨rfl,rfl⟩:=hr2;obtain⟨h1,h2,h3,h4,h5⟩:=wm h hr1 (by simpa using hl) hv';exact⟨⟨dO hk hu,h1⟩,h2,h3,h4,fun H' w' css ho=>h5 H' w' css ho⟩
   ·exact hr.elim
  unfold te at hr;split at hr
  ·rename_i hq;cases hq
  ·rename_i d g vs' hq;cases hq;obtain⟨⟨bg,bt,bc⟩,hb,hr1⟩:=az hr;obtain⟨hf,hg⟩:=wc hb;simp only at hr1 hg;split at hr1
   ·rename_i cs hk;obtain⟨⟨as',bs'⟩,hr2,hr3⟩:=az hr1;simp only at hr3;split at hr3
    ·exact hr3.elim
    ·rename_i hany;simp only[Runs,ai]at hr3;obtain⟨rfl,rfl⟩:=hr3;obtain⟨h1,h2,h3,h4,h5⟩:=wm h hr2 (by simpa using hl) hv';obtain⟨e1,-⟩:=gD hu;subst hg;obtain⟨-,hin1,us',hin2,hin3⟩:=h.box d _ hf;refine⟨⟨⟨_,e1,hin1,us',hin2,iO hk hin3⟩,h1⟩,?_,?_,?_,?_⟩
     ·rw[e1];simp only[cC,h2,bE]
     ·intro x hx;rcases aV.1 hx with rfl|hx
      ·exact hf
      ·exact h3 x hx
     ·simp only[bE,bF];refine⟨fun hm=>?_,h4⟩;obtain⟨x,hx,hxd⟩:=bZ.1 hm;have:bs'.any (fun x=>Nat.beq x.1 d)=true:=eT.2 ⟨x,hx,by rw[hxd];exact qa d⟩;rw[this]at hany;cases hany
     ·intro H' w' css ho;cases css with
      |nil=>exact ho.elim
      |cons cs0 css=>
       obtain⟨⟨b0,hb0,hbin⟩,ho⟩:=ho;obtain⟨k1,k2⟩:=h5 H' w' css ho;refine⟨by simp[k1],fun i d' b' cs' hi hc=>?_⟩;cases i with
       |zero=>
        simp only[aZ,am,ai]at hi hc;obtain⟨rfl,rfl⟩:=hi;subst hc;rw[e1]at hb0;simp only[Value.pointer.injEq,am,gf]at hb0;rw[hb0.1];exact hbin
       |succ i=>exact k2 i d' b' cs' (by simpa using hi) (by simpa using hc)
   ·exact hr1.elim
  ·rename_i hq;cases hq;exact val hr
theorem aah:∀{bs:List (Nat×Box)} {css:List (List AC)} {ws:List Wr} (s:St),xg bs css=some ws→(bs.map (·.1)).Nodup→∃bxs,s.writes ws=⟨s.tmps,bxs,s.perms⟩∧
 (∀d,d∉bs.map (·.1)→find d bxs=find d s.boxes)∧∀(i d:Nat) (b:Box) (cs:List AC),bs[i]?=some (d,b)→css[i]?=some cs→find d bxs=some ⟨b.gen,b.ty,cs⟩
 | [],css,ws,s,h,_=>by
  cases css with
  |nil=>simp only[xg,am]at h;subst h;exact⟨s.boxes,rfl,fun _ _=>rfl,by simp⟩
  |cons=>cases h
 |(d,⟨g,ty,c0⟩)::bs,[],ws,s,h,_=>by cases h
 |(d,⟨g,ty,c0⟩)::bs,cs::css,ws,s,h,hn=>by
  simp only[xg,ar]at h;obtain⟨ws',h1,rfl⟩:=h;simp only[bE,bF]at hn;obtain⟨bxs,k1,k2,k3⟩:=aah (s.write (.box d ⟨g,ty,cs⟩)) h1 hn.2;refine⟨bxs,k1,fun d' hd'=>?_,fun i d' b' cs' hi hc=>?_⟩
  ·simp only[bE,aV,not_or]at hd';rw[k2 d' hd'.2];simp only[St.write,cD];exact if_neg fun e=>hd'.1 e.symm
  ·cases i with
   |zero=>
    simp only[aZ,am,ai]at hi hc;obtain⟨rfl,rfl⟩:=hi;subst hc;rw[k2 d hn.1];simp[St.write,cD]
   |succ i=>exact k3 i d' b' cs' (by simpa using hi) (by simpa using hc)
theorem bQ(s:St):∀(ws ws':List Wr),s.writes (ws++ws')=(s.writes ws).writes ws'
 | [],_=>rfl
 |w::ws,ws'=>bQ (s.write w) ws ws'
theorem rD{H:Fz}{w:World}{n:Nat}:∀{rs:List Res} {vs:List AV} {us:List Value},pK rs=some vs→ResL H w n rs us→us.length=vs.length∧∀(j:Nat) (v:AV) (u:Value),vs[j]?=some v→us[j]?=some u→AVr Con.no H v u
 | [],vs,us,h,hr=>by
  simp only[pK,am]at h;subst h;cases us with
  |nil=>simp
  |cons=>exact hr.elim
 | .row .. ::rs,vs,us,h,_=>by cases h
 | .val a::rs,vs,us,h,hr=>by
  unfold pK at h;split at h
  ·rename_i vs' h1;cases h;cases us with
   |nil=>exact hr.elim
   |cons u us=>
    obtain⟨k1,k2⟩:=rD h1 hr.2;refine⟨by simp[k1],fun j v u' hv hu=>?_⟩;cases j with
    |zero=>simp at hv hu;subst hv;subst hu;exact hr.1
    |succ j=>exact k2 j v u' (by simpa using hv) (by simpa using hu)
  ·cases h
theorem vf{κ:Con}{H:Fz}{vs:List AV}{us:List Value}(hl:us.length=vs.length)(h:∀(j:Nat) (v:AV) (u:Value),vs[j]?=some v→us[j]?=some u→AVr κ H v u):AVr κ H (acq vs) (ff us):=by
 match vs,us,hl with
 | [],[],_=>exact .tup [] [] rfl (by simp)
 | [v],[u],_=>exact h 0 v u rfl rfl
 |v::v'::vs,u::u'::us,hl=>exact .tup _ _ hl h
theorem abE(E:Env P T J)(hG:bK G H)(h:Rel X κ H s a w){o:Oper}{d f:Nat}{vs:List AV}{us:List Value}(hl:us.length=vs.length)(hv:∀(j:Nat) (v:AV) (u:Value),vs[j]?=some v→us[j]?=some u→AVr κ H v u)
 (hrun:∀fn c,P.funcs[f]?=some fn→fn.body=some c→(fn.name== "runtime.NumGoroutine")=false→(execOp a.eval o).run P w= .ok (.enter f us.toArray) w) {v:AV} {ws:List Wr} (hr:Runs P G s (aeo J d f vs) (v,ws)):eM P X κ H s a o v ws w:=by
 unfold aeo at hr;split at hr
 ·rename_i hfb;obtain⟨fn,c,hfn,hbody,hname⟩:=E.fbs f hfb;obtain⟨⟨Qa,bs⟩,hr1,hr2⟩:=az hr;obtain⟨hargs,hblocks,hbs,hnd,hal⟩:=wm h hr1 hl hv;obtain⟨rs,css,hct,hr3⟩:=hr2;have hndb:(cC Qa us).Nodup:=by
   rw[hblocks];have:(bs.map fun x=>κ.blk x.1 x.2.gen)=bs.map fun x=>κ.blk x.1 x.2.gen:=rfl;rw[List.nodup_iff_pairwise_ne,List.pairwise_map];rw[List.nodup_iff_pairwise_ne,List.pairwise_map]at hnd;exact hnd.imp_of_mem fun{x y} hx hy hne hq=>hne (h.bb x.1 y.1 x.2 y.2 (hbs x hx) (hbs y hy) hq)
  intro K Q hn;unfold Oper.wp;rw[hrun fn c hfn hbody hname,Oper.upon_enter];refine hU (hct H w us h.fz hG hargs hndb) fun e w' hpost=>?_;obtain⟨rv,H',rfl,hp⟩:=hpost;show K (a.put o.dst rv) w';simp only at hr3;split at hr3
  ·rename_i ws1 hws1;obtain⟨⟨vs',ws2⟩,hr4,hr5⟩:=az hr3;simp only[Runs,ai]at hr5;obtain⟨rfl,rfl⟩:=hr5;obtain⟨bxs,hw1,hnot,hin⟩:=aah s hws1 hnd;obtain⟨hlen,hbox⟩:=hal H' w' css hp.outs;have hnblk:∀d b,find d s.boxes=some b→d∉bs.map (·.1)→κ.blk d b.gen∉cC Qa us:=by
    intro d b hf hd hm;rw[hblocks]at hm;obtain⟨x,hx,hq⟩:=bZ.1 hm;exact hd (bZ.2 ⟨x,hx,(h.bb d x.1 b x.2 hf (hbs x hx) hq.symm).symm⟩)
   have hcases:∀d b',find d bxs=some b'→(d∉bs.map (·.1)∧find d s.boxes=some b')∨∃b cs,find d s.boxes=some b∧b'=⟨b.gen,b.ty,cs⟩∧gO Con.no H' w' (κ.blk d b.gen) b.ty cs:=by
    intro d b' hf;by_cases hd:d∈bs.map (·.1)
    ·obtain⟨x,hx,rfl⟩:=bZ.1 hd;obtain⟨i,hi⟩:=bT.1 hx;have hlt:i<css.length:=by rw[hlen];exact(aq.1 hi).1
     have hc:=ad hlt;have:=hin i x.1 x.2 _ hi hc;rw[this]at hf;exact .inr ⟨x.2,_,hbs x hx,(cg hf).symm,hbox i x.1 x.2 _ hi hc⟩
    ·exact .inl ⟨hd,by rw[←hnot d hd];exact hf⟩
   have hrel1:Rel X κ H' ⟨s.tmps,bxs,s.perms⟩ a w':=by
    refine h.boxes (fun d b' hf=>?_) (fun d hf=>?_) hp.le hp.fz (fun k hk hkn=>?_) hp.grown hp.os hp.tape hp.output
    ·rcases hcases d b' hf with⟨hd,hf'⟩|⟨b,cs,hf',rfl,hb⟩
     ·have hk:=hp.keep _ (h.box_lt hf') (hnblk d b' hf' hd);exact⟨b',hf',rfl,(h.box d b' hf').2.kept hk.1 hk.2 (Con.le_refl κ) hp.le⟩
     ·obtain⟨k1,us',k2,k3⟩:=hb;exact⟨b,hf',rfl,k1,us',k2,k3.mono (Con.no_le κ) (Fz.le_refl H')⟩
    ·by_cases hd:d∈bs.map (·.1)
     ·obtain⟨x,hx,rfl⟩:=bZ.1 hd;obtain⟨i,hi⟩:=bT.1 hx;have hlt:i<css.length:=by rw[hlen];exact(aq.1 hi).1
      rw[hin i x.1 x.2 _ hi (ad hlt)]at hf;cases hf
     ·rw[←hnot d hd];exact hf
    ·refine hp.keep k hk fun hm=>?_;rw[hblocks]at hm;obtain⟨x,hx,hq⟩:=bZ.1 hm;exact hkn x.1 x.2 (hbs x hx) hq
   rw[bQ,hw1]at hn;obtain⟨vs1,hres,rfl⟩:=hp.res;unfold resE at hr4;split at hr4
   ·rename_i e sz xs rs';split at hr4
    ·rename_i vals hvals;obtain⟨⟨v0,ws0⟩,hr6,hr7⟩:=az hr4;simp only[Runs,ai]at hr7;obtain⟨rfl,rfl⟩:=hr7;cases vs1 with
     |nil=>exact hres.elim
     |cons u0 vs1=>
      obtain⟨⟨r1,r2,r3⟩,hres⟩:=hres;obtain⟨k1,k2⟩:=rD hvals hres;have hr6':Runs P G ⟨s.tmps,bxs,s.perms⟩ (eO d e sz xs) (v0,ws0):=by
       unfold eO at hr6 ⊢;simp only[Runs]at hr6 ⊢;cases hq:find d s.perms with
       |none=>rw[hq]at hr6;exact hr6
       |some p=>rw[hq]at hr6;exact hr6
      have hgx:∃g,w.heap.size≤g∧∀k,u0.ownBlock=some k→k=g:=by
       cases hq:u0.ownBlock with
       |none=>exact⟨w.heap.size,au _,fun _ hk=>by cases hk⟩
       |some k=>exact⟨k,r3 k hq,fun _ hk=>(cg hk).symm⟩
      obtain⟨g,hg1,hg2⟩:=hgx;obtain⟨κ',z0,z1,z2⟩:=gL (g:=g) hrel1 (pM hrel1 g)
       (fun d' b e hq=>by
        rcases hcases d' b e with⟨_,hf'⟩|⟨b',cs,hf',rfl,_⟩
        ·have:=h.box_lt hf';omega
        ·have:=h.box_lt hf';simp only at hq;omega)
       (fun d' p e l _ hq=>by have:=((h.perm d' p e).2 l).lt hq;omega)
       (fun hp'=>by have:=X.lt _ hp';have:=h.grown;omega) r1 r2 hg2 hr6'
      refine hn κ' H' w' _ z0 z1 (vf (by simp[k1]) fun j v u hj hu=>?_);cases j with
      |zero=>simp at hj hu;subst hj;subst hu;exact z2
      |succ j=>exact(k2 j v u (by simpa using hj) (by simpa using hu)).mono (Con.no_le κ') (Fz.le_refl H')
    ·exact hr4.elim
   ·split at hr4
    ·rename_i vals hvals;simp only[Runs,ai]at hr4;obtain⟨rfl,rfl⟩:=hr4;obtain⟨k1,k2⟩:=rD hvals hres;exact hn κ H' w' _ (Con.le_refl κ) hrel1 (vf k1 fun j v u hj hu=>(k2 j v u hj hu).mono (Con.no_le κ) (Fz.le_refl H'))
    ·exact hr4.elim
  ·exact hr3.elim
 ·exact hr.elim
end
section
variable{P:Program}{T:Tab}{J:Kn}{G:Nat→Option (List AC)}{X:Ctx}{κ:Con}{H:Fz}{s:St}{a:Act}{w:World}
theorem acS{f:Int→Int→Int}{vs:List AV}{v:AV}{ws:List Wr}(hr:Runs P G s (one2 f vs) (v,ws)):∃m n,vs=[.one (.v (.int .i64 m)),.one (.v (.int .i64 n))]∧v= .one (.v (.int .i64 (f m n)))∧ws=[]:=by
 unfold one2 at hr;split at hr
 ·simp only[Runs,ai]at hr;obtain⟨rfl,rfl⟩:=hr;exact⟨_,_,rfl,rfl,rfl⟩
 ·exact hr.elim
theorem yh(c:Call)(a:Act):c.args.map a.eval=(c.args.toList.map a.eval).toArray:=by
 apply ep;simp
theorem afp(E:Env P T J)(hG:bK G H)(h:Rel X κ H s a w){o:Oper}{c:Call}(ho:o.op= .call c){v:AV}{ws:List Wr}(hr:Runs P G s (evOp T J G o) (v,ws)):eM P X κ H s a o v ws w:=by
 simp only[evOp,ho]at hr;obtain⟨vs,hvs,hr1⟩:=az hr;clear hr;obtain⟨hl1,hl2⟩:=nW hG h hvs;have hpt:∀(j:Nat) (v:AV) (u:Value),vs[j]?=some v→(c.args.toList.map a.eval)[j]?=some u→AVr κ H v u:=by
  intro j v u h1 h2;rw[aG,ar]at h2;obtain⟨x,hx,rfl⟩:=h2;exact hl2 j x v hx h1
 have hlen:(c.args.toList.map a.eval).length=vs.length:=by rw[cG,hl1]
 generalize hus:c.args.toList.map a.eval=us at hpt hlen;have hargs:c.args.map a.eval=us.toArray:=by rw[yh,hus]
 split at hr1
 ·
  rename_i hcal;split at hr1
  ·rename_i v0 t ht
   match us,hlen with
   | [u0],_=>
    have hta:c.argTypes= #[t]:=by apply ep;rw[ht]
    obtain⟨n,rfl,rfl,⟨b,rfl,rfl,hu⟩|⟨A,cap,e,rfl,hu⟩⟩:=ahF E (hpt 0 _ u0 rfl rfl) hr1
    ·exact eM.value h (by simp[execOp,ho,resolve,hcal,hargs,invoke,builtin,hta,Builtin.len_,aA hu,goInt]) (bP rfl)
    ·exact eM.value h (by simp[execOp,ho,resolve,hcal,hargs,invoke,builtin,hta,Builtin.len_,aA hu,goInt]) (bP rfl)
  ·exact hr1.elim
 ·rename_i hcal;obtain⟨m,n,rfl,rfl,rfl⟩:=acS hr1
  match us,hlen with
  | [u0,u1],_=>
   obtain⟨rfl,-⟩:=cN (hpt 0 _ u0 rfl rfl);obtain⟨rfl,-⟩:=cN (hpt 1 _ u1 rfl rfl);refine eM.value h ?_ (bP rfl);simp[execOp,ho,resolve,hcal,hargs,invoke,builtin,Builtin.max_,Builtin.max2]
 ·rename_i hcal;obtain⟨m,n,rfl,rfl,rfl⟩:=acS hr1
  match us,hlen with
  | [u0,u1],_=>
   obtain⟨rfl,-⟩:=cN (hpt 0 _ u0 rfl rfl);obtain⟨rfl,-⟩:=cN (hpt 1 _ u1 rfl rfl);refine eM.value h ?_ (bP rfl);simp[execOp,ho,resolve,hcal,hargs,invoke,builtin,Builtin.min_,Builtin.min2]
 ·
  rename_i hcal;split at hr1
  ·rename_i x y d t t' hd ht;split at hr1
   ·rename_i hb;have hb:=aP hb;subst hb
    match us,hlen with
    | [u0,u1],_=>
     obtain⟨u,w',κ',H',h0',h1,h2,h3⟩:=ym E (ty:=o.type) h (hpt 0 _ u0 rfl rfl) (hpt 1 _ u1 rfl rfl) hr1;have hta:c.argTypes= #[t,t]:=by apply ep;rw[ht]
     intro K Q hn;unfold Oper.wp;have hrun:(execOp a.eval o).run P w= .ok (.value u) w':=by
      simp[execOp,ho,resolve,hcal,hargs,invoke,builtin,hta,h1]
     rw[hrun,bN];exact hn κ' H' w' u h0' h2 h3
   ·exact hr1.elim
  ·exact hr1.elim
 ·
  rename_i f hcal;obtain⟨p,hp,hr2⟩:=opd1 hG h hr1;split at hr2
  ·rename_i g caps;cases hp with|one _ _ hp=>
   generalize he:a.eval f=fv at hp;cases hp with
   |clo _ _ cus hcl hcr=>
    refine abE E hG h (us:=us++cus) (by simp[hlen,hcl]) (fun j v u hj hu=>?_) (fun fn cc hfn hbody hname=>?_) hr2
    ·rw[dN]at hj hu;rw[hlen]at hu;split at hj
     ·rename_i hlt;rw[if_pos hlt]at hu;exact hpt j v u hj hu
     ·rename_i hlt;rw[if_neg hlt]at hu;rw[aG,ar]at hj;obtain⟨cc,hcc,rfl⟩:=hj;exact .one _ _ (hcr _ cc u hcc hu)
    ·have hname':¬fn.name= "runtime.NumGoroutine" :=by simpa using hname
     simp[execOp,ho,resolve,hcal,hargs,he,Deferred.ofValue,invoke,callFunc,hfn,hbody,hname']
  ·exact hr2.elim
 ·exact hr1.elim
def okOp(N A:Nat)(o:Oper):Bool:=
 match o.dst with
 |some d=>Nat.blt d N&&(match o.op with
  | .alloc _| .box _ _=>Nat.ble A d&&Nat.blt d 2048
  |_=>true)
 |none=>true
theorem oJ{N A:Nat}{o:Oper}(h:okOp N A o=true):∀d,o.dst=some d→d<N:=by
 intro d hd;simp only[okOp,hd,aw]at h;simpa [dp]using h.1
theorem yR{N A t:Nat}{o:Oper}(h:okOp N A o=true)(ho:o.op= .alloc t):∀d,o.dst=some d→A≤d∧d<2048:=by
 intro d hd;simp only[okOp,hd,ho,aw]at h;exact⟨bB h.2.1,by simpa [dp]using h.2.2⟩
theorem acT{N A t:Nat}{x:Operand}{o:Oper}(h:okOp N A o=true)(ho:o.op= .box t x):∀d,o.dst=some d→A≤d∧d<2048:=by
 intro d hd;simp only[okOp,hd,ho,aw]at h;exact⟨bB h.2.1,by simpa [dp]using h.2.2⟩
theorem aak(E:Env P T J)(hG:bK G H)(h:Rel X κ H s a w){o:Oper}(hok:okOp X.N X.A o=true){v:AV}{ws:List Wr}(hr:Runs P G s (evOp T J G o) (v,ws)):eM P X κ H s a o v ws w:=by
 cases ho:o.op
 case move x=>exact aaj hG h (.inl ho) (by simpa only[evOp,ho]using hr)
 case assign x=>exact aaj hG h (.inr ho) (by simpa only[evOp,ho]using hr)
 case pick=>exact afm hG h ho hr
 case alloc=>exact acO E h ho (yR hok ho) hr
 case box=>exact aht hG h ho (acT hok ho) hr
 case build=>exact acM E hG h ho hr
 case buildSlice=>exact tB E hG h ho hr
 case load=>exact afn E hG h ho hr
 case store=>exact acE E hG h ho hr
 case nilCheck=>exact xh hG h ho hr
 case binOp=>exact acN E hG h ho hr
 case unOp=>exact afl hG h ho hr
 case convert=>exact yP E hG h ho hr
 case makeFunc fn first captured=>
  cases fn with
  |func f=>exact xj hG h ho hr
  |_=>simp only[evOp,ho]at hr;exact hr.elim
 case slice=>exact acF E hG h ho hr
 case fieldAddr=>exact vu E hG h ho hr
 case field=>exact acJ E hG h ho hr
 case indexAddr=>exact vt E hG h ho hr
 case index=>exact acI E hG h ho hr
 case extract=>exact yO hG h ho hr
 case call=>exact afp E hG h ho hr
 all_goals(simp only[evOp,ho]at hr;exact hr.elim)
theorem sN(E:Env P T J)(hG:bK G H)(h:Rel X κ H s a w){ops:Array Oper}{i:Nat}{o:Oper}(ho:ops[i]?=some o)(hok:okOp X.N X.A o=true){ws:List Wr}(hr:Runs P G s (evO T J G ops o) ws)
 {K:Act→World→Prop} {Q:Exit→Act→World→Prop} (hK:∀κ' H' a' w',Rel X κ' H' (s.writes ws) a' w'→K a' w'):wpOp P ops Q i K a w:=by
 have run:∀{ws:List Wr},Runs P G s (aaN T J G o) ws→(∀κ' H' a' w',Rel X κ' H' (s.writes ws) a' w'→K a' w')→o.wp P a w K Q:=by
  intro ws hr hK;obtain⟨⟨v,ws'⟩,h1,h2⟩:=az hr;simp only[Runs]at h2;subst h2;refine aak E hG h hok h1 K Q fun κ' H' w' u _ hrel hv=>hK κ' H' _ w' ?_;rw[bQ];unfold dstW;cases hdst:o.dst with
  |none=>exact hrel
  |some d=>exact hrel.put (oJ hok d hdst) hv
 have skip:Rel X κ H (s.writes (dstW o (.tup []))) (a.put o.dst undef) w:=by
  unfold dstW;cases hdst:o.dst with
  |none=>exact h
  |some d=>exact h.put (oJ hok d hdst) (show AVr κ H (.tup []) (.tuple ([]:List Value).toArray) from .tup [] [] rfl (by simp))
 unfold wpOp;simp only[ho];unfold evO at hr;split at hr
 ·rename_i hg;have:Region.wanted o (yielded ops a.tmps)=true:=by simp[Region.wanted,hg]
  rw[if_pos this];exact .inl (run hr hK)
 ·rename_i g want hg;split at hr
  ·rename_i t ht;obtain⟨v,hv,hr⟩:=hr;have hav:=h.tmps t v hv;have hy:∀b:Bool,a.tmps.getD t undef= .bool b→yielded ops a.tmps g=some b:=by
    intro b hb;unfold yielded;rw[ht,gF];rw[aB]at hb;cases hq:a.tmps[t]? with
    |none=>rw[hq]at hb;cases hb
    |some u=>rw[hq]at hb;simp only[bG]at hb;rw[hb]
   have hn:∀vs,v= .tup vs→yielded ops a.tmps g=none:=by
    rintro vs rfl;unfold yielded;rw[ht,gF];rw[aB]at hav;cases hq:a.tmps[t]? with
    |none=>rfl
    |some u=>
     rw[hq]at hav;simp only[bG]at hav;cases hav;rfl
   cases want with
   |true=>
    simp only at hr;split at hr
    ·rename_i b;have hb:=hy b (cN hav).1;rcases hr with⟨rfl,hr⟩|⟨rfl,hr⟩
     ·rw[if_pos (by simp[Region.wanted,hg,hb])];exact .inl (run hr hK)
     ·rw[if_neg (by simp[Region.wanted,hg,hb])];simp only[Runs]at hr;subst hr;exact hK κ H _ w skip
    ·rename_i vs;rw[if_neg (by simp[Region.wanted,hg,hn vs rfl])];simp only[Runs]at hr;subst hr;exact hK κ H _ w skip
    ·exact hr.elim
   |false=>
    simp only at hr;split at hr
    ·rename_i b;have hb:=hy b (cN hav).1;rcases hr with⟨rfl,hr⟩|⟨rfl,hr⟩
     ·rw[if_neg (by simp[Region.wanted,hg,hb])];simp only[Runs]at hr;subst hr;exact hK κ H _ w skip
     ·rw[if_pos (by simp[Region.wanted,hg,hb])];exact .inl (run hr hK)
    ·rename_i vs;rw[if_neg (by simp[Region.wanted,hg,hn vs rfl])];simp only[Runs]at hr;subst hr;exact hK κ H _ w skip
    ·exact hr.elim
  ·exact hr.elim
theorem xL(E:Env P T J)(hX:bK G X.H0){ops:Array Oper}(hd:∀o∈ops.toList,okOp X.N X.A o=true){Q:Exit→Act→World→Prop}{K:St→Prop}:∀(os:List Oper) (i:Nat),ops.toList.drop i=os→∀(s:St) (κ:Con) (H:Fz) (a:Act) (w:World),Rel X κ H s a w→evS P T J G ops os s K→
 (∀s κ H a w,Rel X κ H s a w→K s→Q .normal a w)→wpOps P ops Q (List.range' i os.length) a w
 | [],i,hos,s,κ,H,a,w,h,he,hQ=>by
  simp only[evS]at he;simp only[bJ,iL,wpOps];exact hQ s κ H a w h he
 |o::os,i,hos,⟨ts,bs,ps⟩,κ,H,a,w,h,he,hQ=>by
  have hi:ops[i]?=some o:=by
   have:ops.toList[i]?=some o:=by rw[←jm,hos];rfl
   simpa using this
  have hmem:o∈ops.toList:=bi (by simpa using hi);simp only[evS]at he;obtain⟨ws,ls,h1,-,h3⟩:=cK he;rw[writesK_eq]at h1;have hr:=h3 ⟨ts,bs,ps⟩ ⟨fun _ _=>rfl,fun _ _=>rfl,fun _ _=>rfl⟩;rw[aT,gG,lr]
  refine sN E (hX.mono h.h0) h hi (hd o hmem) hr fun κ' H' a' w' hrel=>?_;refine xL E hX hd os (i+1) ?_ _ κ' H' a' w' hrel h1 hQ;rw[←dD,hos];rfl
end
theorem Loc.eq_iff{x y:Loc}:x.eq y=true↔x=y:=by
 cases x<;>cases y<;>simp[Loc.eq]
def dC(l:Loc)(s s':St):Prop:=
 match l with
 | .tmp t=>find t s.tmps=find t s'.tmps
 | .box d=>find d s.boxes=find d s'.boxes
 | .perm d=>find d s.perms=find d s'.perms
theorem dC.refl(l:Loc)(s:St):dC l s s:=by cases l<;>rfl
theorem dC.trans{l:Loc}{s s' s'':St}(h:dC l s s')(k:dC l s' s''):dC l s s'':=by cases l<;>exact Eq.trans h k
theorem dC.symm{l:Loc}{s s':St}(h:dC l s s'):dC l s' s:=by cases l<;>exact Eq.symm h
theorem dC.write{l:Loc}{s s':St}(h:dC l s s')(x:Wr):dC l (s.write x) (s'.write x):=by
 cases l<;>cases x<;>simp_all[dC,St.write,cW,cD,eL]
theorem dC.writes{l:Loc}:∀(ws:List Wr) {s s':St},dC l s s'→dC l (s.writes ws) (s'.writes ws)
 | [],_,_,h=>h
 |x::ws,_,_,h=>dC.writes ws (h.write x)
theorem yF{l:Loc}{x:Wr}(h:x.loc≠l)(s:St):dC l (s.write x) s:=by
 cases l<;>cases x<;>simp_all[dC,St.write,cW,cD,eL,Wr.loc]
theorem cS{l:Loc}:∀{ws:List Wr},l∉ws.map Wr.loc→∀s:St,dC l (s.writes ws) s
 | [],_,s=>.refl l s
 |x::ws,h,s=>by
  simp only[bE,aV,not_or]at h;exact(cS h.2 (s.write x)).trans (yF (fun e=>h.1 e.symm) s)
def fold(sel:Nat→Bool):Nat→List (List Wr)→St→St
 |_,[],s=>s
 |i,ws::W,s=>fold sel (i+1) W (match sel i with|true=>s.writes ws|false=>s)
theorem fE{l:Loc}{sel sel':Nat→Bool}:∀(W:List (List Wr)) (i:Nat) (s s':St),(∀j ws,W[j]?=some ws→sel (i+j)≠sel' (i+j)→l∉ws.map Wr.loc)→dC l s s'→dC l (fold sel i W s) (fold sel' i W s')
 | [],_,_,_,_,h=>h
 |ws::W,i,s,s',hd,h=>by
  refine fE W (i+1) _ _ (fun j ws' hj hne=>hd (j+1) ws' (by simpa using hj) (by rwa [show i+(j+1)=i+1+j by omega])) ?_;have h0:=hd 0 ws rfl;simp only[fl]at h0;cases h1:sel i<;>cases h2:sel' i
  ·exact h
  ·exact h.trans (cS (h0 (by simp[h1,h2])) s').symm
  ·exact(cS (h0 (by simp[h1,h2])) s).trans h
  ·exact h.writes ws
theorem iH{sel:Nat→Bool}:∀(W:List (List Wr)) (i:Nat) (s:St),(∀j,i≤j→sel j=false)→fold sel i W s=s
 | [],_,_,_=>rfl
 |ws::W,i,s,h=>by
  simp only[fold,h i (au _)];exact iH W (i+1) s fun j hj=>h j (by omega)
theorem nl{sel sel':Nat→Bool}{m:Nat}:∀(W:List (List Wr)) (i:Nat) (s:St) (ws:List Wr),i≤m→W[m-i]?=some ws→(∀j,j<m→sel' j=sel j)→sel m=false→sel' m=true→(∀j,m<j→sel j=false∧sel' j=false)→
 fold sel' i W s=(fold sel i W s).writes ws
 | [],i,s,ws,_,h,_,_,_,_=>by simp at h
 |ws0::W,i,s,ws,hi,hm,h1,h2,h3,h4=>by
  rcases eA i m with hlt|hge
  ·simp only[fold,h1 i hlt];refine nl W (i+1) _ ws (by omega) ?_ h1 h2 h3 h4;rw[show m-i=(m-(i+1))+1 by omega,cd]at hm;exact hm
  ·have:i=m:=by omega
   subst this;simp only[ch,aZ,am]at hm;subst hm;simp only[fold,h2,h3];rw[iH W _ _ fun j hj=>(h4 j (by omega)).2,iH W _ _ fun j hj=>(h4 j (by omega)).1]
def wall:List (List Wr)→St→St
 | [],s=>s
 |ws::W,s=>wall W (s.writes ws)
theorem sD{sel:Nat→Bool}:∀(W:List (List Wr)) (i:Nat) (s:St),(∀j,i≤j→j<i+W.length→sel j=true)→fold sel i W s=wall W s
 | [],_,_,_=>rfl
 |ws::W,i,s,h=>by
  simp only[fold,h i (au _) (by simp),wall];exact sD W (i+1) _ fun j hj hj'=>h j (by omega) (by simp at hj' ⊢;omega)
theorem nk{sel:Nat→Bool}{m:Nat}:∀(W:List (List Wr)) (i:Nat) (s:St),(∀j,i≤j→sel j=decide (j<m))→i≤m→fold sel i W s=wall (W.take (m-i)) s
 | [],_,_,_,_=>by simp[fold,wall]
 |ws::W,i,s,h,him=>by
  rcases eA i m with hlt|hge
  ·simp only[fold,h i (au _),hlt,fh];rw[show m-i=(m-(i+1))+1 by omega,gI];exact nk W (i+1) _ (fun j hj=>h j (by omega)) (by omega)
  ·have:m-i=0:=by omega
   rw[this];exact iH _ i s fun j hj=>by rw[h j hj];simp;omega
theorem mC{α β:Type}{f g:α→List β}:∀{l:List α},(∀x∈l,f x=g x)→l.flatMap f=l.flatMap g
 | [],_=>rfl
 |x::l,h=>by rw[de,de,h x (aI ..),mC fun y hy=>h y (aD _ hy)]
def kX(o:Oper):List Nat:=(o.after.toList.filter fun e=>Region.binds .any e).map (·.on)
theorem qT:∀{os:List Oper} {acc ws:List (List Nat)},mf os acc=some ws→ws.length=acc.length+os.length∧(∀i,i<acc.length→ws[i]?=acc[i]?)∧
 ∀j o,os[j]?=some o→(∀i∈kX o,i<acc.length+j)∧ws[acc.length+j]?=some (kX o++(kX o).flatMap fun i=>ws.getD i [])
 | [],acc,ws,h=>by simp only[mf,am]at h;subst h;simp
 |o::os,acc,ws,h=>by
  unfold mf at h;simp only at h;split at h
  ·rename_i hall;obtain⟨h1,h2,h3⟩:=qT h;have hlt:∀i∈kX o,i<acc.length:=by
    intro i hi;have:=cO.1 hall i hi;simpa [dp]using this
   refine⟨by simp at h1 ⊢;omega,fun i hi=>?_,fun j o' hj=>?_⟩
   ·rw[h2 i (by simp;omega),bH hi]
   ·cases j with
    |zero=>
     simp only[aZ,am]at hj;subst hj;refine⟨by simpa using hlt,?_⟩;rw[fl,h2 acc.length (by simp),cj (au _)];simp only[ch,aZ,am];show kX o++_=kX o++_
     congr 1
     refine mC fun i hi=>?_;rw[aC,aC,h2 i (by have:=hlt i hi;simp;omega),bH (hlt i hi)]
    |succ j=>
     obtain⟨k1,k2⟩:=h3 j o' (by simpa using hj);simp only[aH,aT,bJ]at k1 k2;exact⟨fun i hi=>by have:=k1 i hi;omega,by rw[show acc.length+(j+1)=acc.length+(0+1)+j by omega];exact k2⟩
  ·cases h
section
variable{P:Program}{T:Tab}{J:Kn}{G:Nat→Option (List AC)}{X:Ctx}{κ:Con}{H:Fz}{s:St}{a:Act}{w:World}
theorem agI{ops:Array Oper}{K:St→Prop}:∀{os:List Oper} {s:St} {acc:List (List Loc×List Loc)},evD P T J G ops os s acc K→
 ∃(W:List (List Wr)) (L:List (List Loc)),W.length=os.length∧L.length=os.length∧ja ops (acc++(L.zip (W.map (·.map Wr.loc))))=true∧K (wall W s)∧
  ∀j o,os[j]?=some o→∃ws ls,W[j]?=some ws∧L[j]?=some ls∧∀s',ln (wall (W.take j) s) s' ls→Runs P G s' (evO T J G ops o) ws
 | [],s,acc,h=>by
  simp only[evD]at h;exact⟨[],[],rfl,rfl,by simpa using h.1,h.2,by simp⟩
 |o::os,⟨ts,bs,ps⟩,acc,h=>by
  simp only[evD]at h;obtain⟨ws,ls,h1,-,h3⟩:=cK h;rw[writesK_eq]at h1;obtain⟨W,L,k1,k2,k3,k4,k5⟩:=agI h1;refine⟨ws::W,ls::L,by simp[k1],by simp[k2],by simpa using k3,k4,fun j o' hj=>?_⟩;cases j with
  |zero=>
   simp only[aZ,am]at hj;subst hj;exact⟨ws,ls,rfl,rfl,h3⟩
  |succ j=>
   obtain⟨ws',ls',m1,m2,m3⟩:=k5 j o' (by simpa using hj);exact⟨ws',ls',by simpa using m1,by simpa using m2,m3⟩
def at_(listed:Array Bool)(W:List (List Wr))(s:St):St:=fold (fun i=>listed.getD i false) 0 W s
def wu(ops:Array Oper)(listed:Array Bool):Prop:=∀j o,ops[j]?=some o→listed.getD j false=true→∀i∈kX o,listed.getD i false=true
theorem fQ{ops:Array Oper}{listed:Array Bool}{ws:List (List Nat)}(hw:mf ops.toList []=some ws)(hc:wu ops listed):∀(n j:Nat),j<n→∀o,ops[j]?=some o→(∀i∈kX o,listed.getD i false=true)→∀i∈ws.getD j [],listed.getD i false=true
 |0,j,hj,_,_,_=>by omega
 |n+1,j,hj,o,ho,hon=>by
  intro i hi;obtain⟨-,-,h3⟩:=qT hw;obtain⟨k1,k2⟩:=h3 j o (by simpa using ho);simp only[bJ,bA]at k1 k2;rw[aC,k2,bG]at hi;rcases aM.1 hi with hi|hi
  ·exact hon i hi
  ·obtain⟨e,he,hie⟩:=ei.1 hi;have hej:=k1 e he;have hlt:e<ops.size:=by have:=(ay.1 ho).1;omega
   exact fQ hw hc n e (by omega) ops[e] (aE hlt) (hc e _ (aE hlt) (hon e he)) i hie
theorem og:∀(l:List Bool) (j:Nat),l[j]?=some false→((l.set j true).filter (!·)).length+1=(l.filter (!·)).length
 | [],_,h=>by simp at h
 |b::l,0,h=>by
  simp at h;subst h;simp
 |b::l,j+1,h=>by
  have:=og l j (by simpa using h);cases b
  ·simp only[List.set_cons_succ,List.filter_cons,Bool.not_false,if_true,aT];omega
  ·simpa using this
theorem nF{ws:List (List Nat)}{rw':List (List Loc×List Loc)}(h:apart ws rw'=true){i j:Nat}{ri wi rj wj:List Loc}(hij:i<j)(hi:rw'[i]?=some (ri,wi))(hj:rw'[j]?=some (rj,wj))(hn:i∉ws.getD j []):
 (∀l∈wi,l∉rj)∧(∀l∈wi,l∉wj)∧∀l∈ri,l∉wj:=by
 unfold apart at h;have hjl:=(aq.1 hj).1;have h1:=cO.1 (cO.1 h j (fI.2 hjl)) i (fI.2 hij);simp only[fe,go,aw,dg]at h1;rcases h1 with h1|h1
 ·exact absurd h1 hn
 ·rw[aC,hi,aC,hj]at h1;simp only[bG]at h1;have no:∀{a b:List Loc},tX a b=false→∀l∈a,l∉b:=by
   intro a b hm l hl hl';unfold tX at hm;have:(a.any fun x=>b.any fun y=>x.eq y)=true:=eT.2 ⟨l,hl,eT.2 ⟨l,hl',Loc.eq_iff.2 rfl⟩⟩;rw[this]at hm;cases hm
  exact⟨no h1.1.1,no h1.1.2,no h1.2⟩
theorem pF{s s':St}{ls:List Loc}(h:∀l∈ls,dC l s' s):ln s s' ls:=
 ⟨fun t ht=>h (.tmp t) ht,fun d hd=>h (.box d) hd,fun d hd=>h (.perm d) hd⟩
theorem ne{o:Oper}{i:Nat}:i∈kX o↔∃e∈o.after,Region.binds .any e=true∧e.on=i:=by
 simp[kX,and_assoc]
theorem aeK(E:Env P T J)(hX:bK G X.H0){ops:Array Oper}(hd:∀o∈ops.toList,okOp X.N X.A o=true){Q:Exit→Act→World→Prop}{K:St→Prop}{s0:St}{W:List (List Wr)}{L:List (List Loc)}{wt:List (List Nat)}
 (hWl:W.length=ops.size) (hLl:L.length=ops.size) (hwt:mf ops.toList []=some wt) (hap:apart wt (L.zip (W.map (·.map Wr.loc)))=true) (hK:K (wall W s0))
 (heff:∀j o,ops[j]?=some o→∃ws ls,W[j]?=some ws∧L[j]?=some ls∧∀s',ln (wall (W.take j) s0) s' ls→Runs P G s' (evO T J G ops o) ws)
 (hQ:∀s κ H a w,Rel X κ H s a w→K s→Q .normal a w):
 ∀(fuel:Nat) (listed:Array Bool),listed.size=ops.size→(listed.toList.filter (!·)).length=fuel→wu ops listed→∀(κ:Con) (H:Fz) (a:Act) (w:World),Rel X κ H (at_ listed W s0) a w→wpAny P .any ops Q fuel listed a w:=by
 have hrw:∀(j:Nat) (ws:List Wr) (ls:List Loc),W[j]?=some ws→L[j]?=some ls→(L.zip (W.map (·.map Wr.loc)))[j]?=some (ls,ws.map Wr.loc):=by
  intro j ws ls h1 h2;rw[dX];exact⟨h2,by rw[aG,h1];rfl⟩
 have hWj:∀j:Nat,j<ops.size→∃ws ls,W[j]?=some ws∧L[j]?=some ls:=fun j hj=>⟨W[j]'(by omega),L[j]'(by omega),ad _,ad _⟩;intro fuel
 induction fuel with
 |zero=>
  intro listed hsz hcount hcl κ H a w h;have hall:∀j,j<ops.size→listed.getD j false=true:=by
   intro j hj;have hm:listed[j]'(by omega)∈listed.toList:=by simp
   have hnil:=aK hcount;have:¬(listed[j]'(by omega)=false):=fun hf=>by
    have:listed[j]'(by omega)∈listed.toList.filter (!·):=gS.2 ⟨hm,by simp[hf]⟩;rw[hnil]at this;cases this
   rw[aB,aE (by omega)];simpa using this
  refine⟨?_,hQ _ κ H a w h ?_⟩
  ·rw[fK];intro j hj;obtain⟨h0,o,ho,-⟩:=jG.1 hj;have:=hall j (ay.1 ho).1;rw[aB]at this h0;cases hq:listed[j]? with
   |none=>rw[hq]at this;cases this
   |some b=>rw[hq]at this h0;simp at this h0;rw[this]at h0;cases h0
  ·unfold at_;rw[sD W 0 s0 fun j _ hj=>hall j (by omega)];exact hK
 |succ fuel ih=>
  intro listed hsz hcount hcl κ H a w h;refine⟨fun hnone=>?_,fun j hj=>?_⟩
  ·
   exfalso;have hex:∃j,j<ops.size∧listed.getD j false=false:=by
    have hne:listed.toList.filter (!·)≠[]:=fun e=>by rw[e]at hcount;cases hcount
    obtain⟨b,hb⟩:=List.exists_mem_of_ne_nil _ hne;obtain⟨hb1,hb2⟩:=gS.1 hb;obtain⟨j,hj⟩:=bT.1 hb1;have hjl:=(aq.1 hj).1;refine⟨j,by simp at hjl;omega,?_⟩;rw[aB,←cA,hj];simpa using hb2
   have hmin:∃j,j<ops.size∧listed.getD j false=false∧∀i,i<j→listed.getD i false=true:=by
    obtain⟨j,hj,hf⟩:=hex
    induction j using Nat.strongRecOn with
    |_ j ihj=>
     by_cases hall:∀i,i<j→listed.getD i false=true
     ·exact⟨j,hj,hf,hall⟩
     ·obtain⟨i,hi⟩:=Classical.not_forall.1 hall;obtain⟨hi1,hi2⟩:=Classical.not_imp.1 hi;exact ihj i hi1 (by omega) (by simpa using hi2)
   obtain⟨j,hj,hf,hall⟩:=hmin;have:j∈Region.ready .any ops listed:=by
    rw[jG];refine⟨?_,ops[j],aE hj,fun e he hb=>?_⟩
    ·rw[aB]at hf ⊢;rw[aE (by omega)]at hf ⊢;exact hf
    ·obtain⟨-,-,h3⟩:=qT hwt;have:=(h3 j ops[j] (by simp[hj])).1 e.on (ne.2 ⟨e,he,hb,rfl⟩);simp only[bJ,bA]at this;exact hall e.on this
   rw[hnone]at this;cases this
  ·obtain⟨h0,o,ho,hedges⟩:=jG.1 hj;have hjs:j<ops.size:=(ay.1 ho).1;have hjf:listed.getD j false=false:=by
    rw[aB,aE (by omega)]at h0 ⊢;exact h0
   have hon:∀i∈kX o,listed.getD i false=true:=fun i hi=>by
    obtain⟨e,he,hb,rfl⟩:=ne.1 hi;exact hedges e he hb
   obtain⟨ws,ls,hW,hL,hruns⟩:=heff j o ho;have hwj:∀i∈wt.getD j [],listed.getD i false=true:=fQ hwt hcl (j+1) j (ah j) o ho hon;have ahead:∀(i:Nat) (wsi:List Wr),W[i]?=some wsi→i<j→listed.getD i false=false→∀l∈ls,l∉wsi.map Wr.loc:=by
    intro i wsi hi hij hnl l hl hm;obtain⟨wsi',lsi,e1,e2⟩:=hWj i (by omega);rw[hi]at e1;cases e1;exact(nF hap hij (hrw i _ _ hi e2) (hrw j _ _ hW hL) (fun hmem=>by rw[hwj i hmem]at hnl;cases hnl)).1 l hm hl
   have behind:∀(k:Nat) (wsk:List Wr),W[k]?=some wsk→j<k→listed.getD k false=true→(∀l∈ls,l∉wsk.map Wr.loc)∧∀l∈ws.map Wr.loc,l∉wsk.map Wr.loc:=by
    intro k wsk hk hjk hlk;have hks:k<ops.size:=by have:=(aq.1 hk).1;omega
    obtain⟨wsk',lsk,e1,e2⟩:=hWj k hks;rw[hk]at e1;cases e1;have hn:j∉wt.getD k []:=fun hmem=>by
     have:=fQ hwt hcl (k+1) k (ah k) ops[k] (aE hks) (hcl k _ (aE hks) hlk) j hmem;rw[hjf]at this;cases this
    have:=nF hap hjk (hrw j _ _ hW hL) (hrw k _ _ hk e2) hn;exact⟨this.2.2,this.2.1⟩
   have hagree:ln (wall (W.take j) s0) (at_ listed W s0) ls:=by
    refine pF fun l hl=>?_;have hft:=nk (sel:=fun i=>decide (i<j)) (m:=j) W 0 s0 (fun _ _=>rfl) (aR _);rw[fj]at hft;rw[←hft];refine fE W 0 s0 s0 (fun i wsi hi hne=>?_) (.refl l s0);simp only[bA]at hne;rcases db i j with hlt|rfl|hgt
    ·simp only[hlt,fh]at hne;exact ahead i wsi hi hlt (by simpa using hne) l hl
    ·simp[hjf]at hne
    ·have:¬i<j:=by omega
     simp only[this,eQ]at hne;exact(behind i wsi hi hgt (by simpa using hne)).1 l hl
   refine sN E (hX.mono h.h0) h ho (hd o (bi (by simpa using ho))) (hruns _ hagree) fun κ' H' a' w' hrel=>?_;refine ih (listed.setIfInBounds j true) (by simp[hsz]) ?_ ?_ κ' H' a' w' ?_
   ·
    have hlt:j<listed.size:=by omega
    have hjv:listed.toList[j]?=some false:=by
     rw[aB,←cA]at hjf;cases hq:listed.toList[j]? with
     |none=>have:=gH.1 hq;simp at this;omega
     |some b=>rw[hq]at hjf;simp at hjf;rw[hjf]
    rw[gA];have:=og listed.toList j hjv;omega
   ·intro k ok hok hk i hi;by_cases hkj:k=j
    ·subst hkj;rw[ho]at hok;cases hok;exact kJ (hon i hi)
    ·rw[getD_set_ne false (Ne.symm hkj)]at hk;exact kJ (hcl k ok hok hk i hi)
   ·
    have hnew:∀i,(listed.setIfInBounds j true).getD i false=if i=j then true else listed.getD i false:=by
     intro i;by_cases hij:i=j
     ·subst hij;rw[if_pos rfl,aB];simp[show i<listed.size by omega]
     ·rw[if_neg hij,getD_set_ne false (Ne.symm hij)]
    have hsame:∀l,dC l (at_ (listed.setIfInBounds j true) W s0) ((at_ listed W s0).writes ws):=by
     intro l;by_cases hl:l∈ws.map Wr.loc
     ·
      have hA:dC l (at_ listed W s0) (fold (fun i=>decide (i<j)&&listed.getD i false) 0 W s0):=by
       refine fE W 0 s0 s0 (fun i wsi hi hne=>?_) (.refl l s0);simp only[bA]at hne;rcases db i j with hlt|rfl|hgt
       ·simp[hlt]at hne
       ·simp[hjf]at hne
       ·have:¬i<j:=by omega
        simp only[this,eQ,fM]at hne;exact(behind i wsi hi hgt (by simpa using hne)).2 l hl
      have hB:dC l (at_ (listed.setIfInBounds j true) W s0) (fold (fun i=>(decide (i<j)&&listed.getD i false)|| decide (i=j)) 0 W s0):=by
       refine fE W 0 s0 s0 (fun i wsi hi hne=>?_) (.refl l s0);simp only[bA,hnew]at hne;rcases db i j with hlt|rfl|hgt
       ·simp[hlt,fW hlt]at hne
       ·simp at hne
       ·have h1:¬i<j:=by omega
        have h2:¬i=j:=by omega
        simp only[h1,h2,eQ,fM,gP,if_false]at hne;exact(behind i wsi hi hgt (by simpa using hne)).2 l hl
      have hC:=nl (sel:=fun i=>decide (i<j)&&listed.getD i false) (sel':=fun i=>(decide (i<j)&&listed.getD i false)|| decide (i=j)) (m:=j) W 0 s0 ws (aR _) (by simpa using hW)
       (fun i hi=>by simp[fW hi]) (by simp) (by simp) (fun i hi=>by
        have h1:¬i<j:=by omega
        have h2:¬i=j:=by omega
        simp[h1,h2])
      rw[hC]at hB;exact hB.trans (hA.writes ws).symm
     ·refine dC.trans ?_ (cS hl _).symm;refine fE W 0 s0 s0 (fun i wsi hi hne=>?_) (.refl l s0);simp only[bA,hnew]at hne;by_cases hij:i=j
      ·subst hij;rw[hW]at hi;cases hi;exact hl
      ·simp[hij]at hne
    exact hrel.congr (fun t=>hsame (.tmp t)) (fun d=>hsame (.box d)) (fun d=>hsame (.perm d))
end
def jR(N A:Nat):Code→Bool
 | .region _ ops _=>ops.toList.all (okOp N A)
 | .seq a b=>jR N A a&&jR N A b
 | .cond _ a b=>jR N A a&&jR N A b
 | .block _ b=>jR N A b
 | .loop b=>jR N A b
 |_=>true
def Ex.toExit:Ex→Exit
 | .normal=>.normal
 | .exit i=>.exit i
 | .ret=>.ret
theorem least{p:Nat→Prop}(h:∃n,p n):∃n,p n∧∀m,p m→n≤m:=by
 obtain⟨n,hn⟩:=h
 induction n using Nat.strongRecOn with
 |_ n ih=>
  by_cases hm:∃m,m<n∧p m
  ·obtain⟨m,h1,h2⟩:=hm;exact ih m h1 h2
  ·exact⟨n,hn,fun m hp=>by
    rcases eA m n with hlt|hge
    ·exact absurd ⟨m,hlt,hp⟩ hm
    ·exact hge⟩
noncomputable def measure (p:Nat→Prop):Nat:=open Classical in if h:∃n,p n then Classical.choose (least h) else 0
theorem jB{p:Nat→Prop}(h:∃n,p n):p (measure p)∧∀m,p m→measure p≤m:=by
 unfold measure;rw[dif_pos h];exact Classical.choose_spec (least h)
section
variable{P:Program}{T:Tab}{J:Kn}{G:Nat→Option (List AC)}{X:Ctx}{κ:Con}{H:Fz}{s:St}{a:Act}{w:World}
theorem oD(n:Nat):List.range n=List.range' 0 n:=List.range_eq_range' ..
theorem gx(E:Env P T J)(hX:bK G X.H0):∀(c:Code),jR X.N X.A c=true→∀(s:St) (K:Ex→St→Prop) (κ:Con) (H:Fz) (a:Act) (w:World),Rel X κ H s a w→evC P T J G c s K→
 ∀(Q:Exit→Act→World→Prop),(∀ex s κ H a w,Rel X κ H s a w→K ex s→Q ex.toExit a w)→c.wp P Q a w:=by
 intro c
 induction c with
 |skip=>intro _ s K κ H a w h he Q hQ;exact wp_skip (hQ .normal s κ H a w h he)
 |region id ops draw=>
  intro hok s K κ H a w h he Q hQ;have hd:∀o∈ops.toList,okOp X.N X.A o=true:=fun o ho=>cO.1 hok o ho;cases draw with
  |false=>
   refine wp_region ?_;rw[oD];have:=xL E hX hd (Q:=Q) (K:=K .normal) ops.toList 0 rfl s κ H a w h he fun s κ H a w h hk=>hQ .normal s κ H a w h hk;simpa using this
  |true=>
   simp only[evC]at he;obtain⟨W,L,h1,h2,h3,h4,h5⟩:=agI he;simp only[dG]at h3;unfold ja at h3;split at h3
   ·rename_i wt hwt;refine kB E.any ?_;have hdrew:Rel X κ H s a { w with drawn:=w.drawn+1}:={ h with defers:=h.defers,size:=h.size,tmps:=h.tmps}
    refine aeK E hX hd (W:=W) (L:=L) (s0:=s) (by simpa using h1) (by simpa using h2) hwt h3 h4 (fun j o ho=>h5 j o (by simpa using ho)) (fun s κ H a w h hk=>hQ .normal s κ H a w h hk) ops.size (Array.replicate ops.size false) (by simp) (by simp) ?_ κ H a _ ?_
    ·intro j o ho hj;rw[aB]at hj;simp only[dE]at hj;split at hj<;>simp at hj
    ·have:at_ (Array.replicate ops.size false) W s=s:=by
      unfold at_;refine iH W 0 s fun j _=>?_;rw[aB,dE];split<;>rfl
     rw[this];exact hdrew
   ·cases h3
 |seq x y ihx ihy=>
  intro hok s K κ H a w h he Q hQ;simp only[jR,aw]at hok;refine wp_seq (ihx hok.1 s _ κ H a w h he _ fun ex s κ H a w h hk=>?_);cases ex with
  |normal=>exact ihy hok.2 s K κ H a w h hk Q hQ
  |exit i=>exact hQ (.exit i) s κ H a w h hk
  |ret=>exact hQ .ret s κ H a w h hk
 |cond c x y ihx ihy=>
  intro hok s K κ H a w h he Q hQ;simp only[jR,aw]at hok;simp only[evC]at he;obtain⟨v,ls,h1,-,h3⟩:=cK he;have hv:=jr (hX.mono h.h0) h (h3 s ⟨fun _ _=>rfl,fun _ _=>rfl,fun _ _=>rfl⟩);split at h1
  ·rename_i t;have hb:=(cN hv).1;cases t with
   |true=>exact wp_cond_true hb (ihx hok.1 s K κ H a w h h1 Q hQ)
   |false=>exact wp_cond_false hb (ihy hok.2 s K κ H a w h h1 Q hQ)
  ·exact h1.elim
 |block id b ih=>
  intro hok s K κ H a w h he Q hQ;refine wp_block (ih hok s _ κ H a w h he _ fun ex s κ H a w h hk=>?_);cases ex with
  |normal=>exact hQ .normal s κ H a w h hk
  |exit i=>
   show(if i=id then Q .normal a w else Q (.exit i) a w);simp only at hk;split at hk
   ·rename_i hi;rw[if_pos (aP hi)];exact hQ .normal s κ H a w h hk
   ·rename_i hi;rw[if_neg (eZ hi)];exact hQ (.exit i) s κ H a w h hk
  |ret=>exact hQ .ret s κ H a w h hk
 |loop b ih=>
  intro hok s K κ H a w h he Q hQ;simp only[evC]at he;obtain⟨I,⟨n0,s0,hw0,hI0⟩,hround⟩:=he
  let In:Act→World→Nat→Prop:=fun a w n=>∃s κ H,Rel X κ H s a w∧I n s
  refine wp_loop (fun a w=>∃n,In a w n) (fun a w=>measure (In a w)) ?_ fun a w hI=>?_
  ·obtain⟨κ',h'⟩:=hw0 X κ H a w h;exact⟨n0,s0,κ',H,h',hI0⟩
  ·obtain⟨⟨s,κ,H,h,hIs⟩,hmin⟩:=jB hI;refine ih hok s _ κ H a w h (hround _ s hIs) _ fun ex s κ H a w h hk=>?_;cases ex with
   |normal=>
    obtain⟨m,s0,hm,hw,hIm⟩:=hk;obtain⟨κ',h'⟩:=hw X κ H a w h;have hex:∃n,In a w n:=⟨m,s0,κ',H,h',hIm⟩;exact⟨hex,hE ((jB hex).2 m ⟨s0,κ',H,h',hIm⟩) hm⟩
   |exit i=>exact hQ (.exit i) s κ H a w h hk
   |ret=>exact hQ .ret s κ H a w h hk
 |exit id=>intro _ s K κ H a w h he Q hQ;exact wp_exit (hQ (.exit id) s κ H a w h he)
 |ret=>intro _ s K κ H a w h he Q hQ;exact wp_ret (hQ .ret s κ H a w h he)
 |rangeFunc=>intro _ s K κ H a w h he;exact he.elim
 |scope=>intro _ s K κ H a w h he;exact he.elim
 |label=>intro _ s K κ H a w h he;exact he.elim
 |goto=>intro _ s K κ H a w h he;exact he.elim
 |refuse=>intro _ s K κ H a w h he;exact he.elim
def Res0(κ:Con)(s:St)(H:Fz)(w:World):Res→Value→Prop
 | .val a,u=>AVr Con.no H a u
 | .row e sz xs,u=>ACr Con.no H (.sl e sz xs none) u∧Tail H w u e sz∧∀k,u.ownBlock=some k→∃d p,find d s.perms=some p∧p.live=true∧(κ.row d p.gen).ownBlock=some k
theorem rN(E:Env P T J):∀{rv:List ResultVar} {s:St} {K:List Res→Prop},Rel X κ H s a w→resP T rv s K→∃(rs:List Res) (us:List Value),K rs∧us.length=rs.length∧us.length=rv.length∧(∀(j:Nat) (r:Res) (u:Value),rs[j]?=some r→us[j]?=some u→Res0 κ s H w r u)∧
 ∀(j:Nat) (v:ResultVar) (u:Value),rv[j]?=some v→us[j]?=some u→(match v with| .tmp t=>pure (a.tmps.getD t undef)| .cell x t=>do loadVar t (←asAddr (a.tmps.getD x undef)):Sem Value).run P w= .ok u w
 | [],s,K,h,he=>⟨[],[],he,rfl,rfl,by simp,by simp⟩
 | .tmp t::rs,s,K,h,he=>by
  have val:∀{a':AV},AVr Con.no H a' (a.tmps.getD t undef)→resP T rs s (fun vs=>K (.val a'::vs))→∃(rs':List Res) (us:List Value),K rs'∧us.length=rs'.length∧us.length=(ResultVar.tmp t::rs).length∧(∀(j:Nat) (r:Res) (u:Value),rs'[j]?=some r→us[j]?=some u→Res0 κ s H w r u)∧
   ∀(j:Nat) (v:ResultVar) (u:Value),(ResultVar.tmp t::rs)[j]?=some v→us[j]?=some u→(match v with| .tmp t=>pure (a.tmps.getD t undef)| .cell x t=>do loadVar t (←asAddr (a.tmps.getD x undef)):Sem Value).run P w= .ok u w:=by
   intro a' hv hk;obtain⟨rs',us,k1,k2,k3,k4,k5⟩:=rN E h hk;refine⟨_,a.tmps.getD t undef::us,k1,by simp[k2],by simp[k3],fun j r u hr hu=>?_,fun j v u hv' hu=>?_⟩
   ·cases j with
    |zero=>simp at hr;subst hr;simp only[aZ,am]at hu;subst hu;exact hv
    |succ j=>exact k4 j r u (by simpa using hr) (by simpa using hu)
   ·cases j with
    |zero=>simp only[aZ,am]at hv' hu;subst hv';subst hu;rfl
    |succ j=>exact k5 j v u (by simpa using hv') (by simpa using hu)
  unfold resP at he;split at he
  ·rename_i e sz xs d g hf;have hav:=h.tmps t _ hf;have hkeep:=dO (v:=.one (.sl e sz xs (some (d,g)))) rfl hav;split at he
   ·rename_i rg re rsz hp;split at he
    ·rename_i hb;simp only[aw]at hb;have e1:=aP hb.1.1;have e2:=aP hb.1.2;have e3:=aP hb.2;subst e1;subst e2;subst e3;obtain⟨rs',us,k1,k2,k3,k4,k5⟩:=rN E (h.drop d) he;obtain⟨-,htl⟩:=h.perm d _ hp;have htl:=htl rfl;simp only at htl;obtain⟨-,-,-,-,-,-,htok⟩:=nZ hav
     obtain⟨-,hrow⟩:=htok d rg rfl;rw[hrow]at htl;refine⟨_,a.tmps.getD t undef::us,k1,by simp[k2],by simp[k3],fun j r u hr hu=>?_,fun j v u hv' hu=>?_⟩
     ·cases j with
      |zero=>
       simp only[aZ,am]at hr hu;subst hr;subst hu;refine⟨?_,htl,fun k hk=>⟨d,_,hp,rfl,by simp only;rw[hrow];exact hk⟩⟩;cases hkeep with|one _ _ hk=>exact hk
      |succ j=>
       have:=k4 j r u (by simpa using hr) (by simpa using hu);cases r with
       |val=>exact this
       |row e' sz' xs'=>
        obtain⟨m1,m2,m3⟩:=this;refine⟨m1,m2,fun k hk=>?_⟩;obtain⟨d',p,q1,q2,q3⟩:=m3 k hk;simp only[St.write]at q1;rw[eL]at q1;split at q1
        ·rw[ar]at q1;obtain⟨p',_,rfl⟩:=q1;simp[Perm.dead]at q2
        ·exact⟨d',p,q1,q2,q3⟩
     ·cases j with
      |zero=>simp only[aZ,am]at hv' hu;subst hv';subst hu;rfl
      |succ j=>exact k5 j v u (by simpa using hv') (by simpa using hu)
    ·exact val hkeep he
   ·exact val hkeep he
  ·rename_i hf;have hav:=h.tmps t _ hf;refine val (a':=.tup []) ?_ he;generalize a.tmps.getD t undef=u at hav;cases hav with
   |tup _ us hl _=>
    have:us=[]:=aK hl;subst this;exact .tup [] [] rfl (by simp)
  ·rename_i v _ hf;have hav:=h.tmps t _ hf;split at he
   ·rename_i a' hk;rw[forceA_eq]at he;exact val (dO hk hav) he
   ·exact he.elim
  ·exact he.elim
 | .cell x ty::rs,s,K,h,he=>by
  unfold resP at he;split at he
  ·rename_i d g off hf;have hav:=h.tmps x _ hf;split at he
   ·rename_i b hb;split at he
    ·rename_i hg;have hg:=aP hg;split at he
     ·rename_i v hv;split at he
      ·rename_i v' hk;rw[forceA_eq]at he;obtain⟨rs',us,k1,k2,k3,k4,k5⟩:=rN E h he;obtain⟨cu,hu,hc,hcell⟩:=nA h hb;obtain⟨u,hrun,hau⟩:=my E (base:=0) (off:=off) hv hc hcell;have hptr:=(gD hav).1;rw[←hg]at hptr
       refine⟨_,u::us,k1,by simp[k2],by simp[k3],fun j r u' hr hu'=>?_,fun j v u' hv' hu'=>?_⟩
       ·cases j with
        |zero=>simp only[aZ,am]at hr hu';subst hr;subst hu';exact dO hk hau
        |succ j=>exact k4 j r u' (by simpa using hr) (by simpa using hu')
       ·cases j with
        |zero=>
         simp only[aZ,am]at hv' hu';subst hv';subst hu';simp only[hptr,asAddr,aY,bu,aF];simpa [Instr.loadAt,Instr.sureAddr]using hrun
        |succ j=>exact k5 j v u' (by simpa using hv') (by simpa using hu')
      ·exact he.elim
     ·exact he.elim
    ·exact he.elim
   ·exact he.elim
  ·exact he.elim
end
end
end Go.Proofs.YtgkenhpfiempbaaGreatDoor.V
