/-
  Part M01: A1, A2, A3, A4, A5, A6, A7, A8, A9. Conditions stand in the theorems.
-/
import Derived.Orders
import Derived.Laws.AppendOwn
import Derived.Deep.MidRow
import Derived.Laws.Sem
import Derived.Laws.Strings
import Derived.Laws.StructEq
set_option linter.all false
set_option maxRecDepth 1000000
set_option maxHeartbeats 8000000
namespace Go.Proofs.YtgkenhpfiempbaaGreatDoor.V
open Go Go.Proofs
noncomputable section
def ad:=@List.getElem?_eq_getElem
def ae:=@Int.natCast_nonneg
def af:=@decide_eq_false
def ag:=@decide_eq_true
def ah:=@Nat.lt_succ_self
def ai:=@Prod.mk.injEq
def aj:=@List.drop_eq_getElem_cons
def am:=@Option.some.injEq
def ap:=@List.drop_of_length_le
def aq:=@List.getElem?_eq_some_iff
def ar:=@Option.map_eq_some_iff
def au:=@Nat.le_refl
def aw:=@Bool.and_eq_true
def ax:=@List.mem_singleton
def ay:=@Array.getElem?_eq_some_iff
def aA:=@run_underlying
def aB:=@Array.getD_eq_getD_getElem?
def aC:=@List.getD_eq_getElem?_getD
def aD:=@List.mem_cons_of_mem
def aE:=@Array.getElem?_eq_getElem
def aF:=@Result.andThen_ok
def aG:=@List.getElem?_map
def aH:=@List.length_append
def aI:=@List.mem_cons_self
def aJ:=@of_decide_eq_true
def aK:=@List.eq_nil_of_length_eq_zero
def aL:=@List.mem_append_left
def aM:=@List.mem_append
def aO:=@List.flatten_cons
def aQ:=@List.mem_append_right
def aR:=@Nat.zero_le
def aT:=@List.length_cons
def aU:=@List.nodup_append
def aV:=@List.mem_cons
def aX:=@List.append_nil
def aY:=@Sem.run_bind
def aZ:=@List.getElem?_cons_zero
def bd:=@Nat.lt_of_lt_of_le
def bf:=@List.getElem?_set
def bi:=@List.mem_of_getElem?
def bp:=@List.getElem_mem
def bu:=@Sem.run_pure
def bw:=@List.map_append
def bA:=@Nat.zero_add
def bB:=@Nat.le_of_ble_eq_true
def bC:=@decide_eq_true_eq
def bE:=@List.map_cons
def bF:=@List.nodup_cons
def bG:=@Option.getD_some
def bH:=@List.getElem?_append_left
def bI:=@List.getElem?_eq_none
def bJ:=@List.length_nil
def bM:=@List.getElem?_take
def bN:=@Oper.upon_value
def bO:=@Array.length_toList
def bR:=@Value.slice.injEq
def bT:=@List.mem_iff_getElem?
def bW:=@Option.map_some
def bX:=@List.map_set
def bZ:=@List.mem_map
def ca:=@of_decide_eq_false
def cb:=@Array.getElem?_setIfInBounds
def cd:=@List.getElem?_cons_succ
def ce:=@List.ext_getElem?
def cg:=@Option.some.inj
def ch:=@Nat.sub_self
def cj:=@List.getElem?_append_right
def cq:=@List.take_succ_eq_append_getElem
def cr:=@List.length_drop
def cv:=@Int.toNat_natCast
def cA:=@Array.getElem?_toList
def cB:=@Array.getElem?_modify
def cE:=@List.getElem?_concat_length
def cF:=@List.drop_length
def cG:=@List.length_map
def cH:=@List.takeWhile_cons_of_pos
def cI:=@List.getElem?_drop
def cJ:=@Bool.false_eq_true
def cO:=@List.all_eq_true
def cT:=@List.takeWhile_cons_of_neg
def cU:=@List.take_of_length_le
def cV:=@List.getElem?_set_self
def da:=@List.set_append_right
def db:=@Nat.lt_trichotomy
def de:=@List.flatMap_cons
def dg:=@Bool.not_eq_true'
def dn:=@Nat.mul_le_mul_right
def dp:=@Nat.blt_eq
def dq:=@List.mem_filterMap
def dr:=@Array.getElem?_append_left
def dt:=@List.length_set
def dx:=@List.length_take
def dA:=@heap_alloc_new
def dD:=@List.drop_drop
def dE:=@Array.getElem?_replicate
def dG:=@List.nil_append
def dH:=@Bool.eq_iff_iff
def dI:=@Addr.add_mid
def dK:=@World.block_lt_of_cell?
def dL:=@Nat.and_le_right
def dM:=@List.mem_flatten
def dN:=@List.getElem?_append
def dQ:=@Nat.succ_mul
def dR:=@Nat.le_trans
def dT:=@Array.getElem?_push
def dX:=@List.getElem?_zip_eq_some
def ed:=@Option.getD_none
def ee:=@Nat.and_two_pow_sub_one_eq_mod
def eh:=@List.set_cons_zero
def ei:=@List.mem_flatMap
def ep:=@Array.ext'
def eu:=@Nat.pow_succ
def eA:=@Nat.lt_or_ge
def eB:=@Nat.lt_irrefl
def eF:=@Nat.mul_one
def eG:=@List.getElem?_set_ne
def eI:=@List.getElem?_replicate
def eP:=@List.length_pos_iff
def eQ:=@decide_false
def eT:=@List.any_eq_true
def eW:=@Nat.mod_two_eq_zero_or_one
def eX:=@Nat.eq_of_beq_eq_true
def eY:=@List.getLast?_eq_some_iff
def fc:=@Option.map_none
def fe:=@Bool.or_eq_true
def fh:=@decide_true
def fj:=@Nat.sub_zero
def fk:=@Nat.pow_lt_pow_right
def fl:=@Nat.add_zero
def fm:=@Nat.add_mul
def fo:=@List.mem_of_mem_drop
def fp:=@List.append_assoc
def fw:=@beq_iff_eq
def fx:=@Option.isSome_iff_exists
def fy:=@Nat.testBit_two_pow
def fA:=@List.flatten_append
def fH:=@Option.bind_eq_some_iff
def fI:=@List.mem_range
def fJ:=@List.flatten_nil
def fK:=@List.eq_nil_iff_forall_not_mem
def fL:=@List.cons_append
def fM:=@Bool.false_and
def fP:=@Int.le_refl
def fW:=@Nat.ne_of_lt
def fX:=@List.mem_replicate
def fY:=@List.map_nil
def fZ:=@Array.getElem?_eq_none
def ge:=@Nat.add_assoc
def gf:=@Addr.mk.injEq
def gl:=@List.length_replicate
def gm:=@List.filterMap_append
def go:=@List.contains_iff_mem
def gy:=@Oper.upon_skip
def gz:=@Int.tmod_eq_emod_of_nonneg
def gA:=@Array.toList_setIfInBounds
def gF:=@Option.bind_some
def gG:=@List.range'_succ
def gH:=@List.getElem?_eq_none_iff
def gI:=@List.take_succ_cons
def gN:=@List.all_cons
def gP:=@Bool.or_false
def gQ:=@Bool.and_true
def gS:=@List.mem_filter
def gT:=@List.foldl_cons
def gU:=@List.cons.injEq
def gY:=@grownCap_le_maxLen
def gZ:=@Nat.mod_lt
def hE:=@Nat.lt_of_le_of_lt
def hU:=@Calls.mono
def ii:=@cell_of_row
def iu:=@List.map_map
def iw:=@List.drop_zero
def iz:=@List.sizeOf_lt_of_mem
def iA:=@List.singleton_append
def iB:=@List.dropLast_eq_take
def iL:=@List.range'_zero
def iQ:=@List.map_take
def iR:=@Bool.true_and
def jb:=@List.dropLast_concat
def jk:=@Nat.not_lt_zero
def jl:=@Nat.min_eq_left
def jm:=@List.head?_drop
def jn:=@Int.tmod_nonneg
def jo:=@Int.natCast_add
def jw:=@List.replicate_succ
def jy:=@ByteArray.toList_eq
def jG:=@mem_ready
def jO:=@run_equalIn_string
def kb:=@Option.isSome_none
def kc:=@Nat.testBit_or
def ke:=@List.take_zero
def kf:=@List.nodup_nil
def kg:=@Array.ext_getElem?
def kB:=@wp_region_any
def kJ:=@getD_set_true
def kQ:=@Bool.false_or
def lr:=@wpOps_cons
inductive AC where
 |any
 |v (x:Value)
 |nil (e sz:Nat)
 |sl (e sz:Nat) (xs:List (List AC)) (tok:Option (Nat×Nat))
 |ptr (d g off:Nat)
 |ref (cs:List AC) (off:Nat)
 |clo (f:Nat) (caps:List AC)
 |rref (d g n:Nat)
 |eref (d g sz i off:Nat)
 |mref (d g:Nat)
 |iref (d g:Nat)
 |own (e sz:Nat) (xs:List (List AC))
 |obox (ty:Nat) (cs:List AC)
 |omap (z:Value) (ks:List Value) (vs:List (Bool×List AC))
 |omrow (z:Value) (e sz:Nat) (ks:List Value) (yss:List (List (List AC)))
 |uf (n:Nat) (p:List Int→Prop)
 |anyB
 |bld (live:Bool) (s:ByteArray)
 |vref (d g lo n:Nat)
 deriving Inhabited
abbrev MV:=Bool×List AC
inductive Ob where
 |row (e sz:Nat) (xs:List (List AC))
 |rows (e2 sz2 e:Nat) (yss:List (List (List AC)))
 |rowsL (e2 sz2 e:Nat) (yss:List (List (List AC))) (i d g:Nat)
 |map (z:Value) (ks:List Value) (vs:List MV)
 |mrow (z:Value) (e sz:Nat) (ks:List Value) (yss:List (List (List AC)))
 |mrowL (z:Value) (e sz:Nat) (ks:List Value) (yss:List (List (List AC))) (i d g:Nat)
 |iter (md mg n:Nat) (seen:List Nat)
 |gone
 |uf (n:Nat) (p:List Int→Prop)
 |bld (live:Bool) (s:ByteArray)
 deriving Inhabited
inductive AV where
 |undef
 |one (c:AC)
 |agg (cs:List AC)
 |tup (vs:List AV)
 |ob (d g:Nat) (c:Ob)
 deriving Inhabited
structure Box where
 gen:Nat
 ty:Nat
 cells:List AC
structure Perm where
 gen:Nat
 e:Nat
 sz:Nat
 live:Bool
structure St where
 tmps:List (Nat×AV)
 boxes:List (Nat×Box)
 perms:List (Nat×Perm)
def find{α:Type}(d:Nat):List (Nat×α)→Option α
 | []=>none
 |(k,x)::l=>match Nat.beq k d with
  |true=>some x
  |false=>find d l
inductive Loc where
 |tmp (t:Nat)
 |box (d:Nat)
 |perm (d:Nat)
inductive Wr where
 |tmp (t:Nat) (v:AV)
 |box (d:Nat) (b:Box)
 |perm (d:Nat) (p:Perm)
 |drop (d:Nat)
inductive Arg where
 |val (a:AV)
 |box (ty:Nat) (cells:List AC)
inductive Res where
 |val (a:AV)
 |row (e sz:Nat) (xs:List (List AC))
inductive WRes where
 |val (a:AV)
 |own (e sz:Nat) (xs:List (List AC))
 |row (e sz:Nat) (xs:List (List AC))
 |box (ty:Nat) (cs:List AC)
inductive Rd(α:Type)where
 |ret (a:α)
 |tmp (t:Nat) (k:AV→Rd α)
 |box (d:Nat) (k:Option Box→Rd α)
 |perm (d:Nat) (k:Option Perm→Rd α)
 |need (p:Prop) (k:Rd α)
 |elem (xs:List (List AC)) (i:Int) (k:List AC→Rd α)
 |call (f:Nat) (Qa:List Arg) (k:List Res→List (List AC)→Rd α)
 |ite (b:Bool) (k1 k2:Rd α)
 |key (ks:List Value) (x:Value) (k:Option Nat→Rd α)
 |mval (vs:List MV) (i:Nat) (k:MV→Rd α)
 |elemR (yss:List (List (List AC))) (i:Nat) (k:List (List AC)→Rd α)
 |elemK (ks:List Value) (i:Nat) (k:Value→Rd α)
 |callW (f:Nat) (Qa:List AV) (k:List WRes→List AC→Rd α)
 |none
namespace Rd
def bind{α β:Type}(x:Rd α)(f:α→Rd β):Rd β:=
 Rd.rec (motive:=fun _=>Rd β) (fun a=>f a) (fun t _ ih=>.tmp t ih) (fun d _ ih=>.box d ih) (fun d _ ih=>.perm d ih) (fun p _ ih=>.need p ih) (fun xs i _ ih=>.elem xs i ih) (fun g Qa _ ih=>.call g Qa ih) (fun b _ _ i1 i2=>.ite b i1 i2)
  (fun ks x _ ih=>.key ks x ih) (fun vs i _ ih=>.mval vs i ih) (fun vs i _ ih=>.elemR vs i ih) (fun vs i _ ih=>.elemK vs i ih) (fun g Qa _ ih=>.callW g Qa ih) .none x
def of{α:Type}:Option α→Rd α
 |some a=>.ret a
 |Option.none=>.none
end Rd
inductive TK where
 |other
 |int (k:IntKind)
 |str
 |struct (fs:List (Nat×Nat×Bool))
 |slice (e sz bytes:Nat)
 |array (len e sz:Nat) (agg:Bool)
 |map (k e:Nat)
structure TI where
 size:Nat
 agg:Bool
 zero:List AC
 kind:TK
abbrev Tab:=Nat→Option TI
structure Kn where
 sg:Nat→Bool
 fb:Nat→Bool
def forceV(x:Value)(k:Value→Prop):Prop:=
 match x with
 | .bool b=>k (.bool b)
 | .int K n=>k (.int K n)
 | .float K n=>k (.float K n)
 | .complex K n m=>k (.complex K n m)
 | .string s=>k (.string s)
 | .pointer a=>k (.pointer a)
 | .slice a n c=>k (.slice a n c)
 | .map r=>k (.map r)
 | .chan r=>k (.chan r)
 | .func f a c=>k (.func f a c)
 | .nilFunc=>k .nilFunc
 | .iface t v=>k (.iface t v)
 | .nilIface=>k .nilIface
 | .agg cs=>k (.agg cs)
 | .tuple vs=>k (.tuple vs)
theorem forceV_eq(x:Value)(k:Value→Prop):forceV x k=k x:=by cases x<;>rfl
def forceC(c:AC)(k:AC→Prop):Prop:=
 match c with
 | .any=>k .any
 | .nil e sz=>k (.nil e sz)
 | .v x=>forceV x fun x=>k (.v x)
 | .sl e sz xs tok=>k (.sl e sz xs tok)
 | .ptr d g off=>k (.ptr d g off)
 | .ref cs off=>k (.ref cs off)
 | .clo f cs=>k (.clo f cs)
 |c=>k c
theorem forceC_eq(c:AC)(k:AC→Prop):forceC c k=k c:=by cases c<;>simp[forceC,forceV_eq]
def forceL:List AC→(List AC→Prop)→Prop
 | [],k=>k []
 |c::cs,k=>forceC c fun c=>forceL cs fun cs=>k (c::cs)
theorem forceL_eq:∀(l:List AC) (k:List AC→Prop),forceL l k=k l
 | [],_=>rfl
 |c::cs,k=>by simp[forceL,forceC_eq,forceL_eq]
mutual
def forceA:AV→(AV→Prop)→Prop
 | .undef,k=>k .undef
 | .one c,k=>forceC c fun c=>k (.one c)
 | .agg cs,k=>forceL cs fun cs=>k (.agg cs)
 | .tup vs,k=>forceAs vs fun vs=>k (.tup vs)
 | .ob d g c,k=>k (.ob d g c)
def forceAs:List AV→(List AV→Prop)→Prop
 | [],k=>k []
 |v::vs,k=>forceA v fun v=>forceAs vs fun vs=>k (v::vs)
end
mutual
theorem forceA_eq:∀(v:AV) (k:AV→Prop),forceA v k=k v
 | .undef,_=>rfl
 | .one c,k=>by simp[forceA,forceC_eq]
 | .agg cs,k=>by simp[forceA,forceL_eq]
 | .tup vs,k=>by simp[forceA,forceAs_eq]
 | .ob _ _ _,_=>rfl
theorem forceAs_eq:∀(v:List AV) (k:List AV→Prop),forceAs v k=k v
 | [],_=>rfl
 |v::vs,k=>by simp[forceAs,forceA_eq,forceAs_eq]
end
def putB{α:Type}(d:Nat)(x:α):List (Nat×α)→List (Nat×α)
 | []=>[(d,x)]
 |(k,y)::l=>match Nat.beq k d with
  |true=>(d,x)::l
  |false=>(k,y)::putB d x l
def dropB(d:Nat):List (Nat×Perm)→List (Nat×Perm)
 | []=>[]
 |(k,⟨g,e,sz,b⟩)::l=>match Nat.beq k d with
  |true=>(k,⟨g,e,sz,false⟩)::l
  |false=>(k,⟨g,e,sz,b⟩)::dropB d l
def forceM{α:Type}:List (Nat×α)→(List (Nat×α)→Prop)→Prop
 | [],k=>k []
 |(d,x)::l,k=>forceM l fun l=>k ((d,x)::l)
theorem forceM_eq{α:Type}:∀(l:List (Nat×α)) (k:List (Nat×α)→Prop),forceM l k=k l
 | [],_=>rfl
 |(d,x)::l,k=>by simp[forceM,forceM_eq]
def St.write(s:St):Wr→St
 | .tmp t v=>{ s with tmps:=(t,v)::s.tmps}
 | .box d b=>{ s with boxes:=putB d b s.boxes}
 | .perm d p=>{ s with perms:=putB d p s.perms}
 | .drop d=>{ s with perms:=dropB d s.perms}
def St.writes(s:St):List Wr→St
 | []=>s
 |w::ws=>(s.write w).writes ws
def writesK(k:St→Prop):List Wr→List (Nat×AV)→List (Nat×Box)→List (Nat×Perm)→Prop
 | [],ts,bs,ps=>k ⟨ts,bs,ps⟩
 | .tmp t v::ws,ts,bs,ps=>forceA v fun v=>writesK k ws ((t,v)::ts) bs ps
 | .box d ⟨g,ty,cs⟩::ws,ts,bs,ps=>forceL cs fun cs=>forceM (putB d ⟨g,ty,cs⟩ bs) fun bs=>writesK k ws ts bs ps
 | .perm d p::ws,ts,bs,ps=>forceM (putB d p ps) fun ps=>writesK k ws ts bs ps
 | .drop d::ws,ts,bs,ps=>forceM (dropB d ps) fun ps=>writesK k ws ts bs ps
theorem writesK_eq(k:St→Prop):∀(ws:List Wr) (ts:List (Nat×AV)) (bs:List (Nat×Box)) (ps:List (Nat×Perm)),writesK k ws ts bs ps=k (St.writes ⟨ts,bs,ps⟩ ws)
 | [],_,_,_=>rfl
 |w::ws,_,_,_=>by cases w<;>simp[writesK,forceA_eq,forceL_eq,forceM_eq,writesK_eq k ws,St.writes,St.write]
def acV:Value→AV
 | .agg _=>.undef
 | .tuple vs=>match vs.toList with
  | []=>.tup []
  |_=>.undef
 |x=>.one (.v x)
def AV.cells? :AV→Option (List AC)
 | .one c=>some [c]
 | .agg cs=>some cs
 |_=>none
def over:List AC→Nat→List AC→List AC
 | [],_,_=>[]
 |c::cs,0,[]=>c::cs
 |_::cs,0,x::xs=>x::over cs 0 xs
 |c::cs,n+1,xs=>c::over cs n xs
abbrev RE:=Rd (AV×List Wr)
def jt:AC→Option AC
 | .v x=>some (.v x)
 | .nil e sz=>some (.sl e sz [] none)
 | .sl e sz xs _=>some (.sl e sz xs none)
 | .ref cs off=>some (.ref cs off)
 | .clo f []=>some (.clo f [])
 |_=>none
def oQ:List AC→Option (List AC)
 | []=>some []
 |c::cs=>match jt c,oQ cs with
  |some x,some xs=>some (x::xs)
  |_,_=>none
def iy:AV→Option AV
 | .one c=>(jt c).map .one
 | .agg cs=>(oQ cs).map .agg
 |_=>none
def boxR(d g:Nat):Rd Box:=.box d fun
 |some ⟨g',ty,cs⟩=>match Nat.beq g' g with
  |true=>.ret ⟨g',ty,cs⟩
  |false=>.none
 |none=>.none
def lb(d ty:Nat)(cells:List AC):RE:=
 .box d fun
 |some ⟨g,_,_⟩=>.ret (.one (.ptr d (g+1) 0),[.box d ⟨g+1,ty,cells⟩])
 |none=>.ret (.one (.ptr d 0 0),[.box d ⟨0,ty,cells⟩])
def eO(d e sz:Nat)(xs:List (List AC)):RE:=
 .perm d fun
 |some ⟨g,_,_,_⟩=>.ret (.one (.sl e sz xs (some (d,g+1))),[.perm d ⟨g+1,e,sz,true⟩])
 |none=>.ret (.one (.sl e sz xs (some (d,0))),[.perm d ⟨0,e,sz,true⟩])
section
variable(T:Tab)(J:Kn)(G:Nat→Option (List AC))
def nV(t:Nat)(cs:List AC)(off:Nat):Option AV:=
 match T t with
 |some i=>match i.agg with
  |true=>match Nat.ble (off+i.size) cs.length with
   |true=>some (.agg ((cs.drop off).take i.size))
   |false=>none
  |false=>(cs[off]?).map .one
 |none=>none
def opd:Operand→Rd AV
 | .tmp t=>.tmp t .ret
 | .const v=>.ret (acV v)
 | .global g=>match G g with
  |some cs=>.ret (.one (.ref cs 0))
  |none=>.none
 | .func f=>.ret (.one (.clo f []))
def opds:List Operand→Rd (List AV)
 | []=>.ret []
 |x::xs=>(opd G x).bind fun v=>(opds xs).bind fun vs=>.ret (v::vs)
def qp:AV→Option (List (List AC))
 | .one (.v (.slice none 0 0))=>some []
 | .one (.nil _ _)=>some []
 | .one (.sl _ _ xs _)=>some xs
 |_=>none
def lg(sz:Nat):AV→Option (List (List AC))
 | .one (.v (.slice none 0 0))=>some []
 | .one (.nil _ _)=>some []
 | .one (.sl _ sz' xs _)=>match Nat.beq sz sz' with
  |true=>some xs
  |false=>none
 |_=>none
def lR:List (List AC)→Option (List UInt8)
 | []=>some []
 | [.v (.int .u8 n)]::xs=>(lR xs).map fun bs=>UInt8.ofNat n.toNat::bs
 |_=>none
def oA:IntKind→IntKind→Bool
 | .i64,.i64| .u8,.u8| .u16,.u16| .i32,.i32| .u32,.u32| .u64,.u64| .i8,.i8| .i16,.i16=>true
 |_,_=>false
def lim(bytes:Nat):Nat:=2 ^ 46 / (bytes+1)
def rS(fs:List (Nat×Nat×Bool))(i:Nat):Option (Nat×Nat):=(fs[i]?).map fun f=>(f.1,f.2.1)
def um(pl:Nat→Option (Nat×Nat)):List AC→List (Nat×AV)→Option (List AC)
 |cells,[]=>some cells
 |cells,(i,v)::rest=>match pl i,v.cells? with
  |some (off,n),some cs=>match Nat.beq cs.length n,Nat.ble (off+n) cells.length with
   |true,true=>um pl (over cells off cs) rest
   |_,_=>none
  |_,_=>none
def jC(n:Nat):List AV→Option (List (List AC))
 | []=>some []
 |v::vs=>match iy v with
  |some v=>match v.cells?,jC n vs with
   |some cs,some xs=>match Nat.beq cs.length n with
    |true=>some (cs::xs)
    |false=>none
   |_,_=>none
  |none=>none
def oT:Nat→List Nat→Bool
 |_,[]=>true
 |i,j::js=>Nat.beq i j&&oT (i+1) js
def te:List AV→Rd (List Arg×List (Nat×Box))
 | []=>.ret ([],[])
 | .one (.ptr d g 0)::vs=>(boxR d g).bind fun⟨bg,bt,bc⟩=>match oQ bc with
  |some cs=>(te vs).bind fun(Qa,bs)=>match bs.any (fun x=>Nat.beq x.1 d) with
   |true=>.none
   |false=>.ret (.box bt cs::Qa,(d,⟨bg,bt,bc⟩)::bs)
  |none=>.none
 |v::vs=>match iy v with
  |some a=>(te vs).bind fun(Qa,bs)=>.ret (.val a::Qa,bs)
  |none=>.none
def xg:List (Nat×Box)→List (List AC)→Option (List Wr)
 | [],[]=>some []
 |(d,⟨g,ty,_⟩)::bs,cs::css=>(xg bs css).map fun ws=>.box d ⟨g,ty,cs⟩::ws
 |_,_=>none
def pK:List Res→Option (List AV)
 | []=>some []
 | .val a::rs=>match pK rs with
  |some vs=>some (a::vs)
  |none=>none
 | .row _ _ _::_=>none
def resE(d:Nat):List Res→Rd (List AV×List Wr)
 | .row e sz xs::rs=>match pK rs with
  |some vs=>(eO d e sz xs).bind fun(v,ws)=>.ret (v::vs,ws)
  |none=>.none
 |rs=>match pK rs with
  |some vs=>.ret (vs,[])
  |none=>.none
def acq:List AV→AV
 | [v]=>v
 |vs=>.tup vs
def aeo(d f:Nat)(vs:List AV):RE:=
 match J.fb f with
 |true=>(te vs).bind fun(Qa,bs)=>.call f Qa fun rs css=>match xg bs css with
  |some ws=>(resE d rs).bind fun(vs,ws2)=>.ret (acq vs,ws++ws2)
  |none=>.none
 |false=>.none
def wq(d t:Nat)(s x:AV):RE:=
 match T t with
 |some i=>match i.kind with
  | .slice e sz bytes=>match lg sz x with
   |some ys=>match s with
    | .one (.v (.slice none 0 0))=>.need (ys.length≤lim bytes) (eO d e sz ys)
    | .one (.nil _ _)=>.need (ys.length≤lim bytes) (eO d e sz ys)
    | .one (.sl e' sz' xs (some (d0,g0)))=>.perm d0 fun
     |some ⟨rg,re,rs,true⟩=>match Nat.beq rg g0,Nat.beq e e'&&Nat.beq sz sz'&&Nat.beq e re&&Nat.beq sz rs with
      |true,true=>.need (xs.length+ys.length≤lim bytes) (match Nat.beq d0 d with
       |true=>eO d e sz (xs++ys)
       |false=>(eO d e sz (xs++ys)).bind fun(v,ws)=>.ret (v,.drop d0::ws))
      |_,_=>.none
     |_=>.none
    |_=>.none
   |none=>.none
  |_=>.none
 |none=>.none
def intE(op:BinOp)(k:IntKind)(a b:Int):RE:=
 let r (x:Value):RE:=.ret (.one (.v x),[])
 match op with
 | .add=>r (.int k (k.wrap (a+b)))
 | .sub=>r (.int k (k.wrap (a-b)))
 | .mul=>r (.int k (k.wrap (a*b)))
 | .quo=>.need (b≠0) (r (.int k (k.wrap (a.tdiv b))))
 | .rem=>.need (b≠0) (r (.int k (a.tmod b)))
 | .and=>r (.int k (k.wrap ((BitVec.ofInt k.bits a&&&BitVec.ofInt k.bits b).toNat)))
 | .eql=>r (.bool (decide (a=b)))
 | .neq=>r (.bool (!decide (a=b)))
 | .lss=>r (.bool (decide (a<b)))
 | .leq=>r (.bool (decide (a≤b)))
 | .gtr=>r (.bool (decide (b<a)))
 | .geq=>r (.bool (decide (b≤a)))
 |_=>.none
def strE(op:BinOp)(a b:ByteArray):RE:=
 let r (x:Value):RE:=.ret (.one (.v x),[])
 match op with
 | .add=>.need (a.size+b.size≤2 ^ 62) (r (.string (a++b)))
 | .eql=>r (.bool (decide (a=b)))
 | .neq=>r (.bool (!decide (a=b)))
 | .lss=>r (.bool (Op.bytesLess a.data.toList b.data.toList))
 |_=>.none
def binE(op:BinOp)(t:Nat)(x y:AV):RE:=
 match x,y with
 | .one (.v (.int k a)),.one (.v (.int k' b))=>match oA k k' with
  |true=>intE op k a b
  |false=>.none
 | .one (.v (.string a)),.one (.v (.string b))=>strE op a b
 | .agg [.v (.int .i64 a),.v (.string s)],.agg [.v (.int .i64 b),.v (.string u)]=>match op,J.sg t with
  | .eql,true=>.ret (.one (.v (.bool (decide (a=b)&&decide (s=u)))),[])
  |_,_=>.none
 |_,_=>.none
def kO(s:ByteArray)(i:Nat):UInt8:=s.data.toList.getD i 0
def lenE(t:Nat)(v:AV):RE:=
 match T t with
 |some i=>match i.kind with
  | .str=>match v with
   | .one (.v (.string s))=>.ret (.one (.v (.int .i64 (s.size:Int))),[])
   |_=>.none
  | .slice _ _ _=>match qp v with
   |some xs=>.ret (.one (.v (.int .i64 (xs.length:Int))),[])
   |none=>.none
  |_=>.none
 |none=>.none
def one2(f:Int→Int→Int):List AV→RE
 | [.one (.v (.int .i64 a)),.one (.v (.int .i64 b))]=>.ret (.one (.v (.int .i64 (f a b))),[])
 |_=>.none
def xW :List AV→Option (List AC)
 | []=>some []
 | .one c::vs=>(xW vs).map (c::·)
 |_=>none
def ko(dflt:Int):Option AV→Option Int
 |none=>some dflt
 |some (.one (.v (.int _ n)))=>some n
 |_=>none
def aec(xs:List (List AC))(l h:Int):Option AV→List (List AC)
 |none=>xs.drop l.toNat
 |some _=>(xs.drop l.toNat).take (h.toNat-l.toNat)
def aca(t:Nat)(v:AV)(lo hi:Option AV):RE:=
 match T t with
 |some i=>match i.kind with
  | .str=>match v with
   | .one (.v (.string s))=>match ko 0 lo with
    |some l=>match ko s.size hi with
     |some h=>.need (0≤l∧l≤h∧h≤s.size) (.ret (.one (.v (.string (s.extract l.toNat h.toNat))),[]))
     |none=>.none
    |none=>.none
   |_=>.none
  | .slice e sz _=>match lg sz v with
   |some xs=>match ko 0 lo with
    |some l=>match ko xs.length hi with
     |some h=>.need (0≤l∧l≤h∧h≤xs.length) (.ret (.one (.sl e sz (aec xs l h hi) none),[]))
     |none=>.none
    |none=>.none
   |none=>.none
  |_=>.none
 |none=>.none
def optR:Option Operand→Rd (Option AV)
 |none=>.ret none
 |some x=>(opd G x).bind fun v=>.ret (some v)
def evOp(o:Oper):RE:=
 match o.op with
 | .move x| .assign x=>(opd G x).bind fun v=>.ret (v,[])
 | .pick c a b=>(opd G c).bind fun
  | .one (.v (.bool t))=>.ite t ((opd G a).bind fun v=>.ret (v,[])) ((opd G b).bind fun v=>.ret (v,[]))
  |_=>.none
 | .alloc t=>match o.dst,T t with
  |some d,some i=>lb d t i.zero
  |_,_=>.none
 | .box t x=>(opd G x).bind fun v=>match o.dst,v.cells? with
  |some d,some cs=>lb d t cs
  |_,_=>.none
 | .build t parts=>(opds G (parts.toList.map (·.2))).bind fun vs=>
  match T t with
  |some i=>match i.kind with
   | .struct fs=>match um (rS fs) i.zero ((parts.toList.map (·.1)).zip vs) with
    |some cs=>.ret (.agg cs,[])
    |none=>.none
   | .array len _ n _=>match um (fun j=>match Nat.blt j len with|true=>some (j*n,n)|false=>none) i.zero ((parts.toList.map (·.1)).zip vs) with
    |some cs=>.ret (.agg cs,[])
    |none=>.none
   |_=>.none
  |none=>.none
 | .buildSlice t len parts=>(opds G (parts.toList.map (·.2))).bind fun vs=>
  match T t,o.dst,Nat.beq len vs.length&&oT 0 (parts.toList.map (·.1)) with
  |some i,some d,true=>match i.kind with
   | .slice e n _=>match jC n vs,Nat.ble len 64&&Nat.ble n 64 with
    |some xs,true=>eO d e n xs
    |_,_=>.none
   |_=>.none
  |_,_,_=>.none
 | .load t a=>(opd G a).bind fun
  | .one (.ptr d g off)=>(boxR d g).bind fun⟨_,_,bc⟩=>(Rd.of (nV T t bc off)).bind fun v=>.ret (v,[])
  | .one (.ref cs off)=>(Rd.of (nV T t cs off)).bind fun v=>.ret (v,[])
  |_=>.none
 | .store t a x=>(opd G a).bind fun av=>(opd G x).bind fun xv=>match av,xv.cells?,T t with
  | .one (.ptr d g off),some cs,some i=>(boxR d g).bind fun⟨bg,bt,bc⟩=>
   match Nat.beq i.size cs.length&&Nat.ble (off+cs.length) bc.length with
   |true=>.ret (.undef,[.box d ⟨bg,bt,over bc off cs⟩])
   |false=>.none
  |_,_,_=>.none
 | .nilCheck x=>(opd G x).bind fun v=>match v with
  | .one (.ptr ..)| .one (.ref ..)| .one (.clo ..)=>.ret (v,[])
  |_=>.none
 | .fieldAddr s x f=>(opd G x).bind fun v=>match T s with
  |some i=>match i.kind with
   | .struct fs=>match fs[f]? with
    |some (off,_+1,_)=>match v with
     | .one (.ptr d g o)=>.ret (.one (.ptr d g (o+off)),[])
     | .one (.ref cs o)=>.ret (.one (.ref cs (o+off)),[])
     |_=>.none
    |_=>.none
   |_=>.none
  |none=>.none
 | .field s x f=>(opd G x).bind fun v=>match T s,v with
  |some i,.agg cs=>match i.kind with
   | .struct fs=>match fs[f]? with
    |some (off,n,agg)=>match agg,Nat.ble (off+n) cs.length with
     |true,true=>.ret (.agg ((cs.drop off).take n),[])
     |false,true=>(Rd.of (cs[off]?)).bind fun c=>.ret (.one c,[])
     |_,_=>.none
    |none=>.none
   |_=>.none
  |_,_=>.none
 | .indexAddr t x ix=>(opd G x).bind fun v=>(opd G ix).bind fun iv=>match iv,T t with
  | .one (.v (.int _ i)),some ti=>match ti.kind with
   | .slice _ (n+1) _=>match v with
    | .one (.sl _ sz xs _)=>match Nat.beq (n+1) sz with
     |true=>.elem xs i fun cs=>.ret (.one (.ref cs 0),[])
     |false=>.none
    |_=>.none
   | .array len _ n _=>match v with
    | .one (.ptr d g off)=>.need (0≤i∧i<len) (.ret (.one (.ptr d g (off+i.toNat*n)),[]))
    | .one (.ref cs off)=>.need (0≤i∧i<len) (.ret (.one (.ref cs (off+i.toNat*n)),[]))
    |_=>.none
   |_=>.none
  |_,_=>.none
 | .index t x ix=>(opd G x).bind fun v=>(opd G ix).bind fun iv=>match T t with
  |some ti=>match v,iv,ti.kind with
   | .one (.v (.string s)),.one (.v (.int _ i)),.str=>.need (0≤i∧i<s.size) (.ret (.one (.v (.int .u8 ((kO s i.toNat).toNat:Int))),[]))
   |_,_,_=>.none
  |none=>.none
 | .slice t x lo hi mx=>(opd G x).bind fun v=>(optR G lo).bind fun l=>(optR G hi).bind fun h=>match mx with
  |none=>aca T t v l h
  |some _=>.none
 | .extract x i=>(opd G x).bind fun
  | .tup vs=>(Rd.of vs[i]?).bind fun v=>.ret (v,[])
  |_=>.none
 | .binOp op t x y _=>(opd G x).bind fun a=>(opd G y).bind fun b=>binE J op t a b
 | .unOp op _ x=>(opd G x).bind fun a=>match op,a with
  | .not,.one (.v (.bool b))=>.ret (.one (.v (.bool (!b))),[])
  |_,_=>.none
 | .convert src dst x=>(opd G x).bind fun a=>match a,T src,T dst with
  | .one (.v (.int _ n)),some _,some i=>match i.kind with
   | .int k=>.ret (.one (.v (.int k (k.wrap n))),[])
   |_=>.none
  | .one (.sl _ _ xs _),some j,some i=>match j.kind,i.kind,lR xs with
   | .slice e _ _,.str,some bs=>match T e with
    |some l=>match l.kind with
     | .int .u8=>.ret (.one (.v (.string ⟨bs.toArray⟩)),[])
     |_=>.none
    |none=>.none
   |_,_,_=>.none
  |_,_,_=>.none
 | .makeFunc (.func f) first captured=>match Nat.beq first.size 0 with
  |true=>(opds G captured.toList).bind fun vs=>match xW vs with
   |some cs=>.ret (.one (.clo f cs),[])
   |none=>.none
  |false=>.none
 | .call c=>(opds G c.args.toList).bind fun vs=>match c.callee with
  | .builtin .len=>match vs,c.argTypes.toList with
   | [v],[t]=>lenE T t v
   |_,_=>.none
  | .builtin .max=>one2 (fun a b=>if b > a then b else a) vs
  | .builtin .min=>one2 (fun a b=>if b<a then b else a) vs
  | .builtin .append=>match vs,o.dst,c.argTypes.toList with
   | [s,x],some d,[t,t']=>match Nat.beq t t' with
    |true=>wq T d t s x
    |false=>.none
   |_,_,_=>.none
  | .value f=>(opd G f).bind fun
   | .one (.clo g caps)=>aeo J (o.dst.getD 1023) g (vs++caps.map .one)
   |_=>.none
  |_=>.none
 |_=>.none
def dstW(o:Oper)(v:AV):List Wr:=match o.dst with
 |some d=>[.tmp d v]
 |none=>[]
def aaN(o:Oper):Rd (List Wr):=(evOp T J G o).bind fun(v,ws)=>.ret (ws++dstW o v)
def evO(ops:Array Oper)(o:Oper):Rd (List Wr):=
 match o.guard with
 |none=>aaN T J G o
 |some (g,want)=>match(ops[g]?).bind (·.dst) with
  |some t=>.tmp t fun
   | .one (.v (.bool b))=>match want with
    |true=>.ite b (aaN T J G o) (.ret (dstW o (.tup [])))
    |false=>.ite b (.ret (dstW o (.tup []))) (aaN T J G o)
   | .tup _=>.ret (dstW o (.tup []))
   |_=>.none
  |none=>.none
end
abbrev Fz:=Nat→Nat→Option Value
def Fz.le(H H':Fz):Prop:=∀b i v,H b i=some v→H' b i=some v
theorem Fz.le_refl(H:Fz):Fz.le H H:=fun _ _ _ h=>h
theorem Fz.le_trans{H H1 H2:Fz}(h:Fz.le H H1)(k:Fz.le H1 H2):Fz.le H H2:=fun b i v hb=>k b i v (h b i v hb)
structure Con where
 blk:Nat→Nat→Nat
 row:Nat→Nat→Value
 nb:Nat→Nat
 nr:Nat→Nat
structure Con.le(κ κ':Con):Prop where
 nb:∀d,κ.nb d≤κ'.nb d
 nr:∀d,κ.nr d≤κ'.nr d
 blk:∀d g,g<κ.nb d→κ'.blk d g=κ.blk d g
 row:∀d g,g<κ.nr d→κ'.row d g=κ.row d g
theorem Con.le_refl(κ:Con):Con.le κ κ:=⟨fun _=>au _,fun _=>au _,fun _ _ _=>rfl,fun _ _ _=>rfl⟩
theorem Con.le_trans{κ κ1 κ2:Con}(h:Con.le κ κ1)(k:Con.le κ1 κ2):Con.le κ κ2:=
 ⟨fun d=>dR (h.nb d) (k.nb d),fun d=>dR (h.nr d) (k.nr d),
  fun d g hg=>(k.blk d g (bd hg (h.nb d))).trans (h.blk d g hg),
  fun d g hg=>(k.row d g (bd hg (h.nr d))).trans (h.row d g hg)⟩
def Con.no:Con:=⟨fun _ _=>0,fun _ _=>undef,fun _=>0,fun _=>0⟩
theorem Con.no_le(κ:Con):Con.le Con.no κ:=⟨fun _=>aR _,fun _=>aR _,fun _ _ h=>absurd h (jk _),fun _ _ h=>absurd h (jk _)⟩
def ka(κ:Con)(tok:Option (Nat×Nat))(u:Value):Prop:=∀d g,tok=some (d,g)→g<κ.nr d∧κ.row d g=u
theorem ka.none(κ:Con)(u:Value):ka κ none u:=fun _ _ h=>nomatch h
theorem ka.mono{κ κ':Con}(hκ:Con.le κ κ'){tok:Option (Nat×Nat)}{u:Value}(h:ka κ tok u):ka κ' tok u:=fun d g e=>
 ⟨bd (h d g e).1 (hκ.nr d),(hκ.row d g (h d g e).1).trans (h d g e).2⟩
inductive ACr:Con→Fz→AC→Value→Prop
 |any {κ:Con} {H:Fz} (u:Value) (h:u.oneCell'=true):ACr κ H .any u
 |v {κ:Con} {H:Fz} (x:Value) (h:x.oneCell'=true):ACr κ H (.v x) x
 |anyB {κ:Con} {H:Fz} (b:Bool):ACr κ H .anyB (.bool b)
 |zero {κ:Con} {H:Fz} (e sz:Nat):ACr κ H (.nil e sz) (.slice none 0 0)
 |nil {κ:Con} {H:Fz} (e sz:Nat) (tok:Option (Nat×Nat)) (A:Option Addr) (cap:Nat) (ht:ka κ tok (.slice A 0 cap)):ACr κ H (.sl e sz [] tok) (.slice A 0 cap)
 |sl {κ:Con} {H:Fz} (e sz:Nat) (xs:List (List AC)) (tok:Option (Nat×Nat)) (b off cap:Nat) (us:List Value)
  (hc:xs.length≤cap) (hs:∀x∈xs,x.length=sz) (hl:us.length=xs.flatten.length)
  (hu:∀(k:Nat) (u:Value),us[k]?=some u→H b (off+k)=some u)
  (hr:∀(k:Nat) (c:AC) (u:Value),xs.flatten[k]?=some c→us[k]?=some u→ACr Con.no H c u)
  (ht:ka κ tok (.slice (some ⟨b,off,none⟩) xs.length cap)):
  ACr κ H (.sl e sz xs tok) (.slice (some ⟨b,off,none⟩) xs.length cap)
 |ptr {κ:Con} {H:Fz} (d g off:Nat) (hg:g<κ.nb d):ACr κ H (.ptr d g off) (.pointer (some ⟨κ.blk d g,off,none⟩))
 |ref {κ:Con} {H:Fz} (cs:List AC) (k b off:Nat) (us:List Value) (hl:us.length=cs.length)
  (hu:∀(j:Nat) (u:Value),us[j]?=some u→H b (off+j)=some u)
  (hr:∀(j:Nat) (c:AC) (u:Value),cs[j]?=some c→us[j]?=some u→ACr Con.no H c u):
  ACr κ H (.ref cs k) (.pointer (some ⟨b,off+k,none⟩))
 |clo {κ:Con} {H:Fz} (f:Nat) (cs:List AC) (us:List Value) (hl:us.length=cs.length) (hr:∀(j:Nat) (c:AC) (u:Value),cs[j]?=some c→us[j]?=some u→ACr κ H c u):
  ACr κ H (.clo f cs) (.func (.func f) #[] us.toArray)
 |rref {κ:Con} {H:Fz} (d g n:Nat) (A:Option Addr) (cap:Nat) (hg:g<κ.nr d) (hu:κ.row d g= .slice A n cap) (hA:n=0∨∃b,A=some ⟨b,0,none⟩):ACr κ H (.rref d g n) (.slice A n cap)
 |eref {κ:Con} {H:Fz} (d g sz i off b n cap:Nat) (hg:g<κ.nr d) (hu:κ.row d g= .slice (some ⟨b,0,none⟩) n cap) (hi:i<n):ACr κ H (.eref d g sz i off) (.pointer (some ⟨b,i*sz+off,none⟩))
 |mref {κ:Con} {H:Fz} (d g r:Nat) (hg:g<κ.nr d) (hu:κ.row d g= .map (some r)):ACr κ H (.mref d g) (.map (some r))
 |iref {κ:Con} {H:Fz} (d g r:Nat) (hg:g<κ.nr d) (hu:κ.row d g= .pointer (some ⟨r,0,none⟩)):ACr κ H (.iref d g) (.pointer (some ⟨r,0,none⟩))
 |vref {κ:Con} {H:Fz} (d g lo n b n0 cap:Nat) (hg:g<κ.nr d) (hu:κ.row d g= .slice (some ⟨b,0,none⟩) n0 cap) (hn:lo+n=n0):ACr κ H (.vref d g lo n) (.slice (some ⟨b,lo,none⟩) n (cap-lo))
theorem ACr.mono'{κ:Con}{H:Fz}{c:AC}{u:Value}(h:ACr κ H c u):∀{κ':Con} {H':Fz},Con.le κ κ'→Fz.le H H'→ACr κ' H' c u:=by
 induction h with
 |any u h=>exact fun _ _=>.any u h
 |v x h=>exact fun _ _=>.v x h
 |anyB b=>exact fun _ _=>.anyB b
 |zero e sz=>exact fun _ _=>.zero e sz
 |nil e sz tok A cap ht=>exact fun hκ _=>.nil e sz tok A cap (ht.mono hκ)
 |sl e sz xs tok b off cap us hc hs hl hu hr ht ih=>
  exact fun hκ hH=>.sl e sz xs tok b off cap us hc hs hl (fun k u h=>hH _ _ _ (hu k u h)) (fun k c u hc hu=>ih k c u hc hu (Con.le_refl _) hH) (ht.mono hκ)
 |ptr d g off hg=>exact fun hκ _=>by rw[←hκ.blk d g hg];exact .ptr d g off (bd hg (hκ.nb d))
 |ref cs k b off us hl hu hr ih=>exact fun _ hH=>.ref cs k b off us hl (fun j u h=>hH _ _ _ (hu j u h)) (fun j c u hc hu=>ih j c u hc hu (Con.le_refl _) hH)
 |clo f cs us hl hr ih=>exact fun hκ hH=>.clo f cs us hl fun j c u hc hu=>ih j c u hc hu hκ hH
 |rref d g n A cap hg hu hA=>exact fun hκ _=>.rref d g n A cap (bd hg (hκ.nr d)) ((hκ.row d g hg).trans hu) hA
 |eref d g sz i off b n cap hg hu hi=>exact fun hκ _=>.eref d g sz i off b n cap (bd hg (hκ.nr d)) ((hκ.row d g hg).trans hu) hi
 |mref d g r hg hu=>exact fun hκ _=>.mref d g r (bd hg (hκ.nr d)) ((hκ.row d g hg).trans hu)
 |iref d g r hg hu=>exact fun hκ _=>.iref d g r (bd hg (hκ.nr d)) ((hκ.row d g hg).trans hu)
 |vref d g lo n b n0 cap hg hu hn=>exact fun hκ _=>.vref d g lo n b n0 cap (bd hg (hκ.nr d)) ((hκ.row d g hg).trans hu) hn
theorem ACr.mono{κ κ':Con}{H H':Fz}(hκ:Con.le κ κ')(hH:Fz.le H H'){c:AC}{u:Value}(h:ACr κ H c u):ACr κ' H' c u:=h.mono' hκ hH
theorem ACr.oneCell{κ:Con}{H:Fz}{c:AC}{u:Value}(h:ACr κ H c u):u.oneCell'=true:=by
 cases h<;>first|assumption|rfl
def Cs(κ:Con)(H:Fz)(cs:List AC)(us:List Value):Prop:=
 us.length=cs.length∧∀(j:Nat) (c:AC) (u:Value),cs[j]?=some c→us[j]?=some u→ACr κ H c u
theorem Cs.mono{κ κ':Con}{H H':Fz}(hκ:Con.le κ κ')(hH:Fz.le H H'){cs:List AC}{us:List Value}(h:Cs κ H cs us):Cs κ' H' cs us:=
 ⟨h.1,fun j c u hc hu=>(h.2 j c u hc hu).mono hκ hH⟩
theorem Cs.nil{κ:Con}{H:Fz}:Cs κ H [] []:=⟨rfl,fun _ _ _ h=>by simp at h⟩
theorem Cs.cons{κ:Con}{H:Fz}{c:AC}{u:Value}{cs:List AC}{us:List Value}(h:ACr κ H c u)(k:Cs κ H cs us):Cs κ H (c::cs) (u::us):=
 ⟨by simp[k.1],fun j c' u' hc hu=>by
  cases j with
  |zero=>simp at hc hu;subst hc;subst hu;exact h
  |succ j=>simp at hc hu;exact k.2 j c' u' hc hu⟩
theorem Cs.inv_cons{κ:Con}{H:Fz}{c:AC}{cs:List AC}{us:List Value}(h:Cs κ H (c::cs) us):∃u vs,us=u::vs∧ACr κ H c u∧Cs κ H cs vs:=by
 cases us with
 |nil=>exact absurd h.1 (by simp)
 |cons u vs=>exact⟨u,vs,rfl,h.2 0 c u rfl rfl,by simpa using h.1,fun j c' u' hc hu=>h.2 (j+1) c' u' (by simpa using hc) (by simpa using hu)⟩
theorem Cs.inv_nil{κ:Con}{H:Fz}{us:List Value}(h:Cs κ H [] us):us=[]:=aK h.1
theorem Cs.append{κ:Con}{H:Fz}:∀{Qa bs:List AC} {us vs:List Value},Cs κ H Qa us→Cs κ H bs vs→Cs κ H (Qa++bs) (us++vs)
 | [],_,us,_,h,k=>by rw[Cs.inv_nil h];exact k
 |a::Qa,_,us,_,h,k=>by
  obtain⟨u,us',rfl,h1,h2⟩:=h.inv_cons;exact .cons h1 (Cs.append h2 k)
theorem Cs.drop{κ:Con}{H:Fz}{cs:List AC}{us:List Value}(h:Cs κ H cs us)(n:Nat):Cs κ H (cs.drop n) (us.drop n):=
 ⟨by simp[h.1],fun j c u hc hu=>h.2 (n+j) c u (by simpa using hc) (by simpa using hu)⟩
theorem Cs.take{κ:Con}{H:Fz}{cs:List AC}{us:List Value}(h:Cs κ H cs us)(n:Nat):Cs κ H (cs.take n) (us.take n):=
 ⟨by simp[h.1],fun j c u hc hu=>by
  rw[bM]at hc hu;split at hc
  ·rename_i hj;rw[if_pos hj]at hu;exact h.2 j c u hc hu
  ·cases hc⟩
theorem Cs.oneCell{κ:Con}{H:Fz}{cs:List AC}{us:List Value}(h:Cs κ H cs us):∀u∈us,u.oneCell'=true:=by
 intro u hu;obtain⟨j,hj⟩:=bT.1 hu;have hlt:j<cs.length:=by rw[←h.1];exact(aq.1 hj).1
 exact(h.2 j _ u (ad hlt) hj).oneCell
theorem Cs.over{κ:Con}{H:Fz}:∀{cs:List AC} {us:List Value} (off:Nat) {xs:List AC} {vs:List Value},Cs κ H cs us→Cs κ H xs vs→off+xs.length≤cs.length→
 Cs κ H (over cs off xs) (us.take off++vs++us.drop (off+vs.length))
 | [],us,off,xs,vs,h,k,hl=>by
  have hx:xs=[]:=aK (by simp only[bJ]at hl;omega);subst hx;rw[Cs.inv_nil h,Cs.inv_nil k];simp[V.over];exact .nil
 |c::cs,us,0,[],vs,h,k,_=>by
  rw[Cs.inv_nil k];simp[V.over];exact h
 |c::cs,us,0,x::xs,vs,h,k,hl=>by
  obtain⟨u,us',rfl,h1,h2⟩:=h.inv_cons;obtain⟨v,vs',rfl,k1,k2⟩:=k.inv_cons;have:=Cs.over 0 h2 k2 (by simp at hl ⊢;omega);simp[V.over]at this ⊢;exact .cons k1 this
 |c::cs,us,n+1,xs,vs,h,k,hl=>by
  obtain⟨u,us',rfl,h1,h2⟩:=h.inv_cons;have:=Cs.over n h2 k (by simp at hl ⊢;omega);rw[show n+1+vs.length=(n+vs.length)+1 by omega];simp[V.over]at this ⊢;exact .cons h1 this
inductive AVr(κ:Con)(H:Fz):AV→Value→Prop
 |undef (u:Value):AVr κ H .undef u
 |one (c:AC) (u:Value) (h:ACr κ H c u):AVr κ H (.one c) u
 |agg (cs:List AC) (us:List Value) (h:Cs κ H cs us):AVr κ H (.agg cs) (.agg us.toArray)
 |tup (vs:List AV) (us:List Value) (hl:us.length=vs.length) (h:∀(j:Nat) (v:AV) (u:Value),vs[j]?=some v→us[j]?=some u→AVr κ H v u):
  AVr κ H (.tup vs) (.tuple us.toArray)
 |ob (d g:Nat) (c:Ob) (u:Value):AVr κ H (.ob d g c) u
theorem AVr.mono{κ κ':Con}{H H':Fz}(hκ:Con.le κ κ')(hH:Fz.le H H'){v:AV}{u:Value}(h:AVr κ H v u):AVr κ' H' v u:=by
 induction h with
 |undef u=>exact .undef u
 |one c u h=>exact .one c u (h.mono hκ hH)
 |agg cs us h=>exact .agg cs us (h.mono hκ hH)
 |tup vs us hl h ih=>exact .tup vs us hl ih
 |ob d g c u=>exact .ob d g c u
def Tail(H:Fz)(w:World)(u:Value)(e sz:Nat):Prop:=
 u= .slice none 0 0∨∃b n cap,∃cur:Array Value,u= .slice (some ⟨b,0,none⟩) n cap∧w.heap[b]?=some (.cells cur e (0,0))∧n≤cap∧cap≤maxLen∧cur.size=cap*sz∧∀i,n*sz≤i→H b i=none
def gO(κ:Con)(H:Fz)(w:World)(b ty:Nat)(cells:List AC):Prop:=
 (∀i,H b i=none)∧∃us:List Value,w.heap[b]?=some (.cells us.toArray ty (0,0))∧Cs κ H cells us
def FzOk(H:Fz)(w:World):Prop:=∀b i v,H b i=some v→w.cell? ⟨b,i,none⟩=some v
def bK(G:Nat→Option (List AC))(H:Fz):Prop:=∀g cs,G g=some cs→ACr Con.no H (.ref cs 0) (.pointer (some ⟨g,0,none⟩))
theorem bK.mono{G:Nat→Option (List AC)}{H H':Fz}(h:bK G H)(hH:Fz.le H H'):bK G H':=fun g cs hg=>(h g cs hg).mono (Con.le_refl _) hH
structure Ctx where
 W0:World
 H0:Fz
 Pr:Nat→Prop
 N:Nat
 A:Nat
 ab:Nat→Nat
 lt:∀b,Pr b→b<W0.heap.size
 np:List Nat:=[]
 pv:Nat→Value:=fun _=>undef
 ds:List Deferred:=[]
structure Rel(X:Ctx)(κ:Con)(H:Fz)(s:St)(a:Act)(w:World):Prop where
 size:a.tmps.size=X.N
 tmps:∀t v,find t s.tmps=some v→AVr κ H v (a.tmps.getD t Go.undef)
 defers:a.defers=X.ds
 fz:FzOk H w
 hk:∀b,X.Pr b→H b=X.H0 b
 h0:Fz.le X.H0 H
 box:∀d b,find d s.boxes=some b→κ.nb d=b.gen+1∧gO κ H w (κ.blk d b.gen) b.ty b.cells
 nobox:∀d,find d s.boxes=none→κ.nb d=0
 args:∀d b,(d<X.A∨2048≤d)→find d s.boxes=some b→κ.blk d b.gen=X.ab d
 perm:∀d p,find d s.perms=some p→κ.nr d=p.gen+1∧(p.live=true→Tail H w (κ.row d p.gen) p.e p.sz)
 noperm:∀d,find d s.perms=none→κ.nr d=0
 bb:∀d d' b b',find d s.boxes=some b→find d' s.boxes=some b'→κ.blk d b.gen=κ.blk d' b'.gen→d=d'
 rr:∀d d' p p' k,find d s.perms=some p→find d' s.perms=some p'→p.live=true→p'.live=true→(κ.row d p.gen).ownBlock=some k→(κ.row d' p'.gen).ownBlock=some k→d=d'
 br:∀d d' b p,find d s.boxes=some b→find d' s.perms=some p→p.live=true→(κ.row d' p.gen).ownBlock≠some (κ.blk d b.gen)
 pb:∀d b,find d s.boxes=some b→¬X.Pr (κ.blk d b.gen)
 pr:∀d p k,find d s.perms=some p→p.live=true→(κ.row d p.gen).ownBlock=some k→¬X.Pr k
 keep:∀b,X.Pr b→w.heap[b]?=X.W0.heap[b]?
 grown:X.W0.heap.size≤w.heap.size
 os:w.os=X.W0.os
 tape:w.tape=X.W0.tape
 output:w.output=X.W0.output
def mR(H:Fz)(w:World):List Arg→List Value→Prop
 | [],[]=>True
 | .val a::Qa,u::us=>AVr Con.no H a u∧mR H w Qa us
 | .box ty cs::Qa,u::us=>(∃b,u= .pointer (some ⟨b,0,none⟩)∧gO Con.no H w b ty cs)∧mR H w Qa us
 |_,_=>False
def cC:List Arg→List Value→List Nat
 | .box _ _::Qa,.pointer (some a)::us=>a.block::cC Qa us
 |_::Qa,_::us=>cC Qa us
 |_,_=>[]
def tp(H:Fz)(w:World):List Arg→List Value→List (List AC)→Prop
 | [],[],[]=>True
 | .val _::Qa,_::us,css=>tp H w Qa us css
 | .box ty _::Qa,u::us,cs::css=>(∃b,u= .pointer (some ⟨b,0,none⟩)∧gO Con.no H w b ty cs)∧tp H w Qa us css
 |_,_,_=>False
def ResR(H:Fz)(w:World)(n:Nat):Res→Value→Prop
 | .val a,u=>AVr Con.no H a u
 | .row e sz xs,u=>ACr Con.no H (.sl e sz xs none) u∧Tail H w u e sz∧∀k,u.ownBlock=some k→n≤k
def ResL(H:Fz)(w:World)(n:Nat):List Res→List Value→Prop
 | [],[]=>True
 |r::rs,u::us=>ResR H w n r u∧ResL H w n rs us
 |_,_=>False
def ff:List Value→Value
 | [u]=>u
 |us=>.tuple us.toArray
structure CPost(H:Fz)(w:World)(Qa:List Arg)(us:List Value)(rs:List Res)(css:List (List AC))(v:Value)(H':Fz)(w':World):Prop where
 le:Fz.le H H'
 fz:FzOk H' w'
 keep:∀b,b<w.heap.size→b∉cC Qa us→w'.heap[b]?=w.heap[b]? ∧H' b=H b
 outs:tp H' w' Qa us css
 grown:w.heap.size≤w'.heap.size
 os:w'.os=w.os
 tape:w'.tape=w.tape
 output:w'.output=w.output
 res:∃vs,ResL H' w' w.heap.size rs vs∧v=ff vs
def CT(P:Program)(G:Nat→Option (List AC))(f:Nat)(Qa:List Arg)(rs:List Res)(css:List (List AC)):Prop:=
 ∀(H:Fz) (w:World) (us:List Value),FzOk H w→bK G H→mR H w Qa us→(cC Qa us).Nodup→
  Calls P f us.toArray w fun e w'=>∃v H',e= .returned v∧CPost H w Qa us rs css v H' w'
def k1:Value→Value→Bool
 | .int k a,.int k' b=>decide (k=k')&&decide (a=b)
 | .string a,.string b=>decide (a=b)
 | .bool a,.bool b=>a==b
 |_,_=>false
def kL:List Value→List Value→Bool
 | [],[]=>true
 |a::Qa,b::bs=>k1 a b&&kL Qa bs
 |_,_=>false
def kEq:Value→Value→Bool
 | .agg a,.agg b=>kL a.toList b.toList
 |a,b=>k1 a b
def bL(x:Value):List Value→Option Nat
 | []=>none
 |k::ks=>match kEq x k with
  |true=>some 0
  |false=>(bL x ks).map (· +1)
def shp1:Value→Value→Bool
 | .int k _,.int k' _=>decide (k=k')
 | .string _,.string _=>true
 | .bool _,.bool _=>true
 |_,_=>false
def shpL:List Value→List Value→Bool
 | [],[]=>true
 |a::Qa,b::bs=>shp1 a b&&shpL Qa bs
 |_,_=>false
def shp:Value→Value→Bool
 | .agg a,.agg b=>shpL a.toList b.toList
 |a,b=>shp1 a b
def RowO(H:Fz)(w:World)(u:Value)(e sz:Nat)(xs:List (List AC))(bs:List Nat):Prop:=
 (∀x∈xs,x.length=sz)∧((u= .slice none 0 0∧xs=[]∧bs=[])∨
  ∃b cap,∃cur:Array Value,u= .slice (some ⟨b,0,none⟩) xs.length cap∧w.heap[b]?=some (.cells cur e (0,0))∧xs.length≤cap∧cap≤maxLen∧cur.size=cap*sz∧(∀i,H b i=none)∧Cs Con.no H xs.flatten (cur.toList.take (xs.length*sz))∧bs=[b])
def UfO(H:Fz)(w:World)(u:Value)(n:Nat)(p:List Int→Prop)(bs:List Nat):Prop:=∃l:List Int,l.length=n∧p l∧RowO H w u 3 1 (l.map fun i=>[.v (.int .i64 i)]) bs
def jg(s:ByteArray):List (List AC):=s.data.toList.map fun b=>[.v (.int .u8 b.toNat)]
def BldO(H:Fz)(w:World)(u:Value)(live:Bool)(s:ByteArray)(bs:List Nat):Prop:=
 ∃k,u= .pointer (some ⟨k,0,none⟩)∧k<w.heap.size∧(∀i,H k i=none)∧((live=false∧bs=[k])∨
  (live=true∧∃p v bs',w.heap[k]?=some (.cells #[p,v] 74 (0,0))∧(p= .pointer none∨p= .pointer (some ⟨k,0,none⟩))∧RowO H w v 5 1 (jg s) bs'∧bs=k::bs'))
def ej(L:Option (Nat×Value))(j:Nat)(u:Value)(b:List Nat)(R:Prop):Prop:=match L with
 |some (i,v)=>if i=j then u=v∧b=[] else R
 |none=>R
def nO(H:Fz)(w:World)(u:Value)(e2 sz2 e:Nat)(yss:List (List (List AC)))(L:Option (Nat×Value))(bs:List Nat):Prop:=
 (u= .slice none 0 0∧yss=[]∧bs=[])∨
  ∃b cap,∃cur:Array Value,∃bss:List (List Nat),u= .slice (some ⟨b,0,none⟩) yss.length cap∧w.heap[b]?=some (.cells cur e (0,0))∧yss.length≤cap∧cap≤maxLen∧cur.size=cap∧(∀i,H b i=none)∧bss.length=yss.length∧
   (∀(j:Nat) (v:Value) (ys:List (List AC)) (bj:List Nat),cur[j]?=some v→yss[j]?=some ys→bss[j]?=some bj→ej L j v bj (RowO H w v e2 sz2 ys bj))∧bs=b::bss.flatten
def MVr(H:Fz):MV→Value→Prop
 |(false,cs),u=>∃c,cs=[c]∧ACr Con.no H c u
 |(true,cs),u=>∃us,u= .agg us.toArray∧Cs Con.no H cs us
def MapO(H:Fz)(w:World)(u:Value)(z:Value)(ks:List Value)(vs:List MV)(bs:List Nat):Prop:=
 ∃r,∃es:Array MapEntry,u= .map (some r)∧bs=[r]∧(∀k∈ks,shp z k=true)∧w.heap[r]?=some (.map es es.size)∧es.size=ks.length∧vs.length=ks.length∧
  ∀(i:Nat) (en:MapEntry) (k:Value) (v:MV),es[i]?=some en→ks[i]?=some k→vs[i]?=some v→en.born=i∧en.key=k∧MVr H v en.val
def nP(H:Fz)(w:World)(u:Value)(z:Value)(e sz:Nat)(ks:List Value)(yss:List (List (List AC)))(L:Option (Nat×Value))(bs:List Nat):Prop:=
 ∃r,∃es:Array MapEntry,∃bss:List (List Nat),u= .map (some r)∧(∀k∈ks,shp z k=true)∧w.heap[r]?=some (.map es es.size)∧es.size=ks.length∧yss.length=ks.length∧bss.length=ks.length∧
  (∀(i:Nat) (en:MapEntry) (k:Value) (ys:List (List AC)) (bj:List Nat),es[i]?=some en→ks[i]?=some k→yss[i]?=some ys→bss[i]?=some bj→en.born=i∧en.key=k∧ej L i en.val bj (RowO H w en.val e sz ys bj))∧bs=r::bss.flatten
inductive TrR(H:Fz)(w:World):AC→Value→List Nat→Prop
 |pers (c:AC) (u:Value) (h:ACr Con.no H c u):TrR H w c u []
 |own (e sz:Nat) (xs:List (List AC)) (u:Value) (bs:List Nat) (h:RowO H w u e sz xs bs):TrR H w (.own e sz xs) u bs
 |omap (z:Value) (ks:List Value) (vs:List MV) (u:Value) (bs:List Nat) (h:MapO H w u z ks vs bs):TrR H w (.omap z ks vs) u bs
 |omrow (z:Value) (e sz:Nat) (ks:List Value) (yss:List (List (List AC))) (u:Value) (bs:List Nat) (h:nP H w u z e sz ks yss none bs):TrR H w (.omrow z e sz ks yss) u bs
 |uf (n:Nat) (p:List Int→Prop) (u:Value) (bs:List Nat) (h:UfO H w u n p bs):TrR H w (.uf n p) u bs
 |bld (live:Bool) (s:ByteArray) (u:Value) (bs:List Nat) (h:BldO H w u live s bs):TrR H w (.bld live s) u bs
 |obox (ty:Nat) (cs:List AC) (b:Nat) (us:List Value) (bss:List (List Nat)) (hb:∀i,H b i=none) (hw:w.heap[b]?=some (.cells us.toArray ty (0,0))) (hl:us.length=cs.length) (hl2:bss.length=cs.length)
  (h:∀(j:Nat) (c:AC) (u:Value) (bj:List Nat),cs[j]?=some c→us[j]?=some u→bss[j]?=some bj→TrR H w c u bj):TrR H w (.obox ty cs) (.pointer (some ⟨b,0,none⟩)) (b::bss.flatten)
 |clo (f:Nat) (cs:List AC) (us:List Value) (bss:List (List Nat)) (hl:us.length=cs.length) (hl2:bss.length=cs.length)
  (h:∀(j:Nat) (c:AC) (u:Value) (bj:List Nat),cs[j]?=some c→us[j]?=some u→bss[j]?=some bj→TrR H w c u bj):TrR H w (.clo f cs) (.func (.func f) #[] us.toArray) bss.flatten
def ArgW(H:Fz)(w:World):AV→Value→List Nat→Prop
 | .one c,u,b=>TrR H w c u b
 |a,u,b=>AVr Con.no H a u∧b=[]
def ky(H:Fz)(w:World):List AV→List Value→List (List Nat)→Prop
 | [],[],[]=>True
 |a::Qa,u::us,b::bs=>ArgW H w a u b∧ky H w Qa us bs
 |_,_,_=>False
mutual
def ownC:AC→Bool
 | .own _ _ _| .omap _ _ _| .omrow _ _ _ _ _| .obox _ _| .uf _ _| .bld _ _=>true
 | .clo _ cs=>ownL cs
 |_=>false
def ownL:List AC→Bool
 | []=>false
 |c::cs=>ownC c|| ownL cs
end
def eH:AV→Bool
 | .one c=>ownC c
 |_=>false
def fi(H:Fz)(w:World):List AV→List Value→List AC→List (List Nat)→Prop
 | [],[],[],[]=>True
 |a::Qa,u::us,cs,bs=>(eH a=false∧fi H w Qa us cs bs)∨(eH a=true∧∃c cs' b bs',cs=c::cs'∧bs=b::bs'∧TrR H w c u b∧fi H w Qa us cs' bs')
 |_,_,_,_=>False
def ResW(H:Fz)(w:World):WRes→Value→List Nat→Prop
 | .val a,u,b=>AVr Con.no H a u∧b=[]
 | .row e sz xs,u,b=>ACr Con.no H (.sl e sz xs none) u∧Tail H w u e sz∧b=u.ownBlock.toList
 | .own e sz xs,u,b=>RowO H w u e sz xs b
 | .box ty cs,u,b=>TrR H w (.obox ty cs) u b
def mQ(H:Fz)(w:World):List WRes→List Value→List (List Nat)→Prop
 | [],[],[]=>True
 |r::rs,u::us,b::bs=>ResW H w r u b∧mQ H w rs us bs
 |_,_,_=>False
structure CPostW(H:Fz)(w:World)(Qa:List AV)(us:List Value)(bs:List Nat)(rs:List WRes)(cs:List AC)(v:Value)(H':Fz)(w':World):Prop where
 le:Fz.le H H'
 fz:FzOk H' w'
 keep:∀b,b<w.heap.size→b∉bs→w'.heap[b]?=w.heap[b]? ∧H' b=H b
 grown:w.heap.size≤w'.heap.size
 os:w'.os=w.os
 tape:w'.tape=w.tape
 output:w'.output=w.output
 res:∃(vs:List Value) (bo br:List (List Nat)),fi H' w' Qa us cs bo∧mQ H' w' rs vs br∧v=ff vs∧(bo.flatten++br.flatten).Nodup∧∀k∈bo.flatten++br.flatten,k∈bs∨w.heap.size≤k
def CTW(P:Program)(G:Nat→Option (List AC))(f:Nat)(Qa:List AV)(rs:List WRes)(cs:List AC):Prop:=
 ∀(H:Fz) (w:World) (us:List Value) (bss:List (List Nat)),FzOk H w→bK G H→ky H w Qa us bss→bss.flatten.Nodup→
  Calls P f us.toArray w fun e w'=>∃v H',e= .returned v∧CPostW H w Qa us bss.flatten rs cs v H' w'
def Wk(s s0:St):Prop:=∀X κ H a w,Rel X κ H s a w→∃κ',Rel X κ' H s0 a w
section
variable(P:Program)(T:Tab)(J:Kn)(G:Nat→Option (List AC))
def iteP(b:Bool)(A B:Prop):Prop:=match b with
 |true=>A
 |false=>B
def runP{α:Type}(s:St):Rd α→List Loc→(α→List Loc→Prop)→Prop
 | .ret a,ls,K=>K a ls
 | .tmp t k,ls,K=>match find t s.tmps with
  |some v=>runP s (k v) (.tmp t::ls) K
  |none=>False
 | .box d k,ls,K=>runP s (k (find d s.boxes)) (.box d::ls) K
 | .perm d k,ls,K=>runP s (k (find d s.perms)) (.perm d::ls) K
 | .need p k,ls,K=>p∧runP s k ls K
 | .elem xs i k,ls,K=>∃cs,(0≤i∧xs[i.toNat]?=some cs)∧runP s (k cs) ls K
 | .call f Qa k,ls,K=>∃rs css,CT P G f Qa rs css∧runP s (k rs css) ls K
 | .ite b k1 k2,ls,K=>iteP b (runP s k1 ls K) (runP s k2 ls K)
 | .key ks x k,ls,K=>∃r,bL x ks=r∧runP s (k r) ls K
 | .mval vs i k,ls,K=>∃r,vs[i]?=some r∧runP s (k r) ls K
 | .elemR vs i k,ls,K=>∃r,vs[i]?=some r∧runP s (k r) ls K
 | .elemK vs i k,ls,K=>∃r,vs[i]?=some r∧runP s (k r) ls K
 | .callW f Qa k,ls,K=>∃rs cs,CTW P G f Qa rs cs∧runP s (k rs cs) ls K
 | .none,_,_=>False
def evS(ops:Array Oper):List Oper→St→(St→Prop)→Prop
 | [],s,K=>K s
 |o::os,⟨ts,bs,ps⟩,K=>runP P G ⟨ts,bs,ps⟩ (evO T J G ops o) [] fun ws _=>writesK (fun s=>evS ops os s K) ws ts bs ps
def Wr.loc:Wr→Loc
 | .tmp t _=>.tmp t
 | .box d _=>.box d
 | .perm d _=>.perm d
 | .drop d=>.perm d
def Loc.eq:Loc→Loc→Bool
 | .tmp a,.tmp b=>Nat.beq a b
 | .box a,.box b=>Nat.beq a b
 | .perm a,.perm b=>Nat.beq a b
 |_,_=>false
def tX(a b:List Loc):Bool:=a.any fun x=>b.any fun y=>x.eq y
def mf:List Oper→List (List Nat)→Option (List (List Nat))
 | [],acc=>some acc
 |o::os,acc=>
  let es:=(o.after.toList.filter fun e=>Region.binds .any e).map (·.on)
  match es.all fun i=>Nat.blt i acc.length with
  |true=>mf os (acc++[es++es.flatMap fun i=>acc.getD i []])
  |false=>none
def apart(ws:List (List Nat))(rw:List (List Loc×List Loc)):Bool:=
 (List.range rw.length).all fun j=>(List.range j).all fun i=>
  (ws.getD j []).contains i||
  (!tX (rw.getD i ([],[])).2 (rw.getD j ([],[])).1&& !tX (rw.getD i ([],[])).2 (rw.getD j ([],[])).2&& !tX (rw.getD i ([],[])).1 (rw.getD j ([],[])).2)
def ja(ops:Array Oper)(rw:List (List Loc×List Loc)):Bool:=
 match mf ops.toList [] with
 |some ws=>apart ws rw
 |none=>false
def evD(ops:Array Oper):List Oper→St→List (List Loc×List Loc)→(St→Prop)→Prop
 | [],s,acc,K=>ja ops acc=true∧K s
 |o::os,⟨ts,bs,ps⟩,acc,K=>runP P G ⟨ts,bs,ps⟩ (evO T J G ops o) [] fun ws ls=>writesK (fun s=>evD ops os s (acc++[(ls,ws.map Wr.loc)]) K) ws ts bs ps
inductive Ex where
 |normal
 |exit (id:Nat)
 |ret
def evC:Code→St→(Ex→St→Prop)→Prop
 | .skip,s,K=>K .normal s
 | .region _ ops draw,s,K=>match draw with
  |true=>evD P T J G ops ops.toList s [] (K .normal)
  |false=>evS P T J G ops ops.toList s (K .normal)
 | .seq a b,s,K=>evC a s fun
  | .normal,s=>evC b s K
  |e,s=>K e s
 | .cond c a b,s,K=>runP P G s (opd G c) [] fun v _=>match v with
  | .one (.v (.bool t))=>iteP t (evC a s K) (evC b s K)
  |_=>False
 | .block id b,s,K=>evC b s fun
  | .exit i,s=>match Nat.beq i id with
   |true=>K .normal s
   |false=>K (.exit i) s
  |e,s=>K e s
 | .loop b,s,K=>∃(I:Nat→St→Prop),(∃n s0,Wk s s0∧I n s0)∧∀n s,I n s→evC b s fun
  | .normal,s=>∃m s0,m<n∧Wk s s0∧I m s0
  |e,s=>K e s
 | .exit id,s,K=>K (.exit id) s
 | .ret,s,K=>K .ret s
 |_,_,_=>False
def resP:List ResultVar→St→(List Res→Prop)→Prop
 | [],_,K=>K []
 | .tmp t::rs,s,K=>match find t s.tmps with
  |some (.one (.sl e sz xs (some (d,g))))=>match find d s.perms with
   |some ⟨rg,re,rs',true⟩=>match Nat.beq rg g&&Nat.beq re e&&Nat.beq rs' sz with
    |true=>resP rs ⟨s.tmps,s.boxes,dropB d s.perms⟩ fun vs=>K (.row e sz xs::vs)
    |false=>resP rs s fun vs=>K (.val (.one (.sl e sz xs none))::vs)
   |_=>resP rs s fun vs=>K (.val (.one (.sl e sz xs none))::vs)
  |some (.tup [])=>resP rs s fun vs=>K (.val (.tup [])::vs)
  |some v=>match iy v with
   |some a=>forceA a fun a=>resP rs s fun vs=>K (.val a::vs)
   |none=>False
  |none=>False
 | .cell a ty::rs,s,K=>match find a s.tmps with
  |some (.one (.ptr d g off))=>match find d s.boxes with
   |some b=>match Nat.beq b.gen g with
    |true=>match nV T ty b.cells off with
     |some v=>match iy v with
      |some v=>forceA v fun v=>resP rs s fun vs=>K (.val v::vs)
      |none=>False
     |none=>False
    |false=>False
   |none=>False
  |_=>False
def finP:List (Nat×Box)→St→(List (List AC)→Prop)→Prop
 | [],_,K=>K []
 |(d,⟨_,ty0,_⟩)::bs,s,K=>match find d s.boxes with
  |some ⟨_,ty,cells⟩=>match Nat.beq ty ty0,oQ cells with
   |true,some cs=>forceL cs fun cs=>finP bs s fun css=>K (cs::css)
   |_,_=>False
  |none=>False
def cZ:Nat→List Arg→List (Nat×AV)×List (Nat×Box)
 |_,[]=>([],[])
 |i,.val a::Qa=>((i,a)::(cZ (i+1) Qa).1,(cZ (i+1) Qa).2)
 |i,.box ty cs::Qa=>((i,.one (.ptr i 0 0))::(cZ (i+1) Qa).1,(i,⟨0,ty,cs⟩)::(cZ (i+1) Qa).2)
def uJ:Nat→List Arg→(List (Nat×AV)→List (Nat×Box)→Prop)→Prop
 |_,[],k=>k [] []
 |i,.val a::Qa,k=>forceA a fun a=>uJ (i+1) Qa fun ts bs=>k ((i,a)::ts) bs
 |i,.box ty cs::Qa,k=>forceL cs fun cs=>uJ (i+1) Qa fun ts bs=>k ((i,.one (.ptr i 0 0))::ts) ((i,⟨0,ty,cs⟩)::bs)
theorem pA:∀(Qa:List Arg) (i:Nat) (k:List (Nat×AV)→List (Nat×Box)→Prop),uJ i Qa k=k (cZ i Qa).1 (cZ i Qa).2
 | [],_,_=>rfl
 | .val a::Qa,i,k=>by simp[uJ,cZ,forceA_eq,pA Qa]
 | .box ty cs::Qa,i,k=>by simp[uJ,cZ,forceL_eq,pA Qa]
def evF(rv:List ResultVar)(c:Code)(Qa:List Arg)(K:List Res→List (List AC)→Prop):Prop:=
 uJ 0 Qa fun ts bs=>evC P T J G c ⟨ts,bs,[]⟩ fun e s=>match e with
  | .exit _=>False
  |_=>resP T rv s fun rs=>finP bs s fun css=>K rs css
end
theorem aP{a b:Nat}(h:Nat.beq a b=true):a=b:=eX h
theorem eZ{a b:Nat}(h:Nat.beq a b=false):a≠b:=Nat.ne_of_beq_eq_false h
theorem qa(a:Nat):Nat.beq a a=true:=Nat.beq_refl a
theorem aif{a b:Nat}(h:a≠b):Nat.beq a b=false:=by
 cases hb:Nat.beq a b with
 |false=>rfl
 |true=>exact absurd (aP hb) h
theorem mD{α:Type}(d:Nat)(x:α)(l:List (Nat×α)):find d ((d,x)::l)=some x:=by simp[find,qa]
theorem bV{α:Type}{d k:Nat}(h:k≠d)(x:α)(l:List (Nat×α)):find d ((k,x)::l)=find d l:=by simp[find,aif h]
theorem cW{α:Type}(d k:Nat)(x:α)(l:List (Nat×α)):find d ((k,x)::l)=if k=d then some x else find d l:=by
 by_cases h:k=d
 ·subst h;simp[mD]
 ·simp[h,bV h]
theorem cD{α:Type}(d k:Nat)(x:α):∀(l:List (Nat×α)),find d (putB k x l)=if k=d then some x else find d l
 | []=>by simp[putB,cW,find]
 |(j,y)::l=>by
  unfold putB;cases hj:Nat.beq j k with
  |true=>
   have:=aP hj;subst this;simp only[cW];split<;>rfl
  |false=>
   have hne:=eZ hj;simp only[cW,cD d k x l];by_cases h1:j=d
   ·subst h1;simp[Ne.symm hne]
   ·simp[h1]
def Perm.dead(p:Perm):Perm:=⟨p.gen,p.e,p.sz,false⟩
theorem eL(d k:Nat):∀(l:List (Nat×Perm)),find d (dropB k l)=if k=d then(find d l).map Perm.dead else find d l
 | []=>by simp[dropB,find]
 |(j,⟨g,e,sz,b⟩)::l=>by
  unfold dropB;cases hj:Nat.beq j k with
  |true=>
   have:=aP hj;subst this;simp only[cW];split<;>simp[Perm.dead]
  |false=>
   have hne:=eZ hj;simp only[cW,eL d k l];by_cases h1:j=d
   ·subst h1;simp[Ne.symm hne]
   ·simp[h1]
section
variable{X:Ctx}{κ:Con}{H:Fz}{s:St}{a:Act}{w:World}
theorem Rel.congr{s':St}(h:Rel X κ H s a w)(ht:∀t,find t s'.tmps=find t s.tmps)(hb:∀d,find d s'.boxes=find d s.boxes)(hp:∀d,find d s'.perms=find d s.perms):Rel X κ H s' a w where
 size:=h.size
 tmps:=fun t v e=>h.tmps t v (ht t▸e)
 defers:=h.defers
 fz:=h.fz
 hk:=h.hk
 h0:=h.h0
 box:=fun d b e=>h.box d b (hb d▸e)
 nobox:=fun d e=>h.nobox d (hb d▸e)
 args:=fun d b hd e=>h.args d b hd (hb d▸e)
 perm:=fun d b e=>h.perm d b (hp d▸e)
 noperm:=fun d e=>h.noperm d (hp d▸e)
 bb:=fun d d' b b' e e'=>h.bb d d' b b' (hb d▸e) (hb d'▸e')
 rr:=fun d d' p p' k e e'=>h.rr d d' p p' k (hp d▸e) (hp d'▸e')
 br:=fun d d' b p e e'=>h.br d d' b p (hb d▸e) (hp d'▸e')
 pb:=fun d b e=>h.pb d b (hb d▸e)
 pr:=fun d p k e=>h.pr d p k (hp d▸e)
 keep:=h.keep
 grown:=h.grown
 os:=h.os
 tape:=h.tape
 output:=h.output
theorem Rel.put(h:Rel X κ H s a w){t:Nat}(ht:t<X.N){v:AV}{u:Value}(hv:AVr κ H v u):Rel X κ H (s.write (.tmp t v)) (a.put (some t) u) w:=
 {
  h with
  size:=by simp[Act.put,h.size]
  defers:=h.defers
  tmps:=fun i x e=>by
   simp only[St.write,cW]at e;have hsz:t<a.tmps.size:=by rw[h.size];exact ht
   simp only[Act.put,aB,cb];by_cases hi:t=i
   ·subst hi;simp only[if_true,am]at e;subst e;simp[hsz,hv]
   ·simp only[hi,if_false]at e ⊢;have:=h.tmps i x e
    rwa [aB]at this}
theorem Rel.lt(h:Rel X κ H s a w){b i:Nat}{v:Value}(hv:H b i=some v):b<w.heap.size:=dK w ⟨b,i,none⟩ (h.fz b i v hv)
theorem Rel.new(h:Rel X κ H s a w)(i:Nat):H w.heap.size i=none:=by
 cases hv:H w.heap.size i with
 |none=>rfl
 |some v=>exact absurd (h.lt hv) (eB _)
theorem Rel.box_lt(h:Rel X κ H s a w){d:Nat}{b:Box}(hb:find d s.boxes=some b):κ.blk d b.gen<w.heap.size:=by
 obtain⟨_,_,us,hu,_⟩:=h.box d b hb;exact(ay.1 hu).1
theorem Tail.lt{u:Value}{e sz k:Nat}(h:Tail H w u e sz)(hk:u.ownBlock=some k):k<w.heap.size:=by
 rcases h with rfl|⟨b,n,cap,cur,rfl,hb,_⟩
 ·simp[Value.ownBlock]at hk
 ·simp[Value.ownBlock]at hk;subst hk;exact(ay.1 hb).1
theorem Tail.kept{H':Fz}{w':World}{u:Value}{e sz:Nat}(h:Tail H w u e sz)(hw:∀k,u.ownBlock=some k→w'.heap[k]?=w.heap[k]? ∧H' k=H k):Tail H' w' u e sz:=by
 rcases h with rfl|⟨b,n,cap,cur,rfl,hb,hn,hc,hs,hi⟩
 ·exact .inl rfl
 ·obtain⟨h1,h2⟩:=hw b rfl;exact .inr ⟨b,n,cap,cur,rfl,by rw[h1];exact hb,hn,hc,hs,fun i hi'=>by rw[h2];exact hi i hi'⟩
theorem gO.kept{κ':Con}{H':Fz}{w':World}{b ty:Nat}{cells:List AC}(h:gO κ H w b ty cells)(hw:w'.heap[b]?=w.heap[b]?)(hb:H' b=H b)(hκ:Con.le κ κ')(hH:Fz.le H H'):gO κ' H' w' b ty cells:=by
 obtain⟨h1,us,h2,h3⟩:=h;exact⟨fun i=>by rw[hb];exact h1 i,us,by rw[hw];exact h2,h3.mono hκ hH⟩
structure Step(H:Fz)(w:World)(g:Nat)(H':Fz)(w':World):Prop where
 le:Fz.le H H'
 fz:FzOk H' w'
 heap:∀b,b<w.heap.size→b≠g→w'.heap[b]?=w.heap[b]?
 kept:∀b,b≠g→H' b=H b
 grown:w.heap.size≤w'.heap.size
 os:w'.os=w.os
 tape:w'.tape=w.tape
 output:w'.output=w.output
theorem Rel.step{κ':Con}{H':Fz}{w':World}{g:Nat}(h:Rel X κ H s a w)(hs:Step H w g H' w')(hκ:Con.le κ κ')(hnb:∀d,κ'.nb d=κ.nb d)(hnr:∀d,κ'.nr d=κ.nr d)
 (hb:∀d b,find d s.boxes=some b→κ.blk d b.gen≠g) (hr:∀d p,find d s.perms=some p→p.live=true→(κ.row d p.gen).ownBlock≠some g) (hp:¬X.Pr g):Rel X κ' H' s a w' where
 size:=h.size
 tmps:=fun t v e=>(h.tmps t v e).mono hκ hs.le
 defers:=h.defers
 fz:=hs.fz
 hk:=fun b hb'=>(hs.kept b (fun e=>hp (e▸hb'))).trans (h.hk b hb')
 h0:=Fz.le_trans h.h0 hs.le
 box:=fun d b e=>by
  obtain⟨h1,h2⟩:=h.box d b e;have e1:κ'.blk d b.gen=κ.blk d b.gen:=hκ.blk d b.gen (by omega);refine⟨by rw[hnb];exact h1,?_⟩;rw[e1];exact h2.kept (hs.heap _ (h.box_lt e) (hb d b e)) (hs.kept _ (hb d b e)) hκ hs.le
 nobox:=fun d e=>(hnb d).trans (h.nobox d e)
 args:=fun d b hd e=>by rw[hκ.blk d b.gen (by have:=(h.box d b e).1;omega)];exact h.args d b hd e
 perm:=fun d p e=>by
  obtain⟨h1,h2⟩:=h.perm d p e;have e1:κ'.row d p.gen=κ.row d p.gen:=hκ.row d p.gen (by omega);refine⟨by rw[hnr];exact h1,fun hl=>?_⟩;rw[e1];refine(h2 hl).kept fun k hk=>?_;have hne:k≠g:=fun e'=>hr d p e hl (e'▸hk);exact⟨hs.heap k ((h2 hl).lt hk) hne,hs.kept k hne⟩
 noperm:=fun d e=>(hnr d).trans (h.noperm d e)
 bb:=fun d d' b b' e e' hq=>h.bb d d' b b' e e' (by rwa [hκ.blk d b.gen (by have:=(h.box d b e).1;omega),hκ.blk d' b'.gen (by have:=(h.box d' b' e').1;omega)]at hq)
 rr:=fun d d' p p' k e e' l l' hq hq'=>h.rr d d' p p' k e e' l l' (by rwa [hκ.row d p.gen (by have:=(h.perm d p e).1;omega)]at hq) (by rwa [hκ.row d' p'.gen (by have:=(h.perm d' p' e').1;omega)]at hq')
 br:=fun d d' b p e e' l=>by
  rw[hκ.blk d b.gen (by have:=(h.box d b e).1;omega),hκ.row d' p.gen (by have:=(h.perm d' p e').1;omega)];exact h.br d d' b p e e' l
 pb:=fun d b e=>by rw[hκ.blk d b.gen (by have:=(h.box d b e).1;omega)];exact h.pb d b e
 pr:=fun d p k e l hq=>h.pr d p k e l (by rwa [hκ.row d p.gen (by have:=(h.perm d p e).1;omega)]at hq)
 keep:=fun b hb'=>(hs.heap b (bd (X.lt b hb') h.grown) (fun e=>hp (e▸hb'))).trans (h.keep b hb')
 grown:=dR h.grown hs.grown
 os:=hs.os.trans h.os
 tape:=hs.tape.trans h.tape
 output:=hs.output.trans h.output
theorem Rel.drop(h:Rel X κ H s a w)(d0:Nat):Rel X κ H (s.write (.drop d0)) a w:=by
 have back:∀{d p},find d (dropB d0 s.perms)=some p→∃q,find d s.perms=some q∧q.gen=p.gen∧(p.live=true→q=p):=by
  intro d p e;rw[eL]at e;split at e
  ·rw[ar]at e;obtain⟨q,hq,rfl⟩:=e;exact⟨q,hq,rfl,fun hl=>by simp[Perm.dead]at hl⟩
  ·exact⟨p,e,rfl,fun _=>rfl⟩
 refine{ h with defers:=h.defers,size:=h.size,tmps:=h.tmps,box:=h.box,nobox:=h.nobox,args:=h.args,bb:=h.bb,pb:=h.pb,perm:=?_,noperm:=?_,rr:=?_,br:=?_,pr:=?_}
 ·intro d p e;obtain⟨q,hq,hg,hl⟩:=back e;obtain⟨h1,h2⟩:=h.perm d q hq;exact⟨by rw[←hg];exact h1,fun l=>by have:=hl l;subst this;exact h2 l⟩
 ·intro d e;apply h.noperm d;simp only[St.write]at e;rw[eL]at e;split at e
  ·simpa using e
  ·exact e
 ·intro d d' p p' k e e' l l' hq hq';obtain⟨q,h1,h2,h3⟩:=back e;obtain⟨q',h1',h2',h3'⟩:=back e';have:=h3 l;subst this;have:=h3' l';subst this;exact h.rr d d' q q' k h1 h1' l l' hq hq'
 ·intro d d' b p e e' l;obtain⟨q,h1,h2,h3⟩:=back e';have:=h3 l;subst this;exact h.br d d' b q e h1 l
 ·intro d p k e l hq;obtain⟨q,h1,h2,h3⟩:=back e;have:=h3 l;subst this;exact h.pr d q k h1 l hq
end
section
variable{X:Ctx}{κ:Con}{H:Fz}{s:St}{a:Act}{w:World}
def Con.addBox(κ:Con)(d b0:Nat):Con:=⟨fun d' g=>if d'=d∧g=κ.nb d then b0 else κ.blk d' g,κ.row,fun d'=>if d'=d then κ.nb d+1 else κ.nb d',κ.nr⟩
theorem Con.le_addBox(κ:Con)(d b0:Nat):Con.le κ (κ.addBox d b0) where
 nb:=fun d'=>by simp only[Con.addBox];split<;>simp_all
 nr:=fun _=>au _
 blk:=fun d' g hg=>by
  simp only[Con.addBox];rw[if_neg];rintro⟨rfl,rfl⟩;exact eB _ hg
 row:=fun _ _ _=>rfl
def Con.addRow(κ:Con)(d:Nat)(u:Value):Con:=⟨κ.blk,fun d' g=>if d'=d∧g=κ.nr d then u else κ.row d' g,κ.nb,fun d'=>if d'=d then κ.nr d+1 else κ.nr d'⟩
theorem Con.le_addRow(κ:Con)(d:Nat)(u:Value):Con.le κ (κ.addRow d u) where
 nb:=fun _=>au _
 nr:=fun d'=>by simp only[Con.addRow];split<;>simp_all
 blk:=fun _ _ _=>rfl
 row:=fun d' g hg=>by
  simp only[Con.addRow];rw[if_neg];rintro⟨rfl,rfl⟩;exact eB _ hg
theorem Rel.addBox(h:Rel X κ H s a w){d ty b0:Nat}{cells:List AC}(hin:gO κ H w b0 ty cells)(h1:∀d' b,find d' s.boxes=some b→κ.blk d' b.gen≠b0)
 (h2:∀d' p,find d' s.perms=some p→p.live=true→(κ.row d' p.gen).ownBlock≠some b0) (h3:¬X.Pr b0) (hA:X.A≤d∧d<2048):
 Rel X (κ.addBox d b0) H (s.write (.box d ⟨κ.nb d,ty,cells⟩)) a w∧ACr (κ.addBox d b0) H (.ptr d (κ.nb d) 0) (.pointer (some ⟨b0,0,none⟩)):=by
 have hle:=κ.le_addBox d b0;have hnew:(κ.addBox d b0).blk d (κ.nb d)=b0:=by simp[Con.addBox]
 have hnb:(κ.addBox d b0).nb d=κ.nb d+1:=by simp[Con.addBox]
 have hnb':∀d',d'≠d→(κ.addBox d b0).nb d'=κ.nb d':=fun d' hd=>by simp[Con.addBox,hd]
 have old:∀d' b,find d' s.boxes=some b→(κ.addBox d b0).blk d' b.gen=κ.blk d' b.gen:=fun d' b e=>hle.blk d' b.gen (by have:=(h.box d' b e).1;omega);have cases':∀{d' b},find d' (putB d ⟨κ.nb d,ty,cells⟩ s.boxes)=some b→(d'=d∧b=⟨κ.nb d,ty,cells⟩)∨(d'≠d∧find d' s.boxes=some b):=by
  intro d' b e;rw[cD]at e;split at e
  ·rename_i hd;exact .inl ⟨hd.symm,(cg e).symm⟩
  ·rename_i hd;exact .inr ⟨fun e'=>hd e'.symm,e⟩
 refine⟨⟨h.size,fun t v e=>(h.tmps t v e).mono hle (Fz.le_refl H),h.defers,h.fz,h.hk,h.h0,?_,?_,?_,?_,h.noperm,?_,h.rr,?_,?_,h.pr,h.keep,h.grown,h.os,h.tape,h.output⟩,?_⟩
 ·intro d' b e;rcases cases' e with⟨rfl,rfl⟩|⟨hd,e⟩
  ·refine⟨hnb,?_⟩;show gO _ H w ((κ.addBox d' b0).blk d' (κ.nb d')) ty cells;rw[hnew];exact hin.kept rfl rfl hle (Fz.le_refl H)
  ·obtain⟨h1,h2⟩:=h.box d' b e;refine⟨by rw[hnb' d' hd];exact h1,?_⟩;rw[old d' b e];exact h2.kept rfl rfl hle (Fz.le_refl H)
 ·intro d' e;simp only[St.write]at e;rw[cD]at e;split at e
  ·cases e
  ·rename_i hd;rw[hnb' d' (fun e'=>hd e'.symm)];exact h.nobox d' e
 ·intro d' b hd' e;rcases cases' e with⟨rfl,rfl⟩|⟨hd,e⟩
  ·omega
  ·rw[old d' b e];exact h.args d' b hd' e
 ·intro d' p e;obtain⟨k1,k2⟩:=h.perm d' p e;exact⟨k1,k2⟩
 ·intro d1 d2 b1 b2 e1 e2 hq;rcases cases' e1 with⟨rfl,rfl⟩|⟨hd1,f1⟩<;>rcases cases' e2 with⟨rfl,rfl⟩|⟨hd2,f2⟩
  ·rfl
  ·rw[old d2 b2 f2]at hq;exact absurd (hq.symm.trans hnew) (h1 d2 b2 f2)
  ·rw[old d1 b1 f1]at hq;exact absurd (hq.trans hnew) (h1 d1 b1 f1)
  ·rw[old d1 b1 f1,old d2 b2 f2]at hq;exact h.bb d1 d2 b1 b2 f1 f2 hq
 ·intro d1 d2 b p e1 e2 l;rcases cases' e1 with⟨rfl,rfl⟩|⟨hd1,e1⟩
  ·show(κ.row d2 p.gen).ownBlock≠some ((κ.addBox d1 b0).blk d1 (κ.nb d1));rw[hnew];exact h2 d2 p e2 l
  ·rw[old d1 b e1];exact h.br d1 d2 b p e1 e2 l
 ·intro d' b e;rcases cases' e with⟨rfl,rfl⟩|⟨hd,e⟩
  ·show ¬X.Pr ((κ.addBox d' b0).blk d' (κ.nb d'));rw[hnew];exact h3
  ·rw[old d' b e];exact h.pb d' b e
 ·have:=ACr.ptr (κ:=κ.addBox d b0) (H:=H) d (κ.nb d) 0 (by rw[hnb];omega)
  rwa [hnew]at this
theorem Rel.addRow(h:Rel X κ H s a w){d e sz:Nat}{u:Value}(ht:Tail H w u e sz)(h1:∀d' b,find d' s.boxes=some b→u.ownBlock≠some (κ.blk d' b.gen))
 (h2:∀d' p k,find d' s.perms=some p→p.live=true→d'≠d→(κ.row d' p.gen).ownBlock=some k→u.ownBlock≠some k) (h3:∀k,u.ownBlock=some k→¬X.Pr k):
 Rel X (κ.addRow d u) H (s.write (.perm d ⟨κ.nr d,e,sz,true⟩)) a w∧ka (κ.addRow d u) (some (d,κ.nr d)) u:=by
 have hle:=κ.le_addRow d u;have hnew:(κ.addRow d u).row d (κ.nr d)=u:=by simp[Con.addRow]
 have hnr:(κ.addRow d u).nr d=κ.nr d+1:=by simp[Con.addRow]
 have hnr':∀d',d'≠d→(κ.addRow d u).nr d'=κ.nr d':=fun d' hd=>by simp[Con.addRow,hd]
 have old:∀d' p,find d' s.perms=some p→(κ.addRow d u).row d' p.gen=κ.row d' p.gen:=fun d' p e=>hle.row d' p.gen (by have:=(h.perm d' p e).1;omega);have cases':∀{d' p},find d' (putB d ⟨κ.nr d,e,sz,true⟩ s.perms)=some p→(d'=d∧p=⟨κ.nr d,e,sz,true⟩)∨(d'≠d∧find d' s.perms=some p):=by
  intro d' p e;rw[cD]at e;split at e
  ·rename_i hd;exact .inl ⟨hd.symm,(cg e).symm⟩
  ·rename_i hd;exact .inr ⟨fun e'=>hd e'.symm,e⟩
 refine⟨⟨h.size,fun t v e=>(h.tmps t v e).mono hle (Fz.le_refl H),h.defers,h.fz,h.hk,h.h0,?_,h.nobox,h.args,?_,?_,h.bb,?_,?_,h.pb,?_,h.keep,h.grown,h.os,h.tape,h.output⟩,?_⟩
 ·intro d' b e;obtain⟨k1,k2⟩:=h.box d' b e;exact⟨k1,k2.kept rfl rfl hle (Fz.le_refl H)⟩
 ·intro d' p e;rcases cases' e with⟨rfl,rfl⟩|⟨hd,e⟩
  ·refine⟨hnr,fun _=>?_⟩;show Tail H w ((κ.addRow d' u).row d' (κ.nr d')) _ _;rw[hnew];exact ht
  ·obtain⟨k1,k2⟩:=h.perm d' p e;refine⟨by rw[hnr' d' hd];exact k1,?_⟩;rw[old d' p e];exact k2
 ·intro d' e;simp only[St.write]at e;rw[cD]at e;split at e
  ·cases e
  ·rename_i hd;rw[hnr' d' (fun e'=>hd e'.symm)];exact h.noperm d' e
 ·intro d1 d2 p1 p2 k e1 e2 l1 l2 hq1 hq2;rcases cases' e1 with⟨rfl,rfl⟩|⟨hd1,f1⟩<;>rcases cases' e2 with⟨rfl,rfl⟩|⟨hd2,f2⟩
  ·rfl
  ·rw[old d2 p2 f2]at hq2;have:u.ownBlock=some k:=by have:=hq1;rwa [show(κ.addRow d1 u).row d1 (Perm.gen ⟨κ.nr d1,e,sz,true⟩)=u from hnew]at this
   exact absurd this (h2 d2 p2 k f2 l2 hd2 hq2)
  ·rw[old d1 p1 f1]at hq1;have:u.ownBlock=some k:=by have:=hq2;rwa [show(κ.addRow d2 u).row d2 (Perm.gen ⟨κ.nr d2,e,sz,true⟩)=u from hnew]at this
   exact absurd this (h2 d1 p1 k f1 l1 hd1 hq1)
  ·rw[old d1 p1 f1]at hq1;rw[old d2 p2 f2]at hq2;exact h.rr d1 d2 p1 p2 k f1 f2 l1 l2 hq1 hq2
 ·intro d1 d2 b p e1 e2 l;rcases cases' e2 with⟨rfl,rfl⟩|⟨hd2,e2⟩
  ·show((κ.addRow d2 u).row d2 (κ.nr d2)).ownBlock≠_;rw[hnew];exact h1 d1 b e1
  ·rw[old d2 p e2];exact h.br d1 d2 b p e1 e2 l
 ·intro d' p k e l hq;rcases cases' e with⟨rfl,rfl⟩|⟨hd,e⟩
  ·have:u.ownBlock=some k:=by have:=hq;rwa [show(κ.addRow d' u).row d' (Perm.gen ⟨κ.nr d',_,_,true⟩)=u from hnew]at this
   exact h3 k this
  ·rw[old d' p e]at hq;exact h.pr d' p k e l hq
 ·rintro d' g hdg;cases hdg;exact⟨by rw[hnr];omega,hnew⟩
theorem Rel.boxes{H':Fz}{w':World}{bs:List (Nat×Box)}(h:Rel X κ H s a w)(hbs:∀d b',find d bs=some b'→∃b,find d s.boxes=some b∧b.gen=b'.gen∧gO κ H' w' (κ.blk d b.gen) b'.ty b'.cells)
 (hno:∀d,find d bs=none→find d s.boxes=none) (hle:Fz.le H H') (hfz:FzOk H' w')
 (hk:∀k,k<w.heap.size→(∀d b,find d s.boxes=some b→κ.blk d b.gen≠k)→w'.heap[k]?=w.heap[k]? ∧H' k=H k)
 (hg:w.heap.size≤w'.heap.size) (hos:w'.os=w.os) (htape:w'.tape=w.tape) (hout:w'.output=w.output):Rel X κ H' ⟨s.tmps,bs,s.perms⟩ a w' where
 size:=h.size
 tmps:=fun t v e=>(h.tmps t v e).mono (Con.le_refl κ) hle
 defers:=h.defers
 fz:=hfz
 hk:=fun b hb=>(hk b (bd (X.lt b hb) h.grown) (fun d bx e hq=>h.pb d bx e (hq▸hb))).2.trans (h.hk b hb)
 h0:=Fz.le_trans h.h0 hle
 box:=fun d b' e=>by
  obtain⟨b,h1,h2,h3⟩:=hbs d b' e;have:=(h.box d b h1).1;rw[←h2];exact⟨this,h3⟩
 nobox:=fun d e=>h.nobox d (hno d e)
 args:=fun d b hd e=>by
  obtain⟨b',h1,h2,_⟩:=hbs d b e;rw[←h2];exact h.args d b' hd h1
 perm:=fun d p e=>by
  obtain⟨h1,h2⟩:=h.perm d p e;exact⟨h1,fun l=>(h2 l).kept fun k hq=>hk k ((h2 l).lt hq) fun d' b e' hb=>h.br d' d b p e' e l (by rw[hb];exact hq)⟩
 noperm:=h.noperm
 bb:=fun d d' b b' e e' hq=>by
  obtain⟨c,h1,h2,_⟩:=hbs d b e;obtain⟨c',h1',h2',_⟩:=hbs d' b' e';exact h.bb d d' c c' h1 h1' (by rw[h2,h2'];exact hq)
 rr:=h.rr
 br:=fun d d' b p e e' l=>by
  obtain⟨c,h1,h2,_⟩:=hbs d b e;rw[←h2];exact h.br d d' c p h1 e' l
 pb:=fun d b e=>by
  obtain⟨c,h1,h2,_⟩:=hbs d b e;rw[←h2];exact h.pb d c h1
 pr:=h.pr
 keep:=fun b hb=>(hk b (bd (X.lt b hb) h.grown) (fun d bx e hq=>h.pb d bx e (hq▸hb))).1.trans (h.keep b hb)
 grown:=dR h.grown hg
 os:=hos.trans h.os
 tape:=htape.trans h.tape
 output:=hout.trans h.output
theorem cell_of_heap{w w':World}{b i:Nat}(h:w'.heap[b]?=w.heap[b]?):w'.cell? ⟨b,i,none⟩=w.cell? ⟨b,i,none⟩:=by simp[World.cell?,h]
theorem fq(h:FzOk H w)(o:Obj)(w1:World)(hw:w1.heap=w.heap∧w1.os=w.os∧w1.tape=w.tape∧w1.output=w.output):Step H w w.heap.size H (w1.alloc o) where
 le:=Fz.le_refl H
 fz:=fun b i v hv=>by
  have hlt:b<w.heap.size:=dK w ⟨b,i,none⟩ (h b i v hv);rw[cell_of_heap (w:=w)]
  ·exact h b i v hv
  ·rw[show(w1.alloc o).heap[b]?=w1.heap[b]? from heap_alloc_old w1 o b (by rw[hw.1];exact hlt),hw.1]
 heap:=fun b hb _=>by rw[show(w1.alloc o).heap[b]?=w1.heap[b]? from heap_alloc_old w1 o b (by rw[hw.1];exact hb),hw.1]
 kept:=fun _ _=>rfl
 grown:=by simp[hw.1]
 os:=hw.2.1
 tape:=hw.2.2.1
 output:=hw.2.2.2
theorem Rel.newBox(h:Rel X κ H s a w){cells:List AC}{us:List Value}(hc:Cs κ H cells us)(d ty:Nat)(hA:X.A≤d∧d<2048):
 Rel X (κ.addBox d w.heap.size) H (s.write (.box d ⟨κ.nb d,ty,cells⟩)) a (w.alloc (.cells us.toArray ty))∧ACr (κ.addBox d w.heap.size) H (.ptr d (κ.nb d) 0) (.pointer (some ⟨w.heap.size,0,none⟩)):=by
 have hs:=fq h.fz (.cells us.toArray ty) w ⟨rfl,rfl,rfl,rfl⟩;have hne:∀d' b,find d' s.boxes=some b→κ.blk d' b.gen≠w.heap.size:=fun d' b e=>fW (h.box_lt e)
 have hne2:∀d' p,find d' s.perms=some p→p.live=true→(κ.row d' p.gen).ownBlock≠some w.heap.size:=fun d' p e l hq=>eB _ (((h.perm d' p e).2 l).lt hq);have hpr:¬X.Pr w.heap.size:=fun hp=>by have:=X.lt _ hp;have:=h.grown;omega
 have h1:Rel X κ H s a (w.alloc (.cells us.toArray ty)):=h.step hs (Con.le_refl κ) (fun _=>rfl) (fun _=>rfl) hne hne2 hpr;exact h1.addBox ⟨h.new,us,dA w _,hc⟩ hne hne2 hpr hA
end
def agR(P:Program)(d:TypeDesc):TK→Prop
 | .other=>True
 | .int k=>d= .int k
 | .str=>d= .string
 | .slice e sz bytes=>d= .slice e∧∃ti z,P.info? e=some ti∧ti.size=sz∧ti.bytes=bytes∧ti.zero=some z∧z.cells.size=sz∧0<sz
 | .map k e=>d= .map k e
 | .array len e sz _=>d= .array len e∧∃ti,P.info? e=some ti∧ti.size=sz
 | .struct fs=>∃fields:Array Field,d= .struct fields∧fields.size=fs.length∧∀(k o n:Nat) (g:Bool),fs[k]?=some (o,n,g)→∃(f:Field) (ti:TypeInfo) (d':TypeDesc),fields[k]?=some f∧f.offset=o∧P.info? f.type=some ti∧ti.size=n∧P.underlying f.type=some d'∧d'.isRow=g
structure TOk(P:Program)(t:Nat)(i:TI):Prop where
 info:∃ti z,P.info? t=some ti∧ti.size=i.size∧ti.zero=some z∧∀κ H,Cs κ H i.zero z.cells.toList
 und:∃d,P.underlying t=some d∧agR P d i.kind∧d.isRow=i.agg
structure Env(P:Program)(T:Tab)(J:Kn):Prop where
 tab:∀t i,T t=some i→TOk P t i
 sgn:∀t,J.sg t=true→∀x y a b s u w,(do eqGuard .eql t x y (.agg #[.int .i64 a,.string s]) (.agg #[.int .i64 b,.string u]);binOp .eql t (.agg #[.int .i64 a,.string s]) (.agg #[.int .i64 b,.string u]):Sem Value).run P w= .ok (.bool (decide (a=b)&&decide (s=u))) w
 fbs:∀f,J.fb f=true→∃fn c,P.funcs[f]?=some fn∧fn.body=some c∧(fn.name== "runtime.NumGoroutine")=false
 any:P.follows .mixedOrders=true
section
variable{P:Program}{T:Tab}{J:Kn}{G:Nat→Option (List AC)}{X:Ctx}{κ:Con}{H:Fz}{s:St}{a:Act}{w:World}
def Runs(P:Program)(G:Nat→Option (List AC)){α:Type}(s:St):Rd α→α→Prop
 | .ret b,x=>b=x
 | .tmp t k,x=>∃v,find t s.tmps=some v∧Runs P G s (k v) x
 | .box d k,x=>Runs P G s (k (find d s.boxes)) x
 | .perm d k,x=>Runs P G s (k (find d s.perms)) x
 | .need p k,x=>p∧Runs P G s k x
 | .elem xs i k,x=>∃cs,(0≤i∧xs[i.toNat]?=some cs)∧Runs P G s (k cs) x
 | .call f Qa k,x=>∃rs css,CT P G f Qa rs css∧Runs P G s (k rs css) x
 | .ite b k1 k2,x=>(b=true∧Runs P G s k1 x)∨(b=false∧Runs P G s k2 x)
 | .key ks y k,x=>∃r,bL y ks=r∧Runs P G s (k r) x
 | .mval vs i k,x=>∃r,vs[i]?=some r∧Runs P G s (k r) x
 | .elemR vs i k,x=>∃r,vs[i]?=some r∧Runs P G s (k r) x
 | .elemK vs i k,x=>∃r,vs[i]?=some r∧Runs P G s (k r) x
 | .callW f Qa k,x=>∃rs cs,CTW P G f Qa rs cs∧Runs P G s (k rs cs) x
 | .none,_=>False
theorem az{α β:Type}{f:α→Rd β}{y:β}:∀{x:Rd α},Runs P G s (x.bind f) y→∃z,Runs P G s x z∧Runs P G s (f z) y
 | .ret b,h=>⟨b,rfl,h⟩
 | .tmp t k,⟨v,hv,h⟩=>let⟨z,h1,h2⟩:=az (x:=k v) h;⟨z,⟨v,hv,h1⟩,h2⟩
 | .box d k,h=>az (x:=k (find d s.boxes)) h
 | .perm d k,h=>az (x:=k (find d s.perms)) h
 | .need p k,⟨hp,h⟩=>let⟨z,h1,h2⟩:=az (x:=k) h;⟨z,⟨hp,h1⟩,h2⟩
 | .elem xs i k,⟨cs,hcs,h⟩=>let⟨z,h1,h2⟩:=az (x:=k cs) h;⟨z,⟨cs,hcs,h1⟩,h2⟩
 | .call f Qa k,⟨rs,css,hc,h⟩=>let⟨z,h1,h2⟩:=az (x:=k rs css) h;⟨z,⟨rs,css,hc,h1⟩,h2⟩
 | .ite b k1 k2,h=>by
  rcases h with⟨hb,h⟩|⟨hb,h⟩
  ·obtain⟨z,h1,h2⟩:=az (x:=k1) h;exact⟨z,.inl ⟨hb,h1⟩,h2⟩
  ·obtain⟨z,h1,h2⟩:=az (x:=k2) h;exact⟨z,.inr ⟨hb,h1⟩,h2⟩
 | .key ks y k,⟨r,hr,h⟩=>let⟨z,h1,h2⟩:=az (x:=k r) h;⟨z,⟨r,hr,h1⟩,h2⟩
 | .mval vs i k,⟨r,hr,h⟩=>let⟨z,h1,h2⟩:=az (x:=k r) h;⟨z,⟨r,hr,h1⟩,h2⟩
 | .elemR vs i k,⟨r,hr,h⟩=>let⟨z,h1,h2⟩:=az (x:=k r) h;⟨z,⟨r,hr,h1⟩,h2⟩
 | .elemK vs i k,⟨r,hr,h⟩=>let⟨z,h1,h2⟩:=az (x:=k r) h;⟨z,⟨r,hr,h1⟩,h2⟩
 | .callW f Qa k,⟨rs,cs,hc,h⟩=>let⟨z,h1,h2⟩:=az (x:=k rs cs) h;⟨z,⟨rs,cs,hc,h1⟩,h2⟩
 | .none,h=>h.elim
def ln(s s':St)(ls:List Loc):Prop:=
 (∀t,Loc.tmp t∈ls→find t s'.tmps=find t s.tmps)∧(∀d,Loc.box d∈ls→find d s'.boxes=find d s.boxes)∧∀d,Loc.perm d∈ls→find d s'.perms=find d s.perms
theorem cK{α:Type}{K:α→List Loc→Prop}:∀{r:Rd α} {ls:List Loc},runP P G s r ls K→∃x ls',K x ls'∧(∀l∈ls,l∈ls')∧∀s',ln s s' ls'→Runs P G s' r x
 | .ret b,ls,h=>⟨b,ls,h,fun _ hl=>hl,fun _ _=>rfl⟩
 | .tmp t k,ls,h=>by
  simp only[runP]at h;split at h
  ·rename_i v hv;obtain⟨x,ls',h1,h2,h3⟩:=cK (r:=k v) h;exact⟨x,ls',h1,fun l hl=>h2 l (aD _ hl),fun s' ha=>⟨v,(ha.1 t (h2 _ (aI ..))).trans hv,h3 s' ha⟩⟩
  ·exact h.elim
 | .box d k,ls,h=>by
  obtain⟨x,ls',h1,h2,h3⟩:=cK (r:=k (find d s.boxes)) h;refine⟨x,ls',h1,fun l hl=>h2 l (aD _ hl),fun s' ha=>?_⟩;simp only[Runs,ha.2.1 d (h2 _ (aI ..))];exact h3 s' ha
 | .perm d k,ls,h=>by
  obtain⟨x,ls',h1,h2,h3⟩:=cK (r:=k (find d s.perms)) h;refine⟨x,ls',h1,fun l hl=>h2 l (aD _ hl),fun s' ha=>?_⟩;simp only[Runs,ha.2.2 d (h2 _ (aI ..))];exact h3 s' ha
 | .need p k,ls,⟨hp,h⟩=>by
  obtain⟨x,ls',h1,h2,h3⟩:=cK (r:=k) h;exact⟨x,ls',h1,h2,fun s' ha=>⟨hp,h3 s' ha⟩⟩
 | .elem xs i k,ls,⟨cs,hcs,h⟩=>by
  obtain⟨x,ls',h1,h2,h3⟩:=cK (r:=k cs) h;exact⟨x,ls',h1,h2,fun s' ha=>⟨cs,hcs,h3 s' ha⟩⟩
 | .call f Qa k,ls,⟨rs,css,hc,h⟩=>by
  obtain⟨x,ls',h1,h2,h3⟩:=cK (r:=k rs css) h;exact⟨x,ls',h1,h2,fun s' ha=>⟨rs,css,hc,h3 s' ha⟩⟩
 | .ite b k1 k2,ls,h=>by
  cases b with
  |true=>
   obtain⟨x,ls',h1,h2,h3⟩:=cK (r:=k1) h;exact⟨x,ls',h1,h2,fun s' ha=>.inl ⟨rfl,h3 s' ha⟩⟩
  |false=>
   obtain⟨x,ls',h1,h2,h3⟩:=cK (r:=k2) h;exact⟨x,ls',h1,h2,fun s' ha=>.inr ⟨rfl,h3 s' ha⟩⟩
 | .key ks y k,ls,⟨r,hr,h⟩=>by
  obtain⟨x,ls',h1,h2,h3⟩:=cK (r:=k r) h;exact⟨x,ls',h1,h2,fun s' ha=>⟨r,hr,h3 s' ha⟩⟩
 | .mval vs i k,ls,⟨r,hr,h⟩=>by
  obtain⟨x,ls',h1,h2,h3⟩:=cK (r:=k r) h;exact⟨x,ls',h1,h2,fun s' ha=>⟨r,hr,h3 s' ha⟩⟩
 | .elemR vs i k,ls,⟨r,hr,h⟩=>by
  obtain⟨x,ls',h1,h2,h3⟩:=cK (r:=k r) h;exact⟨x,ls',h1,h2,fun s' ha=>⟨r,hr,h3 s' ha⟩⟩
 | .elemK vs i k,ls,⟨r,hr,h⟩=>by
  obtain⟨x,ls',h1,h2,h3⟩:=cK (r:=k r) h;exact⟨x,ls',h1,h2,fun s' ha=>⟨r,hr,h3 s' ha⟩⟩
 | .callW f Qa k,ls,⟨rs,cs,hc,h⟩=>by
  obtain⟨x,ls',h1,h2,h3⟩:=cK (r:=k rs cs) h;exact⟨x,ls',h1,h2,fun s' ha=>⟨rs,cs,hc,h3 s' ha⟩⟩
 | .none,_,h=>h.elim
def eM(P:Program)(X:Ctx)(κ:Con)(H:Fz)(s:St)(a:Act)(o:Oper)(v:AV)(ws:List Wr)(w:World):Prop:=
 ∀(K:Act→World→Prop) (Q:Exit→Act→World→Prop),
  (∀κ' H' w' u,Con.le κ κ'→Rel X κ' H' (s.writes ws) a w'→AVr κ' H' v u→K (a.put o.dst u) w')→o.wp P a w K Q
theorem eM.value{o:Oper}{v:AV}{u:Value}(h:Rel X κ H s a w)(hr:(execOp a.eval o).run P w= .ok (.value u) w)(hv:AVr κ H v u):eM P X κ H s a o v [] w:=by
 intro K Q hn;unfold Oper.wp;rw[hr,bN];exact hn κ H w u (Con.le_refl κ) h hv
theorem bP{κ:Con}{H:Fz}{x:Value}(h:x.oneCell'=true):AVr κ H (.one (.v x)) x:=.one _ _ (.v x h)
theorem afr(κ:Con)(H:Fz)(x:Value):AVr κ H (acV x) x:=by
 cases x with
 |agg cs=>exact .undef _
 |tuple vs=>
  simp only[acV];split
  ·rename_i hl;have:vs= #[]:=by cases vs;simp_all
   subst this;exact(show AVr κ H (.tup []) (.tuple ([]:List Value).toArray) from .tup [] [] rfl (by simp))
  ·exact .undef _
 |_=>exact bP rfl
theorem jr(hG:bK G H)(h:Rel X κ H s a w){x:Operand}{v:AV}(hx:Runs P G s (opd G x) v):AVr κ H v (a.eval x):=by
 cases x with
 |tmp t=>
  obtain⟨v',hv,rfl⟩:=hx;exact h.tmps t v' hv
 |const v'=>cases hx;exact afr κ H v'
 |global g=>
  simp only[opd]at hx;cases hg:G g with
  |none=>simp[hg,Runs]at hx
  |some cs=>
   simp only[hg,Runs]at hx;subst hx;exact .one _ _ ((hG g cs hg).mono (Con.no_le κ) (Fz.le_refl H))
 |func f=>
  cases hx;exact .one _ _ (show ACr κ H _ (.func (.func f) #[] ([]:List Value).toArray) from .clo f [] [] rfl (by simp))
end
section
variable{P:Program}{T:Tab}{J:Kn}{G:Nat→Option (List AC)}{X:Ctx}{κ:Con}{H:Fz}{s:St}{a:Act}{w:World}
theorem cN{x u:Value}(h:AVr κ H (.one (.v x)) u):u=x∧x.oneCell'=true:=by
 cases h with|one _ _ h=>cases h with|v _ h=>exact⟨rfl,h⟩
theorem inv_nil{e sz:Nat}{u:Value}(h:AVr κ H (.one (.nil e sz)) u):u= .slice none 0 0:=by
 cases h with|one _ _ h=>cases h with|zero=>rfl
theorem gD{d g off:Nat}{u:Value}(h:AVr κ H (.one (.ptr d g off)) u):u= .pointer (some ⟨κ.blk d g,off,none⟩)∧g<κ.nb d:=by
 cases h with|one _ _ h=>cases h with|ptr _ _ _ h=>exact⟨rfl,h⟩
theorem mV{t:Nat}{d:TypeDesc}(h:P.underlying t=some d)(w:World):(isAgg t).run P w= .ok d.isRow w:=by
 unfold isAgg;rw[aY,aA h w];cases d<;>rfl
theorem run_sizeOf{t:Nat}{i:TypeInfo}(h:P.info? t=some i)(w:World):(sizeOf t).run P w= .ok i.size w:=by simp[sizeOf,typeInfo,h]
theorem my(E:Env P T J){t:Nat}{cs:List AC}{us:List Value}{off b base:Nat}{v:AV}(hp:nV T t cs off=some v)(hc:Cs κ H cs us)
 (hcell:∀(j:Nat) (u:Value),us[j]?=some u→w.cell? ⟨b,base+j,none⟩=some u):∃u,(Instr.loadAt t (.pointer (some ⟨b,base+off,none⟩))).run P w= .ok u w∧AVr κ H v u:=by
 unfold nV at hp;cases hT:T t with
 |none=>simp[hT]at hp
 |some i=>
  obtain⟨⟨ti,z,hi,hsz,-⟩,d,hd,-,hrow⟩:=E.tab t i hT;simp only[hT]at hp;cases hag:i.agg with
  |true=>
   simp only[hag]at hp;split at hp
   ·rename_i hle;cases hp;have hle':off+i.size≤cs.length:=bB hle;refine⟨.agg ((us.drop off).take i.size).toArray,?_,.agg _ _ ((hc.drop off).take i.size)⟩
    refine run_loadAt_mid w b (base+off) t _ d (fun j v hv=>?_) hd (by rw[hrow];exact hag) (by simp only[hi,bW,hsz];simp[hc.1];omega);rw[bM]at hv;split at hv
    ·rw[cI]at hv;rw[ge];exact hcell _ _ hv
    ·cases hv
   ·cases hp
  |false=>
   simp only[hag,ar]at hp;obtain⟨c,hcc,rfl⟩:=hp;have hlt:off<us.length:=by rw[hc.1];exact(aq.1 hcc).1
   have hu:=ad hlt;refine⟨us[off],?_,.one _ _ (hc.2 off c _ hcc hu)⟩;simp only[Instr.loadAt,Instr.sureAddr,loadVar,aY,bu,aF,mV hd w,hrow,hag,cJ,if_false,run_load,hcell off _ hu]
theorem nA(h:Rel X κ H s a w){d:Nat}{b:Box}(hb:find d s.boxes=some b):∃us:List Value,w.heap[κ.blk d b.gen]?=some (.cells us.toArray b.ty (0,0))∧Cs κ H b.cells us∧∀(j:Nat) (u:Value),us[j]?=some u→w.cell? ⟨κ.blk d b.gen,0+j,none⟩=some u:=by
 obtain⟨_,_,us,hu,hc⟩:=h.box d b hb;exact⟨us,hu,hc,fun j u hj=>by rw[bA,ii w _ j us.toArray b.ty (0,0) hu];simpa using hj⟩
theorem wc{d g:Nat}{b:Box}(hr:Runs P G s (boxR d g) b):find d s.boxes=some b∧b.gen=g:=by
 unfold boxR at hr;simp only[Runs]at hr;split at hr
 ·rename_i g' ty cs hf;split at hr
  ·rename_i hg;simp only[Runs]at hr;subst hr;exact⟨hf,aP hg⟩
  ·exact hr.elim
 ·exact hr.elim
theorem pG{α:Type}{o:Option α}{x:α}(hr:Runs P G s (Rd.of o) x):o=some x:=by
 cases o with
 |none=>exact hr.elim
 |some y=>simp only[Rd.of,Runs]at hr;rw[hr]
theorem aaj(hG:bK G H)(h:Rel X κ H s a w){o:Oper}{x:Operand}(ho:o.op= .move x∨o.op= .assign x){v:AV}{ws:List Wr}
 (hr:Runs P G s ((opd G x).bind fun v=>.ret (v,[])) (v,ws)):eM P X κ H s a o v ws w:=by
 obtain⟨y,hy,hr⟩:=az hr;simp only[Runs,ai]at hr;obtain⟨rfl,rfl⟩:=hr;exact eM.value h (by rcases ho with ho|ho<;>simp[execOp,ho]) (jr hG h hy)
theorem afm(hG:bK G H)(h:Rel X κ H s a w){o:Oper}{c x y:Operand}(ho:o.op= .pick c x y){v:AV}{ws:List Wr}(hr:Runs P G s (evOp T J G o) (v,ws)):eM P X κ H s a o v ws w:=by
 simp only[evOp,ho]at hr;obtain⟨t,ht,hr⟩:=az hr;have hv:=jr hG h ht;split at hr
 ·rename_i b;have hb:a.eval c= .bool b:=(cN hv).1;rcases hr with⟨rfl,hr⟩|⟨rfl,hr⟩
  ·obtain⟨y,hy,hr⟩:=az hr;simp only[Runs,ai]at hr;obtain⟨rfl,rfl⟩:=hr;exact eM.value h (by simp[execOp,ho,hb,asBool]) (jr hG h hy)
  ·obtain⟨y,hy,hr⟩:=az hr;simp only[Runs,ai]at hr;obtain⟨rfl,rfl⟩:=hr;exact eM.value h (by simp[execOp,ho,hb,asBool]) (jr hG h hy)
 ·exact hr.elim
theorem afn(E:Env P T J)(hG:bK G H)(h:Rel X κ H s a w){o:Oper}{t:Nat}{x:Operand}(ho:o.op= .load t x){v:AV}{ws:List Wr}(hr:Runs P G s (evOp T J G o) (v,ws)):eM P X κ H s a o v ws w:=by
 simp only[evOp,ho]at hr;obtain⟨p,hp,hr⟩:=az hr;have hv:=jr hG h hp;split at hr
 ·rename_i d g off;obtain⟨b,hb,hr⟩:=az hr;obtain⟨y,hy,hr⟩:=az hr;simp only[Runs,ai]at hr;obtain⟨rfl,rfl⟩:=hr;obtain⟨hf,hg⟩:=wc hb;obtain⟨us,hu,hc,hcell⟩:=nA h hf;obtain⟨u,hrun,hav⟩:=my E (base:=0) (off:=off) (pG hy) hc hcell
  have he:a.eval x= .pointer (some ⟨κ.blk d b.gen,0+off,none⟩):=by rw[hg,bA];exact(gD hv).1
  exact eM.value h (by simp only[execOp,ho,he,aY,hrun,aF,bu]) hav
 ·rename_i cs off;obtain⟨y,hy,hr⟩:=az hr;simp only[Runs,ai]at hr;obtain⟨rfl,rfl⟩:=hr;cases hv with|one _ _ hv=>
  generalize he:a.eval x=q at hv;cases hv with
  |ref _ _ b off' us hl hu hrr=>
   obtain⟨u,hrun,hav⟩:=my (κ:=κ) (H:=H) (w:=w) E (base:=off') (b:=b) (pG hy) (Cs.mono (Con.no_le κ) (Fz.le_refl H) ⟨hl,hrr⟩) (fun j u hj=>h.fz _ _ _ (hu j u hj));exact eM.value h (by simp only[execOp,ho,he,aY,hrun,aF,bu]) hav
 ·exact hr.elim
theorem xh(hG:bK G H)(h:Rel X κ H s a w){o:Oper}{x:Operand}(ho:o.op= .nilCheck x){v:AV}{ws:List Wr}(hr:Runs P G s (evOp T J G o) (v,ws)):eM P X κ H s a o v ws w:=by
 simp only[evOp,ho]at hr;obtain⟨p,hp,hr⟩:=az hr;have hv:=jr hG h hp;split at hr<;>first|exact hr.elim|skip
 all_goals
  simp only[Runs,ai]at hr;obtain⟨rfl,rfl⟩:=hr;refine eM.value h ?_ hv;cases hv with|one _ _ hv=>
  generalize he:a.eval x=q at hv;cases hv;simp[execOp,ho,he]
theorem vu(E:Env P T J)(hG:bK G H)(h:Rel X κ H s a w){o:Oper}{t f:Nat}{x:Operand}(ho:o.op= .fieldAddr t x f){v:AV}{ws:List Wr}(hr:Runs P G s (evOp T J G o) (v,ws)):eM P X κ H s a o v ws w:=by
 simp only[evOp,ho]at hr;obtain⟨p,hp,hr⟩:=az hr;have hv:=jr hG h hp;cases hT:T t with
 |none=>simp[hT,Runs]at hr
 |some i=>
  obtain⟨-,d,hd,hund,-⟩:=E.tab t i hT;simp only[hT]at hr;split at hr
  ·rename_i fs hk;rw[hk]at hund;obtain⟨fields,rfl,-,hfs⟩:=hund;split at hr
   ·rename_i off n gg hff;obtain⟨F,ti,d',hF,hoff,hti,htsz,-⟩:=hfs f off (n+1) gg hff;have hpl:∀(A:Addr),(fieldPlace A F).run P w= .ok (A.add off) w:=fun A=>by
     simp[fieldPlace,run_sizeOf hti w,htsz,hoff]
    split at hr
    ·rename_i d g o';simp only[Runs,ai]at hr;obtain⟨rfl,rfl⟩:=hr;cases hv with|one _ _ hv=>
     generalize he:a.eval x=q at hv;cases hv with
     |ptr _ _ _ hg=>
      refine eM.value h ?_ (.one _ _ (.ptr d g (o'+off) hg));simp only[execOp,ho,he,Instr.fieldAt,Instr.sureAddr,aY,aA hd w,aF,hF,bu,hpl,dI]
    ·rename_i cs o';simp only[Runs,ai]at hr;obtain⟨rfl,rfl⟩:=hr;cases hv with|one _ _ hv=>
     generalize he:a.eval x=q at hv;cases hv with
     |ref _ _ b off' us hl hu hrr=>
      have hres:=ACr.ref (κ:=κ) (H:=H) cs (o'+off) b off' us hl hu hrr;rw[←ge]at hres;refine eM.value h ?_ (.one _ _ hres);simp only[execOp,ho,he,Instr.fieldAt,Instr.sureAddr,aY,aA hd w,aF,hF,bu,hpl,dI]
    ·exact hr.elim
   ·exact hr.elim
  ·exact hr.elim
theorem yO(hG:bK G H)(h:Rel X κ H s a w){o:Oper}{i:Nat}{x:Operand}(ho:o.op= .extract x i){v:AV}{ws:List Wr}(hr:Runs P G s (evOp T J G o) (v,ws)):eM P X κ H s a o v ws w:=by
 simp only[evOp,ho]at hr;obtain⟨p,hp,hr⟩:=az hr;have hv:=jr hG h hp;split at hr
 ·rename_i vs;obtain⟨y,hy,hr⟩:=az hr;simp only[Runs,ai]at hr;obtain⟨rfl,rfl⟩:=hr;have hy:=pG hy;generalize he:a.eval x=q at hv;cases hv with
  |tup _ us hl hrr=>
   have hlt:i<us.length:=by rw[hl];exact(aq.1 hy).1
   have hu:=ad hlt;refine eM.value h ?_ (hrr i _ _ hy hu);simp[execOp,ho,he,Instr.extract,hlt]
 ·exact hr.elim
theorem afl(hG:bK G H)(h:Rel X κ H s a w){o:Oper}{t:Nat}{op:UnOp}{x:Operand}(ho:o.op= .unOp op t x){v:AV}{ws:List Wr}(hr:Runs P G s (evOp T J G o) (v,ws)):eM P X κ H s a o v ws w:=by
 simp only[evOp,ho]at hr;obtain⟨p,hp,hr⟩:=az hr;have hv:=jr hG h hp;split at hr
 ·simp only[Runs,ai]at hr;obtain⟨rfl,rfl⟩:=hr;cases hv with|one _ _ hv=>
  generalize he:a.eval x=q at hv;cases hv;exact eM.value h (by simp[execOp,ho,he,Op.unary]) (bP rfl)
 ·exact hr.elim
end
section
variable{P:Program}{T:Tab}{J:Kn}{G:Nat→Option (List AC)}{X:Ctx}{κ:Con}{H:Fz}{s:St}{a:Act}{w:World}
theorem opd2(hG:bK G H)(h:Rel X κ H s a w){α:Type}{x y:Operand}{f:AV→AV→Rd α}{z:α}(hr:Runs P G s ((opd G x).bind fun v=>(opd G y).bind fun u=>f v u) z):
 ∃p q,AVr κ H p (a.eval x)∧AVr κ H q (a.eval y)∧Runs P G s (f p q) z:=by
 obtain⟨p,hp,hr⟩:=az hr;obtain⟨q,hq,hr⟩:=az hr;exact⟨p,q,jr hG h hp,jr hG h hq,hr⟩
theorem opd1(hG:bK G H)(h:Rel X κ H s a w){α:Type}{x:Operand}{f:AV→Rd α}{z:α}(hr:Runs P G s ((opd G x).bind f) z):
 ∃p,AVr κ H p (a.eval x)∧Runs P G s (f p) z:=by
 obtain⟨p,hp,hr⟩:=az hr;exact⟨p,jr hG h hp,hr⟩
theorem nW(hG:bK G H)(h:Rel X κ H s a w):∀{xs:List Operand} {vs:List AV},Runs P G s (opds G xs) vs→vs.length=xs.length∧∀(j:Nat) (x:Operand) (v:AV),xs[j]?=some x→vs[j]?=some v→AVr κ H v (a.eval x)
 | [],vs,hr=>by simp only[opds,Runs]at hr;subst hr;simp
 |x::xs,vs,hr=>by
  simp only[opds]at hr;obtain⟨v,hv,hr⟩:=az hr;obtain⟨vs',hvs,hr⟩:=az hr;simp only[Runs]at hr;subst hr;obtain⟨h1,h2⟩:=nW hG h hvs;refine⟨by simp[h1],fun j y u hy hu=>?_⟩;cases j with
  |zero=>simp at hy hu;subst hy;subst hu;exact jr hG h hv
  |succ j=>simp at hy hu;exact h2 j y u hy hu
theorem tu(x y:ByteArray):x.toList=y.toList↔x=y:=by
 constructor
 ·intro h;have h1:x.data.toList=y.data.toList:=by rw[←jy,←jy];exact h
  cases x;cases y;simp_all
 ·rintro rfl;rfl
theorem ry(a b:Int):(a==b)=decide (a=b):=rfl
theorem lh(a b:ByteArray):(a.toList==b.toList)=decide (a=b):=by
 rw[dH];simp[tu]
theorem mj{k k':IntKind}(h:oA k k'=true):k=k':=by cases k<;>cases k'<;>first|rfl|cases h
theorem ahI{op:BinOp}{k:IntKind}{m n:Int}{v:AV}{ws:List Wr}(hr:Runs P G s (intE op k m n) (v,ws)):
 ∃x,v= .one (.v x)∧ws=[]∧x.oneCell'=true∧∀t w,(binOp op t (.int k m) (.int k n)).run P w= .ok x w:=by
 cases op<;>simp only[intE,Runs,ai]at hr
 case quo=>obtain⟨hn,rfl,rfl⟩:=hr;exact⟨_,rfl,rfl,rfl,fun t w=>by simp[binOp,Op.intDiv,hn]⟩
 case rem=>obtain⟨hn,rfl,rfl⟩:=hr;exact⟨_,rfl,rfl,rfl,fun t w=>by simp[binOp,Op.intDiv,hn]⟩
 all_goals
  obtain⟨rfl,rfl⟩:=hr;refine⟨_,rfl,rfl,rfl,fun t w=>?_⟩
 case add=>simp[binOp,Op.intArith]
 case sub=>simp[binOp,Op.intArith]
 case mul=>simp[binOp,Op.intArith]
 case and=>simp[binOp,Op.intBits]
 all_goals simp[binOp,Op.intCmp,bne,ry]
theorem ahf{op:BinOp}{m n:ByteArray}{v:AV}{ws:List Wr}(hr:Runs P G s (strE op m n) (v,ws)):
 ∃x,v= .one (.v x)∧ws=[]∧x.oneCell'=true∧∀t w,(binOp op t (.string m) (.string n)).run P w= .ok x w:=by
 cases op<;>simp only[strE,Runs,ai]at hr
 case add=>
  obtain⟨hn,rfl,rfl⟩:=hr;refine⟨_,rfl,rfl,rfl,fun t w=>?_⟩;have h1:¬(((m.size+n.size:Nat):Int) > IntKind.i64.max):=by
   have:IntKind.i64.max=9223372036854775807:=by decide
   rw[this];omega
  have h2:Op.stringOp .add m n=pure (.string (m++n)):=by
   unfold Op.stringOp;simp only[h1,if_false]
  show(Op.stringOp .add m n).run P w=_;rw[h2];rfl
 all_goals
  obtain⟨rfl,rfl⟩:=hr;refine⟨_,rfl,rfl,rfl,fun t w=>?_⟩
  first|(simp[binOp,Op.stringOp,lh];done)|(simp[binOp,Op.stringOp,jy];done)
theorem dk{xs:List (List AC)}{sz:Nat}(hs:∀x∈xs,x.length=sz):xs.flatten.length=xs.length*sz:=by
 induction xs with
 |nil=>simp
 |cons x xs ih=>
  simp only[aO,aH,aT,hs x (aI ..),ih fun y hy=>hs y (aD _ hy),dQ];omega
theorem lY{xs:List (List AC)}{sz:Nat}(hs:∀x∈xs,x.length=sz):∀{i:Nat} {cs:List AC},xs[i]?=some cs→∀j,j<sz→xs.flatten[i*sz+j]?=cs[j]? :=by
 induction xs with
 |nil=>intro i cs h;simp at h
 |cons x xs ih=>
  intro i cs h j hj;have hx:=hs x (aI ..);cases i with
  |zero=>
   simp at h;subst h;simp only[aO,Nat.zero_mul,bA];rw[bH (by omega)]
  |succ i=>
   simp only[cd]at h;simp only[aO];rw[cj (by rw[hx,dQ];omega)];rw[←ih (fun y hy=>hs y (aD _ hy)) h j hj,hx,dQ]
   congr 1
   omega
theorem acN(E:Env P T J)(hG:bK G H)(h:Rel X κ H s a w){o:Oper}{op:BinOp}{t t':Nat}{x y:Operand}(ho:o.op= .binOp op t x y t'){v:AV}{ws:List Wr}(hr:Runs P G s (evOp T J G o) (v,ws)):eM P X κ H s a o v ws w:=by
 simp only[evOp,ho]at hr;obtain⟨p,q,h1,h2,hr'⟩:=opd2 hG h hr;clear hr;have hr:=hr';clear hr';have key:∀{x' y' u:Value},a.eval x=x'→a.eval y=y'→(eqGuard op t x y x' y').run P w= .ok () w→(binOp op t x' y').run P w= .ok u w→(execOp a.eval o).run P w= .ok (.value u) w:=
  fun{x' y' u} e1 e2 hgd hu=>by simp only[execOp,ho,e1,e2,aY,hgd,aF,hu,bu]
 unfold binE at hr;split at hr
 ·split at hr
  ·rename_i hk;have hk:=mj hk;subst hk;obtain⟨x',rfl,rfl,h1c,hrun⟩:=ahI hr;refine eM.value h (key (cN h1).1 (cN h2).1 ?_ (hrun t w)) (bP h1c);unfold eqGuard;split<;>simp
  ·exact hr.elim
 ·obtain⟨x',rfl,rfl,h1c,hrun⟩:=ahf hr;refine eM.value h (key (cN h1).1 (cN h2).1 ?_ (hrun t w)) (bP h1c);unfold eqGuard;split<;>simp
 ·rename_i m1 s1 m2 s2;split at hr
  ·rename_i hsg;simp only[Runs,ai]at hr;obtain⟨rfl,rfl⟩:=hr;have agg2:∀{m:Int} {sm:ByteArray} {u:Value},AVr κ H (.agg [.v (.int .i64 m),.v (.string sm)]) u→u= .agg #[.int .i64 m,.string sm]:=by
    intro m sm u hu;cases hu with
    |agg _ us hc=>
     obtain⟨u1,us1,rfl,k1,hc⟩:=hc.inv_cons;obtain⟨u2,us2,rfl,k2,hc⟩:=hc.inv_cons;obtain rfl:=hc.inv_nil;cases k1;cases k2;rfl
   refine eM.value h ?_ (bP rfl);have:=E.sgn t hsg x y m1 m2 s1 s2 w;simp only[execOp,ho,agg2 h1,agg2 h2];simp only[aY]at this ⊢;rw[this];rfl
  ·exact hr.elim
 ·exact hr.elim
theorem acI(E:Env P T J)(hG:bK G H)(h:Rel X κ H s a w){o:Oper}{t:Nat}{x y:Operand}(ho:o.op= .index t x y){v:AV}{ws:List Wr}(hr:Runs P G s (evOp T J G o) (v,ws)):eM P X κ H s a o v ws w:=by
 simp only[evOp,ho]at hr;obtain⟨p,q,h1,h2,hr'⟩:=opd2 hG h hr;clear hr;have hr:=hr';clear hr';cases hT:T t with
 |none=>simp[hT,Runs]at hr
 |some i=>
  obtain⟨-,d,hd,hund,-⟩:=E.tab t i hT;simp only[hT]at hr;split at hr
  ·rename_i sb k n hk;rw[hk]at hund;have hd':P.underlying t=some .string:=by rw[hd];exact congrArg some hund
   simp only[Runs,ai]at hr;obtain⟨⟨hn0,hn1⟩,rfl,rfl⟩:=hr;refine eM.value h ?_ (bP rfl);have hlt:n.toNat<sb.size:=by omega
   have hget:sb[n.toNat]?=some (kO sb n.toNat):=by
    have:n.toNat<sb.data.toList.length:=by simpa using hlt
    rw[getElem?_pos sb n.toNat hlt];simp only[kO,aC,ad this,bG];rfl
   simp[execOp,ho,(cN h1).1,(cN h2).1,Instr.index,asIntOf,aA hd',hn0,hget]
  ·exact hr.elim
theorem vt(E:Env P T J)(hG:bK G H)(h:Rel X κ H s a w){o:Oper}{t:Nat}{x y:Operand}(ho:o.op= .indexAddr t x y){v:AV}{ws:List Wr}(hr:Runs P G s (evOp T J G o) (v,ws)):eM P X κ H s a o v ws w:=by
 simp only[evOp,ho]at hr;obtain⟨p,q,h1,h2,hr'⟩:=opd2 hG h hr;clear hr;have hr:=hr';clear hr';split at hr
 ·rename_i kk n ti hT;have e2:=(cN h2).1;obtain⟨-,d,hd,hund,-⟩:=E.tab t ti hT;split at hr
  ·rename_i e m by' hk
   rw[hk]at hund;obtain⟨rfl,ie,z,hie,hsz,-⟩:=hund;split at hr
   ·rename_i e' sz xs tok;split at hr
    ·rename_i hb;have hb:=aP hb;obtain⟨cs,⟨hn0,hcs⟩,hr⟩:=hr;simp only[Runs,ai]at hr;obtain⟨rfl,rfl⟩:=hr;cases h1 with|one _ _ h1=>
     generalize he:a.eval x=u at h1;have hlt:=(aq.1 hcs).1;cases h1 with
     |nil=>simp at hcs
     |sl _ _ _ _ b off cap us hc hs hl hu hrr ht=>
      have hm:=lY (sz:=sz) hs hcs;have hcl:cs.length=sz:=hs cs (bi hcs);have hres:=ACr.ref (κ:=κ) (H:=H) cs 0 b (off+n.toNat*sz) ((us.drop (n.toNat*sz)).take sz) (by
       have hfl:=dk hs;have:n.toNat*sz+sz≤xs.length*sz:=by
        rw[←dQ];exact dn _ hlt
       simp[hl,hfl,hcl];omega)
       (fun j u hj=>by
        rw[bM]at hj;split at hj
        ·rw[cI]at hj;rw[ge];exact hu _ _ hj
        ·cases hj)
       (fun j c u hj hj'=>by
        rw[bM]at hj';split at hj'
        ·rename_i hjs;rw[cI]at hj';exact hrr _ _ _ ((hm j hjs).trans hj) hj'
        ·cases hj')
      refine eM.value h ?_ (.one _ _ hres);have hlt':n<(xs.length:Int):=by omega
      simp[execOp,ho,he,e2,Instr.indexAt,asIntOf,aA hd,hn0,hlt',run_sizeOf hie w,hsz,hb,dI]
    ·exact hr.elim
   ·exact hr.elim
  ·rename_i len e m gg hk;rw[hk]at hund;obtain⟨rfl,ie,hie,hsz⟩:=hund;split at hr
   ·rename_i d g off;simp only[Runs,ai]at hr;obtain⟨⟨hn0,hn1⟩,rfl,rfl⟩:=hr;obtain⟨e1,hg⟩:=gD h1;refine eM.value h ?_ (.one _ _ (.ptr d g (off+n.toNat*m) hg));simp[execOp,ho,e1,e2,Instr.indexAt,Instr.sureAddr,asIntOf,aA hd,hn0,hn1,run_sizeOf hie w,hsz,dI]
   ·rename_i cs off;simp only[Runs,ai]at hr;obtain⟨⟨hn0,hn1⟩,rfl,rfl⟩:=hr;cases h1 with|one _ _ h1=>
    generalize he:a.eval x=u at h1;cases h1 with
    |ref _ _ b off' us hl hu hrr=>
     have hres:=ACr.ref (κ:=κ) (H:=H) cs (off+n.toNat*m) b off' us hl hu hrr;rw[←ge]at hres;refine eM.value h ?_ (.one _ _ hres);simp[execOp,ho,he,e2,Instr.indexAt,Instr.sureAddr,asIntOf,aA hd,hn0,hn1,run_sizeOf hie w,hsz,dI]
   ·exact hr.elim
  ·exact hr.elim
 ·exact hr.elim
theorem acJ(E:Env P T J)(hG:bK G H)(h:Rel X κ H s a w){o:Oper}{t f:Nat}{x:Operand}(ho:o.op= .field t x f){v:AV}{ws:List Wr}(hr:Runs P G s (evOp T J G o) (v,ws)):eM P X κ H s a o v ws w:=by
 simp only[evOp,ho]at hr;obtain⟨p,h1,hr'⟩:=opd1 hG h hr;clear hr;have hr:=hr';clear hr';split at hr
 ·rename_i i cs hT;obtain⟨-,d,hd,hund,-⟩:=E.tab t i hT;split at hr
  ·rename_i fs hk;rw[hk]at hund;obtain⟨fields,rfl,-,hfs⟩:=hund;split at hr
   ·rename_i off n gg hff;obtain⟨F,ti,d',hF,hoff,hti,htsz,hd',hrow⟩:=hfs f off n gg hff;generalize he:a.eval x=u at h1;cases h1 with
    |agg _ us hc=>
     split at hr
     ·rename_i hg hle;simp only[Runs,ai]at hr;obtain⟨rfl,rfl⟩:=hr;have hle':off+n≤cs.length:=bB hle;refine eM.value h ?_ (.agg _ _ ((hc.drop off).take n));simp[execOp,ho,he,Instr.field,aA hd,hF,asAgg,part,mV hd' w,hrow,run_sizeOf hti w,htsz,hoff]
     ·rename_i hg hle;obtain⟨c,hcc,hr⟩:=az hr;simp only[Runs,ai]at hr;obtain⟨rfl,rfl⟩:=hr;have hcc:=pG hcc;have hlt:off<us.length:=by rw[hc.1];exact(aq.1 hcc).1
      have hu:=ad hlt;refine eM.value h ?_ (.one _ _ (hc.2 off c _ hcc hu));simp[execOp,ho,he,Instr.field,aA hd,hF,asAgg,part,mV hd' w,hrow,hoff,hlt]
     ·exact hr.elim
   ·exact hr.elim
  ·exact hr.elim
 ·exact hr.elim
theorem nZ{e sz:Nat}{xs:List (List AC)}{tok:Option (Nat×Nat)}{u:Value}(h:AVr κ H (.one (.sl e sz xs tok)) u):∃A cap,u= .slice A xs.length cap∧xs.length≤cap∧(∀x∈xs,x.length=sz)∧
 (xs=[]∨∃b off us,A=some ⟨b,off,none⟩∧us.length=xs.flatten.length∧(∀(k:Nat) (u:Value),us[k]?=some u→H b (off+k)=some u)∧Cs Con.no H xs.flatten us)∧ka κ tok u:=by
 cases h with|one _ _ h=>
 cases h with
 |nil _ _ _ A cap ht=>exact⟨A,cap,rfl,aR _,by simp,.inl rfl,ht⟩
 |sl _ _ _ _ b off cap us hc hs hl hu hr ht=>exact⟨_,cap,rfl,hc,hs,.inr ⟨b,off,us,rfl,hl,hu,hl,hr⟩,ht⟩
theorem xR{v:AV}{u:Value}{xs:List (List AC)}(hv:AVr κ H v u)(hc:qp v=some xs):∃A cap,u= .slice A xs.length cap:=by
 unfold qp at hc;split at hc
 ·cases hc;exact⟨none,0,(cN hv).1⟩
 ·cases hc;exact⟨none,0,inv_nil hv⟩
 ·cases hc;obtain⟨A,cap,e,-⟩:=nZ hv;exact⟨A,cap,e⟩
 ·cases hc
theorem ahF(E:Env P T J){t:Nat}{v:AV}{u:Value}(hv:AVr κ H v u){z:AV}{ws:List Wr}(hr:Runs P G s (lenE T t v) (z,ws)):
 ∃n:Nat,z= .one (.v (.int .i64 n))∧ws=[]∧((∃b,u= .string b∧n=b.size∧P.underlying t=some .string)∨∃A cap e,u= .slice A n cap∧P.underlying t=some (.slice e)):=by
 unfold lenE at hr;split at hr
 ·rename_i i hT;obtain⟨-,d,hd,hund,-⟩:=E.tab t i hT;split at hr
  ·rename_i hk;rw[hk]at hund;split at hr
   ·rename_i b;simp only[Runs,ai]at hr;obtain⟨rfl,rfl⟩:=hr;exact⟨b.size,rfl,rfl,.inl ⟨b,(cN hv).1,rfl,by rw[hd];exact congrArg some hund⟩⟩
   ·exact hr.elim
  ·rename_i e _ _ hk;rw[hk]at hund;split at hr
   ·rename_i xs hx;simp only[Runs,ai]at hr;obtain⟨rfl,rfl⟩:=hr;obtain⟨A,cap,e1⟩:=xR hv hx;exact⟨xs.length,rfl,rfl,.inr ⟨A,cap,e,e1,by rw[hd];exact congrArg some hund.1⟩⟩
   ·exact hr.elim
  ·exact hr.elim
 ·exact hr.elim
theorem mI{v:AV}{u:Value}{sz:Nat}{xs:List (List AC)}(hv:AVr κ H v u)(hc:lg sz v=some xs):∃A cap,u= .slice A xs.length cap∧xs.length≤cap∧(∀x∈xs,x.length=sz)∧
 (xs=[]∨∃b off us,A=some ⟨b,off,none⟩∧us.length=xs.flatten.length∧(∀(k:Nat) (u:Value),us[k]?=some u→H b (off+k)=some u)∧Cs Con.no H xs.flatten us):=by
 unfold lg at hc;split at hc
 ·cases hc;exact⟨none,0,(cN hv).1,aR _,by simp,.inl rfl⟩
 ·cases hc;exact⟨none,0,inv_nil hv,aR _,by simp,.inl rfl⟩
 ·rename_i e sz' xs' tok;split at hc
  ·rename_i hb;have:=aP hb;subst this;cases hc;obtain⟨A,cap,e,h1,h2,h3,-⟩:=nZ hv;exact⟨A,cap,e,h1,h2,h3⟩
  ·cases hc
 ·cases hc
theorem lK{sz:Nat}:∀{xs:List (List AC)},(∀x∈xs,x.length=sz)→∀n,(xs.drop n).flatten=xs.flatten.drop (n*sz)
 |_,_,0=>by simp
 | [],_,n+1=>by simp
 |x::xs,hs,n+1=>by
  have hx:=hs x (aI ..);simp only[List.drop_succ_cons,aO];rw[lK (fun y hy=>hs y (aD _ hy)) n,dQ,List.drop_append,hx];rw[ap (by omega:x.length≤n*sz+sz),dG]
  congr 1;omega
theorem lJ{sz:Nat}:∀{xs:List (List AC)},(∀x∈xs,x.length=sz)→∀n,(xs.take n).flatten=xs.flatten.take (n*sz)
 |_,_,0=>by simp
 | [],_,n+1=>by simp
 |x::xs,hs,n+1=>by
  have hx:=hs x (aI ..);simp only[gI,aO];rw[lJ (fun y hy=>hs y (aD _ hy)) n,dQ,List.take_append,hx];rw[cU (by omega:x.length≤n*sz+sz)]
  congr 2;omega
theorem yB{e sz l n cap':Nat}{A:Option Addr}{xs:List (List AC)}(hs:∀x∈xs,x.length=sz)(hl:l+n≤xs.length)(hc:n≤cap')
 (hA:xs=[]∨∃b off us,A=some ⟨b,off,none⟩∧us.length=xs.flatten.length∧(∀(k:Nat) (u:Value),us[k]?=some u→H b (off+k)=some u)∧Cs Con.no H xs.flatten us)
 (B:Option Addr) (hB:∀b off,A=some ⟨b,off,none⟩→n≠0→B=some ⟨b,off+l*sz,none⟩):
 AVr κ H (.one (.sl e sz ((xs.drop l).take n) none)) (.slice B n cap'):=by
 have hlen:((xs.drop l).take n).length=n:=by simp;omega
 rcases Nat.eq_zero_or_pos n with rfl|hn
 ·simp only[ke];exact .one _ _ (.nil e sz none B cap' (ka.none _ _))
 ·rcases hA with rfl|⟨b,off,us,rfl,h1,h2,h3⟩
  ·simp at hl;omega
  ·rw[hB b off rfl (by omega)];have hfl:=dk hs;have hs':∀x∈(xs.drop l).take n,x.length=sz:=fun x hx=>hs x (fo (List.mem_of_mem_take hx));have hfx:((xs.drop l).take n).flatten=(xs.flatten.drop (l*sz)).take (n*sz):=by
    rw[lJ (fun x hx=>hs x (fo hx)),lK hs]
   have hcs:=(h3.drop (l*sz)).take (n*sz);have:=ACr.sl (κ:=κ) (H:=H) e sz ((xs.drop l).take n) none b (off+l*sz) cap' ((us.drop (l*sz)).take (n*sz)) (by rw[hlen];exact hc) hs' (by rw[hfx];exact hcs.1)
    (fun k u hk=>by
     rw[bM]at hk;split at hk
     ·rw[cI]at hk;rw[ge];exact h2 _ _ hk
     ·cases hk)
    (by rw[hfx];exact hcs.2) (ka.none _ _)
   rw[hlen]at this;exact .one _ _ this
end
end
end Go.Proofs.YtgkenhpfiempbaaGreatDoor.V
