/-
  ParseTypes: for every input the law returns true, and each argument reads as it did. No condition.
-/
import Derived.Test.YtoapgongbackaaaDoorEF
import Derived.Test.YtoapgongbackaaaDoorEC
import Derived.Test.YtoapgongbackaaaDoorEX
set_option linter.unusedVariables false
set_option linter.unusedSimpArgs false
/-! W4: ParseTypes. -/
namespace Go.Proofs.YtoapgongbackaaaDoor.V
open Go Go.Proofs
open Go.Proofs.YtoapgongbackaaaDoor.Lx
set_option maxRecDepth 100000

def pre9 : List UInt8 := [100, 97, 116, 97, 32, 68, 32, 97, 32, 98, 32, 61, 32, 67, 32, 73, 110, 116, 32]
def post9 : List UInt8 := [32, 124, 32, 70, 59]
def texts9 : List (List UInt8) := [[97], [40, 97, 32, 45, 62, 32, 98, 32, 45, 62, 32, 73, 110, 116, 41], [40, 68, 32, 97, 32, 40, 98, 44, 32, 73, 110, 116, 41, 41], [40, 40, 97, 41, 41], [40, 97, 44, 32, 98, 44, 32, 97, 41], [99], [40, 69, 41], [40, 40, 97, 32, 45, 62, 32, 98, 41, 32, 45, 62, 32, 97, 41], [40, 69, 32, 97, 32, 45, 62, 32, 98, 41]]
def tA : Ty := .mk 1 0 .empty []
def tB : Ty := .mk 1 1 .empty []
def tI : Ty := .mk 2 0 ⟨#[73, 110, 116]⟩ []
def arr (a b : Ty) : Ty := .mk 2 0 ⟨#[45, 62]⟩ [a, b]
def wants9 : List Ty := [tA, arr tA (arr tB tI), .mk 2 0 ⟨#[68]⟩ [tA, .mk 2 0 ⟨#[44]⟩ [tB, tI]], tA, .mk 2 0 ⟨#[44]⟩ [tA, tB, tA], .mk 1 (-1) ⟨#[99]⟩ [], .mk 2 0 ⟨#[69]⟩ [], arr (arr tA tB) tA, arr (.mk 2 0 ⟨#[69]⟩ [tA]) tB]
def prog9 (t : Ty) (z : Int) : ProgD := ⟨[⟨⟨#[68]⟩, 5, [⟨#[97]⟩, ⟨#[98]⟩], [⟨⟨#[67]⟩, 13, [tI, t]⟩, ⟨⟨#[70]⟩, z, []⟩]⟩], []⟩
mutual
theorem sameT_refl : ∀ t : Ty, sameT t t = true
  | .mk k n s l => by simp [sameT, sameTs_refl l]
theorem sameTs_refl : ∀ l : List Ty, sameTs l l = true
  | [] => by simp [sameTs]
  | t :: l => by simp [sameTs, sameT_refl t, sameTs_refl l]
end
structure Q9 (i : Nat) (l : List UInt8) (t : Ty) (z : Int) : Prop where
  text : texts9[i]? = some l
  want : wants9[i]? = some t
  run : parseK 100 (pre9 ++ l ++ post9) = some (prog9 t z, 0, 0)
  len : (pre9 ++ l ++ post9).length ≤ 65536
  fine : fineT t
  cat : (⟨#[100, 97, 116, 97, 32, 68, 32, 97, 32, 98, 32, 61, 32, 67, 32, 73, 110, 116, 32]⟩ ++ ofL l) ++ ⟨#[32, 124, 32, 70, 59]⟩ = ofL (pre9 ++ l ++ post9)
theorem q9 : ∀ i : Nat, i < 9 → ∃ l t z, Q9 i l t z
  | 0, _ => ⟨_, _, 23, rfl, rfl, by kernel_rfl, by decide, by simp [fineT, fineTs, tA], by kernel_rfl⟩
  | 1, _ => ⟨_, _, 37, rfl, rfl, by kernel_rfl, by decide, by simp [fineT, fineTs, tA, tB, tI, arr], by kernel_rfl⟩
  | 2, _ => ⟨_, _, 36, rfl, rfl, by kernel_rfl, by decide, by simp [fineT, fineTs, tA, tB, tI, arr], by kernel_rfl⟩
  | 3, _ => ⟨_, _, 27, rfl, rfl, by kernel_rfl, by decide, by simp [fineT, fineTs, tA, tB, tI, arr], by kernel_rfl⟩
  | 4, _ => ⟨_, _, 31, rfl, rfl, by kernel_rfl, by decide, by simp [fineT, fineTs, tA, tB, tI, arr], by kernel_rfl⟩
  | 5, _ => ⟨_, _, 23, rfl, rfl, by kernel_rfl, by decide, by simp [fineT, fineTs, tA, tB, tI, arr], by kernel_rfl⟩
  | 6, _ => ⟨_, _, 25, rfl, rfl, by kernel_rfl, by decide, by simp [fineT, fineTs, tA, tB, tI, arr], by kernel_rfl⟩
  | 7, _ => ⟨_, _, 37, rfl, rfl, by kernel_rfl, by decide, by simp [fineT, fineTs, tA, tB, tI, arr], by kernel_rfl⟩
  | 8, _ => ⟨_, _, 32, rfl, rfl, by kernel_rfl, by decide, by simp [fineT, fineTs, tA, tB, tI, arr], by kernel_rfl⟩
  | i + 9, h => absurd h (by omega)

set_option maxHeartbeats 4000000 in
theorem types_ct (n : Int) (h0 : 0 ≤ n) (h1 : n < 256) : Ct 9 [.val (.one (.v (.int .u8 n)))] [.val (.one (.v (.bool true)))] [] := by
  refine ct Tryd.func9 (by kernel_rfl) ?_
  apply evF_of (ts := [(0, .one (.v (.int .u8 n)))]) (bs := []) rfl
  apply seqC
  apply regL
  repeat ((with_reducible apply stepS); (· conv => whnf))
  apply endS
  apply seqC
  apply regL
  repeat ((with_reducible apply stepS); (· conv => whnf))
  apply endS
  apply seqC
  apply regL
  repeat ((with_reducible apply stepS); (· conv => whnf))
  apply endS
  apply seqC
  apply regL
  repeat ((with_reducible apply stepS); (· conv => whnf))
  apply endS
  apply seqC
  apply regL
  repeat ((with_reducible apply stepS); (· conv => whnf))
  apply endS
  apply seqC
  apply regL
  repeat ((with_reducible apply stepS); (· conv => whnf))
  apply stepS
  · conv => whnf
    refine ⟨by decide, ?_⟩
    conv => whnf
  repeat ((with_reducible apply stepS); (· conv => whnf))
  apply endS
  apply seqC
  apply regL
  generalize hK : Int.tmod (IntKind.i64.wrap n) _ = K
  have hK2 : K = n.tmod 9 := by rw [← hK, i64_id (by omega) (by omega)]; rfl
  have hK3 : n.tmod 9 = n % 9 := Int.tmod_eq_emod_of_nonneg h0
  obtain ⟨i, rfl⟩ : ∃ i : Nat, K = (i : Int) := ⟨K.toNat, by omega⟩
  have hi : i < 9 := by omega
  clear hK hK2 hK3
  obtain ⟨l, t, z, hq⟩ := q9 i hi
  obtain ⟨tk, tn, ts, tks⟩ := t
  have hp := parse_ct2 (by decide) hq.len hq.run
  rw [← hq.cat] at hp
  have hs := sameT_ct _ (.mk tk tn ts tks) (.mk tk tn ts tks) (Nat.lt_succ_self _) hq.fine
  rw [sameT_refl] at hs
  have g1 : ∀ j : Int, j = (i : Int) → 0 ≤ j ∧ (texts9.map fun l => [AC.v (.string (ofL l))])[j.toNat]? = some [.v (.string (ofL l))] := fun j hj => by
    subst hj
    exact ⟨by omega, by simp [hq.text]⟩
  have g2 : ∀ j : Int, j = (i : Int) → 0 ≤ j ∧ (tysC wants9)[j.toNat]? = some (tyC (.mk tk tn ts tks)) := fun j hj => by
    subst hj
    exact get_tys hq.want
  repeat ((with_reducible apply stepS); (· conv => whnf))
  apply stepS
  · conv => whnf
    refine ⟨_, g1 _ rfl, ?_⟩
    conv => whnf
  repeat ((with_reducible apply stepS); (· conv => whnf))
  have hl0 : l.length ≤ 65536 := by
    have := hq.len
    simp [pre9, post9] at this
    omega
  have e1 : (ofL l).size = l.length := ofL_size l
  have e2 : (⟨#[100, 97, 116, 97, 32, 68, 32, 97, 32, 98, 32, 61, 32, 67, 32, 73, 110, 116, 32]⟩ ++ ofL l).size = 19 + l.length := by rw [ByteArray.size_append, e1]; rfl
  apply stepS
  · conv => whnf
    refine ⟨?_, ?_⟩
    · rw [e1]
      show 19 + l.length ≤ 4611686018427387904
      omega
    conv => whnf
  apply stepS
  · conv => whnf
    refine ⟨?_, ?_⟩
    · rw [e2]
      show 19 + l.length + 5 ≤ 4611686018427387904
      omega
    conv => whnf
  apply stepS
  · conv => whnf
    refine ⟨_, _, hp, ?_⟩
    conv => whnf
  repeat ((with_reducible apply stepS); (· conv => whnf))
  apply endS
  apply seqC
  apply seqC
  apply regL
  apply stepS
  · conv => whnf
  apply stepS
  · conv => whnf
    refine ⟨_, _, num_ct _, ?_⟩
    conv => whnf
  repeat (first | ((with_reducible apply stepS); (· conv => whnf)) | ((with_reducible apply stepS); (· (conv => whnf); refine ⟨_, ⟨by decide, rfl⟩, ?_⟩; (conv => whnf))))
  apply endS
  apply condF
  · conv => whnf
    rfl
  apply skipC
  apply seqC
  apply regDL
  repeat (first | ((with_reducible apply stepD); (· (conv => whnf); refine ⟨⟨rfl, rfl⟩, ?_⟩; (conv => whnf))) | ((with_reducible apply stepD); (· (conv => whnf); refine ⟨_, ⟨by decide, rfl⟩, ?_⟩; (conv => whnf); refine ⟨⟨rfl, rfl⟩, ?_⟩; (conv => whnf))))
  apply stepD
  · conv => whnf
    refine ⟨_, g2 _ rfl, ?_⟩
    conv => whnf
    refine ⟨⟨rfl, rfl⟩, ?_⟩
    conv => whnf
  repeat ((with_reducible apply stepD); (· (conv => whnf); refine ⟨⟨rfl, rfl⟩, ?_⟩; (conv => whnf)))
  apply stepD
  · conv => whnf
    refine ⟨_, _, hs, ?_⟩
    conv => whnf
    refine ⟨⟨rfl, rfl⟩, ?_⟩
    conv => whnf
  repeat (first | ((with_reducible apply stepD); (· (conv => whnf); refine ⟨⟨rfl, rfl⟩, ?_⟩; (conv => whnf))) | ((with_reducible apply stepD); (· (conv => whnf); refine ⟨_, ⟨by decide, rfl⟩, ?_⟩; (conv => whnf); refine ⟨⟨rfl, rfl⟩, ?_⟩; (conv => whnf))))
  apply stepD
  · conv => whnf
    refine ⟨_, _, awake_ct, ?_⟩
    conv => whnf
    refine ⟨⟨rfl, rfl⟩, ?_⟩
    conv => whnf
  repeat ((with_reducible apply stepD); (· (conv => whnf); refine ⟨⟨rfl, rfl⟩, ?_⟩; (conv => whnf)))
  apply endD
  · exact apart_of (by kernel_rfl)
  conv => whnf
  exact ⟨rfl, rfl⟩
end Go.Proofs.YtoapgongbackaaaDoor.V

/-! XT: ParseTypes: for every input the law returns true; each argument reads behind the call as it read before. -/
namespace Go.Proofs.YtoapgongbackaaaDoor.V
open Go Go.Proofs
open Go.ChangeShapes Go.WideShapes Go.ChangeAt Go.RowKit
set_option maxRecDepth 100000

theorem par9 : Tryd.f9.params = #[5] := by rfl
theorem contractT (H : Type) (enc : TypeId × Value → H) (W : World) (base : Nat) (args : Array Value) (ds gs : List (DataW H)) (before : List MemPlace)
    (hval : ∀ (j : Nat) t v, Tryd.f9.params[j]? = some t → args[j]? = some v → Value.okWide Tryd.prog W .any base t v)
    (hW : DataW.Whole enc Tryd.prog Tryd.f9.params.toList Rows.parseTypesSpec.vars false W args.toList ds gs before) (hL : laidMetH Tryd.prog Rows.parseTypesRow.laid W) :
    Calls Tryd.prog 9 args W fun e W' => ∃ v, e = .returned v ∧ Rows.parseTypesSpec.post enc Tryd.prog Tryd.f9 false true false false W args v W' := by
  have hW' := hW
  obtain ⟨p, q, hA0, hV, rfl, hfz, hnd⟩ := hW
  have hA : DataW.TrodAll enc Tryd.prog W 0 (fun _ => true) true Tryd.f9.params.toList args.toList ds p := hA0
  rw [par9] at hA hval
  obtain ⟨v0, vs0, d0, ds0, p0, q0, hargs, rfl, rfl, h0, r0⟩ := trodAll_cons hA
  obtain ⟨rfl, rfl, rfl⟩ := trodAll_nil r0
  obtain rfl : args = #[v0] := by cases args; simp_all
  obtain ⟨rfl, rfl⟩ := trodVars_none hV
  obtain ⟨n, rfl, rfl, rfl, hwf⟩ := open_int und5 (hval 0 5 v0 rfl rfl) h0
  clear hA0
  simp only [List.append_nil] at hW'
  obtain ⟨hn0, hn1⟩ := u8_wf hwf
  have hct := types_ct n hn0 hn1 (HG W) W [.int .u8 n] (hg_ok W) (glob_ok hL) ⟨.one _ _ (.v _ rfl), trivial⟩ List.nodup_nil
  refine hct.mono fun e W' ⟨v, H', he, hp⟩ => ?_
  subst he
  obtain rfl := bool_of hp
  have hk := kept_of hp rfl
  exact ⟨_, rfl, _, _, _, [], [], [], hW', trodAll_cons_mk (shut_bool und4 _) trodAll_mk0, trodAll_cons_mk (shut_int und5 hwf) trodAll_mk0, rfl, World.keptBut_mono (fun _ h => h.elim) hk, fun h => nomatch h⟩
theorem laidT (os : Os) : laidMet Tryd.prog Rows.parseTypesRow.laid ((laidWorld os).forCall (fun _ _ => 0) ⟨#[], #[.int .u8 0], []⟩).memory :=
  laidMet_of_run' 8 (by kernel_rfl) (by kernel_rfl)
theorem readsT (os : Os) {H : Type} (enc : TypeId × Value → H) : ∃ places, DataW.whole enc Tryd.prog ((laidWorld os).forCall (fun _ _ => 0) ⟨#[], #[.int .u8 0], []⟩).memory Tryd.f9.params.toList Rows.parseTypesSpec.vars false #[Value.int .u8 0].toList 8 = some ([.lit (.int .u8 0)], [], places) :=
  ⟨[], by kernel_rfl⟩
theorem liftedT (os : Os) (started : os.Started) (H : Type) (enc : TypeId × Value → H) (F : Stop.Interp) :
    ReturnsInHanded {} Tryd.checked os 9 .any ((OpenSpec.ofChange Rows.parseTypesSpec).preRow enc Tryd.prog Tryd.f9 Rows.parseTypesRow.domain false Rows.parseTypesRow.laid) (((OpenSpec.ofChange Rows.parseTypesSpec).at F).post enc Tryd.prog Tryd.f9 false true false false) := by
  obtain ⟨places, hx⟩ := readsT os enc
  refine returnsInHanded_of_row (C := Tryd.checked) (s := OpenSpec.ofChange Rows.parseTypesSpec) own started (by kernel_rfl) Tryd.func9
    (witness_row_at (enc := enc) (C := Tryd.checked) false (laidWorld os) #[.int .u8 0] rfl (by kernel_rfl) (by kernel_rfl) (by kernel_rfl)
      (OpenSpec.preRow_of_cond 8 hx (by kernel_rfl) (fun k hk => by cases hk) (by kernel_rfl) (laidT os))) ?_
  intro W base args ds gs before hval hW _ _ _ hL _ _
  exact contractT H enc W base args ds gs before hval hW hL
theorem saidT : Rows.ParseTypesSaid :=
  OpenClaim.holds_of_cond 9 Tryd.f9 rfl rfl rfl rfl rfl rfl rfl ⟨rfl, rfl, rfl, rfl, rfl⟩ rfl rfl rfl rfl rfl (by kernel_rfl) Tryd.func9 (by kernel_rfl)
    (of_decide_eq_true (by kernel_rfl)) (by unfold Func.isWrapper; first | (rw [if_pos (by decide +kernel)]; kernel_rfl) | (rw [if_neg (by decide +kernel)]; exact ⟨rfl, rfl⟩))
    (fun os started H enc _ F => by rw [OpenClaim.pre_eq_preRow]; exact liftedT os started H enc F)
theorem plainT (f : FuncId) (fn : Func) (hf : Tryd.pinned.checked.prog.funcNamed "warp/warplaw10.ParseTypes" = some f) (hfn : Tryd.pinned.checked.prog.funcs[f]? = some fn) :
    false = Tryd.pinned.checked.prog.looks [] ∧ ∀ (j : Nat) t, fn.params[j]? = some t → Tryd.pinned.checked.prog.wantsStandIn t = false := by
  obtain rfl : f = 9 := Option.some.inj ((show Tryd.prog.funcNamed "warp/warplaw10.ParseTypes" = some 9 by kernel_rfl).symm.trans hf) |>.symm
  obtain rfl : fn = Tryd.f9 := (Option.some.inj (Tryd.func9.symm.trans hfn)).symm
  refine ⟨by kernel_rfl, fun j t ht => ?_⟩
  rw [par9] at ht
  obtain rfl : t = 5 := by simpa using Array.mem_of_getElem? ht
  exact (show Tryd.prog.wantsStandIn 5 = false by kernel_rfl)
end Go.Proofs.YtoapgongbackaaaDoor.V
namespace Go.Proofs.YtoapgongbackaaaDoor
open Go Go.Proofs Go.Proofs.YtoapgongbackaaaDoor.V
theorem parseTypes_holds : Rows.ParseTypesCardSaid :=
  Claim7.holds_tied_plain_at .later [] _ _ _ _ saidT (fun _ h => by cases h) (by kernel_rfl) (fun _ h => by cases h) parseTypes_row_tie rfl ⟨rfl, rfl⟩ (by kernel_rfl) rfl plainT (by kernel_rfl)
#print axioms parseTypes_holds
end Go.Proofs.YtoapgongbackaaaDoor
