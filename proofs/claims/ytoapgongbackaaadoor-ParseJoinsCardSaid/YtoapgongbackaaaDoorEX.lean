/-
  From a call's theorem to a row: the two listed variables, what stays. No condition.
-/
import Derived.Test.YtoapgongbackaaaDoorEF
import Derived.Test.YtoapgongbackaaaDoorCards
import Derived.Test.YtoapgongbackaaaDoorTie
import Derived.WalkKit
import Derived.ProofKit
import Derived.OpenShut
import Derived.Deep.DeepHandedRow
import Derived.Lib.LaidTab
import Derived.MakeChecks
import Derived.ChangeMaps5
set_option linter.unusedVariables false
set_option linter.unusedSimpArgs false
/-! X1: from a call to a row. -/
namespace Go.Proofs.YtoapgongbackaaaDoor.V
open Go Go.Proofs
open Go.ChangeShapes Go.WideShapes Go.ChangeAt Go.RowKit
set_option maxRecDepth 100000

theorem f0_104 : (Tryd.prog.fieldsOf 104)[0]? = some ⟨ "kind", 3, 0, false, "", "warp/parse", 0⟩ := by rw [← Array.getElem?_toList, fields104]; rfl
theorem f1_104 : (Tryd.prog.fieldsOf 104)[1]? = some ⟨ "s", 9, 1, false, "", "warp/parse", 8⟩ := by rw [← Array.getElem?_toList, fields104]; rfl
theorem size104 : (Tryd.prog.fieldsOf 104).size = 2 := by rw [← Array.length_toList, fields104]; rfl
theorem cells104 : Tryd.prog.cellsOf 104 = 2 := by kernel_rfl
theorem cells3 : Tryd.prog.cellsOf 3 = 1 := by kernel_rfl
theorem cells9 : Tryd.prog.cellsOf 9 = 1 := by kernel_rfl
theorem pair_cells {W : World} {fuel : Nat} {cs : List Value} {k : Int} {p : List MemPlace} (h : DataW.trod (fun _ => ()) Tryd.prog W 0 (fun _ => true) false fuel 104 cs = some (.agg [.lit (.int .i64 k), .lit (.string [])], p)) : cs = [.int .i64 k, .string ⟨#[]⟩] := by
  obtain ⟨xs, n, -, hx, hl, hlx, hf⟩ := DataW.trod_struct und104 h
  rw [cells104] at hl
  rw [size104] at hlx
  have e0 := hf 0 _ f0_104
  have e1 := hf 1 _ f1_104
  simp only [cells3, cells9] at e0 e1
  match cs, hl with
  | [a, b], _ =>
  simp only [Prod.mk.injEq, DataW.agg.injEq] at hx
  match xs, hlx, hx with
  | [x, y], _, hx =>
  simp only [List.map_cons, List.map_nil, List.cons.injEq, and_true] at hx
  obtain ⟨⟨hx1, hx2⟩, -⟩ := hx
  obtain ⟨m, c1, c2, -⟩ := DataW.trod_int und3 (show _ = some x from e0)
  obtain ⟨s, d1, d2, -⟩ := DataW.trod_string und9 (show _ = some y from e1)
  simp only [List.drop_zero, List.take_succ_cons, List.take_zero, List.cons.injEq, and_true, List.drop_succ_cons] at c1 d1
  subst c1 d1 c2 d2
  simp only [DataW.lit.injEq, Lit.int.injEq, true_and, Lit.string.injEq] at hx1 hx2
  subst hx1
  obtain ⟨⟨l⟩⟩ := s
  simp only at hx2
  subst hx2
  rfl
def HG (W : World) : Fz := fun b i => if b ≤ 1 then W.cell? ⟨b, i, none⟩ else none
theorem hg_ok (W : World) : FzOk (HG W) W := fun b i v h => by
  unfold HG at h
  split at h
  · exact h
  · cases h
theorem gl0 : Tryd.prog.globalNamed "warp/parse.name" = some 0 := by kernel_rfl
theorem gl1 : Tryd.prog.globalNamed "warp/parse.con" = some 1 := by kernel_rfl
theorem gt0 : (Tryd.prog.globals[0]?).map (·.type) = some 104 := by kernel_rfl
theorem gt1 : (Tryd.prog.globals[1]?).map (·.type) = some 104 := by kernel_rfl
theorem glob_ok {W : World} (h : laidMetH Tryd.prog [("warp/parse.name", Rows.laid_warp_parse_name), ("warp/parse.con", Rows.laid_warp_parse_con)] W) : GlobOk G (HG W) := by
  rw [Go.MakeChecks.laidMetH_plain _ _ _ (by kernel_rfl)] at h
  obtain ⟨ps, ⟨g0, t0, cs0, fuel0, p0, q0, hg0, ht0, hv0, hd0, ⟨g1, t1, cs1, fuel1, p1, q1, hg1, ht1, hv1, hd1, -⟩, -⟩, -⟩ := h
  obtain rfl := Option.some.inj (gl0.symm.trans hg0)
  obtain rfl := Option.some.inj (gt0.symm.trans ht0)
  obtain rfl := Option.some.inj (gl1.symm.trans hg1)
  obtain rfl := Option.some.inj (gt1.symm.trans ht1)
  have c0 := pair_cells hd0
  have c1 := pair_cells hd1
  have r0 := World.var?_cell gl0 hv0
  have r1 := World.var?_cell gl1 hv1
  obtain ⟨cs0⟩ := cs0
  obtain ⟨cs1⟩ := cs1
  simp only at c0 c1
  subst c0 c1
  intro g cs hg
  unfold G at hg
  split at hg
  · cases hg
    refine .ref _ 0 0 0 [.int .i64 1, .string ⟨#[]⟩] rfl (fun j u hj => ?_) (fun j c u hc hu => ?_)
    · simp only [HG, Nat.zero_le, if_true, Nat.zero_add]
      rw [r0]; simpa using hj
    · match j, hc, hu with
      | 0, hc, hu => cases hc; cases hu; exact .v _ rfl
      | 1, hc, hu => cases hc; cases hu; exact .v _ rfl
  · cases hg
    refine .ref _ 0 1 0 [.int .i64 2, .string ⟨#[]⟩] rfl (fun j u hj => ?_) (fun j c u hc hu => ?_)
    · simp only [HG, Nat.le_refl, if_true, Nat.zero_add]
      rw [r1]; simpa using hj
    · match j, hc, hu with
      | 0, hc, hu => cases hc; cases hu; exact .v _ rfl
      | 1, hc, hu => cases hc; cases hu; exact .v _ rfl
  · cases hg
theorem kept_of {H H' : Fz} {w w' : World} {xs : List Arg} {us : List Value} {rs : List Res} {css : List (List AC)} {v : Value} (h : CPost H w xs us rs css v H' w') (hb : blocksOf xs us = []) : w.keptBut w' (fun _ => False) := by
  refine ⟨h.os, h.output, fun i hi => ?_⟩
  rw [(h.keep i hi (by rw [hb]; simp)).1]
  cases ho : w.heap[i]? with
  | none => simp
  | some o => cases o <;> simp
theorem heap_of {H H' : Fz} {w w' : World} {xs : List Arg} {us : List Value} {rs : List Res} {css : List (List AC)} {v : Value} (h : CPost H w xs us rs css v H' w') (hb : blocksOf xs us = []) {i : Nat} (hi : i < w.heap.size) : w'.heap[i]? = w.heap[i]? :=
  (h.keep i hi (by rw [hb]; simp)).1
theorem bool_of {H H' : Fz} {w w' : World} {xs : List Arg} {us : List Value} {css : List (List AC)} {v : Value} {b : Bool} (h : CPost H w xs us [.val (.one (.v (.bool b)))] css v H' w') : v = .bool b := by
  obtain ⟨vs, h1, rfl⟩ := h.res
  match vs, h1 with
  | [u], h1 => exact (inv_v h1.1).1
theorem und5 : Tryd.prog.underlying 5 = some (.int .u8) := by kernel_rfl
theorem und4 : Tryd.prog.underlying 4 = some .bool := by kernel_rfl
theorem own : ownKnob Tryd.prog.godebug = none := by kernel_rfl
theorem u8_wf {n : Int} (h : (Lit.int .u8 n).wf = true) : 0 ≤ n ∧ n < 256 := by
  have h1 : IntKind.u8.min = 0 := by kernel_rfl
  have h2 : IntKind.u8.max = 255 := by kernel_rfl
  simp only [Lit.wf] at h
  simp at h
  omega
/-- A world for the witness: the settled one, the two signs holding what their initialisers lay. -/
def layPair (k : Int) (o : Obj) : Obj := match o with
  | .cells _ t frozen => .cells #[.int .i64 k, .string ⟨#[]⟩] t frozen
  | o => o
noncomputable def laidWorld (os : Os) : World :=
  { World.holding Tryd.prog os ⟨#[], #[], []⟩ with heap := ((World.holding Tryd.prog os ⟨#[], #[], []⟩).heap.modify 0 (layPair 1)).modify 1 (layPair 2) }
end Go.Proofs.YtoapgongbackaaaDoor.V
