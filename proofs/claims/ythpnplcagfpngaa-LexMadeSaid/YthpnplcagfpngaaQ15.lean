-- Written by this session's pm.py, out of the translation. Not trusted: Lean checks it.
import Derived.Test.YthpnplcagfpngaaQ0
namespace Go.Proofs.Ythpnplcagfpngaa.Q
open Go.RowKit Go.Proofs.YthpnplcagfpngaaW.PrintWords Go.Proofs.YthpnplcagfpngaaW.PrintLast Go.Proofs.YthpnplcagfpngaaW.PrintMore
attribute [local go_sem] max2_int min2_int max_two min_two max_three min_three max_four min_four   -- for this text's walks alone
set_option linter.unusedVariables false
set_option linter.unusedSimpArgs false

/-! ### warplaw9_Words: function 18 -/
def warplaw9_Words.l0 : Nat → List Int → List ByteArray → ByteArray → Int → Option (ByteArray)
  | 0, _, _, _, _ => none
  | k + 1, x0, x3, x4, x5 => if x5 < (x0.length : Int) then (if x5 < 200 then (if 0 ≤ x5 then (if (x3.length : Int) = 0 then (none) else (if 0 ≤ (Int.tmod (wrap64 (rd x0 x5)) (x3.length : Int)) then (if (Int.tmod (wrap64 (rd x0 x5)) (x3.length : Int)) < (x3.length : Int) then (if x4.size + (rdOf ByteArray.empty x3 (Int.tmod (wrap64 (rd x0 x5)) (x3.length : Int))).size ≤ 9223372036854775807 then (warplaw9_Words.l0 k x0 x3 (x4 ++ (rdOf ByteArray.empty x3 (Int.tmod (wrap64 (rd x0 x5)) (x3.length : Int)))) (wrap64 (x5 + 1))) else (none)) else (none)) else (none))) else (none)) else (some x4)) else (some x4)
def warplaw9_Words.f (k : Nat) (l0 : List Int) : Option (ByteArray) := warplaw9_Words.l0 k l0 (([(⟨#[108, 101, 116, 32]⟩ : ByteArray), (⟨#[120]⟩ : ByteArray), (⟨#[102, 32]⟩ : ByteArray), (⟨#[67, 111, 110, 115]⟩ : ByteArray), (⟨#[61]⟩ : ByteArray), (⟨#[45, 62]⟩ : ByteArray), (⟨#[92]⟩ : ByteArray), (⟨#[40]⟩ : ByteArray), (⟨#[41]⟩ : ByteArray), (⟨#[44]⟩ : ByteArray), (⟨#[123]⟩ : ByteArray), (⟨#[125]⟩ : ByteArray), (⟨#[59]⟩ : ByteArray), (⟨#[124]⟩ : ByteArray), (⟨#[100, 97, 116, 97, 32]⟩ : ByteArray), (⟨#[105, 110, 32]⟩ : ByteArray), (⟨#[49, 50]⟩ : ByteArray), (⟨#[48]⟩ : ByteArray), (⟨#[99, 97, 115, 101, 32]⟩ : ByteArray), (⟨#[111, 102, 32]⟩ : ByteArray), (⟨#[45, 45, 32, 114, 10]⟩ : ByteArray), (⟨#[10]⟩ : ByteArray), (⟨#[9]⟩ : ByteArray), (⟨#[32]⟩ : ByteArray), (⟨#[116, 114, 117, 101, 32]⟩ : ByteArray), (⟨#[105, 102, 32]⟩ : ByteArray), (⟨#[97, 95, 49]⟩ : ByteArray), (⟨#[84, 50, 32]⟩ : ByteArray), (⟨#[101, 108, 115, 101, 32]⟩ : ByteArray), (⟨#[116, 104, 101, 110, 32]⟩ : ByteArray), (⟨#[48, 48, 55]⟩ : ByteArray), (⟨#[95]⟩ : ByteArray), (⟨#[45]⟩ : ByteArray), (⟨#[62]⟩ : ByteArray), (⟨#[102, 97, 108, 115, 101]⟩ : ByteArray), (⟨#[50, 49, 52, 55, 52, 56, 51, 54, 52, 55]⟩ : ByteArray), (⟨#[50, 49, 52, 55, 52, 56, 51, 54, 52, 56]⟩ : ByteArray)] : List ByteArray)) (⟨#[]⟩ : ByteArray) 0
theorem warplaw9_Words.mono_l : ∀ k, (∀ y0 y1 y2 y3, LeO (warplaw9_Words.l0 k y0 y1 y2 y3) (warplaw9_Words.l0 (k + 1) y0 y1 y2 y3))
  | 0 => fun _ _ _ _ r h => by simp [warplaw9_Words.l0] at h
  | k + 1 => by
    have ih0 := warplaw9_Words.mono_l k
    · intro y0 y1 y2 y3
      unfold warplaw9_Words.l0
      repeat' first
      | (with_reducible exact ih0 _ _ _ _)
      | (with_reducible exact LeO.refl _)
      | (with_reducible exact LeO.none _)
      | (with_reducible refine LeO.ite ?_ ?_)
      | (with_reducible refine LeO.bind ?_ (fun _ => ?_))
      | exact ih0 _ _ _ _
      | exact LeO.none _
      | refine LeO.ite ?_ ?_
      | refine LeO.bind ?_ (fun _ => ?_)
theorem warplaw9_Words.mono : ∀ a0 k, LeO (warplaw9_Words.f k a0) (warplaw9_Words.f (k + 1) a0) := by
  intro a0 k
  have ih0 := warplaw9_Words.mono_l k
  unfold warplaw9_Words.f
  repeat' first
      | (with_reducible exact ih0 _ _ _ _)
      | (with_reducible exact LeO.refl _)
      | (with_reducible exact LeO.none _)
      | (with_reducible refine LeO.ite ?_ ?_)
      | (with_reducible refine LeO.bind ?_ (fun _ => ?_))
      | exact ih0 _ _ _ _
      | exact LeO.none _
      | refine LeO.ite ?_ ?_
      | refine LeO.bind ?_ (fun _ => ?_)
set_option maxHeartbeats 8000000 in
set_option maxRecDepth 100000 in
theorem warplaw9_Words.calls (k : Nat) (A0 : Option Addr) (c0 : Nat) (l0 : List Int) (r : ByteArray) (w : World) (hr0 : Kd.C (Kd.int .u8) w A0 l0.length l0) (hc0 : l0.length ≤ c0) (h : warplaw9_Words.f k l0 = some r) :
    Calls Try.prog 18 #[.slice A0 l0.length c0] w fun e w' => e = .returned (.string r) ∧ Below w.heap.size w w' := by
  have HR0 := Aside0.mk hr0
  have HC0 := Aside0.mk hc0
  clear hr0 hc0
  have HB := Aside0.mk (Below.refl w.heap.size w)
  have H : (warplaw9_Words.l0 k l0 (([(⟨#[108, 101, 116, 32]⟩ : ByteArray), (⟨#[120]⟩ : ByteArray), (⟨#[102, 32]⟩ : ByteArray), (⟨#[67, 111, 110, 115]⟩ : ByteArray), (⟨#[61]⟩ : ByteArray), (⟨#[45, 62]⟩ : ByteArray), (⟨#[92]⟩ : ByteArray), (⟨#[40]⟩ : ByteArray), (⟨#[41]⟩ : ByteArray), (⟨#[44]⟩ : ByteArray), (⟨#[123]⟩ : ByteArray), (⟨#[125]⟩ : ByteArray), (⟨#[59]⟩ : ByteArray), (⟨#[124]⟩ : ByteArray), (⟨#[100, 97, 116, 97, 32]⟩ : ByteArray), (⟨#[105, 110, 32]⟩ : ByteArray), (⟨#[49, 50]⟩ : ByteArray), (⟨#[48]⟩ : ByteArray), (⟨#[99, 97, 115, 101, 32]⟩ : ByteArray), (⟨#[111, 102, 32]⟩ : ByteArray), (⟨#[45, 45, 32, 114, 10]⟩ : ByteArray), (⟨#[10]⟩ : ByteArray), (⟨#[9]⟩ : ByteArray), (⟨#[32]⟩ : ByteArray), (⟨#[116, 114, 117, 101, 32]⟩ : ByteArray), (⟨#[105, 102, 32]⟩ : ByteArray), (⟨#[97, 95, 49]⟩ : ByteArray), (⟨#[84, 50, 32]⟩ : ByteArray), (⟨#[101, 108, 115, 101, 32]⟩ : ByteArray), (⟨#[116, 104, 101, 110, 32]⟩ : ByteArray), (⟨#[48, 48, 55]⟩ : ByteArray), (⟨#[95]⟩ : ByteArray), (⟨#[45]⟩ : ByteArray), (⟨#[62]⟩ : ByteArray), (⟨#[102, 97, 108, 115, 101]⟩ : ByteArray), (⟨#[50, 49, 52, 55, 52, 56, 51, 54, 52, 55]⟩ : ByteArray), (⟨#[50, 49, 52, 55, 52, 56, 51, 54, 52, 56]⟩ : ByteArray)] : List ByteArray)) (⟨#[]⟩ : ByteArray) 0) = some r := h
  clear h
  obtain ⟨y194, hy194⟩ : ∃ y_ : List ByteArray, y_ = (([(⟨#[108, 101, 116, 32]⟩ : ByteArray), (⟨#[120]⟩ : ByteArray), (⟨#[102, 32]⟩ : ByteArray), (⟨#[67, 111, 110, 115]⟩ : ByteArray), (⟨#[61]⟩ : ByteArray), (⟨#[45, 62]⟩ : ByteArray), (⟨#[92]⟩ : ByteArray), (⟨#[40]⟩ : ByteArray), (⟨#[41]⟩ : ByteArray), (⟨#[44]⟩ : ByteArray), (⟨#[123]⟩ : ByteArray), (⟨#[125]⟩ : ByteArray), (⟨#[59]⟩ : ByteArray), (⟨#[124]⟩ : ByteArray), (⟨#[100, 97, 116, 97, 32]⟩ : ByteArray), (⟨#[105, 110, 32]⟩ : ByteArray), (⟨#[49, 50]⟩ : ByteArray), (⟨#[48]⟩ : ByteArray), (⟨#[99, 97, 115, 101, 32]⟩ : ByteArray), (⟨#[111, 102, 32]⟩ : ByteArray), (⟨#[45, 45, 32, 114, 10]⟩ : ByteArray), (⟨#[10]⟩ : ByteArray), (⟨#[9]⟩ : ByteArray), (⟨#[32]⟩ : ByteArray), (⟨#[116, 114, 117, 101, 32]⟩ : ByteArray), (⟨#[105, 102, 32]⟩ : ByteArray), (⟨#[97, 95, 49]⟩ : ByteArray), (⟨#[84, 50, 32]⟩ : ByteArray), (⟨#[101, 108, 115, 101, 32]⟩ : ByteArray), (⟨#[116, 104, 101, 110, 32]⟩ : ByteArray), (⟨#[48, 48, 55]⟩ : ByteArray), (⟨#[95]⟩ : ByteArray), (⟨#[45]⟩ : ByteArray), (⟨#[62]⟩ : ByteArray), (⟨#[102, 97, 108, 115, 101]⟩ : ByteArray), (⟨#[50, 49, 52, 55, 52, 56, 51, 54, 52, 55]⟩ : ByteArray), (⟨#[50, 49, 52, 55, 52, 56, 51, 54, 52, 56]⟩ : ByteArray)] : List ByteArray)) := ⟨_, rfl⟩
  replace H : (warplaw9_Words.l0 k l0 y194 (⟨#[]⟩ : ByteArray) 0) = some r := by first | (rw [hy194]; with_reducible exact H) | (have H2_ := (Option.bind_some _ _).symm.trans H; rw [hy194]; with_reducible exact H2_) | (have H2_ := (Option.bind_some _ _).symm.trans H; with_reducible exact H2_) | with_reducible exact H | (rw [hy194]; exact H) | exact H
  have Ny194 := Aside0.mk hy194
  clear hy194
  have H' := Aside0.mk H
  clear H
  go_enter Try.func18, Try.ntmps18
  go_wp2_with (first | ((with_reducible refine gate_dst (N := 6) rfl ?_); refine Kd.R_lit Kd.string _ 9 ?hg (N := 6) ?hd (xs := ([(⟨#[108, 101, 116, 32]⟩ : ByteArray), (⟨#[120]⟩ : ByteArray), (⟨#[102, 32]⟩ : ByteArray), (⟨#[67, 111, 110, 115]⟩ : ByteArray), (⟨#[61]⟩ : ByteArray), (⟨#[45, 62]⟩ : ByteArray), (⟨#[92]⟩ : ByteArray), (⟨#[40]⟩ : ByteArray), (⟨#[41]⟩ : ByteArray), (⟨#[44]⟩ : ByteArray), (⟨#[123]⟩ : ByteArray), (⟨#[125]⟩ : ByteArray), (⟨#[59]⟩ : ByteArray), (⟨#[124]⟩ : ByteArray), (⟨#[100, 97, 116, 97, 32]⟩ : ByteArray), (⟨#[105, 110, 32]⟩ : ByteArray), (⟨#[49, 50]⟩ : ByteArray), (⟨#[48]⟩ : ByteArray), (⟨#[99, 97, 115, 101, 32]⟩ : ByteArray), (⟨#[111, 102, 32]⟩ : ByteArray), (⟨#[45, 45, 32, 114, 10]⟩ : ByteArray), (⟨#[10]⟩ : ByteArray), (⟨#[9]⟩ : ByteArray), (⟨#[32]⟩ : ByteArray), (⟨#[116, 114, 117, 101, 32]⟩ : ByteArray), (⟨#[105, 102, 32]⟩ : ByteArray), (⟨#[97, 95, 49]⟩ : ByteArray), (⟨#[84, 50, 32]⟩ : ByteArray), (⟨#[101, 108, 115, 101, 32]⟩ : ByteArray), (⟨#[116, 104, 101, 110, 32]⟩ : ByteArray), (⟨#[48, 48, 55]⟩ : ByteArray), (⟨#[95]⟩ : ByteArray), (⟨#[45]⟩ : ByteArray), (⟨#[62]⟩ : ByteArray), (⟨#[102, 97, 108, 115, 101]⟩ : ByteArray), (⟨#[50, 49, 52, 55, 52, 56, 51, 54, 52, 55]⟩ : ByteArray), (⟨#[50, 49, 52, 55, 52, 56, 51, 54, 52, 56]⟩ : ByteArray)] : List ByteArray)) (inner := [.string (⟨#[108, 101, 116, 32]⟩ : ByteArray), .string (⟨#[120]⟩ : ByteArray), .string (⟨#[102, 32]⟩ : ByteArray), .string (⟨#[67, 111, 110, 115]⟩ : ByteArray), .string (⟨#[61]⟩ : ByteArray), .string (⟨#[45, 62]⟩ : ByteArray), .string (⟨#[92]⟩ : ByteArray), .string (⟨#[40]⟩ : ByteArray), .string (⟨#[41]⟩ : ByteArray), .string (⟨#[44]⟩ : ByteArray), .string (⟨#[123]⟩ : ByteArray), .string (⟨#[125]⟩ : ByteArray), .string (⟨#[59]⟩ : ByteArray), .string (⟨#[124]⟩ : ByteArray), .string (⟨#[100, 97, 116, 97, 32]⟩ : ByteArray), .string (⟨#[105, 110, 32]⟩ : ByteArray), .string (⟨#[49, 50]⟩ : ByteArray), .string (⟨#[48]⟩ : ByteArray), .string (⟨#[99, 97, 115, 101, 32]⟩ : ByteArray), .string (⟨#[111, 102, 32]⟩ : ByteArray), .string (⟨#[45, 45, 32, 114, 10]⟩ : ByteArray), .string (⟨#[10]⟩ : ByteArray), .string (⟨#[9]⟩ : ByteArray), .string (⟨#[32]⟩ : ByteArray), .string (⟨#[116, 114, 117, 101, 32]⟩ : ByteArray), .string (⟨#[105, 102, 32]⟩ : ByteArray), .string (⟨#[97, 95, 49]⟩ : ByteArray), .string (⟨#[84, 50, 32]⟩ : ByteArray), .string (⟨#[101, 108, 115, 101, 32]⟩ : ByteArray), .string (⟨#[116, 104, 101, 110, 32]⟩ : ByteArray), .string (⟨#[48, 48, 55]⟩ : ByteArray), .string (⟨#[95]⟩ : ByteArray), .string (⟨#[45]⟩ : ByteArray), .string (⟨#[62]⟩ : ByteArray), .string (⟨#[102, 97, 108, 115, 101]⟩ : ByteArray), .string (⟨#[50, 49, 52, 55, 52, 56, 51, 54, 52, 55]⟩ : ByteArray), .string (⟨#[50, 49, 52, 55, 52, 56, 51, 54, 52, 56]⟩ : ByteArray)]) (ok := fun _ => True) (okp := fun _ => True) ?hr ?hp (fun _ hk => hk) trivial (Below.refl _ _) (Nat.le_refl _) (by simp) ?_; (case hd => rfl); (case hg => rfl); (case hr => first | (go_simp; done) | (go_simp; rfl)); (case hp => exact (Reps.one (show Kd.M Kd.string _ _ _ (⟨#[108, 101, 116, 32]⟩ : ByteArray) [.string (⟨#[108, 101, 116, 32]⟩ : ByteArray)] from rfl) (Reps.one (show Kd.M Kd.string _ _ _ (⟨#[120]⟩ : ByteArray) [.string (⟨#[120]⟩ : ByteArray)] from rfl) (Reps.one (show Kd.M Kd.string _ _ _ (⟨#[102, 32]⟩ : ByteArray) [.string (⟨#[102, 32]⟩ : ByteArray)] from rfl) (Reps.one (show Kd.M Kd.string _ _ _ (⟨#[67, 111, 110, 115]⟩ : ByteArray) [.string (⟨#[67, 111, 110, 115]⟩ : ByteArray)] from rfl) (Reps.one (show Kd.M Kd.string _ _ _ (⟨#[61]⟩ : ByteArray) [.string (⟨#[61]⟩ : ByteArray)] from rfl) (Reps.one (show Kd.M Kd.string _ _ _ (⟨#[45, 62]⟩ : ByteArray) [.string (⟨#[45, 62]⟩ : ByteArray)] from rfl) (Reps.one (show Kd.M Kd.string _ _ _ (⟨#[92]⟩ : ByteArray) [.string (⟨#[92]⟩ : ByteArray)] from rfl) (Reps.one (show Kd.M Kd.string _ _ _ (⟨#[40]⟩ : ByteArray) [.string (⟨#[40]⟩ : ByteArray)] from rfl) (Reps.one (show Kd.M Kd.string _ _ _ (⟨#[41]⟩ : ByteArray) [.string (⟨#[41]⟩ : ByteArray)] from rfl) (Reps.one (show Kd.M Kd.string _ _ _ (⟨#[44]⟩ : ByteArray) [.string (⟨#[44]⟩ : ByteArray)] from rfl) (Reps.one (show Kd.M Kd.string _ _ _ (⟨#[123]⟩ : ByteArray) [.string (⟨#[123]⟩ : ByteArray)] from rfl) (Reps.one (show Kd.M Kd.string _ _ _ (⟨#[125]⟩ : ByteArray) [.string (⟨#[125]⟩ : ByteArray)] from rfl) (Reps.one (show Kd.M Kd.string _ _ _ (⟨#[59]⟩ : ByteArray) [.string (⟨#[59]⟩ : ByteArray)] from rfl) (Reps.one (show Kd.M Kd.string _ _ _ (⟨#[124]⟩ : ByteArray) [.string (⟨#[124]⟩ : ByteArray)] from rfl) (Reps.one (show Kd.M Kd.string _ _ _ (⟨#[100, 97, 116, 97, 32]⟩ : ByteArray) [.string (⟨#[100, 97, 116, 97, 32]⟩ : ByteArray)] from rfl) (Reps.one (show Kd.M Kd.string _ _ _ (⟨#[105, 110, 32]⟩ : ByteArray) [.string (⟨#[105, 110, 32]⟩ : ByteArray)] from rfl) (Reps.one (show Kd.M Kd.string _ _ _ (⟨#[49, 50]⟩ : ByteArray) [.string (⟨#[49, 50]⟩ : ByteArray)] from rfl) (Reps.one (show Kd.M Kd.string _ _ _ (⟨#[48]⟩ : ByteArray) [.string (⟨#[48]⟩ : ByteArray)] from rfl) (Reps.one (show Kd.M Kd.string _ _ _ (⟨#[99, 97, 115, 101, 32]⟩ : ByteArray) [.string (⟨#[99, 97, 115, 101, 32]⟩ : ByteArray)] from rfl) (Reps.one (show Kd.M Kd.string _ _ _ (⟨#[111, 102, 32]⟩ : ByteArray) [.string (⟨#[111, 102, 32]⟩ : ByteArray)] from rfl) (Reps.one (show Kd.M Kd.string _ _ _ (⟨#[45, 45, 32, 114, 10]⟩ : ByteArray) [.string (⟨#[45, 45, 32, 114, 10]⟩ : ByteArray)] from rfl) (Reps.one (show Kd.M Kd.string _ _ _ (⟨#[10]⟩ : ByteArray) [.string (⟨#[10]⟩ : ByteArray)] from rfl) (Reps.one (show Kd.M Kd.string _ _ _ (⟨#[9]⟩ : ByteArray) [.string (⟨#[9]⟩ : ByteArray)] from rfl) (Reps.one (show Kd.M Kd.string _ _ _ (⟨#[32]⟩ : ByteArray) [.string (⟨#[32]⟩ : ByteArray)] from rfl) (Reps.one (show Kd.M Kd.string _ _ _ (⟨#[116, 114, 117, 101, 32]⟩ : ByteArray) [.string (⟨#[116, 114, 117, 101, 32]⟩ : ByteArray)] from rfl) (Reps.one (show Kd.M Kd.string _ _ _ (⟨#[105, 102, 32]⟩ : ByteArray) [.string (⟨#[105, 102, 32]⟩ : ByteArray)] from rfl) (Reps.one (show Kd.M Kd.string _ _ _ (⟨#[97, 95, 49]⟩ : ByteArray) [.string (⟨#[97, 95, 49]⟩ : ByteArray)] from rfl) (Reps.one (show Kd.M Kd.string _ _ _ (⟨#[84, 50, 32]⟩ : ByteArray) [.string (⟨#[84, 50, 32]⟩ : ByteArray)] from rfl) (Reps.one (show Kd.M Kd.string _ _ _ (⟨#[101, 108, 115, 101, 32]⟩ : ByteArray) [.string (⟨#[101, 108, 115, 101, 32]⟩ : ByteArray)] from rfl) (Reps.one (show Kd.M Kd.string _ _ _ (⟨#[116, 104, 101, 110, 32]⟩ : ByteArray) [.string (⟨#[116, 104, 101, 110, 32]⟩ : ByteArray)] from rfl) (Reps.one (show Kd.M Kd.string _ _ _ (⟨#[48, 48, 55]⟩ : ByteArray) [.string (⟨#[48, 48, 55]⟩ : ByteArray)] from rfl) (Reps.one (show Kd.M Kd.string _ _ _ (⟨#[95]⟩ : ByteArray) [.string (⟨#[95]⟩ : ByteArray)] from rfl) (Reps.one (show Kd.M Kd.string _ _ _ (⟨#[45]⟩ : ByteArray) [.string (⟨#[45]⟩ : ByteArray)] from rfl) (Reps.one (show Kd.M Kd.string _ _ _ (⟨#[62]⟩ : ByteArray) [.string (⟨#[62]⟩ : ByteArray)] from rfl) (Reps.one (show Kd.M Kd.string _ _ _ (⟨#[102, 97, 108, 115, 101]⟩ : ByteArray) [.string (⟨#[102, 97, 108, 115, 101]⟩ : ByteArray)] from rfl) (Reps.one (show Kd.M Kd.string _ _ _ (⟨#[50, 49, 52, 55, 52, 56, 51, 54, 52, 55]⟩ : ByteArray) [.string (⟨#[50, 49, 52, 55, 52, 56, 51, 54, 52, 55]⟩ : ByteArray)] from rfl) (Reps.one (show Kd.M Kd.string _ _ _ (⟨#[50, 49, 52, 55, 52, 56, 51, 54, 52, 56]⟩ : ByteArray) [.string (⟨#[50, 49, 52, 55, 52, 56, 51, 54, 52, 56]⟩ : ByteArray)] from rfl) (Reps.none _ _))))))))))))))))))))))))))))))))))))))); intro v195 w2 ho3 hb hg_ hnew_; clear hg_ hnew_; (first | rw [← Ny194.out] at ho3 | (simp only [Int.reduceToNat] at ho3; rw [← Ny194.out] at ho3)); have n0_ := Aside0.mk (Kd.R_lower ho3 (below_size (by repeat (first | (with_reducible first | exact HB.out | apply below_alloc | apply pw_below_drewN | apply below_drew1) | exact HB.out)))); have n1_ := Aside0.mk (below_step (by repeat (first | (with_reducible first | exact HB.out | apply below_alloc | apply pw_below_drewN | apply below_drew1) | exact HB.out)) hb); clear HB; have HO196 := n0_; have HB := n1_; clear n0_ n1_; clear hb ho3))
  go_loopg [4, 5] k (fun kq v4 v5 w' => ∃ (x4_1 : ByteArray) (x5_1 : Int), v4 = .string x4_1 ∧ v5 = .int .i64 x5_1 ∧ Aside0 (warplaw9_Words.l0 kq l0 y194 x4_1 x5_1 = some r) ∧ Aside0 (kq ≤ k) ∧ Aside0 (Kd.R Kd.string 9 w' w.heap.size (fun _ => True) v195 y194) ∧ Aside0 (Below w.heap.size w w'))
  case atStart => exact ⟨((⟨#[]⟩ : ByteArray)), (0), (by first | rfl | (simp; done) | (simp [*]; done)), (by first | rfl | (simp; done) | (simp [*]; done)), H', ⟨Nat.le_refl _⟩, ⟨by (with_reducible repeat (first | apply Kd.R_alloc | apply Kd.R_drewN | apply Kd.R_drew)); exact HO196.out⟩, ⟨by repeat (first | (with_reducible first | exact HB.out | apply below_alloc | apply pw_below_drewN | apply below_drew1) | exact HB.out)⟩⟩
  case round =>
    clear H'
    try clear c1
    try clear p2
    obtain ⟨x4_1, x5_1, rfl, rfl, HA, HK1, HO_3, HB⟩ := hrel
    cases gk with
    | zero => exact absurd HA.out (by simp [warplaw9_Words.l0])
    | succ k1 =>
      have H := HA.out
      clear HA
      simp only [warplaw9_Words.l0] at H
      by_cases c4 : x5_1 < (l0.length : Int)
      · rw [if_pos c4] at H
        have c4b0 : decide (x5_1 < (l0.length : Int)) = true := decide_eq_true c4
        clear c4
        by_cases c5 : x5_1 < 200
        · rw [if_pos c5] at H
          have c5b0 : decide (x5_1 < 200) = true := decide_eq_true c5
          clear c5
          by_cases c6 : 0 ≤ x5_1
          · rw [if_pos c6] at H
            have c6b0 : decide (0 ≤ x5_1) = true := decide_eq_true c6
            clear c6
            by_cases c7 : (y194.length : Int) = 0
            · rw [if_pos c7] at H
              exact absurd H (by simp)
            · rw [if_neg c7] at H
              have c7b0 : ((y194.length : Int) == 0) = false := beq_eq_false_iff_ne.mpr c7
              have c7b1 : ((y194.length : Int) != 0) = true := bne_iff_ne.mpr c7
              have c7b2 : ¬ (y194 = []) := fun h_ => c7 (by rw [h_]; rfl)
              obtain ⟨ji8, hji8⟩ : ∃ j_ : Int, (Int.tmod (wrap64 (rd l0 x5_1)) (y194.length : Int)) = j_ := ⟨_, rfl⟩
              replace H : (if 0 ≤ (ji8) then (if (ji8) < (y194.length : Int) then (if x4_1.size + (rdOf ByteArray.empty y194 (ji8)).size ≤ 9223372036854775807 then (warplaw9_Words.l0 k1 l0 y194 (x4_1 ++ (rdOf ByteArray.empty y194 (ji8))) (wrap64 (x5_1 + 1))) else (none)) else (none)) else (none)) = some r := by first | (rw [hji8] at H; exact H) | (simp only [hji8] at H ⊢; exact H)
              by_cases c9 : 0 ≤ (ji8)
              · rw [if_pos c9] at H
                have c9b0 : decide (0 ≤ (ji8)) = true := decide_eq_true c9
                clear c9
                by_cases c10 : (ji8) < (y194.length : Int)
                · rw [if_pos c10] at H
                  have c10b0 : decide ((ji8) < (y194.length : Int)) = true := decide_eq_true c10
                  clear c10
                  by_cases c11 : x4_1.size + (rdOf ByteArray.empty y194 (ji8)).size ≤ 9223372036854775807
                  · rw [if_pos c11] at H
                    have c11b0 := eq_true c11
                    have c11b1 : decide (x4_1.size + (rdOf ByteArray.empty y194 (ji8)).size ≤ 9223372036854775807) = true := decide_eq_true c11
                    try have c11b2 : (9223372036854775807 < x4_1.size + (rdOf ByteArray.empty y194 (ji8)).size) = False := eq_false (Nat.not_lt.2 c11)
                    have H' := Aside0.mk H
                    clear H
                    have p197 : 0 ≤ (x5_1 : Int) := of_decide_eq_true (by first | (with_reducible assumption) | assumption)
                    have q197 : x5_1 < (l0.length : Int) := of_decide_eq_true (by first | (with_reducible assumption) | assumption)
                    obtain ⟨ad197, e197, hx197_0⟩ := Kd.at_int HR0.out x5_1 p197 q197
                    cases e197
                    replace hx197_0 := (HB.out.cell (World.block_lt_of_cell? w _ hx197_0)).trans hx197_0
                    replace p197 := eq_true p197
                    replace q197 := eq_true q197
                    obtain ⟨Ao12, co12, eo12⟩ := Kd.R_slice HO_3.out
                    subst eo12
                    have p198 : 0 ≤ ((ji8) : Int) := of_decide_eq_true (by first | (with_reducible assumption) | assumption)
                    have q198 : (ji8) < (y194.length : Int) := of_decide_eq_true (by first | (with_reducible assumption) | assumption)
                    obtain ⟨ad198, e198, hx198_0⟩ := Kd.at_string (Kd.R_reads' HO_3.out).2.2 (ji8) p198 q198
                    cases e198
                    replace p198 := eq_true p198
                    replace q198 := eq_true q198
                    go_wp2
                    go_roundg k1
                    case measure => have := HK1.out; omega
                    case rel => exact ⟨(x4_1 ++ (rdOf ByteArray.empty y194 (ji8))), (wrap64 (x5_1 + 1)), (by first | rfl | (simp; done) | (simp only [← hji8] <;> (first | rfl | simp)) | (simp [*]; done)), (by first | rfl | (simp; done) | (simp [*]; done)), H', ⟨by have := HK1.out; omega⟩, ⟨by (with_reducible repeat (first | apply Kd.R_alloc | apply Kd.R_drewN | apply Kd.R_drew)); exact HO_3.out⟩, ⟨by repeat (first | (with_reducible first | exact HB.out | apply below_alloc | apply pw_below_drewN | apply below_drew1) | exact HB.out)⟩⟩
                  · rw [if_neg c11] at H
                    exact absurd H (by simp)
                · rw [if_neg c10] at H
                  exact absurd H (by simp)
              · rw [if_neg c9] at H
                exact absurd H (by simp)
          · rw [if_neg c6] at H
            exact absurd H (by simp)
        · rw [if_neg c5] at H
          have c5b0 : decide (x5_1 < 200) = false := decide_eq_false c5
          clear c5
          obtain rfl := Option.some.inj H
          go_wp2
          go_ret
          exact ⟨by first | rfl | (simp [errW_none, errW_some] <;> rfl) | (simp [*, errW_none, errW_some] <;> rfl), by repeat (first | (with_reducible first | exact HB.out | apply below_alloc | apply pw_below_drewN | apply below_drew1) | exact HB.out)⟩
      · rw [if_neg c4] at H
        have c4b0 : decide (x5_1 < (l0.length : Int)) = false := decide_eq_false c4
        clear c4
        obtain rfl := Option.some.inj H
        go_wp2
        go_ret
        exact ⟨by first | rfl | (simp [errW_none, errW_some] <;> rfl) | (simp [*, errW_none, errW_some] <;> rfl), by repeat (first | (with_reducible first | exact HB.out | apply below_alloc | apply pw_below_drewN | apply below_drew1) | exact HB.out)⟩

end Go.Proofs.Ythpnplcagfpngaa.Q
