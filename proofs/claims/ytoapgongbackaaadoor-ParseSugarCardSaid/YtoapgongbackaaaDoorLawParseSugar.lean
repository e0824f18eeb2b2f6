/-
  ParseSugar: for every input the law returns true, and each argument reads as it did. No condition.
-/
import Derived.Test.YtoapgongbackaaaDoorEI
import Derived.Test.YtoapgongbackaaaDoorEF
import Derived.Test.YtoapgongbackaaaDoorEX
import Derived.Test.YtoapgongbackaaaDoorEJ
import Derived.Deep.Matrix
import Derived.Carry
import Derived.ChangeOld
import Derived.Test.YtoapgongbackaaaDoorEK
set_option linter.unusedVariables false
set_option linter.unusedSimpArgs false
/-! Z1: ParseAll. -/
namespace Go.Proofs.YtoapgongbackaaaDoor.V
open Go Go.Proofs
open Go.Proofs.YtoapgongbackaaaDoor.Lx
set_option maxRecDepth 100000

/-- What both parsers make of a text. -/
theorem both_ct (l : List UInt8) (hB : l.length ≤ 65536) : ∃ p e a, FineP p ∧ Ct 12 [.val (.one (.v (.string (ofL l))))] [.val (.agg (progC p)), .val (.one (.v (.int .i64 e))), .val (.one (.v (.int .i64 a)))] [] ∧
    Ct 13 [.val (.one (.v (.string (ofL l))))] [.val (.agg [.sl 62 4 (p.datas.map dataC) none, .sl 55 8 (p.binds.map bindC) none, .v (.int .i64 e), .v (.int .i64 a)])] [] := by
  obtain ⟨p, e, a, h⟩ := parse_total l hB
  exact ⟨p, e, a, parse_fine (by decide) h, parse_ct2 (by decide) hB h, rparse_ct (by decide) hB h⟩
set_option maxHeartbeats 4000000 in
theorem parseAll_ct (l : List UInt8) : Ct 3 [.val (.one (.v (.string (ofL l))))] [.val (.one (.v (.bool true)))] [] := by
  have hsz := ofL_size l
  refine ct Tryd.func3 (by kernel_rfl) ?_
  cases hlt : decide ((3000 : Int) < ((ofL l).size : Int))
  rotate_left
  · generalize ofL l = s at hlt
    apply evF_of rfl
    apply seqC
    apply regL
    repeat ((with_reducible apply stepS); (· conv => whnf))
    apply endS; apply seqC; apply seqC; apply regL
    repeat ((with_reducible apply stepS); (· conv => whnf))
    rw [hlt]
    apply endS
    apply condT; (· (conv => whnf); try rfl)
    apply seqC
    apply regL
    apply stepS; (· (conv => whnf); refine ⟨_, _, awake_ct, ?_⟩; (conv => whnf))
    repeat ((with_reducible apply stepS); (· conv => whnf))
    apply endS
    apply retC
    conv => whnf
    exact ⟨rfl, rfl⟩
  · have hl3 : l.length ≤ 3000 := by have := of_decide_eq_false hlt; omega
    obtain ⟨p, e, a, hf, h1, h2⟩ := both_ct l (by omega)
    have h3 := sameP_self hf
    obtain ⟨ds, bs⟩ := p
    generalize ofL l = s at hlt h1 h2
    apply evF_of rfl
    apply seqC
    apply regL
    repeat ((with_reducible apply stepS); (· conv => whnf))
    apply endS; apply seqC; apply seqC; apply regL
    repeat ((with_reducible apply stepS); (· conv => whnf))
    rw [hlt]
    apply endS
    apply condF; (· (conv => whnf); try rfl)
    apply skipC
    apply seqC
    apply regL
    repeat ((with_reducible apply stepS); (· conv => whnf))
    apply stepS; (· (conv => whnf); refine ⟨_, _, h1, ?_⟩; (conv => whnf))
    repeat ((with_reducible apply stepS); (· conv => whnf))
    apply endS; apply seqC; apply regL
    repeat ((with_reducible apply stepS); (· conv => whnf))
    apply stepS; (· (conv => whnf); refine ⟨_, _, h2, ?_⟩; (conv => whnf))
    repeat ((with_reducible apply stepS); (· conv => whnf))
    apply endS
    apply seqC
    apply regDL
    repeat ((with_reducible apply stepD); (· (conv => whnf); refine ⟨⟨rfl, rfl⟩, ?_⟩; (conv => whnf)))
    apply stepD; (· (conv => whnf); refine ⟨_, _, h3, ?_⟩; (conv => whnf); refine ⟨⟨rfl, rfl⟩, ?_⟩; (conv => whnf))
    repeat ((with_reducible apply stepD); (· (conv => whnf); refine ⟨⟨rfl, rfl⟩, ?_⟩; (conv => whnf)))
    apply stepD; (· (conv => whnf); refine ⟨_, _, num_ct e, ?_⟩; (conv => whnf); refine ⟨⟨rfl, rfl⟩, ?_⟩; (conv => whnf))
    repeat ((with_reducible apply stepD); (· (conv => whnf); refine ⟨⟨rfl, rfl⟩, ?_⟩; (conv => whnf)))
    rw [dI]
    repeat ((with_reducible apply stepD); (· (conv => whnf); refine ⟨⟨rfl, rfl⟩, ?_⟩; (conv => whnf)))
    rw [dI]
    repeat ((with_reducible apply stepD); (· (conv => whnf); refine ⟨⟨rfl, rfl⟩, ?_⟩; (conv => whnf)))
    apply stepD; (· (conv => whnf); refine ⟨_, _, awake_ct, ?_⟩; (conv => whnf); refine ⟨⟨rfl, rfl⟩, ?_⟩; (conv => whnf))
    repeat ((with_reducible apply stepD); (· (conv => whnf); refine ⟨⟨rfl, rfl⟩, ?_⟩; (conv => whnf)))
    apply endD; (· exact apart_of (by kernel_rfl))
    apply retC
    conv => whnf
    exact ⟨rfl, rfl⟩
end Go.Proofs.YtoapgongbackaaaDoor.V

/-! X2: arguments that are numbers, or rows of numbers. -/
namespace Go.Proofs.YtoapgongbackaaaDoor.V
open Go Go.Proofs
open Go.ChangeShapes Go.WideShapes Go.ChangeAt Go.RowKit
set_option maxRecDepth 100000

theorem laidOut : laidOutB Tryd.prog = true := by kernel_rfl
theorem und36 : Tryd.prog.underlying 36 = some (.slice 38) := by kernel_rfl
theorem und37 : Tryd.prog.underlying 37 = some (.int .u16) := by kernel_rfl
theorem und38 : Tryd.prog.underlying 38 = some (.slice 5) := by kernel_rfl
theorem szOf38 : Tryd.prog.cellsOf 38 = 1 := by kernel_rfl
theorem szOf5 : Tryd.prog.cellsOf 5 = 1 := by kernel_rfl
/-- Every cell that is there. -/
def HA (W : World) : Fz := fun b i => W.cell? ⟨b, i, none⟩
theorem ha_ok (W : World) : FzOk (HA W) W := fun _ _ _ h => h
theorem hg_ha (W : World) : Fz.le (HG W) (HA W) := fun b i v h => hg_ok W b i v h
theorem u8_byte {n : Int} (h : (Lit.int .u8 n).wf = true) : (((UInt8.ofNat n.toNat).toNat : Nat) : Int) = n := by
  obtain ⟨h1, h2⟩ := u8_wf h
  rw [UInt8.toNat_ofNat']
  have : n.toNat % 2 ^ 8 = n.toNat := Nat.mod_eq_of_lt (by omega)
  rw [this]
  omega
theorem u16_wf {n : Int} (h : (Lit.int .u16 n).wf = true) : 0 ≤ n ∧ n < 65536 := by
  have h1 : IntKind.u16.min = 0 := by kernel_rfl
  have h2 : IntKind.u16.max = 65535 := by kernel_rfl
  simp only [Lit.wf] at h
  simp at h
  omega
theorem bytC_flat (ns : List UInt8) : (bytC ns).flatten = ns.map fun b => AC.v (.int .u8 (b.toNat : Int)) := by
  induction ns with
  | nil => rfl
  | cons b t ih =>
    show [AC.v (.int .u8 (b.toNat : Int))] ++ (bytC t).flatten = _
    rw [ih]; rfl
/-- A row of numbers. -/
theorem ints_ac {W : World} {A : Option Addr} {L C : Nat} {Z : List Int} (hLC : L ≤ C) (hZ : Z.length = C) (hw : ∀ n ∈ Z, (Lit.int .u8 n).wf = true) (hA : A = none → C = 0)
    (hc : ∀ a', A = some a' → ∀ c, c < C → W.cell? (a'.add c) = some (.int .u8 (Z.getD c 0))) :
    ACr Con.no (HA W) (.sl 5 1 (bytC ((Z.take L).map fun n => UInt8.ofNat n.toNat)) none) (.slice A L C) := by
  by_cases h0 : L = 0
  · subst h0
    exact .nil _ _ _ _ _ (TokOk.none _ _)
  · cases A with
    | none => have := hA rfl; omega
    | some a =>
      obtain ⟨b, off, rfl, hcell⟩ := ints_at (zs := Z) (fun i hi => hc a rfl i (by omega)) (by omega)
      have hlen : ((Z.take L).map fun n => UInt8.ofNat n.toNat).length = L := by simp only [List.length_map, List.length_take]; omega
      have := ACr.sl (κ := Con.no) (H := HA W) 5 1 (bytC ((Z.take L).map fun n => UInt8.ofNat n.toNat)) none b off C ((Z.take L).map (.int .u8 ·))
        (by rw [bytC_len, hlen]; exact hLC) (by
          intro x hx
          obtain ⟨b, -, rfl⟩ := List.mem_map.1 hx
          rfl) (by rw [bytC_flat]; simp only [List.length_map]) ?_ ?_ (TokOk.none _ _)
      · rw [bytC_len, hlen] at this
        exact this
      · intro k u hk
        rw [List.getElem?_map, Option.map_eq_some_iff] at hk
        obtain ⟨n, hn, rfl⟩ := hk
        rw [List.getElem?_take] at hn
        split at hn
        · show W.cell? ⟨b, off + k, none⟩ = _
          have hkl : k < Z.length := (List.getElem?_eq_some_iff.1 hn).1
          rw [hcell k hkl, List.getD, hn]
          rfl
        · cases hn
      · intro k c u hc' hu
        rw [bytC_flat, List.map_map, List.getElem?_map, Option.map_eq_some_iff] at hc'
        rw [List.getElem?_map, Option.map_eq_some_iff] at hu
        obtain ⟨n, hn, rfl⟩ := hc'
        obtain ⟨m, hm, rfl⟩ := hu
        obtain rfl := Option.some.inj (hn.symm.trans hm)
        have hmem : n ∈ Z := List.mem_of_mem_take (List.mem_of_getElem? hn)
        simp only [Function.comp_apply, u8_byte (hw n hmem)]
        exact .v _ rfl

section
variable {H : Type} {enc : TypeId × Value → H} {W : World}
/-- An argument that is numbers. -/
theorem bytes_arg {base : Nat} {v : Value} {d : DataW H} {p : List MemPlace} (hv : Value.okWide Tryd.prog W .any base 38 v) (h : DataW.Trod enc Tryd.prog W 0 (fun _ => true) true 38 v d p) : ∃ ns : List UInt8, ACr Con.no (HA W) (.sl 5 1 (bytC ns) none) v := by
  obtain ⟨a0, len0, cap0, rfl⟩ := okWide_slice und38 hv
  obtain ⟨fuel, hf⟩ := h
  rcases open_ints und38 und5 szOf5 hf with ⟨hcs, _⟩ | ⟨x, l, c, zs, hcs, _, hl, hm, hz, _, hcell, hwz⟩
  · simp [Value.cells] at hcs
    obtain ⟨rfl, rfl, rfl⟩ := hcs
    exact ⟨[], .nil _ _ _ _ _ (TokOk.none _ _)⟩
  · simp [Value.cells] at hcs
    obtain ⟨rfl, rfl, rfl⟩ := hcs
    have hz : zs.length = cap0 := by simpa using hz
    exact ⟨_, ints_ac hl hz hwz (fun h => by cases h) fun a' e c hc => by cases e; exact hcell c (by omega)⟩
/-- An argument that is rows of numbers. -/
theorem rows_arg {base : Nat} {v : Value} {d : DataW H} {p : List MemPlace} (hv : Value.okWide Tryd.prog W .any base 36 v) (h : DataW.Trod enc Tryd.prog W 0 (fun _ => true) true 36 v d p) : ∃ l : List (List UInt8), ACr Con.no (HA W) (.sl 38 1 (rowsC l) none) v := by
  obtain ⟨a0, len0, cap0, rfl⟩ := okWide_slice und36 hv
  obtain ⟨fuel, hf⟩ := h
  rcases Go.Deep.open_int_rows und36 und38 und5 szOf38 szOf5 hf with ⟨hcs, _⟩ | ⟨a, len, cap, A, L, C, Z, hcs, _, hl, hm, _, hrow⟩
  · simp [Value.cells] at hcs
    obtain ⟨rfl, rfl, rfl⟩ := hcs
    exact ⟨[], .nil _ _ _ _ _ (TokOk.none _ _)⟩
  · simp [Value.cells] at hcs
    obtain ⟨rfl, rfl, rfl⟩ := hcs
    let l : List (List UInt8) := (List.range len0).map fun r => ((Z r).take (L r)).map fun n => UInt8.ofNat n.toNat
    refine ⟨l, ?_⟩
    have hll : l.length = len0 := by simp [l]
    by_cases h0 : len0 = 0
    · subst h0
      exact .nil _ _ _ _ _ (TokOk.none _ _)
    · obtain ⟨b, off, spot⟩ := a
      have hspot : spot = none := by
        have := (hrow 0 (by omega)).1
        simpa [Addr.add] using World.cell?_spot this
      subst hspot
      have hfl : (rowsC l).flatten = l.map fun ns => AC.sl 5 1 (bytC ns) none := by
        generalize l = m
        induction m with
        | nil => rfl
        | cons ns m ih =>
          show [AC.sl 5 1 (bytC ns) none] ++ (rowsC m).flatten = _
          rw [ih]; rfl
      have := ACr.sl (κ := Con.no) (H := HA W) 38 1 (rowsC l) none b off cap0 ((List.range len0).map fun r => .slice (A r) (L r) (C r))
        (by rw [rowsC_len, hll]; exact hl) (by
          intro x hx
          obtain ⟨b, -, rfl⟩ := List.mem_map.1 hx
          rfl) (by rw [hfl]; simp [l]) ?_ ?_ (TokOk.none _ _)
      · rw [rowsC_len, hll] at this
        exact this
      · intro k u hk
        rw [List.getElem?_map, Option.map_eq_some_iff] at hk
        obtain ⟨r, hr, rfl⟩ := hk
        obtain ⟨hk1, hk2⟩ := List.getElem?_eq_some_iff.1 hr
        simp only [List.length_range] at hk1
        simp only [List.getElem_range] at hk2
        subst hk2
        show W.cell? ⟨b, off + k, none⟩ = _
        rw [← add_plain]
        exact (hrow k (by omega)).1
      · intro k c u hc' hu
        rw [hfl, List.getElem?_map, Option.map_eq_some_iff] at hc'
        rw [List.getElem?_map, Option.map_eq_some_iff] at hu
        obtain ⟨ns, hn, rfl⟩ := hc'
        obtain ⟨r, hr, rfl⟩ := hu
        have hn : ((List.range len0).map fun r => ((Z r).take (L r)).map fun n => UInt8.ofNat n.toNat)[k]? = some ns := hn
        rw [List.getElem?_map, hr] at hn
        cases hn
        obtain ⟨hk1, hk2⟩ := List.getElem?_eq_some_iff.1 hr
        simp only [List.length_range] at hk1
        simp only [List.getElem_range] at hk2
        subst hk2
        obtain ⟨_, q1, q2, q3, q4, q5, q6⟩ := hrow k (by omega)
        exact ints_ac q1 q3 q4 q5 fun a' e c hc => (q6 a' e).2 c hc
theorem below_of {H H' : Fz} {w w' : World} {xs : List Arg} {us : List Value} {rs : List Res} {css : List (List AC)} {v : Value} (h : CPost H w xs us rs css v H' w') (hb : blocksOf xs us = []) : Below w.heap.size w w' :=
  ⟨h.os, h.tape, h.output, h.grown, fun k hk => heap_of h hb hk⟩
theorem lt_of {t : TypeId} {v : Value} {d : DataW H} {p : List MemPlace} (h : DataW.Trod enc Tryd.prog W 0 (fun _ => true) true t v d p) : ∀ x ∈ p, x.block < W.heap.size := by
  obtain ⟨m, hm⟩ := h
  exact DataW.trod_lt m _ _ _ hm
end
end Go.Proofs.YtoapgongbackaaaDoor.V

/-! G8: names ahead of the sign are functions: the texts and what they are. -/
namespace Go.Proofs.YtoapgongbackaaaDoor.V
open Go Go.Proofs
open Go.Proofs.YtoapgongbackaaaDoor.Lx
set_option maxRecDepth 100000

theorem IsE.app4 {b1 b2 b3 b4 : List Bt} {T1 T2 T3 T4 : Exp} (h1 : IsA b1 T1) (h2 : IsA b2 T2) (h3 : IsA b3 T3) (h4 : IsA b4 T4) : IsE (b1 ++ b2 ++ b3 ++ b4) (.mk 5 0 .empty 0 [.mk 5 0 .empty 0 [.mk 5 0 .empty 0 [T1, T2] [], T3] [], T4] []) := fun l m hl hm hlen => by
  obtain ⟨l123, l4, rfl, hl123, hl4⟩ := mapa hl
  obtain ⟨l12, l3, rfl, hl12, hl3⟩ := mapa hl123
  obtain ⟨l1, l2, rfl, hl1, hl2⟩ := mapa hl12
  have e1 : l1 ++ l2 ++ l3 ++ l4 ++ m = l1 ++ (l2 ++ (l3 ++ (l4 ++ m))) := by simp
  rw [e1] at hlen ⊢
  obtain ⟨k1, q1, g1⟩ := h1.run l1 (l2 ++ (l3 ++ (l4 ++ m))) hl1 (by simp [hm.ne]) hlen
  obtain ⟨k2, q2, g2⟩ := h2.app l2 (l3 ++ (l4 ++ m)) hl2 (by simp [hm.ne]) (by simp only [List.length_append] at hlen ⊢; omega)
  obtain ⟨k3, q3, g3⟩ := h3.app l3 (l4 ++ m) hl3 (by simp [hm.ne]) (by simp only [List.length_append] at hlen ⊢; omega)
  obtain ⟨k4, q4, g4⟩ := h4.app l4 m hl4 hm.ne (by simp only [List.length_append] at hlen ⊢; omega)
  refine ⟨k1 + k2 + k3 + k4 + 5, by simp only [List.length_append] at *; omega, fun k hk => ?_⟩
  obtain ⟨k, rfl⟩ : ∃ j, k = j + 5 := ⟨k - 5, by omega⟩
  obtain ⟨e, hT, he⟩ := g1 (k + 4) (by omega)
  obtain ⟨a, hU, ha⟩ := g2 (k + 3) (by omega)
  obtain ⟨b, hV, hb⟩ := g3 (k + 2) (by omega)
  obtain ⟨c, hW, hc⟩ := g4 (k + 1) (by omega)
  refine ⟨_, by rw [he, ha, hb, hc, app_end hm], ?_⟩
  simp only [bareE, bareEs, bareAs, hT, hU, hV, hW]
/-- The pairs of texts. -/
def sugR (e : ByteArray) : List (ByteArray × ByteArray) := [(⟨#[108, 101, 116, 32, 102, 32, 120, 32, 121, 32, 61, 32]⟩ ++ e ++ ⟨#[59]⟩, ⟨#[108, 101, 116, 32, 102, 32, 61, 32, 92, 120, 32, 45, 62, 32, 92, 121, 32, 45, 62, 32]⟩ ++ e ++ ⟨#[59]⟩), (⟨#[108, 101, 116, 32, 102, 32, 61, 32, 92, 120, 32, 121, 32, 45, 62, 32]⟩ ++ e ++ ⟨#[59]⟩, ⟨#[108, 101, 116, 32, 102, 32, 61, 32, 92, 120, 32, 45, 62, 32, 40, 92, 121, 32, 45, 62, 32, 40]⟩ ++ e ++ ⟨#[41, 41, 59]⟩), (⟨#[108, 101, 116, 32, 102, 32, 61, 32, 108, 101, 116, 32, 103, 32, 120, 32, 61, 32, 120, 32, 105, 110, 32]⟩ ++ e ++ ⟨#[59]⟩, ⟨#[108, 101, 116, 32, 102, 32, 61, 32, 108, 101, 116, 32, 103, 32, 61, 32, 92, 120, 32, 45, 62, 32, 120, 32, 105, 110, 32]⟩ ++ e ++ ⟨#[59]⟩), (⟨#[108, 101, 116, 32, 102, 32, 61, 32, 97, 32, 98, 32, 99, 32, 40]⟩ ++ e ++ ⟨#[41, 59]⟩, ⟨#[108, 101, 116, 32, 102, 32, 61, 32, 40, 40, 97, 32, 98, 41, 32, 99, 41, 32, 40]⟩ ++ e ++ ⟨#[41, 59]⟩), (⟨#[100, 97, 116, 97, 32, 68, 32, 97, 32, 61, 32, 69, 32, 97, 32, 73, 110, 116, 59]⟩, ⟨#[100, 97, 116, 97, 32, 68, 32, 97, 32, 61, 32, 69, 32, 40, 97, 41, 32, 40, 73, 110, 116, 41, 59]⟩), (⟨#[100, 97, 116, 97, 32, 68, 32, 97, 32, 98, 32, 61, 32, 69, 32, 40, 97, 32, 45, 62, 32, 98, 32, 45, 62, 32, 73, 110, 116, 41, 59]⟩, ⟨#[100, 97, 116, 97, 32, 68, 32, 97, 32, 98, 32, 61, 32, 69, 32, 40, 97, 32, 45, 62, 32, 40, 98, 32, 45, 62, 32, 73, 110, 116, 41, 41, 59]⟩)]
structure Sug (e : ByteArray) (i : Nat) (w0 w1 : List UInt8) (p q : ProgD) : Prop where
  row : (sugR e)[i]? = some (ofL w0, ofL w1)
  len0 : w0.length ≤ 65536
  len1 : w1.length ≤ 65536
  run0 : ∃ k, k ≤ 4294967290 ∧ parseK k w0 = some (p, 0, 0)
  run1 : ∃ k, k ≤ 4294967290 ∧ parseK k w1 = some (q, 0, 0)
  same : bareP q = bareP p
theorem sug_of {e : ByteArray} {i : Nat} {w0 w1 : List UInt8} {n ns b0 ms b1 T0 T1 d0 d1} (row : (sugR e)[i]? = some (ofL w0, ofL w1)) (l0 : w0.length ≤ 65536) (l1 : w1.length ≤ 65536)
    (x0 : LxT true w0 (letB n ns b0)) (x1 : LxT true w1 (letB n ms b1)) (h0 : IsE b0 T0) (h1 : IsE b1 T1) (p0 : Dp T0 d0) (p1 : Dp T1 d1) (q0 : d0 + ns.length ≤ 60) (q1 : d1 + ms.length ≤ 60)
    (hs : lamB (ns.map ofL) T0 = lamB (ms.map ofL) T1) : ∃ w0 w1 p q, Sug e i w0 w1 p q := by
  obtain ⟨a, ha, na, ta⟩ := one_let x0 h0 p0 q0 l0
  obtain ⟨b, hb, nb, tb⟩ := one_let x1 h1 p1 q1 l1
  exact ⟨w0, w1, _, _, row, l0, l1, ⟨_, by decide, ha⟩, ⟨_, by decide, hb⟩, by simp only [bareP, List.map_cons, List.map_nil, bareB, na, nb, ta, tb, hs]⟩
def tInt : Ty := .mk 2 0 ⟨#[73, 110, 116]⟩ []
def tV (n : Int) : Ty := .mk 1 n .empty []
def tArr (a b : Ty) : Ty := .mk 2 0 ⟨#[45, 62]⟩ [a, b]
theorem app_e {E pre post : List UInt8} {b1 b2 bl : List Bt} (h1 : LxT true pre b1) (h : LxT false E bl) (h2 : LxT true post b2) (hs : ∃ c t, post = c :: t ∧ isRest c = false) : LxT true (pre ++ E ++ post) (b1 ++ bl ++ b2) := (h1.app h (fun h => by cases h)).app h2 (fun _ => hs)
theorem sug {T : Exp} {E : List UInt8} (hx : XE T E) (hd : Dp T 25) (hE : E.length ≤ 60000) : ∀ i : Nat, i < 6 → ∃ w0 w1 p q, Sug (ofL E) i w0 w1 p q := by
  obtain ⟨bl, lx, h⟩ := hx
  intro i hi
  match i, hi with
  | 0, _ =>
    have g0 := h
    have g1 := IsE.lam [120] [] (IsE.lam [121] [] h)
    have x0 := app_e (goCh_lx (cs := [[108, 101, 116], [32], [102], [32], [120], [32], [121], [32], [61], [32]]) (c := true) (bl := [kLet, nmB [102], nmB [120], nmB [121], bQ]) (by kernel_rfl)) lx (goCh_lx (cs := [[59]]) (c := true) (bl := [bS]) (by kernel_rfl)) ⟨_, _, rfl, by decide⟩
    have x1 := app_e (goCh_lx (cs := [[108, 101, 116], [32], [102], [32], [61], [32], [92], [120], [32], [45, 62], [32], [92], [121], [32], [45, 62], [32]]) (c := true) (bl := [kLet, nmB [102], bQ, bB, nmB [120], bA, bB, nmB [121], bA]) (by kernel_rfl)) lx (goCh_lx (cs := [[59]]) (c := true) (bl := [bS]) (by kernel_rfl)) ⟨_, _, rfl, by decide⟩
    refine sug_of (w0 := ([108, 101, 116, 32, 102, 32, 120, 32, 121, 32, 61, 32] ++ E ++ [59])) (w1 := ([108, 101, 116, 32, 102, 32, 61, 32, 92, 120, 32, 45, 62, 32, 92, 121, 32, 45, 62, 32] ++ E ++ [59])) (n := [102]) (ns := [[120], [121]]) (ms := []) ?_ ?_ ?_ ?_ ?_ g0 g1 hd (Dp.lamB (Dp.lamB hd [ofL [121]] (by decide)) [ofL [120]] (by decide)) (by decide) (by decide) rfl
    · simp only [mk_ofL, ofL_append, sugR]; rfl
    · simp only [List.length_append, List.length_cons, List.length_nil]; omega
    · simp only [List.length_append, List.length_cons, List.length_nil]; omega
    · simpa only [letB, nmB, List.flatten_cons, List.flatten_nil, List.map_cons, List.map_nil, List.append_assoc, List.cons_append, List.nil_append] using x0
    · simpa only [letB, nmB, List.flatten_cons, List.flatten_nil, List.map_cons, List.map_nil, List.append_assoc, List.cons_append, List.nil_append] using x1
  | 1, _ =>
    have g0 := IsE.lam [120] [[121]] h
    have g1 := IsE.lam [120] [] (.atom (.par (IsE.lam [121] [] (.atom (.par h)))))
    have x0 := app_e (goCh_lx (cs := [[108, 101, 116], [32], [102], [32], [61], [32], [92], [120], [32], [121], [32], [45, 62], [32]]) (c := true) (bl := [kLet, nmB [102], bQ, bB, nmB [120], nmB [121], bA]) (by kernel_rfl)) lx (goCh_lx (cs := [[59]]) (c := true) (bl := [bS]) (by kernel_rfl)) ⟨_, _, rfl, by decide⟩
    have x1 := app_e (goCh_lx (cs := [[108, 101, 116], [32], [102], [32], [61], [32], [92], [120], [32], [45, 62], [32], [40], [92], [121], [32], [45, 62], [32], [40]]) (c := true) (bl := [kLet, nmB [102], bQ, bB, nmB [120], bA, bL, bB, nmB [121], bA, bL]) (by kernel_rfl)) lx (goCh_lx (cs := [[41], [41], [59]]) (c := true) (bl := [bR, bR, bS]) (by kernel_rfl)) ⟨_, _, rfl, by decide⟩
    refine sug_of (w0 := ([108, 101, 116, 32, 102, 32, 61, 32, 92, 120, 32, 121, 32, 45, 62, 32] ++ E ++ [59])) (w1 := ([108, 101, 116, 32, 102, 32, 61, 32, 92, 120, 32, 45, 62, 32, 40, 92, 121, 32, 45, 62, 32, 40] ++ E ++ [41, 41, 59])) (n := [102]) (ns := []) (ms := []) ?_ ?_ ?_ ?_ ?_ g0 g1 (Dp.lamB hd [ofL [120], ofL [121]] (by decide)) (Dp.lamB (Dp.lamB hd [ofL [121]] (by decide)) [ofL [120]] (by decide)) (by decide) (by decide) rfl
    · simp only [mk_ofL, ofL_append, sugR]; rfl
    · simp only [List.length_append, List.length_cons, List.length_nil]; omega
    · simp only [List.length_append, List.length_cons, List.length_nil]; omega
    · simpa only [letB, nmB, List.flatten_cons, List.flatten_nil, List.map_cons, List.map_nil, List.append_assoc, List.cons_append, List.nil_append] using x0
    · simpa only [letB, nmB, List.flatten_cons, List.flatten_nil, List.map_cons, List.map_nil, List.append_assoc, List.cons_append, List.nil_append] using x1
  | 2, _ =>
    have g0 := IsE.let [103] [[120]] (.atom (.name [120])) h
    have g1 := IsE.let [103] [] (IsE.lam [120] [] (.atom (.name [120]))) h
    have x0 := app_e (goCh_lx (cs := [[108, 101, 116], [32], [102], [32], [61], [32], [108, 101, 116], [32], [103], [32], [120], [32], [61], [32], [120], [32], [105, 110], [32]]) (c := true) (bl := [kLet, nmB [102], bQ, kLet, nmB [103], nmB [120], bQ, nmB [120], kIn]) (by kernel_rfl)) lx (goCh_lx (cs := [[59]]) (c := true) (bl := [bS]) (by kernel_rfl)) ⟨_, _, rfl, by decide⟩
    have x1 := app_e (goCh_lx (cs := [[108, 101, 116], [32], [102], [32], [61], [32], [108, 101, 116], [32], [103], [32], [61], [32], [92], [120], [32], [45, 62], [32], [120], [32], [105, 110], [32]]) (c := true) (bl := [kLet, nmB [102], bQ, kLet, nmB [103], bQ, bB, nmB [120], bA, nmB [120], kIn]) (by kernel_rfl)) lx (goCh_lx (cs := [[59]]) (c := true) (bl := [bS]) (by kernel_rfl)) ⟨_, _, rfl, by decide⟩
    refine sug_of (w0 := ([108, 101, 116, 32, 102, 32, 61, 32, 108, 101, 116, 32, 103, 32, 120, 32, 61, 32, 120, 32, 105, 110, 32] ++ E ++ [59])) (w1 := ([108, 101, 116, 32, 102, 32, 61, 32, 108, 101, 116, 32, 103, 32, 61, 32, 92, 120, 32, 45, 62, 32, 120, 32, 105, 110, 32] ++ E ++ [59])) (n := [102]) (ns := []) (ms := []) ?_ ?_ ?_ ?_ ?_ g0 g1 (Dp.mk (n := 25) (by decide) (two_mem ((Dp.lamB (leaf_dp 1 0 (ofL [120])) [ofL [120]] (by decide)).mono (by decide)) hd) no_alt) (Dp.mk (n := 25) (by decide) (two_mem ((Dp.lamB (leaf_dp 1 0 (ofL [120])) [ofL [120]] (by decide)).mono (by decide)) hd) no_alt) (by decide) (by decide) rfl
    · simp only [mk_ofL, ofL_append, sugR]; rfl
    · simp only [List.length_append, List.length_cons, List.length_nil]; omega
    · simp only [List.length_append, List.length_cons, List.length_nil]; omega
    · simpa only [letB, nmB, List.flatten_cons, List.flatten_nil, List.map_cons, List.map_nil, List.append_assoc, List.cons_append, List.nil_append] using x0
    · simpa only [letB, nmB, List.flatten_cons, List.flatten_nil, List.map_cons, List.map_nil, List.append_assoc, List.cons_append, List.nil_append] using x1
  | 3, _ =>
    have g0 := IsE.app4 (.name [97]) (.name [98]) (.name [99]) (.par h)
    have g1 := IsE.app2 (.par (IsE.app2 (.par (IsE.app2 (.name [97]) (.name [98]))) (.name [99]))) (.par h)
    have x0 := app_e (goCh_lx (cs := [[108, 101, 116], [32], [102], [32], [61], [32], [97], [32], [98], [32], [99], [32], [40]]) (c := true) (bl := [kLet, nmB [102], bQ, nmB [97], nmB [98], nmB [99], bL]) (by kernel_rfl)) lx (goCh_lx (cs := [[41], [59]]) (c := true) (bl := [bR, bS]) (by kernel_rfl)) ⟨_, _, rfl, by decide⟩
    have x1 := app_e (goCh_lx (cs := [[108, 101, 116], [32], [102], [32], [61], [32], [40], [40], [97], [32], [98], [41], [32], [99], [41], [32], [40]]) (c := true) (bl := [kLet, nmB [102], bQ, bL, bL, nmB [97], nmB [98], bR, nmB [99], bR, bL]) (by kernel_rfl)) lx (goCh_lx (cs := [[41], [59]]) (c := true) (bl := [bR, bS]) (by kernel_rfl)) ⟨_, _, rfl, by decide⟩
    refine sug_of (w0 := ([108, 101, 116, 32, 102, 32, 61, 32, 97, 32, 98, 32, 99, 32, 40] ++ E ++ [41, 59])) (w1 := ([108, 101, 116, 32, 102, 32, 61, 32, 40, 40, 97, 32, 98, 41, 32, 99, 41, 32, 40] ++ E ++ [41, 59])) (n := [102]) (ns := []) (ms := []) ?_ ?_ ?_ ?_ ?_ g0 g1 (Dp.mk (k := 5) (a := 0) (m := 0) (s := .empty) (al := []) (n := 25) (by decide) (two_mem ((Dp.mk (k := 5) (a := 0) (m := 0) (s := .empty) (al := []) (n := 2) (by decide) (two_mem (Dp.mk (k := 5) (a := 0) (m := 0) (s := .empty) (al := []) (n := 1) (by decide) (two_mem (leaf_dp 1 0 (ofL [97])) (leaf_dp 1 0 (ofL [98]))) no_alt) ((leaf_dp 1 0 (ofL [99])).mono (by decide))) no_alt).mono (by decide)) hd) no_alt) (Dp.mk (k := 5) (a := 0) (m := 0) (s := .empty) (al := []) (n := 25) (by decide) (two_mem ((Dp.mk (k := 5) (a := 0) (m := 0) (s := .empty) (al := []) (n := 2) (by decide) (two_mem (Dp.mk (k := 5) (a := 0) (m := 0) (s := .empty) (al := []) (n := 1) (by decide) (two_mem (leaf_dp 1 0 (ofL [97])) (leaf_dp 1 0 (ofL [98]))) no_alt) ((leaf_dp 1 0 (ofL [99])).mono (by decide))) no_alt).mono (by decide)) hd) no_alt) (by decide) (by decide) rfl
    · simp only [mk_ofL, ofL_append, sugR]; rfl
    · simp only [List.length_append, List.length_cons, List.length_nil]; omega
    · simp only [List.length_append, List.length_cons, List.length_nil]; omega
    · simpa only [letB, nmB, List.flatten_cons, List.flatten_nil, List.map_cons, List.map_nil, List.append_assoc, List.cons_append, List.nil_append] using x0
    · simpa only [letB, nmB, List.flatten_cons, List.flatten_nil, List.map_cons, List.map_nil, List.append_assoc, List.cons_append, List.nil_append] using x1
  | 4, _ =>
    refine ⟨[100, 97, 116, 97, 32, 68, 32, 97, 32, 61, 32, 69, 32, 97, 32, 73, 110, 116, 59], [100, 97, 116, 97, 32, 68, 32, 97, 32, 61, 32, 69, 32, 40, 97, 41, 32, 40, 73, 110, 116, 41, 59], ⟨[⟨⟨#[68]⟩, 5, [⟨#[97]⟩], [⟨⟨#[69]⟩, 11, [tV 0, tInt]⟩]⟩], []⟩, ⟨[⟨⟨#[68]⟩, 5, [⟨#[97]⟩], [⟨⟨#[69]⟩, 11, [tV 0, tInt]⟩]⟩], []⟩, rfl, by decide, by decide, ⟨100, by decide, by kernel_rfl⟩, ⟨100, by decide, by kernel_rfl⟩, rfl⟩
  | 5, _ =>
    refine ⟨[100, 97, 116, 97, 32, 68, 32, 97, 32, 98, 32, 61, 32, 69, 32, 40, 97, 32, 45, 62, 32, 98, 32, 45, 62, 32, 73, 110, 116, 41, 59], [100, 97, 116, 97, 32, 68, 32, 97, 32, 98, 32, 61, 32, 69, 32, 40, 97, 32, 45, 62, 32, 40, 98, 32, 45, 62, 32, 73, 110, 116, 41, 41, 59], ⟨[⟨⟨#[68]⟩, 5, [⟨#[97]⟩, ⟨#[98]⟩], [⟨⟨#[69]⟩, 13, [tArr (tV 0) (tArr (tV 1) tInt)]⟩]⟩], []⟩, ⟨[⟨⟨#[68]⟩, 5, [⟨#[97]⟩, ⟨#[98]⟩], [⟨⟨#[69]⟩, 13, [tArr (tV 0) (tArr (tV 1) tInt)]⟩]⟩], []⟩, rfl, by decide, by decide, ⟨100, by decide, by kernel_rfl⟩, ⟨100, by decide, by kernel_rfl⟩, rfl⟩
  | i + 6, h => exact absurd h (by omega)
end Go.Proofs.YtoapgongbackaaaDoor.V

/-! Z6: ParseSugar. -/
namespace Go.Proofs.YtoapgongbackaaaDoor.V
open Go Go.Proofs
open Go.Proofs.YtoapgongbackaaaDoor.Lx
set_option maxRecDepth 100000

set_option maxHeartbeats 16000000 in
theorem parseSugar_ct (ns : List UInt8) (n : Nat) (hn : n < 256) : Ct 6 [.val (bytA ns), .val (.one (.v (.int .u8 (n : Int))))] [.val (.one (.v (.bool true)))] [] := by
  have hln := bytC_len ns
  refine ct Tryd.func6 (by kernel_rfl) ?_
  apply evF_of rfl
  apply seqC
  apply regL
  repeat ((with_reducible apply stepS); (· conv => whnf))
  apply endS
  apply seqC
  apply seqC
  apply regL
  repeat ((with_reducible apply stepS); (· conv => whnf))
  cases hbig : decide ((30 : Int) < ((bytC ns).length : Int))
  rotate_left
  · apply endS
    apply condT; (· (conv => whnf); try rfl)
    apply seqC
    apply regL
    apply stepS; (· (conv => whnf); refine ⟨_, _, awake_ct, ?_⟩; (conv => whnf))
    repeat ((with_reducible apply stepS); (· conv => whnf))
    apply endS
    apply retC
    conv => whnf
    exact ⟨rfl, rfl⟩
  apply endS
  apply condF; (· (conv => whnf); try rfl)
  apply skipC
  have hns : ns.length ≤ 30 := by have := of_decide_eq_false hbig; omega
  have hE := Expr_ct ns (by omega)
  obtain ⟨bl, T, hlx, hie, hdp⟩ := ExprG_ge ns
  have hxe : XE T (ExprG ns) := ⟨bl, hlx, hie⟩
  have hel := ExprG_len2 ns
  generalize ExprG ns = E at hE hxe hel
  clear hlx hie
  obtain ⟨w0, w1, p, q, hs⟩ := sug hxe hdp (by omega) (n % 6) (Nat.mod_lt _ (by decide))
  obtain ⟨k0, hk0, hr0⟩ := hs.run0
  obtain ⟨k1, hk1, hr1⟩ := hs.run1
  have c1 := parse_ct2 hk0 hs.len0 hr0
  have c2 := parse_ct2 hk1 hs.len1 hr1
  have f1 := parse_fine hk0 hr0
  have f2 := parse_fine hk1 hr1
  have r1 := bareP_ct f1
  have r2 := bareP_ct f2
  rw [hs.same] at r2
  have h3 := sameP_self (bareP_fine f1)
  generalize bareP p = P at r1 r2 h3
  have hK : Int.tmod (IntKind.i64.wrap (n : Int)) ((6 : Nat) : Int) = ((n % 6 : Nat) : Int) := by rw [i64_nat (by omega)]; rfl
  have hrow : ∀ j : Int, j = ((n % 6 : Nat) : Int) → 0 ≤ j ∧ ((sugR (ofL E)).map fun p => [AC.v (.string p.1), AC.v (.string p.2)])[j.toNat]? = some [.v (.string (ofL w0)), .v (.string (ofL w1))] := fun j hj => by
    subst hj
    refine ⟨by omega, ?_⟩
    rw [Int.toNat_natCast, List.getElem?_map, hs.row]
    rfl
  clear hs hr0 hr1 f1 f2
  obtain ⟨ds, bs⟩ := P
  obtain ⟨ds1, bs1⟩ := p
  obtain ⟨ds2, bs2⟩ := q
  apply seqC
  apply regL
  repeat ((with_reducible apply stepS); (· conv => whnf))
  apply stepS; (· (conv => whnf); refine ⟨_, _, hE, ?_⟩; (conv => whnf))
  repeat ((with_reducible apply stepS); (· conv => whnf))
  apply endS; apply seqC; apply regL
  apply stepS
  · conv => whnf
  apply stepS; (· (conv => whnf); refine ⟨(by (simp only [ByteArray.size_append, mk_size, ofL_size, List.length_cons, List.length_nil]; omega)), ?_⟩; (conv => whnf))
  apply stepS; (· (conv => whnf); refine ⟨(by (simp only [ByteArray.size_append, mk_size, ofL_size, List.length_cons, List.length_nil]; omega)), ?_⟩; (conv => whnf))
  apply stepS
  · conv => whnf
  apply stepS; (· (conv => whnf); refine ⟨(by (simp only [ByteArray.size_append, mk_size, ofL_size, List.length_cons, List.length_nil]; omega)), ?_⟩; (conv => whnf))
  apply stepS; (· (conv => whnf); refine ⟨(by (simp only [ByteArray.size_append, mk_size, ofL_size, List.length_cons, List.length_nil]; omega)), ?_⟩; (conv => whnf))
  apply stepS
  · conv => whnf
  apply stepS
  · conv => whnf
  apply stepS; (· (conv => whnf); refine ⟨(by (simp only [ByteArray.size_append, mk_size, ofL_size, List.length_cons, List.length_nil]; omega)), ?_⟩; (conv => whnf))
  apply stepS; (· (conv => whnf); refine ⟨(by (simp only [ByteArray.size_append, mk_size, ofL_size, List.length_cons, List.length_nil]; omega)), ?_⟩; (conv => whnf))
  apply stepS
  · conv => whnf
  apply stepS; (· (conv => whnf); refine ⟨(by (simp only [ByteArray.size_append, mk_size, ofL_size, List.length_cons, List.length_nil]; omega)), ?_⟩; (conv => whnf))
  apply stepS; (· (conv => whnf); refine ⟨(by (simp only [ByteArray.size_append, mk_size, ofL_size, List.length_cons, List.length_nil]; omega)), ?_⟩; (conv => whnf))
  apply stepS
  · conv => whnf
  apply stepS
  · conv => whnf
  apply stepS; (· (conv => whnf); refine ⟨(by (simp only [ByteArray.size_append, mk_size, ofL_size, List.length_cons, List.length_nil]; omega)), ?_⟩; (conv => whnf))
  apply stepS; (· (conv => whnf); refine ⟨(by (simp only [ByteArray.size_append, mk_size, ofL_size, List.length_cons, List.length_nil]; omega)), ?_⟩; (conv => whnf))
  apply stepS
  · conv => whnf
  apply stepS; (· (conv => whnf); refine ⟨(by (simp only [ByteArray.size_append, mk_size, ofL_size, List.length_cons, List.length_nil]; omega)), ?_⟩; (conv => whnf))
  apply stepS; (· (conv => whnf); refine ⟨(by (simp only [ByteArray.size_append, mk_size, ofL_size, List.length_cons, List.length_nil]; omega)), ?_⟩; (conv => whnf))
  apply stepS
  · conv => whnf
  apply stepS
  · conv => whnf
  apply stepS; (· (conv => whnf); refine ⟨(by (simp only [ByteArray.size_append, mk_size, ofL_size, List.length_cons, List.length_nil]; omega)), ?_⟩; (conv => whnf))
  apply stepS; (· (conv => whnf); refine ⟨(by (simp only [ByteArray.size_append, mk_size, ofL_size, List.length_cons, List.length_nil]; omega)), ?_⟩; (conv => whnf))
  apply stepS
  · conv => whnf
  apply stepS; (· (conv => whnf); refine ⟨(by (simp only [ByteArray.size_append, mk_size, ofL_size, List.length_cons, List.length_nil]; omega)), ?_⟩; (conv => whnf))
  apply stepS; (· (conv => whnf); refine ⟨(by (simp only [ByteArray.size_append, mk_size, ofL_size, List.length_cons, List.length_nil]; omega)), ?_⟩; (conv => whnf))
  apply stepS
  · conv => whnf
  repeat ((with_reducible apply stepS); (· conv => whnf))
  apply endS; apply seqC; apply regL
  apply stepS
  · conv => whnf
  apply stepS
  · conv => whnf
  apply stepS
  · conv => whnf
  apply stepS
  · conv => whnf
  apply stepS
  · conv => whnf
  apply stepS; (· (conv => whnf); refine ⟨(show ((6 : Nat) : Int) ≠ 0 by decide), ?_⟩; (conv => whnf))
  apply stepS; (· (conv => whnf); refine ⟨_, hrow _ hK, ?_⟩; (conv => whnf))
  repeat ((with_reducible apply stepS); (· conv => whnf))
  apply endS; apply seqC; apply regL
  apply stepS; (· (conv => whnf); refine ⟨(by decide), ?_⟩; (conv => whnf))
  apply stepS
  · conv => whnf
  apply stepS; (· (conv => whnf); refine ⟨_, _, c1, ?_⟩; (conv => whnf))
  repeat ((with_reducible apply stepS); (· conv => whnf))
  apply endS; apply seqC; apply regL
  apply stepS; (· (conv => whnf); refine ⟨(by decide), ?_⟩; (conv => whnf))
  apply stepS
  · conv => whnf
  apply stepS; (· (conv => whnf); refine ⟨_, _, c2, ?_⟩; (conv => whnf))
  repeat ((with_reducible apply stepS); (· conv => whnf))
  apply endS
  apply seqC
  apply regDL
  repeat ((with_reducible apply stepD); (· (conv => whnf); refine ⟨⟨rfl, rfl⟩, ?_⟩; (conv => whnf)))
  apply stepD; (· (conv => whnf); refine ⟨_, _, num_ct 0, ?_⟩; (conv => whnf); refine ⟨⟨rfl, rfl⟩, ?_⟩; (conv => whnf))
  repeat ((with_reducible apply stepD); (· (conv => whnf); refine ⟨⟨rfl, rfl⟩, ?_⟩; (conv => whnf)))
  apply stepD; (· (conv => whnf); refine ⟨_, _, num_ct 0, ?_⟩; (conv => whnf); refine ⟨⟨rfl, rfl⟩, ?_⟩; (conv => whnf))
  repeat ((with_reducible apply stepD); (· (conv => whnf); refine ⟨⟨rfl, rfl⟩, ?_⟩; (conv => whnf)))
  apply stepD; (· (conv => whnf); refine ⟨_, _, num_ct 0, ?_⟩; (conv => whnf); refine ⟨⟨rfl, rfl⟩, ?_⟩; (conv => whnf))
  repeat ((with_reducible apply stepD); (· (conv => whnf); refine ⟨⟨rfl, rfl⟩, ?_⟩; (conv => whnf)))
  apply stepD; (· (conv => whnf); refine ⟨_, _, r1, ?_⟩; (conv => whnf); refine ⟨⟨rfl, rfl⟩, ?_⟩; (conv => whnf))
  repeat ((with_reducible apply stepD); (· (conv => whnf); refine ⟨⟨rfl, rfl⟩, ?_⟩; (conv => whnf)))
  apply stepD; (· (conv => whnf); refine ⟨_, _, r2, ?_⟩; (conv => whnf); refine ⟨⟨rfl, rfl⟩, ?_⟩; (conv => whnf))
  repeat ((with_reducible apply stepD); (· (conv => whnf); refine ⟨⟨rfl, rfl⟩, ?_⟩; (conv => whnf)))
  apply stepD; (· (conv => whnf); refine ⟨_, _, h3, ?_⟩; (conv => whnf); refine ⟨⟨rfl, rfl⟩, ?_⟩; (conv => whnf))
  repeat ((with_reducible apply stepD); (· (conv => whnf); refine ⟨⟨rfl, rfl⟩, ?_⟩; (conv => whnf)))
  apply stepD; (· (conv => whnf); refine ⟨_, _, awake_ct, ?_⟩; (conv => whnf); refine ⟨⟨rfl, rfl⟩, ?_⟩; (conv => whnf))
  repeat ((with_reducible apply stepD); (· (conv => whnf); refine ⟨⟨rfl, rfl⟩, ?_⟩; (conv => whnf)))
  apply endD; (· exact apart_of (by kernel_rfl))
  apply retC
  conv => whnf
  exact ⟨rfl, rfl⟩
end Go.Proofs.YtoapgongbackaaaDoor.V

/-! XS: ParseSugar: for every input the law returns true; each argument reads behind the call as it read before. -/
namespace Go.Proofs.YtoapgongbackaaaDoor.V
open Go Go.Proofs
open Go.ChangeShapes Go.WideShapes Go.ChangeAt Go.RowKit
set_option maxRecDepth 100000

theorem par6 : Tryd.f6.params = #[38, 5] := by rfl
theorem contractS (H : Type) (enc : TypeId × Value → H) (W : World) (base : Nat) (args : Array Value) (ds gs : List (DataW H)) (before : List MemPlace)
    (hval : ∀ (j : Nat) t v, Tryd.f6.params[j]? = some t → args[j]? = some v → Value.okWide Tryd.prog W .any base t v)
    (hW : DataW.Whole enc Tryd.prog Tryd.f6.params.toList Rows.parseSugarSpec.vars false W args.toList ds gs before) (hL : laidMetH Tryd.prog Rows.parseSugarRow.laid W) :
    Calls Tryd.prog 6 args W fun e W' => ∃ v, e = .returned v ∧ Rows.parseSugarSpec.post enc Tryd.prog Tryd.f6 false true false false W args v W' := by
  have hW' := hW
  obtain ⟨p, q, hA0, hV, rfl, hfz, hnd⟩ := hW
  have hA : DataW.TrodAll enc Tryd.prog W 0 (fun _ => true) true Tryd.f6.params.toList args.toList ds p := hA0
  rw [par6] at hA hval
  obtain ⟨v0, vs0, d0, ds0, p0, q0, hargs0, rfl, rfl, h0, r0⟩ := trodAll_cons hA
  obtain ⟨v1, vs1, d1, ds1, p1, q1, hargs1, rfl, rfl, h1, r1⟩ := trodAll_cons r0
  obtain ⟨rfl, rfl, rfl⟩ := trodAll_nil r1
  subst hargs1
  obtain rfl : args = #[v0, v1] := by cases args; simp_all
  obtain ⟨rfl, rfl⟩ := trodVars_none hV
  obtain ⟨l0, hl0⟩ := bytes_arg (hval 0 38 v0 rfl rfl) h0
  obtain ⟨n1, rfl, rfl, rfl, hwf1⟩ := open_int und5 (hval 1 5 v1 rfl rfl) h1
  obtain ⟨c1, rfl⟩ : ∃ c : Nat, n1 = (c : Int) := ⟨n1.toNat, by have := u8_wf hwf1; omega⟩
  clear hA0
  try simp only [List.append_nil] at hW'
  have hct := parseSugar_ct l0 c1 (by have := u8_wf hwf1; omega) (HA W) W [v0, .int .u8 (c1 : Int)] (ha_ok W) ((glob_ok hL).mono (hg_ha W)) ⟨.one _ _ hl0, .one _ _ (.v _ rfl), trivial⟩ List.nodup_nil
  refine hct.mono fun e W' ⟨v, H', he, hp⟩ => ?_
  subst he
  obtain rfl := bool_of hp
  have hk := below_of hp rfl
  exact ⟨_, rfl, _, _, _, [], _, [], hW', trodAll_cons_mk (shut_bool und4 _) trodAll_mk0, (trodAll_cons_mk (Below.trod laidOut (by kernel_rfl) (of_decide_eq_true (by kernel_rfl)) h0 hk (lt_of h0)) (trodAll_cons_mk (shut_int und5 hwf1) trodAll_mk0)), rfl, hk.frame _, fun h => nomatch h⟩
theorem laidS (os : Os) : laidMet Tryd.prog Rows.parseSugarRow.laid ((laidWorld os).forCall (fun _ _ => 0) ⟨#[], #[.slice none 0 0, .int .u8 0], []⟩).memory :=
  laidMet_of_run' 8 (by kernel_rfl) (by kernel_rfl)
theorem readsS (os : Os) {H : Type} (enc : TypeId × Value → H) : ∃ places, DataW.whole enc Tryd.prog ((laidWorld os).forCall (fun _ _ => 0) ⟨#[], #[.slice none 0 0, .int .u8 0], []⟩).memory Tryd.f6.params.toList Rows.parseSugarSpec.vars false #[Value.slice none 0 0, Value.int .u8 0].toList 8 = some ([.nil, .lit (.int .u8 0)], [], places) :=
  ⟨[], by kernel_rfl⟩
theorem liftedS (os : Os) (started : os.Started) (H : Type) (enc : TypeId × Value → H) (F : Stop.Interp) :
    ReturnsInHanded {} Tryd.checked os 6 .any ((OpenSpec.ofChange Rows.parseSugarSpec).preRow enc Tryd.prog Tryd.f6 Rows.parseSugarRow.domain false Rows.parseSugarRow.laid) (((OpenSpec.ofChange Rows.parseSugarSpec).at F).post enc Tryd.prog Tryd.f6 false true false false) := by
  obtain ⟨places, hx⟩ := readsS os enc
  refine returnsInHanded_of_row (C := Tryd.checked) (s := OpenSpec.ofChange Rows.parseSugarSpec) own started (by kernel_rfl) Tryd.func6
    (witness_row_at (enc := enc) (C := Tryd.checked) false (laidWorld os) #[.slice none 0 0, .int .u8 0] rfl (by kernel_rfl) (by kernel_rfl) (by kernel_rfl)
      (OpenSpec.preRow_of_cond 8 hx (by kernel_rfl) (fun k hk => by cases hk) (by kernel_rfl) (laidS os))) ?_
  intro W base args ds gs before hval hW _ _ _ hL _ _
  exact contractS H enc W base args ds gs before hval hW hL
theorem saidS : Rows.ParseSugarSaid :=
  OpenClaim.holds_of_cond 6 Tryd.f6 rfl rfl rfl rfl rfl rfl rfl ⟨rfl, rfl, rfl, rfl, rfl⟩ rfl rfl rfl rfl rfl (by kernel_rfl) Tryd.func6 (by kernel_rfl)
    (of_decide_eq_true (by kernel_rfl)) (by unfold Func.isWrapper; first | (rw [if_pos (by decide +kernel)]; kernel_rfl) | (rw [if_neg (by decide +kernel)]; exact ⟨rfl, rfl⟩))
    (fun os started H enc _ F => by rw [OpenClaim.pre_eq_preRow]; exact liftedS os started H enc F)
theorem plainS (f : FuncId) (fn : Func) (hf : Tryd.pinned.checked.prog.funcNamed "warp/warplaw10.ParseSugar" = some f) (hfn : Tryd.pinned.checked.prog.funcs[f]? = some fn) :
    false = Tryd.pinned.checked.prog.looks [] ∧ ∀ (j : Nat) t, fn.params[j]? = some t → Tryd.pinned.checked.prog.wantsStandIn t = false := by
  obtain rfl : f = 6 := Option.some.inj ((show Tryd.prog.funcNamed "warp/warplaw10.ParseSugar" = some 6 by kernel_rfl).symm.trans hf) |>.symm
  obtain rfl : fn = Tryd.f6 := (Option.some.inj (Tryd.func6.symm.trans hfn)).symm
  refine ⟨by kernel_rfl, fun j t ht => ?_⟩
  rw [par6] at ht
  have hm : t ∈ #[38, 5] := Array.mem_of_getElem? ht
  have : (#[38, 5] : Array Nat).all (fun t => Tryd.prog.wantsStandIn t == false) = true := by kernel_rfl
  rw [Array.all_eq_true_iff_forall_mem] at this
  exact beq_iff_eq.1 (this t hm)
end Go.Proofs.YtoapgongbackaaaDoor.V
namespace Go.Proofs.YtoapgongbackaaaDoor
open Go Go.Proofs Go.Proofs.YtoapgongbackaaaDoor.V
theorem parseSugar_holds : Rows.ParseSugarCardSaid :=
  Claim7.holds_tied_plain_at .later [] _ _ _ _ saidS (fun _ h => by cases h) (by kernel_rfl) (fun _ h => by cases h) parseSugar_row_tie rfl ⟨rfl, rfl⟩ (by kernel_rfl) rfl plainS (by kernel_rfl)
#print axioms parseSugar_holds
end Go.Proofs.YtoapgongbackaaaDoor
