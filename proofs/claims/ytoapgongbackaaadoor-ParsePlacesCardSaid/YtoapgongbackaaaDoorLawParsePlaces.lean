/-
  ParsePlaces: for every input the law returns true, and each argument reads as it did. No condition.
-/
import Derived.Test.YtoapgongbackaaaDoorEI
import Derived.Test.YtoapgongbackaaaDoorEF
import Derived.Test.YtoapgongbackaaaDoorEX
import Derived.Test.YtoapgongbackaaaDoorEJ
import Derived.Deep.Matrix
import Derived.Carry
import Derived.ChangeOld
import Derived.Test.YtoapgongbackaaaDoorEL
import Derived.Test.YtoapgongbackaaaDoorEK
set_option linter.unusedVariables false
set_option linter.unusedSimpArgs false
/-! Z1: ParseAll. -/
namespace Go.Proofs.YtoapgongbackaaaDoor.V
open Go Go.Proofs
open Go.Proofs.YtoapgongbackaaaDoor.Lx
set_option maxRecDepth 100000

/-- What both parsers make of a text. -/
theorem both_ct (l : List UInt8) (hB : l.length ≤ 65536) : ∃ p e a, FineP p ∧ Ct 12 [.val (.one (.v (.string (ofL l))))] [.val (.agg (progC p)), .val (.one (.v (.int .i64 e))), .val (.one (.v (.int .i64 a)))] [] ∧
    Ct 13 [.val (.one (.v (.string (ofL l))))] [.val (.agg [.sl 62 4 (p.datas.map dataC) none, .sl 55 8 (p.binds.map bindC) none, .v (.int .i64 e), .v (.int .i64 a)])] [] := by
  obtain ⟨p, e, a, h⟩ := parse_total l hB
  exact ⟨p, e, a, parse_fine (by decide) h, parse_ct2 (by decide) hB h, rparse_ct (by decide) hB h⟩
set_option maxHeartbeats 4000000 in
theorem parseAll_ct (l : List UInt8) : Ct 3 [.val (.one (.v (.string (ofL l))))] [.val (.one (.v (.bool true)))] [] := by
  have hsz := ofL_size l
  refine ct Tryd.func3 (by kernel_rfl) ?_
  cases hlt : decide ((3000 : Int) < ((ofL l).size : Int))
  rotate_left
  · generalize ofL l = s at hlt
    apply evF_of rfl
    apply seqC
    apply regL
    repeat ((with_reducible apply stepS); (· conv => whnf))
    apply endS; apply seqC; apply seqC; apply regL
    repeat ((with_reducible apply stepS); (· conv => whnf))
    rw [hlt]
    apply endS
    apply condT; (· (conv => whnf); try rfl)
    apply seqC
    apply regL
    apply stepS; (· (conv => whnf); refine ⟨_, _, awake_ct, ?_⟩; (conv => whnf))
    repeat ((with_reducible apply stepS); (· conv => whnf))
    apply endS
    apply retC
    conv => whnf
    exact ⟨rfl, rfl⟩
  · have hl3 : l.length ≤ 3000 := by have := of_decide_eq_false hlt; omega
    obtain ⟨p, e, a, hf, h1, h2⟩ := both_ct l (by omega)
    have h3 := sameP_self hf
    obtain ⟨ds, bs⟩ := p
    generalize ofL l = s at hlt h1 h2
    apply evF_of rfl
    apply seqC
    apply regL
    repeat ((with_reducible apply stepS); (· conv => whnf))
    apply endS; apply seqC; apply seqC; apply regL
    repeat ((with_reducible apply stepS); (· conv => whnf))
    rw [hlt]
    apply endS
    apply condF; (· (conv => whnf); try rfl)
    apply skipC
    apply seqC
    apply regL
    repeat ((with_reducible apply stepS); (· conv => whnf))
    apply stepS; (· (conv => whnf); refine ⟨_, _, h1, ?_⟩; (conv => whnf))
    repeat ((with_reducible apply stepS); (· conv => whnf))
    apply endS; apply seqC; apply regL
    repeat ((with_reducible apply stepS); (· conv => whnf))
    apply stepS; (· (conv => whnf); refine ⟨_, _, h2, ?_⟩; (conv => whnf))
    repeat ((with_reducible apply stepS); (· conv => whnf))
    apply endS
    apply seqC
    apply regDL
    repeat ((with_reducible apply stepD); (· (conv => whnf); refine ⟨⟨rfl, rfl⟩, ?_⟩; (conv => whnf)))
    apply stepD; (· (conv => whnf); refine ⟨_, _, h3, ?_⟩; (conv => whnf); refine ⟨⟨rfl, rfl⟩, ?_⟩; (conv => whnf))
    repeat ((with_reducible apply stepD); (· (conv => whnf); refine ⟨⟨rfl, rfl⟩, ?_⟩; (conv => whnf)))
    apply stepD; (· (conv => whnf); refine ⟨_, _, num_ct e, ?_⟩; (conv => whnf); refine ⟨⟨rfl, rfl⟩, ?_⟩; (conv => whnf))
    repeat ((with_reducible apply stepD); (· (conv => whnf); refine ⟨⟨rfl, rfl⟩, ?_⟩; (conv => whnf)))
    rw [dI]
    repeat ((with_reducible apply stepD); (· (conv => whnf); refine ⟨⟨rfl, rfl⟩, ?_⟩; (conv => whnf)))
    rw [dI]
    repeat ((with_reducible apply stepD); (· (conv => whnf); refine ⟨⟨rfl, rfl⟩, ?_⟩; (conv => whnf)))
    apply stepD; (· (conv => whnf); refine ⟨_, _, awake_ct, ?_⟩; (conv => whnf); refine ⟨⟨rfl, rfl⟩, ?_⟩; (conv => whnf))
    repeat ((with_reducible apply stepD); (· (conv => whnf); refine ⟨⟨rfl, rfl⟩, ?_⟩; (conv => whnf)))
    apply endD; (· exact apart_of (by kernel_rfl))
    apply retC
    conv => whnf
    exact ⟨rfl, rfl⟩
end Go.Proofs.YtoapgongbackaaaDoor.V

/-! X2: arguments that are numbers, or rows of numbers. -/
namespace Go.Proofs.YtoapgongbackaaaDoor.V
open Go Go.Proofs
open Go.ChangeShapes Go.WideShapes Go.ChangeAt Go.RowKit
set_option maxRecDepth 100000

theorem laidOut : laidOutB Tryd.prog = true := by kernel_rfl
theorem und36 : Tryd.prog.underlying 36 = some (.slice 38) := by kernel_rfl
theorem und37 : Tryd.prog.underlying 37 = some (.int .u16) := by kernel_rfl
theorem und38 : Tryd.prog.underlying 38 = some (.slice 5) := by kernel_rfl
theorem szOf38 : Tryd.prog.cellsOf 38 = 1 := by kernel_rfl
theorem szOf5 : Tryd.prog.cellsOf 5 = 1 := by kernel_rfl
/-- Every cell that is there. -/
def HA (W : World) : Fz := fun b i => W.cell? ⟨b, i, none⟩
theorem ha_ok (W : World) : FzOk (HA W) W := fun _ _ _ h => h
theorem hg_ha (W : World) : Fz.le (HG W) (HA W) := fun b i v h => hg_ok W b i v h
theorem u8_byte {n : Int} (h : (Lit.int .u8 n).wf = true) : (((UInt8.ofNat n.toNat).toNat : Nat) : Int) = n := by
  obtain ⟨h1, h2⟩ := u8_wf h
  rw [UInt8.toNat_ofNat']
  have : n.toNat % 2 ^ 8 = n.toNat := Nat.mod_eq_of_lt (by omega)
  rw [this]
  omega
theorem u16_wf {n : Int} (h : (Lit.int .u16 n).wf = true) : 0 ≤ n ∧ n < 65536 := by
  have h1 : IntKind.u16.min = 0 := by kernel_rfl
  have h2 : IntKind.u16.max = 65535 := by kernel_rfl
  simp only [Lit.wf] at h
  simp at h
  omega
theorem bytC_flat (ns : List UInt8) : (bytC ns).flatten = ns.map fun b => AC.v (.int .u8 (b.toNat : Int)) := by
  induction ns with
  | nil => rfl
  | cons b t ih =>
    show [AC.v (.int .u8 (b.toNat : Int))] ++ (bytC t).flatten = _
    rw [ih]; rfl
/-- A row of numbers. -/
theorem ints_ac {W : World} {A : Option Addr} {L C : Nat} {Z : List Int} (hLC : L ≤ C) (hZ : Z.length = C) (hw : ∀ n ∈ Z, (Lit.int .u8 n).wf = true) (hA : A = none → C = 0)
    (hc : ∀ a', A = some a' → ∀ c, c < C → W.cell? (a'.add c) = some (.int .u8 (Z.getD c 0))) :
    ACr Con.no (HA W) (.sl 5 1 (bytC ((Z.take L).map fun n => UInt8.ofNat n.toNat)) none) (.slice A L C) := by
  by_cases h0 : L = 0
  · subst h0
    exact .nil _ _ _ _ _ (TokOk.none _ _)
  · cases A with
    | none => have := hA rfl; omega
    | some a =>
      obtain ⟨b, off, rfl, hcell⟩ := ints_at (zs := Z) (fun i hi => hc a rfl i (by omega)) (by omega)
      have hlen : ((Z.take L).map fun n => UInt8.ofNat n.toNat).length = L := by simp only [List.length_map, List.length_take]; omega
      have := ACr.sl (κ := Con.no) (H := HA W) 5 1 (bytC ((Z.take L).map fun n => UInt8.ofNat n.toNat)) none b off C ((Z.take L).map (.int .u8 ·))
        (by rw [bytC_len, hlen]; exact hLC) (by
          intro x hx
          obtain ⟨b, -, rfl⟩ := List.mem_map.1 hx
          rfl) (by rw [bytC_flat]; simp only [List.length_map]) ?_ ?_ (TokOk.none _ _)
      · rw [bytC_len, hlen] at this
        exact this
      · intro k u hk
        rw [List.getElem?_map, Option.map_eq_some_iff] at hk
        obtain ⟨n, hn, rfl⟩ := hk
        rw [List.getElem?_take] at hn
        split at hn
        · show W.cell? ⟨b, off + k, none⟩ = _
          have hkl : k < Z.length := (List.getElem?_eq_some_iff.1 hn).1
          rw [hcell k hkl, List.getD, hn]
          rfl
        · cases hn
      · intro k c u hc' hu
        rw [bytC_flat, List.map_map, List.getElem?_map, Option.map_eq_some_iff] at hc'
        rw [List.getElem?_map, Option.map_eq_some_iff] at hu
        obtain ⟨n, hn, rfl⟩ := hc'
        obtain ⟨m, hm, rfl⟩ := hu
        obtain rfl := Option.some.inj (hn.symm.trans hm)
        have hmem : n ∈ Z := List.mem_of_mem_take (List.mem_of_getElem? hn)
        simp only [Function.comp_apply, u8_byte (hw n hmem)]
        exact .v _ rfl

section
variable {H : Type} {enc : TypeId × Value → H} {W : World}
/-- An argument that is numbers. -/
theorem bytes_arg {base : Nat} {v : Value} {d : DataW H} {p : List MemPlace} (hv : Value.okWide Tryd.prog W .any base 38 v) (h : DataW.Trod enc Tryd.prog W 0 (fun _ => true) true 38 v d p) : ∃ ns : List UInt8, ACr Con.no (HA W) (.sl 5 1 (bytC ns) none) v := by
  obtain ⟨a0, len0, cap0, rfl⟩ := okWide_slice und38 hv
  obtain ⟨fuel, hf⟩ := h
  rcases open_ints und38 und5 szOf5 hf with ⟨hcs, _⟩ | ⟨x, l, c, zs, hcs, _, hl, hm, hz, _, hcell, hwz⟩
  · simp [Value.cells] at hcs
    obtain ⟨rfl, rfl, rfl⟩ := hcs
    exact ⟨[], .nil _ _ _ _ _ (TokOk.none _ _)⟩
  · simp [Value.cells] at hcs
    obtain ⟨rfl, rfl, rfl⟩ := hcs
    have hz : zs.length = cap0 := by simpa using hz
    exact ⟨_, ints_ac hl hz hwz (fun h => by cases h) fun a' e c hc => by cases e; exact hcell c (by omega)⟩
/-- An argument that is rows of numbers. -/
theorem rows_arg {base : Nat} {v : Value} {d : DataW H} {p : List MemPlace} (hv : Value.okWide Tryd.prog W .any base 36 v) (h : DataW.Trod enc Tryd.prog W 0 (fun _ => true) true 36 v d p) : ∃ l : List (List UInt8), ACr Con.no (HA W) (.sl 38 1 (rowsC l) none) v := by
  obtain ⟨a0, len0, cap0, rfl⟩ := okWide_slice und36 hv
  obtain ⟨fuel, hf⟩ := h
  rcases Go.Deep.open_int_rows und36 und38 und5 szOf38 szOf5 hf with ⟨hcs, _⟩ | ⟨a, len, cap, A, L, C, Z, hcs, _, hl, hm, _, hrow⟩
  · simp [Value.cells] at hcs
    obtain ⟨rfl, rfl, rfl⟩ := hcs
    exact ⟨[], .nil _ _ _ _ _ (TokOk.none _ _)⟩
  · simp [Value.cells] at hcs
    obtain ⟨rfl, rfl, rfl⟩ := hcs
    let l : List (List UInt8) := (List.range len0).map fun r => ((Z r).take (L r)).map fun n => UInt8.ofNat n.toNat
    refine ⟨l, ?_⟩
    have hll : l.length = len0 := by simp [l]
    by_cases h0 : len0 = 0
    · subst h0
      exact .nil _ _ _ _ _ (TokOk.none _ _)
    · obtain ⟨b, off, spot⟩ := a
      have hspot : spot = none := by
        have := (hrow 0 (by omega)).1
        simpa [Addr.add] using World.cell?_spot this
      subst hspot
      have hfl : (rowsC l).flatten = l.map fun ns => AC.sl 5 1 (bytC ns) none := by
        generalize l = m
        induction m with
        | nil => rfl
        | cons ns m ih =>
          show [AC.sl 5 1 (bytC ns) none] ++ (rowsC m).flatten = _
          rw [ih]; rfl
      have := ACr.sl (κ := Con.no) (H := HA W) 38 1 (rowsC l) none b off cap0 ((List.range len0).map fun r => .slice (A r) (L r) (C r))
        (by rw [rowsC_len, hll]; exact hl) (by
          intro x hx
          obtain ⟨b, -, rfl⟩ := List.mem_map.1 hx
          rfl) (by rw [hfl]; simp [l]) ?_ ?_ (TokOk.none _ _)
      · rw [rowsC_len, hll] at this
        exact this
      · intro k u hk
        rw [List.getElem?_map, Option.map_eq_some_iff] at hk
        obtain ⟨r, hr, rfl⟩ := hk
        obtain ⟨hk1, hk2⟩ := List.getElem?_eq_some_iff.1 hr
        simp only [List.length_range] at hk1
        simp only [List.getElem_range] at hk2
        subst hk2
        show W.cell? ⟨b, off + k, none⟩ = _
        rw [← add_plain]
        exact (hrow k (by omega)).1
      · intro k c u hc' hu
        rw [hfl, List.getElem?_map, Option.map_eq_some_iff] at hc'
        rw [List.getElem?_map, Option.map_eq_some_iff] at hu
        obtain ⟨ns, hn, rfl⟩ := hc'
        obtain ⟨r, hr, rfl⟩ := hu
        have hn : ((List.range len0).map fun r => ((Z r).take (L r)).map fun n => UInt8.ofNat n.toNat)[k]? = some ns := hn
        rw [List.getElem?_map, hr] at hn
        cases hn
        obtain ⟨hk1, hk2⟩ := List.getElem?_eq_some_iff.1 hr
        simp only [List.length_range] at hk1
        simp only [List.getElem_range] at hk2
        subst hk2
        obtain ⟨_, q1, q2, q3, q4, q5, q6⟩ := hrow k (by omega)
        exact ints_ac q1 q3 q4 q5 fun a' e c hc => (q6 a' e).2 c hc
theorem below_of {H H' : Fz} {w w' : World} {xs : List Arg} {us : List Value} {rs : List Res} {css : List (List AC)} {v : Value} (h : CPost H w xs us rs css v H' w') (hb : blocksOf xs us = []) : Below w.heap.size w w' :=
  ⟨h.os, h.tape, h.output, h.grown, fun k hk => heap_of h hb hk⟩
theorem lt_of {t : TypeId} {v : Value} {d : DataW H} {p : List MemPlace} (h : DataW.Trod enc Tryd.prog W 0 (fun _ => true) true t v d p) : ∀ x ∈ p, x.block < W.heap.size := by
  obtain ⟨m, hm⟩ := h
  exact DataW.trod_lt m _ _ _ hm
end
end Go.Proofs.YtoapgongbackaaaDoor.V

/-! Z8: ParsePlaces. -/
namespace Go.Proofs.YtoapgongbackaaaDoor.V
open Go Go.Proofs
open Go.Proofs.YtoapgongbackaaaDoor.Lx
set_option maxRecDepth 100000

set_option maxHeartbeats 32000000 in
theorem parsePlaces_ct (l : List (List UInt8)) (n : Nat) (hn : n < 256) : Ct 7 [.val (rowsA l), .val (.one (.v (.int .u8 (n : Int))))] [.val (.one (.v (.bool true)))] [] := by
  have ha := source_ct l
  have ga := source_gs l
  generalize sourceG l = A at ha ga
  have hsa := ofL_size A
  -- what the first call gives
  have hfirst : ∃ (ds bs : List (List AC)) (e a : Int), (A.length ≤ 3000 → e = 0) ∧ Ct 12 [.val (strA A)] [.val (.agg [.sl 62 4 ds none, .sl 55 8 bs none]), .val (.one (.v (.int .i64 e))), .val (.one (.v (.int .i64 a)))] [] := by
    by_cases hlen : A.length ≤ 65536
    · by_cases h3 : A.length ≤ 3000
      · obtain ⟨na, bl, D, BT, ix, c, x1, r1⟩ := ga
        obtain ⟨t1, e1, g1⟩ := lex_of x1
        obtain ⟨bs, hp, -, -⟩ := parse_src g1 e1 r1 hlen
        exact ⟨_, _, 0, 0, fun _ => rfl, parse_ct2 (by decide) hlen hp⟩
      · obtain ⟨p, e, a, h⟩ := parse_total A hlen
        exact ⟨_, _, e, a, fun h => absurd h h3, parse_ct2 (by decide) hlen h⟩
    · exact ⟨[], [], 1, 0, fun h => by omega, parse_long (by omega)⟩
  obtain ⟨ds, bs, e, a, he, c1⟩ := hfirst
  have hnum := num_ct e
  refine ct Tryd.func7 (by kernel_rfl) ?_
  apply evF_of rfl
  apply seqC
  apply regL
  repeat ((with_reducible apply stepS); (· conv => whnf))
  apply endS; apply seqC; apply regL
  repeat ((with_reducible apply stepS); (· conv => whnf))
  apply stepS; (· (conv => whnf); refine ⟨_, _, ha, ?_⟩; (conv => whnf))
  repeat ((with_reducible apply stepS); (· conv => whnf))
  apply endS; apply seqC; apply regL
  repeat ((with_reducible apply stepS); (· conv => whnf))
  apply stepS; (· (conv => whnf); refine ⟨_, _, c1, ?_⟩; (conv => whnf))
  repeat ((with_reducible apply stepS); (· conv => whnf))
  apply endS
  apply seqC
  apply seqC
  apply regL
  apply stepS
  · conv => whnf
  apply stepS
  · conv => whnf
  apply stepS
  · conv => whnf
  cases hbig : decide ((3000 : Int) < ((ofL A).size : Int))
  rotate_left
  · repeat ((with_reducible apply stepS); (· conv => whnf))
    apply endS
    apply condT; (· (conv => whnf); try rfl)
    apply seqC
    apply regL
    apply stepS; (· (conv => whnf); refine ⟨_, _, awake_ct, ?_⟩; (conv => whnf))
    repeat ((with_reducible apply stepS); (· conv => whnf))
    apply endS
    apply retC
    conv => whnf
    exact ⟨rfl, rfl⟩
  have hA : A.length ≤ 3000 := by have := of_decide_eq_false hbig; omega
  obtain rfl := he hA
  repeat ((with_reducible apply stepS); (· conv => whnf))
  apply stepS; (· (conv => whnf); refine ⟨_, _, hnum, ?_⟩; (conv => whnf))
  repeat ((with_reducible apply stepS); (· conv => whnf))
  apply endS
  apply condF; (· (conv => whnf); try rfl)
  apply skipC
  have hK : Int.tmod (IntKind.i64.wrap (n : Int)) ((15 : Nat) : Int) = ((n % 15 : Nat) : Int) := by rw [i64_nat (by omega)]; rfl
  obtain ⟨w, f, hw, hf, hwl, hf0, hf1, hp⟩ := badEnd ga (by omega) (n % 15) (Nat.mod_lt _ (by decide))
  have c2 := parse_ct2 (by decide) (by rw [List.length_append]; omega) hp
  have hrw : ∀ j : Int, j = ((n % 15 : Nat) : Int) → 0 ≤ j ∧ (badTx.map fun l => [AC.v (.string (ofL l))])[j.toNat]? = some [.v (.string (ofL w))] := fun j hj => by
    subst hj
    refine ⟨by omega, ?_⟩
    rw [Int.toNat_natCast, List.getElem?_map, hw]
    rfl
  have hrf : ∀ j : Int, j = ((n % 15 : Nat) : Int) → 0 ≤ j ∧ (farTx.map fun x => [AC.v (.int .i64 x)])[j.toNat]? = some [.v (.int .i64 f)] := fun j hj => by
    subst hj
    refine ⟨by omega, ?_⟩
    rw [Int.toNat_natCast, List.getElem?_map, hf]
    rfl
  have hat : decide ((A.length : Int) + f = IntKind.i64.wrap (((ofL A).size : Int) + f)) = true := by
    refine decide_eq_true ?_
    rw [hsa, i64_id (by omega) (by omega)]
  have e3 : ofL A ++ ofL w = ofL (A ++ w) := ofL_append A w
  apply seqC
  apply regL
  repeat ((with_reducible apply stepS); (· conv => whnf))
  apply endS; apply seqC; apply regL
  repeat ((with_reducible apply stepS); (· conv => whnf))
  apply endS; apply seqC; apply regL
  apply stepS
  · conv => whnf
  apply stepS
  · conv => whnf
  apply stepS
  · conv => whnf
  apply stepS
  · conv => whnf
  apply stepS; (· (conv => whnf); refine ⟨(show ((15 : Nat) : Int) ≠ 0 by decide), ?_⟩; (conv => whnf))
  repeat ((with_reducible apply stepS); (· conv => whnf))
  apply endS; apply seqC; apply regL
  apply stepS
  · conv => whnf
  apply stepS
  · conv => whnf
  apply stepS
  · conv => whnf
  apply stepS; (· (conv => whnf); refine ⟨_, hrw _ hK, ?_⟩; (conv => whnf))
  apply stepS
  · conv => whnf
  apply stepS; (· (conv => whnf); refine ⟨(by (simp only [ByteArray.size_append, mk_size, ofL_size, List.length_cons, List.length_nil]; omega)), ?_⟩; (conv => whnf))
  rw [e3]
  apply stepS; (· (conv => whnf); refine ⟨_, _, c2, ?_⟩; (conv => whnf))
  repeat ((with_reducible apply stepS); (· conv => whnf))
  apply endS; apply seqC; apply regL
  repeat ((with_reducible apply stepS); (· conv => whnf))
  apply stepS; (· (conv => whnf); refine ⟨_, _, num_ct 4, ?_⟩; (conv => whnf))
  repeat ((with_reducible apply stepS); (· conv => whnf))
  apply stepS; (· (conv => whnf); refine ⟨_, hrf _ hK, ?_⟩; (conv => whnf))
  repeat ((with_reducible apply stepS); (· conv => whnf))
  rw [hat]
  repeat ((with_reducible apply stepS); (· conv => whnf))
  apply stepS; (· (conv => whnf); refine ⟨_, _, awake_ct, ?_⟩; (conv => whnf))
  repeat ((with_reducible apply stepS); (· conv => whnf))
  apply endS
  apply retC
  conv => whnf
  exact ⟨rfl, rfl⟩
end Go.Proofs.YtoapgongbackaaaDoor.V

/-! XP: ParsePlaces: for every input the law returns true; each argument reads behind the call as it read before. -/
namespace Go.Proofs.YtoapgongbackaaaDoor.V
open Go Go.Proofs
open Go.ChangeShapes Go.WideShapes Go.ChangeAt Go.RowKit
set_option maxRecDepth 100000

theorem par7 : Tryd.f7.params = #[36, 5] := by rfl
theorem contractP (H : Type) (enc : TypeId × Value → H) (W : World) (base : Nat) (args : Array Value) (ds gs : List (DataW H)) (before : List MemPlace)
    (hval : ∀ (j : Nat) t v, Tryd.f7.params[j]? = some t → args[j]? = some v → Value.okWide Tryd.prog W .any base t v)
    (hW : DataW.Whole enc Tryd.prog Tryd.f7.params.toList Rows.parsePlacesSpec.vars false W args.toList ds gs before) (hL : laidMetH Tryd.prog Rows.parsePlacesRow.laid W) :
    Calls Tryd.prog 7 args W fun e W' => ∃ v, e = .returned v ∧ Rows.parsePlacesSpec.post enc Tryd.prog Tryd.f7 false true false false W args v W' := by
  have hW' := hW
  obtain ⟨p, q, hA0, hV, rfl, hfz, hnd⟩ := hW
  have hA : DataW.TrodAll enc Tryd.prog W 0 (fun _ => true) true Tryd.f7.params.toList args.toList ds p := hA0
  rw [par7] at hA hval
  obtain ⟨v0, vs0, d0, ds0, p0, q0, hargs0, rfl, rfl, h0, r0⟩ := trodAll_cons hA
  obtain ⟨v1, vs1, d1, ds1, p1, q1, hargs1, rfl, rfl, h1, r1⟩ := trodAll_cons r0
  obtain ⟨rfl, rfl, rfl⟩ := trodAll_nil r1
  subst hargs1
  obtain rfl : args = #[v0, v1] := by cases args; simp_all
  obtain ⟨rfl, rfl⟩ := trodVars_none hV
  obtain ⟨l0, hl0⟩ := rows_arg (hval 0 36 v0 rfl rfl) h0
  obtain ⟨n1, rfl, rfl, rfl, hwf1⟩ := open_int und5 (hval 1 5 v1 rfl rfl) h1
  obtain ⟨c1, rfl⟩ : ∃ c : Nat, n1 = (c : Int) := ⟨n1.toNat, by have := u8_wf hwf1; omega⟩
  clear hA0
  try simp only [List.append_nil] at hW'
  have hct := parsePlaces_ct l0 c1 (by have := u8_wf hwf1; omega) (HA W) W [v0, .int .u8 (c1 : Int)] (ha_ok W) ((glob_ok hL).mono (hg_ha W)) ⟨.one _ _ hl0, .one _ _ (.v _ rfl), trivial⟩ List.nodup_nil
  refine hct.mono fun e W' ⟨v, H', he, hp⟩ => ?_
  subst he
  obtain rfl := bool_of hp
  have hk := below_of hp rfl
  exact ⟨_, rfl, _, _, _, [], _, [], hW', trodAll_cons_mk (shut_bool und4 _) trodAll_mk0, (trodAll_cons_mk (Below.trod laidOut (by kernel_rfl) (of_decide_eq_true (by kernel_rfl)) h0 hk (lt_of h0)) (trodAll_cons_mk (shut_int und5 hwf1) trodAll_mk0)), rfl, hk.frame _, fun h => nomatch h⟩
theorem laidP (os : Os) : laidMet Tryd.prog Rows.parsePlacesRow.laid ((laidWorld os).forCall (fun _ _ => 0) ⟨#[], #[.slice none 0 0, .int .u8 0], []⟩).memory :=
  laidMet_of_run' 8 (by kernel_rfl) (by kernel_rfl)
theorem readsP (os : Os) {H : Type} (enc : TypeId × Value → H) : ∃ places, DataW.whole enc Tryd.prog ((laidWorld os).forCall (fun _ _ => 0) ⟨#[], #[.slice none 0 0, .int .u8 0], []⟩).memory Tryd.f7.params.toList Rows.parsePlacesSpec.vars false #[Value.slice none 0 0, Value.int .u8 0].toList 8 = some ([.nil, .lit (.int .u8 0)], [], places) :=
  ⟨[], by kernel_rfl⟩
theorem liftedP (os : Os) (started : os.Started) (H : Type) (enc : TypeId × Value → H) (F : Stop.Interp) :
    ReturnsInHanded {} Tryd.checked os 7 .any ((OpenSpec.ofChange Rows.parsePlacesSpec).preRow enc Tryd.prog Tryd.f7 Rows.parsePlacesRow.domain false Rows.parsePlacesRow.laid) (((OpenSpec.ofChange Rows.parsePlacesSpec).at F).post enc Tryd.prog Tryd.f7 false true false false) := by
  obtain ⟨places, hx⟩ := readsP os enc
  refine returnsInHanded_of_row (C := Tryd.checked) (s := OpenSpec.ofChange Rows.parsePlacesSpec) own started (by kernel_rfl) Tryd.func7
    (witness_row_at (enc := enc) (C := Tryd.checked) false (laidWorld os) #[.slice none 0 0, .int .u8 0] rfl (by kernel_rfl) (by kernel_rfl) (by kernel_rfl)
      (OpenSpec.preRow_of_cond 8 hx (by kernel_rfl) (fun k hk => by cases hk) (by kernel_rfl) (laidP os))) ?_
  intro W base args ds gs before hval hW _ _ _ hL _ _
  exact contractP H enc W base args ds gs before hval hW hL
theorem saidP : Rows.ParsePlacesSaid :=
  OpenClaim.holds_of_cond 7 Tryd.f7 rfl rfl rfl rfl rfl rfl rfl ⟨rfl, rfl, rfl, rfl, rfl⟩ rfl rfl rfl rfl rfl (by kernel_rfl) Tryd.func7 (by kernel_rfl)
    (of_decide_eq_true (by kernel_rfl)) (by unfold Func.isWrapper; first | (rw [if_pos (by decide +kernel)]; kernel_rfl) | (rw [if_neg (by decide +kernel)]; exact ⟨rfl, rfl⟩))
    (fun os started H enc _ F => by rw [OpenClaim.pre_eq_preRow]; exact liftedP os started H enc F)
theorem plainP (f : FuncId) (fn : Func) (hf : Tryd.pinned.checked.prog.funcNamed "warp/warplaw10.ParsePlaces" = some f) (hfn : Tryd.pinned.checked.prog.funcs[f]? = some fn) :
    false = Tryd.pinned.checked.prog.looks [] ∧ ∀ (j : Nat) t, fn.params[j]? = some t → Tryd.pinned.checked.prog.wantsStandIn t = false := by
  obtain rfl : f = 7 := Option.some.inj ((show Tryd.prog.funcNamed "warp/warplaw10.ParsePlaces" = some 7 by kernel_rfl).symm.trans hf) |>.symm
  obtain rfl : fn = Tryd.f7 := (Option.some.inj (Tryd.func7.symm.trans hfn)).symm
  refine ⟨by kernel_rfl, fun j t ht => ?_⟩
  rw [par7] at ht
  have hm : t ∈ #[36, 5] := Array.mem_of_getElem? ht
  have : (#[36, 5] : Array Nat).all (fun t => Tryd.prog.wantsStandIn t == false) = true := by kernel_rfl
  rw [Array.all_eq_true_iff_forall_mem] at this
  exact beq_iff_eq.1 (this t hm)
end Go.Proofs.YtoapgongbackaaaDoor.V
namespace Go.Proofs.YtoapgongbackaaaDoor
open Go Go.Proofs Go.Proofs.YtoapgongbackaaaDoor.V
theorem parsePlaces_holds : Rows.ParsePlacesCardSaid :=
  Claim7.holds_tied_plain_at .later [] _ _ _ _ saidP (fun _ h => by cases h) (by kernel_rfl) (fun _ h => by cases h) parsePlaces_row_tie rfl ⟨rfl, rfl⟩ (by kernel_rfl) rfl plainP (by kernel_rfl)
#print axioms parsePlaces_holds
end Go.Proofs.YtoapgongbackaaaDoor
