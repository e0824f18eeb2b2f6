/-
  The evaluator at this program: its types and functions; loops; one operation at a time; a range over a function. No condition.
-/
import Derived.Test.YtoapgongbackaaaDoorEB
import Derived.Test.YtoapgongbackaaaDoorProg
import Derived.KernelRfl
import Derived.RangeFuncKeeps
import Derived.RangeFuncLeaves
set_option linter.unusedVariables false
set_option linter.unusedSimpArgs false
/-! V19: the program's types and functions. -/
namespace Go.Proofs.YtoapgongbackaaaDoor.V
open Go Go.Proofs

def tlist : List (Nat × TI) := [
  (3, ⟨1, false, [.v (.int .i64 0)], .int .i64⟩),
  (4, ⟨1, false, [.v (.bool false)], .other⟩),
  (5, ⟨1, false, [.v (.int .u8 0)], .int .u8⟩),
  (9, ⟨1, false, [.v (.string .empty)], .str⟩),
  (23, ⟨1, false, [.nil 62 4], .slice 62 4 72⟩),
  (24, ⟨1, false, [.nil 55 8], .slice 55 8 112⟩),
  (25, ⟨2, true, [.nil 62 4, .nil 55 8], .struct [(0, 1, false), (1, 1, false)]⟩),
  (26, ⟨2, true, [.nil 62 4, .nil 55 8], .struct [(0, 1, false), (1, 1, false)]⟩),
  (27, ⟨1, false, [.v (.int .i64 0)], .int .i64⟩),
  (30, ⟨4, true, [.nil 62 4, .nil 55 8, .v (.int .i64 0), .v (.int .i64 0)], .struct [(0, 2, true), (2, 1, false), (3, 1, false)]⟩),
  (31, ⟨4, true, [.nil 62 4, .nil 55 8, .v (.int .i64 0), .v (.int .i64 0)], .struct [(0, 2, true), (2, 1, false), (3, 1, false)]⟩),
  (36, ⟨1, false, [.nil 38 1], .slice 38 1 24⟩),
  (37, ⟨1, false, [.v (.int .u16 0)], .int .u16⟩),
  (38, ⟨1, false, [.nil 5 1], .slice 5 1 1⟩),
  (44, ⟨2, true, [.v (.string .empty), .v (.string .empty)], .array 2 9 1 false⟩),
  (45, ⟨1, false, [.nil 44 2], .slice 44 2 32⟩),
  (46, ⟨1, false, [.nil 9 1], .slice 9 1 16⟩),
  (47, ⟨1, false, [.nil 3 1], .slice 3 1 8⟩),
  (50, ⟨1, false, [.nil 53 6], .slice 53 6 88⟩),
  (51, ⟨1, false, [.nil 96 9], .slice 96 9 136⟩),
  (53, ⟨6, true, [.v (.int .i64 0), .v (.int .i64 0), .v (.string .empty), .v (.int .i64 0), .nil 53 6, .nil 96 9], .struct [(0, 1, false), (1, 1, false), (2, 1, false), (3, 1, false), (4, 1, false), (5, 1, false)]⟩),
  (55, ⟨8, true, [.v (.string .empty), .v (.int .i64 0), .v (.int .i64 0), .v (.int .i64 0), .v (.string .empty), .v (.int .i64 0), .nil 53 6, .nil 96 9], .struct [(0, 1, false), (1, 1, false), (2, 6, true)]⟩),
  (57, ⟨1, false, [.nil 59 4], .slice 59 4 56⟩),
  (59, ⟨4, true, [.v (.int .i64 0), .v (.int .i64 0), .v (.string .empty), .nil 59 4], .struct [(0, 1, false), (1, 1, false), (2, 1, false), (3, 1, false)]⟩),
  (60, ⟨1, false, [.nil 64 3], .slice 64 3 48⟩),
  (62, ⟨4, true, [.v (.string .empty), .v (.int .i64 0), .nil 9 1, .nil 64 3], .struct [(0, 1, false), (1, 1, false), (2, 1, false), (3, 1, false)]⟩),
  (64, ⟨3, true, [.v (.string .empty), .v (.int .i64 0), .nil 59 4], .struct [(0, 1, false), (1, 1, false), (2, 1, false)]⟩),
  (69, ⟨1, false, [.nil 74 4], .slice 74 4 40⟩),
  (74, ⟨4, true, [.v (.int .i64 0), .v (.int .i64 0), .v (.string .empty), .v (.int .i64 0)], .struct [(0, 1, false), (1, 1, false), (2, 1, false), (3, 1, false)]⟩),
  (76, ⟨3, true, [.nil 74 4, .v (.bool false), .v (.int .i64 0)], .struct [(0, 1, false), (1, 1, false), (2, 1, false)]⟩),
  (80, ⟨3, true, [.nil 74 4, .v (.int .i64 0), .v (.int .i64 0)], .struct [(0, 1, false), (1, 1, false), (2, 1, false)]⟩),
  (84, ⟨5, true, [.nil 74 4, .v (.int .i64 0), .v (.int .i64 0), .v (.bool false), .v (.int .i64 0)], .struct [(0, 1, false), (1, 1, false), (2, 1, false), (3, 1, false), (4, 1, false)]⟩),
  (96, ⟨9, true, [.v (.int .i64 0), .v (.string .empty), .nil 9 1, .v (.int .i64 0), .v (.int .i64 0), .v (.string .empty), .v (.int .i64 0), .nil 53 6, .nil 96 9], .struct [(0, 1, false), (1, 1, false), (2, 1, false), (3, 6, true)]⟩),
  (104, ⟨2, true, [.v (.int .i64 0), .v (.string .empty)], .struct [(0, 1, false), (1, 1, false)]⟩)]
def T : Tab := fun t => find t tlist
def J : Kn := { sg := fun t => Nat.beq t 104, fb := fun f => Nat.ble 3 f && (Nat.ble f 102 || Nat.beq f 104) }
def G : Nat → Option (List AC)
  | 0 => some [.v (.int .i64 1), .v (.string .empty)]
  | 1 => some [.v (.int .i64 2), .v (.string .empty)]
  | _ => none

def sameZ : Value → AC → Bool
  | .int k n, .v (.int k' n') => decide (k = k') && decide (n = n')
  | .bool b, .v (.bool b') => b == b'
  | .string s, .v (.string u) => decide (s = u)
  | .slice none 0 0, .nil _ _ => true
  | _, _ => false
def sameZs : List Value → List AC → Bool
  | [], [] => true
  | x :: xs, c :: cs => sameZ x c && sameZs xs cs
  | _, _ => false
def fieldsB (P : Program) : List Field → List (Nat × Nat × Bool) → Bool
  | [], [] => true
  | f :: fs, (o, n, g) :: gs => decide (f.offset = o) && (match P.info? f.type, P.underlying f.type with
    | some ti, some d => decide (ti.size = n) && d.isRow == g
    | _, _ => false) && fieldsB P fs gs
  | _, _ => false
def undB (P : Program) (d : TypeDesc) : TK → Bool
  | .other => true
  | .int k => match d with | .int k' => decide (k' = k) | _ => false
  | .str => match d with | .string => true | _ => false
  | .slice e sz bytes => match d with
    | .slice e' => decide (e' = e) && (match P.info? e with
      | some ti => decide (ti.size = sz) && decide (ti.bytes = bytes) && (match ti.zero with | some z => decide (z.cells.size = sz) | none => false) && decide (0 < sz)
      | none => false)
    | _ => false
  | .array len e sz _ => match d with
    | .array len' e' => decide (len' = len) && decide (e' = e) && (match P.info? e with | some ti => decide (ti.size = sz) | none => false)
    | _ => false
  | .struct fs => match d with
    | .struct fields => fieldsB P fields.toList fs
    | _ => false
def tokB (P : Program) (t : Nat) (i : TI) : Bool :=
  (match P.info? t with
    | some ti => decide (ti.size = i.size) && (match ti.zero with | some z => sameZs z.cells.toList i.zero | none => false) && decide (i.zero.length = i.size)
    | none => false) &&
  match P.underlying t with
  | some d => undB P d i.kind && d.isRow == i.agg
  | none => false

theorem sameZ_r {κ : Con} {H : Fz} {x : Value} {c : AC} (h : sameZ x c = true) : ACr κ H c x := by
  unfold sameZ at h
  split at h
  · simp only [Bool.and_eq_true, decide_eq_true_eq] at h; obtain ⟨rfl, rfl⟩ := h; exact .v _ rfl
  · simp only [beq_iff_eq] at h; subst h; exact .v _ rfl
  · simp only [decide_eq_true_eq] at h; subst h; exact .v _ rfl
  · exact .zero _ _
  · cases h
theorem sameZs_r {κ : Con} {H : Fz} : ∀ {xs : List Value} {cs : List AC}, sameZs xs cs = true → Cs κ H cs xs
  | [], [], _ => .nil
  | [], _ :: _, h => by cases h
  | _ :: _, [], h => by cases h
  | x :: xs, c :: cs, h => by
    simp only [sameZs, Bool.and_eq_true] at h
    exact .cons (sameZ_r h.1) (sameZs_r h.2)
theorem fieldsB_r {P : Program} : ∀ {fs : List Field} {gs : List (Nat × Nat × Bool)}, fieldsB P fs gs = true → fs.length = gs.length ∧ ∀ (k o n : Nat) (g : Bool), gs[k]? = some (o, n, g) → ∃ (f : Field) (ti : TypeInfo) (d' : TypeDesc), fs[k]? = some f ∧ f.offset = o ∧ P.info? f.type = some ti ∧ ti.size = n ∧ P.underlying f.type = some d' ∧ d'.isRow = g
  | [], [], _ => ⟨rfl, by simp⟩
  | [], _ :: _, h => by cases h
  | _ :: _, [], h => by cases h
  | f :: fs, (o, n, g) :: gs, h => by
    simp only [fieldsB, Bool.and_eq_true, decide_eq_true_eq] at h
    obtain ⟨⟨h1, h2⟩, h3⟩ := h
    obtain ⟨k1, k2⟩ := fieldsB_r h3
    refine ⟨by simp [k1], fun k o' n' g' hk => ?_⟩
    cases k with
    | zero =>
      simp only [List.getElem?_cons_zero, Option.some.injEq, Prod.mk.injEq] at hk
      obtain ⟨rfl, rfl, rfl⟩ := hk
      split at h2
      · rename_i ti d hti hd
        simp only [Bool.and_eq_true, decide_eq_true_eq, beq_iff_eq] at h2
        exact ⟨f, ti, d, rfl, h1, hti, h2.1, hd, h2.2⟩
      · cases h2
    | succ k => exact k2 k o' n' g' (by simpa using hk)
theorem undB_r {P : Program} {d : TypeDesc} {k : TK} (h : undB P d k = true) : UndOk P d k := by
  unfold undB at h
  cases k with
  | other => trivial
  | int k =>
    simp only at h
    split at h
    · simp only [decide_eq_true_eq] at h; subst h; rfl
    · cases h
  | str =>
    simp only at h
    split at h
    · rfl
    · cases h
  | slice e sz bytes =>
    simp only at h
    split at h
    · rename_i e'
      simp only [Bool.and_eq_true, decide_eq_true_eq] at h
      obtain ⟨rfl, h⟩ := h
      split at h
      · rename_i ti hti
        simp only [Bool.and_eq_true, decide_eq_true_eq] at h
        obtain ⟨⟨⟨h1, h2⟩, h3⟩, h4⟩ := h
        split at h3
        · rename_i z hz
          exact ⟨rfl, ti, z, hti, h1, h2, hz, by simpa using h3, h4⟩
        · cases h3
      · cases h
    · cases h
  | array len e sz g =>
    simp only at h
    split at h
    · simp only [Bool.and_eq_true, decide_eq_true_eq] at h
      obtain ⟨⟨rfl, rfl⟩, h⟩ := h
      split at h
      · rename_i ti hti
        exact ⟨rfl, ti, hti, by simpa using h⟩
      · cases h
    · cases h
  | struct fs =>
    simp only at h
    split at h
    · rename_i fields
      obtain ⟨h1, h2⟩ := fieldsB_r h
      exact ⟨fields, rfl, by simpa using h1, fun k o n g hk => by
        obtain ⟨f, ti, d', k1, k2⟩ := h2 k o n g hk
        exact ⟨f, ti, d', by simpa using k1, k2⟩⟩
    · cases h
theorem tokB_r {P : Program} {t : Nat} {i : TI} (h : tokB P t i = true) : TOk P t i := by
  simp only [tokB, Bool.and_eq_true] at h
  obtain ⟨h1, h2⟩ := h
  constructor
  · split at h1
    · rename_i ti hti
      simp only [Bool.and_eq_true, decide_eq_true_eq] at h1
      obtain ⟨⟨k1, k2⟩, k3⟩ := h1
      split at k2
      · rename_i z hz
        exact ⟨ti, z, hti, k1, hz, fun κ H => sameZs_r k2⟩
      · cases k2
    · cases h1
  · split at h2
    · rename_i d hd
      simp only [Bool.and_eq_true, beq_iff_eq] at h2
      exact ⟨d, hd, undB_r h2.1, h2.2⟩
    · cases h2
def fbB (P : Program) (f : Nat) : Bool := match P.funcs[f]? with
  | some fn => fn.body.isSome && !(fn.name == "runtime.NumGoroutine")
  | none => false
theorem tlist_ok : (tlist.all fun p => tokB Tryd.prog p.1 p.2) = true := by kernel_rfl
theorem fbs_ok : ((List.range 105).all fun f => !J.fb f || fbB Tryd.prog f) = true := by kernel_rfl
theorem follows_ok : Tryd.prog.follows .mixedOrders = true := by kernel_rfl
theorem find_mem {α : Type} : ∀ {l : List (Nat × α)} {d : Nat} {x : α}, find d l = some x → (d, x) ∈ l
  | [], d, x, h => by cases h
  | (k, y) :: l, d, x, h => by
    rw [find_cons] at h
    split at h
    · rename_i hk; cases h; rw [hk]; exact List.mem_cons_self ..
    · exact List.mem_cons_of_mem _ (find_mem h)
theorem guard104 : Tryd.prog.eqGuardType Tryd.prog.depth 104 = false := by kernel_rfl
theorem und104 : Tryd.prog.underlying 104 = some (.struct (Tryd.prog.fieldsOf 104)) := by kernel_rfl
theorem stood104 : Tryd.prog.stoodInHeld 104 = false := by kernel_rfl
theorem fields104 : (Tryd.prog.fieldsOf 104).toList = [⟨ "kind", 3, 0, false, "", "warp/parse", 0⟩, ⟨ "s", 9, 1, false, "", "warp/parse", 8⟩] := by kernel_rfl
theorem und3 : Tryd.prog.underlying 3 = some (.int .i64) := by kernel_rfl
theorem und9 : Tryd.prog.underlying 9 = some .string := by kernel_rfl
set_option maxRecDepth 100000 in
theorem E : Env Tryd.prog T J where
  tab := fun t i h => tokB_r (List.all_eq_true.1 tlist_ok (t, i) (find_mem h))
  sgn := by
    intro t ht x y a b s u w
    have ht := beq_true ht
    subst ht
    rw [Sem.run_bind, run_eqGuard_agg w .eql 104 x y _ _ guard104, Result.andThen_ok, run_eql_struct, run_equalIn_agg w 9999 104 _ _ und104 stood104, fields104]
    have p3 : ∀ (a : Int) (s : ByteArray), (part 3 #[.int .i64 a, .string s] 0).run Tryd.prog w = .ok (.int .i64 a) w := fun a s => by simp [part, isAgg, run_underlying und3]
    have p9 : ∀ (a : Int) (s : ByteArray), (part 9 #[.int .i64 a, .string s] 1).run Tryd.prog w = .ok (.string s) w := fun a s => by simp [part, isAgg, run_underlying und9]
    have q3 : (Op.equalIn 9999 3 (.int .i64 a) (.int .i64 b)).run Tryd.prog w = .ok (a == b) w := run_equalIn_int w 9998 3 .i64 .i64 a b und3
    have q9 : (Op.equalIn 9999 9 (.string s) (.string u)).run Tryd.prog w = .ok (s.toList == u.toList) w := run_equalIn_string w 9998 9 s u und9
    simp only [Op.eqFields, Sem.run_bind, Sem.run_ite, p3, p9, Result.andThen_ok, q3, q9, beq_int, beq_bytes]
    by_cases h1 : a = b <;> by_cases h2 : s = u <;> simp [h1, h2]
  fbs := by
    intro f hf
    have hlt : f < 105 := by
      simp only [J, Bool.and_eq_true, Bool.or_eq_true] at hf
      rcases hf.2 with h | h
      · have := Nat.le_of_ble_eq_true h; omega
      · have := beq_true h; omega
    have := List.all_eq_true.1 fbs_ok f (List.mem_range.2 hlt)
    rw [hf] at this
    simp only [Bool.not_true, Bool.false_or] at this
    unfold fbB at this
    split at this
    · rename_i fn hfn
      simp only [Bool.and_eq_true, Bool.not_eq_true'] at this
      obtain ⟨c, hc⟩ := Option.isSome_iff_exists.1 this.1
      exact ⟨fn, c, hfn, hc, this.2⟩
    · cases this
  any := follows_ok
end Go.Proofs.YtoapgongbackaaaDoor.V

/-! V20: states that say less: for the heads of loops. -/
namespace Go.Proofs.YtoapgongbackaaaDoor.V
open Go

def mem (d : Nat) : List Nat → Bool
  | [] => false
  | k :: l => Nat.beq k d || mem d l
theorem mem_iff {d : Nat} : ∀ {l : List Nat}, mem d l = true ↔ d ∈ l
  | [] => by simp [mem]
  | k :: l => by
    simp only [mem, Bool.or_eq_true, List.mem_cons, mem_iff (l := l)]
    constructor
    · rintro (h | h)
      · exact .inl (beq_true h).symm
      · exact .inr h
    · rintro (h | h)
      · exact .inl (by rw [h]; exact nbeq_self k)
      · exact .inr h
mutual
def renC (s : St) (bl pl : List Nat) : AC → AC
  | .ptr d g off => match find d s.boxes with
    | some b => match Nat.beq b.gen g && mem d bl with
      | true => .ptr d 0 off
      | false => .any
    | none => .any
  | .sl e sz xs (some (d, g)) => match find d s.perms with
    | some p => match Nat.beq p.gen g && p.live && mem d pl with
      | true => .sl e sz xs (some (d, 0))
      | false => .sl e sz xs none
    | none => .sl e sz xs none
  | .clo f cs => .clo f (renL s bl pl cs)
  | .sl e sz xs none => .sl e sz xs none
  | .any => .any
  | .v x => .v x
  | .nil e sz => .nil e sz
  | .ref cs off => .ref cs off
def renL (s : St) (bl pl : List Nat) : List AC → List AC
  | [] => []
  | c :: cs => renC s bl pl c :: renL s bl pl cs
end
def renA (s : St) (bl pl : List Nat) : AV → AV
  | .undef => .undef
  | .one c => .one (renC s bl pl c)
  | .agg cs => .agg (renL s bl pl cs)
  | .tup _ => .undef
def keepM {α β : Type} (f : α → β) (m : List (Nat × α)) : List Nat → List (Nat × β)
  | [] => []
  | d :: l => match find d m with
    | some x => (d, f x) :: keepM f m l
    | none => keepM f m l
theorem find_keepM {α β : Type} {f : α → β} {m : List (Nat × α)} (d : Nat) : ∀ (l : List Nat), find d (keepM f m l) = if d ∈ l then (find d m).map f else none
  | [] => by simp [keepM, find]
  | k :: l => by
    unfold keepM
    have ih := find_keepM (f := f) (m := m) d l
    split
    · rename_i x hx
      rw [find_cons]
      by_cases hk : k = d
      · subst hk; simp [hx]
      · simp only [hk, if_false, ih, List.mem_cons]
        by_cases hd : d ∈ l
        · simp [hd]
        · simp [hd, Ne.symm hk]
    · rename_i hx
      rw [ih]
      by_cases hk : k = d
      · subst hk; simp [hx]
      · by_cases hd : d ∈ l
        · simp [hd]
        · simp [hd, Ne.symm hk]
/-- What is kept of a state; all generations begin anew. -/
def norm (tl bl pl : List Nat) (s : St) : St :=
  ⟨keepM (renA s bl pl) s.tmps tl, keepM (fun b => ⟨0, b.ty, renL s bl pl b.cells⟩) s.boxes bl, keepM (fun p => ⟨0, p.e, p.sz, p.live⟩) s.perms pl⟩

section
variable {X : Ctx} {κ : Con} {H : Fz} {s : St} {a : Act} {w : World}

def genB (s : St) (d : Nat) : Nat := match find d s.boxes with | some b => b.gen | none => 0
def genP (s : St) (d : Nat) : Nat := match find d s.perms with | some p => p.gen | none => 0
def Con.norm (κ : Con) (s : St) (bl pl : List Nat) : Con :=
  ⟨fun d _ => κ.blk d (genB s d), fun d _ => κ.row d (genP s d), fun d => if d ∈ bl ∧ (find d s.boxes).isSome then 1 else 0, fun d => if d ∈ pl ∧ (find d s.perms).isSome then 1 else 0⟩

mutual
theorem renC_r {bl pl : List Nat} : ∀ {c : AC} {u : Value}, ACr κ H c u → ACr (κ.norm s bl pl) H (renC s bl pl c) u
  | .any, _, h => by cases h with | any _ h => exact .any _ h
  | .v _, _, h => by cases h with | v _ h => exact .v _ h
  | .nil _ _, _, h => by cases h with | zero => exact .zero _ _
  | .ref _ _, _, h => by cases h with | ref _ _ b off us hl hu hr => exact .ref _ _ b off us hl hu hr
  | .ptr d g off, u, h => by
    have hone := h.oneCell
    unfold renC
    split
    · rename_i b hf
      split
      · rename_i hb
        simp only [Bool.and_eq_true] at hb
        have hg := beq_true hb.1
        have hm := mem_iff.1 hb.2
        cases h with
        | ptr _ _ _ hlt =>
          have := ACr.ptr (κ := κ.norm s bl pl) (H := H) d 0 off (by simp [Con.norm, hm, hf])
          have e : (κ.norm s bl pl).blk d 0 = κ.blk d g := by simp [Con.norm, genB, hf, hg]
          rw [e] at this
          exact this
      · exact .any _ hone
    · exact .any _ hone
  | .sl e sz xs none, u, h => by
    unfold renC
    cases h with
    | nil _ _ _ A cap _ => exact .nil e sz none A cap (TokOk.none _ _)
    | sl _ _ _ _ b off cap us hc hs hl hu hr _ => exact .sl e sz xs none b off cap us hc hs hl hu hr (TokOk.none _ _)
  | .sl e sz xs (some (d, g)), u, h => by
    have hnone : ACr (κ.norm s bl pl) H (.sl e sz xs none) u := by
      cases h with
      | nil _ _ _ A cap _ => exact .nil e sz none A cap (TokOk.none _ _)
      | sl _ _ _ _ b off cap us hc hs hl hu hr _ => exact .sl e sz xs none b off cap us hc hs hl hu hr (TokOk.none _ _)
    unfold renC
    split
    · rename_i p hf
      split
      · rename_i hb
        simp only [Bool.and_eq_true] at hb
        have hg := beq_true hb.1.1
        have hm := mem_iff.1 hb.2
        have htok : ∀ v, TokOk κ (some (d, g)) v → TokOk (κ.norm s bl pl) (some (d, 0)) v := by
          rintro v hv d' g' hdg
          cases hdg
          obtain ⟨-, h2⟩ := hv d g rfl
          exact ⟨by simp [Con.norm, hm, hf], by simpa [Con.norm, genP, hf, hg] using h2⟩
        cases h with
        | nil _ _ _ A cap ht => exact .nil e sz _ A cap (htok _ ht)
        | sl _ _ _ _ b off cap us hc hs hl hu hr ht => exact .sl e sz xs _ b off cap us hc hs hl hu hr (htok _ ht)
      · exact hnone
    · exact hnone
  | .clo f cs, u, h => by
    unfold renC
    cases h with
    | clo _ _ us hl hr =>
      have := renL_r (bl := bl) (pl := pl) (cs := cs) (us := us) ⟨hl, hr⟩
      exact .clo f _ us this.1 this.2
theorem renL_r {bl pl : List Nat} : ∀ {cs : List AC} {us : List Value}, Cs κ H cs us → Cs (κ.norm s bl pl) H (renL s bl pl cs) us
  | [], us, h => by rw [h.inv_nil]; exact .nil
  | c :: cs, us, h => by
    obtain ⟨u, us', rfl, h1, h2⟩ := h.inv_cons
    unfold renL
    exact .cons (renC_r h1) (renL_r h2)
end
theorem renA_r {bl pl : List Nat} {v : AV} {u : Value} (h : AVr κ H v u) : AVr (κ.norm s bl pl) H (renA s bl pl v) u := by
  cases h with
  | undef => exact .undef u
  | one c u h => exact .one _ _ (renC_r h)
  | agg cs us h => exact .agg _ _ (renL_r h)
  | tup => exact .undef _

theorem Wk.norm (tl bl pl : List Nat) (s : St) : Wk s (V.norm tl bl pl s) := by
  intro X κ H a w h
  have bx : ∀ {d b'}, find d (V.norm tl bl pl s).boxes = some b' → ∃ b, find d s.boxes = some b ∧ d ∈ bl ∧ b' = ⟨0, b.ty, renL s bl pl b.cells⟩ ∧ (κ.norm s bl pl).blk d b'.gen = κ.blk d b.gen := by
    intro d b' e
    simp only [V.norm, find_keepM] at e
    split at e
    · rename_i hd
      rw [Option.map_eq_some_iff] at e
      obtain ⟨b, hb, rfl⟩ := e
      exact ⟨b, hb, hd, rfl, by simp [Con.norm, genB, hb]⟩
    · cases e
  have pm : ∀ {d p'}, find d (V.norm tl bl pl s).perms = some p' → ∃ p, find d s.perms = some p ∧ d ∈ pl ∧ p' = ⟨0, p.e, p.sz, p.live⟩ ∧ (κ.norm s bl pl).row d p'.gen = κ.row d p.gen := by
    intro d p' e
    simp only [V.norm, find_keepM] at e
    split at e
    · rename_i hd
      rw [Option.map_eq_some_iff] at e
      obtain ⟨p, hp, rfl⟩ := e
      exact ⟨p, hp, hd, rfl, by simp [Con.norm, genP, hp]⟩
    · cases e
  refine ⟨κ.norm s bl pl, { size := h.size, tmps := ?_, defers := h.defers, fz := h.fz, hk := h.hk, h0 := h.h0, box := ?_, nobox := ?_, args := ?_, perm := ?_, noperm := ?_, bb := ?_, rr := ?_, br := ?_, pb := ?_, pr := ?_, keep := h.keep, grown := h.grown, os := h.os, tape := h.tape, output := h.output }⟩
  · intro t v e
    simp only [V.norm, find_keepM] at e
    split at e
    · rw [Option.map_eq_some_iff] at e
      obtain ⟨v', hv, rfl⟩ := e
      exact renA_r (h.tmps t v' hv)
    · cases e
  · intro d b' e
    obtain ⟨b, hb, hd, rfl, hblk⟩ := bx e
    rw [hblk]
    obtain ⟨k1, m1, us, m2, m3⟩ := h.box d b hb
    exact ⟨by simp [Con.norm, hd, hb], m1, us, m2, renL_r m3⟩
  · intro d e
    simp only [V.norm, find_keepM] at e
    simp only [Con.norm]
    rw [if_neg]
    rintro ⟨hd, hs⟩
    rw [if_pos hd] at e
    obtain ⟨b, hb⟩ := Option.isSome_iff_exists.1 hs
    rw [hb] at e; cases e
  · intro d b' hd e
    obtain ⟨b, hb, -, rfl, hblk⟩ := bx e
    rw [hblk]; exact h.args d b hd hb
  · intro d p' e
    obtain ⟨p, hp, hd, rfl, hrow⟩ := pm e
    rw [hrow]
    exact ⟨by simp [Con.norm, hd, hp], fun l => (h.perm d p hp).2 l⟩
  · intro d e
    simp only [V.norm, find_keepM] at e
    simp only [Con.norm]
    rw [if_neg]
    rintro ⟨hd, hs⟩
    rw [if_pos hd] at e
    obtain ⟨b, hb⟩ := Option.isSome_iff_exists.1 hs
    rw [hb] at e; cases e
  · intro d d' b b' e e' hq
    obtain ⟨c, hc, -, rfl, h1⟩ := bx e
    obtain ⟨c', hc', -, rfl, h1'⟩ := bx e'
    rw [h1, h1'] at hq
    exact h.bb d d' c c' hc hc' hq
  · intro d d' p p' k e e' l l' hq hq'
    obtain ⟨c, hc, -, rfl, h1⟩ := pm e
    obtain ⟨c', hc', -, rfl, h1'⟩ := pm e'
    rw [h1] at hq
    rw [h1'] at hq'
    exact h.rr d d' c c' k hc hc' l l' hq hq'
  · intro d d' b p e e' l
    obtain ⟨c, hc, -, rfl, h1⟩ := bx e
    obtain ⟨c', hc', -, rfl, h1'⟩ := pm e'
    rw [h1, h1']
    exact h.br d d' c c' hc hc' l
  · intro d b e
    obtain ⟨c, hc, -, rfl, h1⟩ := bx e
    rw [h1]; exact h.pb d c hc
  · intro d p k e l hq
    obtain ⟨c, hc, -, rfl, h1⟩ := pm e
    rw [h1] at hq
    exact h.pr d c k hc l hq
end
theorem Wk.refl (s : St) : Wk s s := fun _ κ _ _ _ h => ⟨κ, h⟩
theorem Wk.trans {s s1 s2 : St} (h : Wk s s1) (k : Wk s1 s2) : Wk s s2 := fun X κ H a w hr =>
  let ⟨κ1, h1⟩ := h X κ H a w hr
  k X κ1 H a w h1

/-- nil, taken for a row that may grow: in a tmp. -/
def adT : List (Nat × Nat × Nat × Nat) → St → St
  | [], s => s
  | (t, d, e, sz) :: l, s => adT l (match find t s.tmps, find d s.perms with
    | some (.one (.v (.slice none 0 0))), none => ⟨putB t (.one (.sl e sz [] (some (d, 0)))) s.tmps, s.boxes, putB d ⟨0, e, sz, true⟩ s.perms⟩
    | some (.one (.nil _ _)), none => ⟨putB t (.one (.sl e sz [] (some (d, 0)))) s.tmps, s.boxes, putB d ⟨0, e, sz, true⟩ s.perms⟩
    | _, _ => s)
/-- The same, in a box's cell. -/
def adB : List (Nat × Nat × Nat × Nat × Nat) → St → St
  | [], s => s
  | (d0, i, d, e, sz) :: l, s => adB l (match find d0 s.boxes, find d s.perms with
    | some ⟨g, ty, cells⟩, none => match cells[i]? with
      | some (.nil _ _) => ⟨s.tmps, putB d0 ⟨g, ty, cells.set i (.sl e sz [] (some (d, 0)))⟩ s.boxes, putB d ⟨0, e, sz, true⟩ s.perms⟩
      | _ => s
    | _, _ => s)
theorem adopt {X : Ctx} {κ : Con} {H : Fz} {s : St} {a : Act} {w : World} (h : Rel X κ H s a w) {d e sz : Nat} (hf : find d s.perms = none) :
    Rel X (κ.addRow d (.slice none 0 0)) H ⟨s.tmps, s.boxes, putB d ⟨0, e, sz, true⟩ s.perms⟩ a w ∧ ACr (κ.addRow d (.slice none 0 0)) H (.sl e sz [] (some (d, 0))) (.slice none 0 0) := by
  have h0 := h.noperm d hf
  have := h.addRow (d := d) (e := e) (sz := sz) (u := .slice none 0 0) (.inl rfl) (fun _ _ _ => by simp [Value.ownBlock]) (fun _ _ _ _ _ _ _ => by simp [Value.ownBlock]) (fun _ hq => by simp [Value.ownBlock] at hq)
  rw [h0] at this
  exact ⟨this.1, .nil e sz _ none 0 this.2⟩
theorem Wk.adT : ∀ (l : List (Nat × Nat × Nat × Nat)) (s : St), Wk s (V.adT l s)
  | [], s => .refl s
  | (t, d, e, sz) :: l, s => by
    refine Wk.trans ?_ (Wk.adT l _)
    split
    · rename_i ht hd
      intro X κ H a w h
      obtain ⟨h1, h2⟩ := adopt (e := e) (sz := sz) h hd
      refine ⟨_, { h1 with size := h1.size, defers := h1.defers, tmps := fun i v hv => ?_ }⟩
      simp only [find_putB] at hv
      split at hv
      · rename_i hti
        subst hti
        cases hv
        have := (inv_v (h.tmps t _ ht)).1
        rw [this]
        exact .one _ _ h2
      · exact h1.tmps i v hv
    · rename_i ht hd
      intro X κ H a w h
      obtain ⟨h1, h2⟩ := adopt (e := e) (sz := sz) h hd
      refine ⟨_, { h1 with size := h1.size, defers := h1.defers, tmps := fun i v hv => ?_ }⟩
      simp only [find_putB] at hv
      split at hv
      · rename_i hti
        subst hti
        cases hv
        have := inv_nil (h.tmps t _ ht)
        rw [this]
        exact .one _ _ h2
      · exact h1.tmps i v hv
    · exact .refl s
theorem Wk.adB : ∀ (l : List (Nat × Nat × Nat × Nat × Nat)) (s : St), Wk s (V.adB l s)
  | [], s => .refl s
  | (d0, i, d, e, sz) :: l, s => by
    refine Wk.trans ?_ (Wk.adB l _)
    split
    · rename_i g ty cells hb hd
      split
      · rename_i hc
        intro X κ H a w h
        obtain ⟨h1, h2⟩ := adopt (e := e) (sz := sz) h hd
        refine ⟨_, h1.boxes (H' := H) (w' := w) (fun d' b' e' => ?_) (fun d' e' => ?_) (Fz.le_refl H) h1.fz (fun _ _ _ => ⟨rfl, rfl⟩) (Nat.le_refl _) rfl rfl rfl⟩
        · rw [find_putB] at e'
          split at e'
          · rename_i hdd
            subst hdd
            cases e'
            obtain ⟨k1, m1, us, m2, m3⟩ := h1.box d0 _ hb
            refine ⟨_, hb, rfl, m1, us, m2, ?_⟩
            refine ⟨by simp [m3.1], fun j c u hj hu => ?_⟩
            rw [List.getElem?_set] at hj
            split at hj
            · rename_i hij
              subst hij
              split at hj
              · cases hj
                have := m3.2 i _ u hc hu
                cases this with | zero => exact h2
              · cases hj
            · exact m3.2 j c u hj hu
          · exact ⟨b', e', rfl, (h1.box d' b' e').2⟩
        · rw [find_putB] at e'
          split at e'
          · cases e'
          · exact e'
      · exact .refl s
    · exact .refl s
mutual
def tkC (d d' : Nat) : AC → AC
  | .sl e sz xs (some (k, g)) => match Nat.beq k d && Nat.beq g 0 with
    | true => .sl e sz xs (some (d', 0))
    | false => .sl e sz xs (some (k, g))
  | .clo f cs => .clo f (tkL d d' cs)
  | .sl e sz xs none => .sl e sz xs none
  | .any => .any
  | .v x => .v x
  | .nil e sz => .nil e sz
  | .ptr k g off => .ptr k g off
  | .ref cs off => .ref cs off
def tkL (d d' : Nat) : List AC → List AC
  | [] => []
  | c :: cs => tkC d d' c :: tkL d d' cs
end
def tkA (d d' : Nat) : AV → AV
  | .undef => .undef
  | .one c => .one (tkC d d' c)
  | .agg cs => .agg (tkL d d' cs)
  | .tup _ => .undef
def tkM {α β : Type} (f : α → β) : List (Nat × α) → List (Nat × β)
  | [] => []
  | (k, x) :: l => (k, f x) :: tkM f l
theorem find_tkM {α β : Type} {f : α → β} (d : Nat) : ∀ l : List (Nat × α), find d (tkM f l) = (find d l).map f
  | [] => rfl
  | (k, x) :: l => by
    simp only [tkM, find_cons, find_tkM d l]
    split <;> rfl
/-- A row takes another name. -/
def rn : List (Nat × Nat) → St → St
  | [], s => s
  | (d, d') :: l, s => rn l (match find d s.perms, find d' s.perms with
    | some ⟨0, e, sz, true⟩, none => ⟨tkM (tkA d d') s.tmps, tkM (fun b => ⟨b.gen, b.ty, tkL d d' b.cells⟩) s.boxes, putB d' ⟨0, e, sz, true⟩ (dropB d s.perms)⟩
    | _, _ => s)
mutual
theorem tkC_r {κ κ' : Con} {H : Fz} {d d' : Nat} (hle : Con.le κ κ') (ht : ∀ u, TokOk κ (some (d, 0)) u → TokOk κ' (some (d', 0)) u) : ∀ {c : AC} {u : Value}, ACr κ H c u → ACr κ' H (tkC d d' c) u
  | .any, _, h => h.mono hle (Fz.le_refl H)
  | .v _, _, h => h.mono hle (Fz.le_refl H)
  | .nil _ _, _, h => h.mono hle (Fz.le_refl H)
  | .ref _ _, _, h => h.mono hle (Fz.le_refl H)
  | .ptr _ _ _, _, h => h.mono hle (Fz.le_refl H)
  | .sl _ _ _ none, _, h => h.mono hle (Fz.le_refl H)
  | .sl e sz xs (some (k, g)), u, h => by
    unfold tkC
    split
    · rename_i hb
      simp only [Bool.and_eq_true] at hb
      have h1 := beq_true hb.1
      have h2 := beq_true hb.2
      subst h1; subst h2
      cases h with
      | nil _ _ _ A cap hk => exact .nil e sz _ A cap (ht _ hk)
      | sl _ _ _ _ b off cap us hc hs hl hu hr hk => exact .sl e sz xs _ b off cap us hc hs hl hu hr (ht _ hk)
    · exact h.mono hle (Fz.le_refl H)
  | .clo f cs, u, h => by
    unfold tkC
    cases h with
    | clo _ _ us hl hr =>
      have := tkL_r hle ht (cs := cs) (us := us) ⟨hl, hr⟩
      exact .clo f _ us this.1 this.2
theorem tkL_r {κ κ' : Con} {H : Fz} {d d' : Nat} (hle : Con.le κ κ') (ht : ∀ u, TokOk κ (some (d, 0)) u → TokOk κ' (some (d', 0)) u) : ∀ {cs : List AC} {us : List Value}, Cs κ H cs us → Cs κ' H (tkL d d' cs) us
  | [], us, h => by rw [h.inv_nil]; exact .nil
  | c :: cs, us, h => by
    obtain ⟨u, us', rfl, h1, h2⟩ := h.inv_cons
    unfold tkL
    exact .cons (tkC_r hle ht h1) (tkL_r hle ht h2)
end
theorem Wk.rn : ∀ (l : List (Nat × Nat)) (s : St), Wk s (V.rn l s)
  | [], s => .refl s
  | (d, d') :: l, s => by
    refine Wk.trans ?_ (Wk.rn l _)
    split
    · rename_i e sz hd hd'
      intro X κ H a w h
      obtain ⟨hnr, htl⟩ := h.perm d _ hd
      have htl := htl rfl
      simp only at hnr htl
      have hne : d ≠ d' := fun e => by rw [e] at hd; rw [hd] at hd'; cases hd'
      have h0 : κ.nr d' = 0 := h.noperm d' hd'
      obtain ⟨h1, h2⟩ := (h.drop d).addRow (d := d') htl (fun k b hb => by have := h.br k d b _ hb hd rfl; simpa using this) (fun k p j hk hl hkd hj hq => by
        simp only [St.write] at hk
        rw [find_dropB] at hk
        split at hk
        · rw [Option.map_eq_some_iff] at hk
          obtain ⟨q, _, rfl⟩ := hk
          simp [Perm.dead] at hl
        · rename_i hkd'
          exact hkd' (h.rr k d p _ j hk hd hl rfl hj (by simpa using hq)).symm) (fun j hj => h.pr d _ j hd rfl (by simpa using hj))
      have hle : Con.le κ (κ.addRow d' (κ.row d 0)) := κ.le_addRow d' _
      have ht : ∀ u, TokOk κ (some (d, 0)) u → TokOk (κ.addRow d' (κ.row d 0)) (some (d', 0)) u := by
        intro u hu
        obtain ⟨-, hru⟩ := hu d 0 rfl
        rw [h0] at h2
        rw [← hru]; exact h2
      rw [h0] at h1
      refine ⟨κ.addRow d' (κ.row d 0), { h1 with size := h1.size, defers := h1.defers, tmps := ?_, box := ?_, nobox := ?_, args := ?_, bb := ?_, br := ?_, pb := ?_ }⟩
      · intro t v hv
        simp only [find_tkM, Option.map_eq_some_iff] at hv
        obtain ⟨v0, hv0, rfl⟩ := hv
        have := h.tmps t v0 hv0
        cases v0 with
        | undef => exact .undef _
        | tup => exact .undef _
        | one c => cases this with | one _ _ hc => exact .one _ _ (tkC_r hle ht hc)
        | agg cs =>
          generalize a.tmps.getD t Go.undef = u at this ⊢
          cases this with | agg _ us hc => exact .agg _ _ (tkL_r hle ht hc)
      · intro k b hb
        simp only [find_tkM, Option.map_eq_some_iff] at hb
        obtain ⟨b0, hb0, rfl⟩ := hb
        obtain ⟨k1, k2, -⟩ := h1.box k b0 hb0
        obtain ⟨-, -, us, m2, m3⟩ := h.box k b0 hb0
        exact ⟨k1, k2, us, m2, tkL_r hle ht m3⟩
      · intro k hk
        simp only [find_tkM, Option.map_eq_none_iff] at hk
        exact h1.nobox k hk
      · intro k b hA hb
        simp only [find_tkM, Option.map_eq_some_iff] at hb
        obtain ⟨b0, hb0, rfl⟩ := hb
        exact h1.args k b0 hA hb0
      · intro k k' b b' hb hb' hq
        simp only [find_tkM, Option.map_eq_some_iff] at hb hb'
        obtain ⟨b0, hb0, rfl⟩ := hb
        obtain ⟨b1, hb1, rfl⟩ := hb'
        exact h1.bb k k' b0 b1 hb0 hb1 hq
      · intro k k' b p hb hp hl
        simp only [find_tkM, Option.map_eq_some_iff] at hb
        obtain ⟨b0, hb0, rfl⟩ := hb
        exact h1.br k k' b0 p hb0 hp hl
      · intro k b hb
        simp only [find_tkM, Option.map_eq_some_iff] at hb
        obtain ⟨b0, hb0, rfl⟩ := hb
        exact h1.pb k b0 hb0
    · exact .refl s
def newNames (rl : List (Nat × Nat)) : List Nat → List Nat
  | [] => []
  | d :: l => (match find d rl with | some d' => d' | none => d) :: newNames rl l
def wkF (tl bl pl : List Nat) (rl : List (Nat × Nat)) (at_ : List (Nat × Nat × Nat × Nat)) (ab : List (Nat × Nat × Nat × Nat × Nat)) (s : St) : St :=
  adB ab (adT at_ (match rl with
    | [] => norm tl bl pl s
    | rl => norm tl bl (newNames rl pl) (V.rn rl (norm tl bl pl s))))
/-- All of it: what is not kept is forgotten; rows take other names; nils are taken for rows. -/
theorem wk (tl bl pl : List Nat) (rl : List (Nat × Nat)) (at_ : List (Nat × Nat × Nat × Nat)) (ab : List (Nat × Nat × Nat × Nat × Nat)) {s s0 : St} (h : wkF tl bl pl rl at_ ab s = s0) : Wk s s0 := by
  subst h
  unfold wkF
  refine Wk.trans ?_ ((Wk.adT at_ _).trans (Wk.adB ab _))
  split
  · exact Wk.norm tl bl pl s
  · exact (Wk.norm tl bl pl s).trans ((Wk.rn _ _).trans (Wk.norm tl bl _ _))
end Go.Proofs.YtoapgongbackaaaDoor.V

/-! V21: a function of the program. -/
namespace Go.Proofs.YtoapgongbackaaaDoor.V
open Go Go.Proofs

def bodyOf (fn : Func) : Code := match fn.body with
  | some c => c
  | none => .skip
def okFn (fn : Func) (n : Nat) : Bool := match fn.body with
  | some c => okCode fn.ntmps n c && Nat.ble n fn.ntmps
  | none => false
abbrev Ct (f : Nat) (xs : List Arg) (rs : List Res) (css : List (List AC)) : Prop := CT Tryd.prog G f xs rs css
theorem ct {f : Nat} {fn : Func} {xs : List Arg} {rs : List Res} {css : List (List AC)} (hf : Tryd.prog.funcs[f]? = some fn) (hok : okFn fn xs.length = true)
    (he : evF Tryd.prog T J G fn.results.toList (bodyOf fn) xs fun rs' css' => rs' = rs ∧ css' = css) : Ct f xs rs css := by
  unfold okFn at hok
  unfold bodyOf at he
  cases hb : fn.body with
  | none => rw [hb] at hok; cases hok
  | some c =>
    rw [hb] at hok he
    simp only [Bool.and_eq_true] at hok
    exact CT_of E hf hb hok.1 hok.2 he
end Go.Proofs.YtoapgongbackaaaDoor.V

/-! V22: a state between two parts of the code, by itself. -/
namespace Go.Proofs.YtoapgongbackaaaDoor.V
open Go

section
variable (P : Program) (T : Tab) (J : Kn) (G : Nat → Option (List AC))
theorem runP_mono {α : Type} {s : St} {K K' : α → List Loc → Prop} (hK : ∀ a ls, K a ls → K' a ls) : ∀ {r : Rd α} {ls : List Loc}, runP P G s r ls K → runP P G s r ls K'
  | .ret a, ls, h => hK a ls h
  | .tmp t k, ls, h => by
    unfold runP at h ⊢
    split <;> rename_i h1 <;> rw [h1] at h
    · exact runP_mono hK h
    · exact h
  | .box d k, ls, h => runP_mono (r := k _) hK h
  | .perm d k, ls, h => runP_mono (r := k _) hK h
  | .need p k, ls, h => ⟨h.1, runP_mono (r := k) hK h.2⟩
  | .elem xs i k, ls, h => h.imp fun _ h => ⟨h.1, runP_mono (r := k _) hK h.2⟩
  | .call f xs k, ls, h => h.imp fun _ h => h.imp fun _ h => ⟨h.1, runP_mono (r := k _ _) hK h.2⟩
  | .ite b k1 k2, ls, h => by
    cases b
    · exact runP_mono (r := k2) hK h
    · exact runP_mono (r := k1) hK h
  | .none, ls, h => h.elim
theorem evS_mono {ops : Array Oper} {K K' : St → Prop} (hK : ∀ s, K s → K' s) : ∀ {os : List Oper} {s : St}, evS P T J G ops os s K → evS P T J G ops os s K'
  | [], s, h => hK s h
  | o :: os, ⟨ts, bs, ps⟩, h => by
    refine runP_mono P G (r := evO T J G ops o) (fun ws ls h => ?_) h
    rw [writesK_eq] at h ⊢
    exact evS_mono hK h
end
section
variable {P : Program} {T : Tab} {J : Kn} {G : Nat → Option (List AC)}
/-- The rest of a region, up to the state that it leaves. -/
theorem cut {s : St} {r : Rd (List Wr)} {ls : List Loc} {ops : Array Oper} {os : List Oper} {ts : List (Nat × AV)} {bs : List (Nat × Box)} {ps : List (Nat × Perm)} {K : St → Prop} (s1 : St)
    (h : runP P G s r ls fun ws _ => writesK (fun s => evS P T J G ops os s fun st => st = s1) ws ts bs ps) (h2 : K s1) :
    runP P G s r ls fun ws _ => writesK (fun s => evS P T J G ops os s K) ws ts bs ps :=
  runP_mono P G (fun ws ls h => by
    rw [writesK_eq] at h ⊢
    exact evS_mono P T J G (fun s hs => by rw [hs]; exact h2) h) h
end
end Go.Proofs.YtoapgongbackaaaDoor.V

/-! V24: one operation at a time. -/
namespace Go.Proofs.YtoapgongbackaaaDoor.V
open Go Go.Proofs

theorem evF_of {rv : List ResultVar} {c : Code} {xs : List Arg} {K : List Res → List (List AC) → Prop} {ts : List (Nat × AV)} {bs : List (Nat × Box)} (h0 : args0 0 xs = (ts, bs))
    (h : evC Tryd.prog T J G c ⟨ts, bs, []⟩ fun e s => match e with
      | .exit _ => False
      | _ => resP T rv s fun rs => finP bs s fun css => K rs css) : evF Tryd.prog T J G rv c xs K := by
  unfold evF
  rw [argsK_eq, h0]
  exact h
theorem seqC {a b : Code} {s : St} {K : Ex → St → Prop} (h : evC Tryd.prog T J G a s fun
    | .normal, s => evC Tryd.prog T J G b s K
    | e, s => K e s) : evC Tryd.prog T J G (.seq a b) s K := h
theorem regS {id : Nat} {ops : Array Oper} {s : St} {K : Ex → St → Prop} (h : evS Tryd.prog T J G ops ops.toList s (K .normal)) : evC Tryd.prog T J G (.region id ops false) s K := h
theorem regL {id : Nat} {l : List Oper} {s : St} {K : Ex → St → Prop} (h : evS Tryd.prog T J G l.toArray l s (K .normal)) : evC Tryd.prog T J G (.region id l.toArray false) s K := h
theorem stepS {ops : Array Oper} {o : Oper} {os : List Oper} {ts : List (Nat × AV)} {bs : List (Nat × Box)} {ps : List (Nat × Perm)} {K : St → Prop} (s1 : St)
    (h : runP Tryd.prog G ⟨ts, bs, ps⟩ (evO T J G ops o) [] fun ws _ => writesK (fun st => st = s1) ws ts bs ps) (h2 : evS Tryd.prog T J G ops os s1 K) :
    evS Tryd.prog T J G ops (o :: os) ⟨ts, bs, ps⟩ K :=
  runP_mono _ _ (r := evO T J G ops o) (fun ws ls h => by
    rw [writesK_eq] at h ⊢
    rw [h]
    exact h2) h
theorem endS {ops : Array Oper} {s : St} {K : St → Prop} (h : K s) : evS Tryd.prog T J G ops [] s K := h
end Go.Proofs.YtoapgongbackaaaDoor.V

/-! V25: one operation at a time, where the order is drawn. -/
namespace Go.Proofs.YtoapgongbackaaaDoor.V
open Go Go.Proofs

theorem regD {id : Nat} {ops : Array Oper} {s : St} {K : Ex → St → Prop} (h : evD Tryd.prog T J G ops ops.toList s [] (K .normal)) : evC Tryd.prog T J G (.region id ops true) s K := h
theorem stepD {ops : Array Oper} {o : Oper} {os : List Oper} {ts : List (Nat × AV)} {bs : List (Nat × Box)} {ps : List (Nat × Perm)} {acc : List (List Loc × List Loc)} {K : St → Prop} (s1 : St) (l1 w1 : List Loc)
    (h : runP Tryd.prog G ⟨ts, bs, ps⟩ (evO T J G ops o) [] fun ws ls => (ls = l1 ∧ ws.map Wr.loc = w1) ∧ writesK (fun st => st = s1) ws ts bs ps) (h2 : evD Tryd.prog T J G ops os s1 (acc ++ [(l1, w1)]) K) :
    evD Tryd.prog T J G ops (o :: os) ⟨ts, bs, ps⟩ acc K :=
  runP_mono _ _ (r := evO T J G ops o) (fun ws ls h => by
    obtain ⟨⟨rfl, rfl⟩, h3⟩ := h
    rw [writesK_eq] at h3 ⊢
    rw [h3]
    exact h2) h
theorem endD {ops : Array Oper} {s : St} {acc : List (List Loc × List Loc)} {K : St → Prop} (h0 : apartOps ops acc = true) (h : K s) : evD Tryd.prog T J G ops [] s acc K := ⟨h0, h⟩
theorem regDL {id : Nat} {l : List Oper} {s : St} {K : Ex → St → Prop} (h : evD Tryd.prog T J G l.toArray l s [] (K .normal)) : evC Tryd.prog T J G (.region id l.toArray true) s K := h
theorem condC {c : Operand} {a b : Code} {s : St} {K : Ex → St → Prop} (t : Bool) (h : runP Tryd.prog G s (opd G c) [] fun v _ => v = .one (.v (.bool t))) (h2 : iteP t (evC Tryd.prog T J G a s K) (evC Tryd.prog T J G b s K)) : evC Tryd.prog T J G (.cond c a b) s K :=
  runP_mono _ _ (r := opd G c) (fun v ls h => by rw [h]; exact h2) h
theorem condF {c : Operand} {a b : Code} {s : St} {K : Ex → St → Prop} (h : runP Tryd.prog G s (opd G c) [] fun v _ => v = .one (.v (.bool false))) (h2 : evC Tryd.prog T J G b s K) : evC Tryd.prog T J G (.cond c a b) s K := condC false h h2
theorem condT {c : Operand} {a b : Code} {s : St} {K : Ex → St → Prop} (h : runP Tryd.prog G s (opd G c) [] fun v _ => v = .one (.v (.bool true))) (h2 : evC Tryd.prog T J G a s K) : evC Tryd.prog T J G (.cond c a b) s K := condC true h h2
theorem skipC {s : St} {K : Ex → St → Prop} (h : K .normal s) : evC Tryd.prog T J G .skip s K := h
theorem loopC {b : Code} {s : St} {K : Ex → St → Prop} (I : Nat → St → Prop) (h : ∃ n s0, Wk s s0 ∧ I n s0) (h2 : ∀ n s, I n s → evC Tryd.prog T J G b s fun
    | .normal, s => ∃ m s0, m < n ∧ Wk s s0 ∧ I m s0
    | e, s => K e s) : evC Tryd.prog T J G (.loop b) s K := ⟨I, h, h2⟩
theorem blockC {i : Nat} {b : Code} {s : St} {K : Ex → St → Prop} (h : evC Tryd.prog T J G b s fun
    | .exit j, s => match Nat.beq j i with
      | true => K .normal s
      | false => K (.exit j) s
    | e, s => K e s) : evC Tryd.prog T J G (.block i b) s K := h
theorem exitC {i : Nat} {s : St} {K : Ex → St → Prop} (h : K (.exit i) s) : evC Tryd.prog T J G (.exit i) s K := h
theorem retC {s : St} {K : Ex → St → Prop} (h : K .ret s) : evC Tryd.prog T J G .ret s K := h
end Go.Proofs.YtoapgongbackaaaDoor.V

/-! V26: what waits for what, by bits. -/
namespace Go.Proofs.YtoapgongbackaaaDoor.V
open Go Go.Proofs

def orM (acc : List Nat) : List Nat → Nat
  | [] => 0
  | i :: es => (2 ^ i ||| acc.getD i 0) ||| orM acc es
def waitsN : List Oper → List Nat → Option (List Nat)
  | [], acc => some acc
  | o :: os, acc =>
    let es := (o.after.toList.filter fun e => Region.binds .any e).map (·.on)
    match es.all fun i => Nat.blt i acc.length with
    | true => waitsN os (acc ++ [orM acc es])
    | false => none
def apartM (ms : List Nat) (rw : List (List Loc × List Loc)) : Bool :=
  (List.range rw.length).all fun j => (List.range j).all fun i =>
    (ms.getD j 0).testBit i ||
    (!meets (rw.getD i ([], [])).2 (rw.getD j ([], [])).1 && !meets (rw.getD i ([], [])).2 (rw.getD j ([], [])).2 && !meets (rw.getD i ([], [])).1 (rw.getD j ([], [])).2)
def apartN (ops : Array Oper) (rw : List (List Loc × List Loc)) : Bool :=
  match waitsN ops.toList [] with
  | some ms => apartM ms rw
  | none => false
def SameW (a : List (List Nat)) (m : List Nat) : Prop := a.length = m.length ∧ ∀ j i, (m.getD j 0).testBit i = (a.getD j []).contains i
theorem orM_bit {a : List (List Nat)} {m : List Nat} (h : SameW a m) (i : Nat) : ∀ es : List Nat, (orM m es).testBit i = (es ++ es.flatMap fun i => a.getD i []).contains i
  | [] => by simp [orM]
  | e :: es => by
    simp only [orM, Nat.testBit_or, Nat.testBit_two_pow, orM_bit h i es, h.2 e i]
    rw [Bool.eq_iff_iff]
    simp only [Bool.or_eq_true, decide_eq_true_eq, List.contains_iff_mem, List.mem_append, List.mem_cons, List.flatMap_cons]
    constructor
    · rintro ((h | h) | (h | h))
      · exact .inl (.inl h.symm)
      · exact .inr (.inl h)
      · exact .inl (.inr h)
      · exact .inr (.inr h)
    · rintro ((h | h) | (h | h))
      · exact .inl (.inl h.symm)
      · exact .inr (.inl h)
      · exact .inl (.inr h)
      · exact .inr (.inr h)
theorem SameW.snoc {a : List (List Nat)} {m : List Nat} (h : SameW a m) (es : List Nat) : SameW (a ++ [es ++ es.flatMap fun i => a.getD i []]) (m ++ [orM m es]) := by
  refine ⟨by simp [h.1], fun j i => ?_⟩
  have hb := orM_bit h i es
  simp only [List.getD_eq_getElem?_getD] at hb ⊢
  rcases Nat.lt_trichotomy j m.length with hj | hj | hj
  · rw [List.getElem?_append_left hj, List.getElem?_append_left (by rw [h.1]; exact hj)]
    have := h.2 j i
    simpa only [List.getD_eq_getElem?_getD] using this
  · subst hj
    rw [List.getElem?_concat_length, ← h.1, List.getElem?_concat_length]
    exact hb
  · rw [List.getElem?_eq_none (by simp; omega), List.getElem?_eq_none (by simp; have := h.1; omega)]
    simp
theorem waits_same : ∀ (os : List Oper) {a : List (List Nat)} {m m' : List Nat}, SameW a m → waitsN os m = some m' → ∃ a', waits os a = some a' ∧ SameW a' m'
  | [], a, m, m', h, e => by
    simp only [waitsN, Option.some.injEq] at e
    subst e
    exact ⟨a, rfl, h⟩
  | o :: os, a, m, m', h, e => by
    simp only [waitsN] at e
    simp only [waits]
    rw [h.1]
    split at e
    · rename_i h1
      rw [h1]
      exact waits_same os (h.snoc _) e
    · cases e
theorem apart_of {ops : Array Oper} {rw_ : List (List Loc × List Loc)} (h : apartN ops rw_ = true) : apartOps ops rw_ = true := by
  unfold apartN at h
  unfold apartOps
  split at h
  · rename_i ms h1
    obtain ⟨a', h2, h3⟩ := waits_same ops.toList (a := []) (m := []) ⟨rfl, fun j i => by simp⟩ h1
    rw [h2]
    unfold apartM at h
    unfold apart
    simp only [h3.2] at h
    exact h
  · cases h
end Go.Proofs.YtoapgongbackaaaDoor.V

/-! V27: a range over a function: operations in a round's frame; calls that leave a mark; what a state says of a grown world. -/
namespace Go.Proofs.YtoapgongbackaaaDoor.V
open Go

section
variable {P : Program} {T : Tab} {J : Kn} {G : Nat → Option (List AC)} {X : Ctx} {κ : Con} {H : Fz} {s : St} {a : Act} {w : World}

/-- Every function may be entered; the frame is a round's, or none. -/
abbrev FR (r : Option Nat) : Fence := { Fence.wide with round := r }
theorem callsFR {r : Option Nat} {n : Nat} {f : FuncId} {args : Array Value} {w : World} {R : Ending → World → Prop} (h : Calls P f args w R) : CallsIn (FR r) n P f args w R :=
  (show CallsIn Fence.wide n P f args w R from callsIn_wide.2 h)

theorem put_ds (a : Act) (ds : List Deferred) (x : Option Nat) (v : Value) : ({ tmps := a.tmps, defers := a.defers ++ ds } : Act).put x v = { tmps := (a.put x v).tmps, defers := (a.put x v).defers ++ ds } := by cases x <;> rfl
theorem put_dd (a : Act) (d : Deferred) (ds : List Deferred) (x : Option Nat) (v : Value) : ({ tmps := a.tmps, defers := d :: (a.defers ++ ds) } : Act).put x v = { tmps := (({ tmps := a.tmps, defers := d :: a.defers } : Act).put x v).tmps, defers := (({ tmps := a.tmps, defers := d :: a.defers } : Act).put x v).defers ++ ds } := by cases x <;> rfl
theorem opsIn_of {r : Option Nat} {n : Nat} {ops : Array Oper} (hnd : ∀ o ∈ ops.toList, ∀ c, o.op ≠ .defer c) (ds : List Deferred) {N : Act → World → Prop} {Q : Exit → Act → World → Prop} {js : List Nat}
    (hN : ∀ a w, N a w → wpOpsIn (FR r) n P ops Q js { a with defers := a.defers ++ ds } w) :
    ∀ (is : List Nat) (a : Act) (w : World), wpOps P ops (fun e a w => e = .normal ∧ N a w) is a w → wpOpsIn (FR r) n P ops Q (is ++ js) { a with defers := a.defers ++ ds } w
  | [], a, w, h => hN a w h.2
  | i :: is, a, w, h => by
    show wpOpsIn (FR r) n P ops Q (i :: (is ++ js)) _ w
    unfold wpOps at h
    unfold wpOpsIn
    cases ho : ops[i]? with
    | none => simp only [ho] at h ⊢; exact opsIn_of hnd ds hN is a w h
    | some o =>
      simp only [ho] at h ⊢
      have hmem : o ∈ ops.toList := List.mem_of_getElem? (by simpa using ho)
      split at h
      · rename_i hw
        rw [if_pos hw]
        rcases h with h | ⟨-, a1, w1, h⟩
        · refine ⟨fun _ _ => trivial, ?_⟩
          rw [Oper.semAt_eq _ _ _ (hnd o hmem)]
          unfold Oper.wp at h
          show Oper.uponIn (FR r) n P o _ _ Q ((execOp a.eval o).run P w)
          revert h
          generalize (execOp a.eval o).run P w = res
          intro h
          match res, h with
          | .ok (.value v) w', h => rw [Oper.uponIn_value, put_ds]; exact opsIn_of hnd ds hN is _ w' h
          | .ok .skip w', h => rw [Oper.uponIn_skip, put_ds]; exact opsIn_of hnd ds hN is _ w' h
          | .ok (.defer d) w', h => rw [Oper.uponIn_defer]; (show wpOpsIn _ _ _ _ _ _ (Act.put ({ tmps := a.tmps, defers := d :: (a.defers ++ ds) } : Act) _ _) _); rw [put_dd]; exact opsIn_of hnd ds hN is _ w' h
          | .ok (.enter f args) w', h =>
            refine ⟨fun hd => by simp [Fence.wide] at hd, callsFR (h.mono ?_)⟩
            intro e w2 hp
            cases e with
            | returned v => (show wpOpsIn _ _ _ _ _ _ (Act.put _ _ _) _); rw [put_ds]; exact opsIn_of hnd ds hN is _ w2 hp
            | panicked chain => cases hp.1
            | outgrown => obtain ⟨_, _, hx, _⟩ := hp; cases hx
          | .ok (.row row args) w', h =>
            refine ⟨fun hd => by simp [Fence.wide] at hd, fun c cs _ => ?_⟩
            obtain ⟨v, w2, hp, hs⟩ := h c cs
            exact ⟨v, w2, by (show wpOpsIn _ _ _ _ _ _ (Act.put _ _ _) _); rw [put_ds]; exact opsIn_of hnd ds hN is _ w2 hp, (show StepsIn (Machine.fenced P Fence.wide) P _ _ from stepsIn_wide.2 hs)⟩
          | .halt (.panic v) w', h => exact nomatch h.1
        · exact nomatch h.1
      · rename_i hw
        rw [if_neg hw]
        exact ⟨fun _ _ => trivial, by rw [put_ds]; exact opsIn_of hnd ds hN is _ w h⟩

/-- As evS_good, of the first of a region's operations. -/
theorem evS_pre (E : Env P T J) (hX : GlobOk G X.H0) {ops : Array Oper} (hd : ∀ o ∈ ops.toList, okOp X.N X.A o = true) {Q : Exit → Act → World → Prop} {K : St → Prop} : ∀ (os : List Oper) (i : Nat), (∃ tl, ops.toList.drop i = os ++ tl) → ∀ (s : St) (κ : Con) (H : Fz) (a : Act) (w : World), Rel X κ H s a w → evS P T J G ops os s K →
    (∀ s κ H a w, Rel X κ H s a w → K s → Q .normal a w) → wpOps P ops Q (List.range' i os.length) a w
  | [], i, hos, s, κ, H, a, w, h, he, hQ => by
    simp only [evS] at he
    simp only [List.length_nil, List.range'_zero, wpOps]
    exact hQ s κ H a w h he
  | o :: os, i, ⟨tl, hos⟩, ⟨ts, bs, ps⟩, κ, H, a, w, h, he, hQ => by
    have hi : ops[i]? = some o := by
      have : ops.toList[i]? = some o := by rw [← List.head?_drop, hos]; rfl
      simpa using this
    have hmem : o ∈ ops.toList := List.mem_of_getElem? (by simpa using hi)
    simp only [evS] at he
    obtain ⟨ws, ls, h1, -, h3⟩ := runP_runs he
    rw [writesK_eq] at h1
    have hr := h3 ⟨ts, bs, ps⟩ ⟨fun _ _ => rfl, fun _ _ => rfl, fun _ _ => rfl⟩
    rw [List.length_cons, List.range'_succ, wpOps_cons]
    refine evO_good E (hX.mono h.h0) h hi (hd o hmem) hr fun κ' H' a' w' hrel => ?_
    refine evS_pre E hX hd os (i + 1) ⟨tl, ?_⟩ _ κ' H' a' w' hrel h1 hQ
    rw [← List.drop_drop, hos]; rfl

def noDefer (ops : Array Oper) : Bool := ops.toList.all fun o => match o.op with | .defer _ => false | _ => true
theorem noDefer_r {ops : Array Oper} (h : noDefer ops = true) : ∀ o ∈ ops.toList, ∀ c, o.op ≠ .defer c := fun o ho c e => by
  have := List.all_eq_true.1 h o ho
  rw [e] at this
  cases this
/-- A region in a round's frame, or behind a mark. -/
theorem region_in (E : Env P T J) (hX : GlobOk G X.H0) {r : Option Nat} {n id : Nat} {ops : Array Oper} (hok : ops.toList.all (okOp X.N X.A) = true) (hnd : noDefer ops = true) (ds : List Deferred) {K : St → Prop} {Q : Exit → Act → World → Prop}
    {κ : Con} {H : Fz} {s : St} {a : Act} {w : World} (h : Rel X κ H s a w) (he : evS P T J G ops ops.toList s K) (hQ : ∀ s κ H a w, Rel X κ H s a w → K s → Q .normal { a with defers := ds } w) :
    (Code.region id ops false).wpIn (FR r) n P Q { a with defers := ds } w := by
  refine wpIn_region ?_
  rw [range_eq]
  have := opsIn_of (r := r) (n := n) (P := P) (noDefer_r hnd) ds (N := fun a w => ∃ s κ H, Rel X κ H s a w ∧ K s) (Q := Q) (js := []) (fun a w ⟨s, κ, H, h1, h2⟩ => by
    have := hQ s κ H a w h1 h2
    rw [h1.defers]
    exact this) (List.range' 0 ops.size) a w ?_
  · rw [List.append_nil, h.defers] at this
    exact this
  · have := evS_pre E hX (fun o ho => List.all_eq_true.1 hok o ho) (Q := fun e a w => e = .normal ∧ ∃ s κ H, Rel X κ H s a w ∧ K s) ops.toList 0 ⟨[], by simp⟩ s κ H a w h he (fun s κ H a w h1 h2 => ⟨rfl, s, κ, H, h1, h2⟩)
    simpa using this

/-- What a state says, it says of a world that has grown, but for blocks that are no cells. -/
theorem Rel.ext {H' : Fz} {w' : World} (h : Rel X κ H s a w) (hH : Fz.le H H') (hHb : ∀ b, b < w.heap.size → H' b = H b) (hfz : FzOk H' w')
    (hb : ∀ b, b < w.heap.size → w'.heap[b]? = w.heap[b]? ∨ (¬ X.Pr b ∧ ∃ o, w.heap[b]? = some o ∧ o.isCells = false)) (hg : w.heap.size ≤ w'.heap.size) (h1 : w'.os = w.os) (h2 : w'.tape = w.tape) (h3 : w'.output = w.output) :
    Rel X κ H' s a w' := by
  have hcell : ∀ b us ty m, w.heap[b]? = some (Obj.cells us ty m) → w'.heap[b]? = some (Obj.cells us ty m) := fun b us ty m hc => by
    rcases hb b (Array.getElem?_eq_some_iff.1 hc).1 with e | ⟨-, o, ho, hn⟩
    · rw [e]; exact hc
    · rw [hc] at ho; cases ho; cases hn
  have hbox : ∀ b ty cells, BoxIn κ H w b ty cells → BoxIn κ H' w' b ty cells := fun b ty cells ⟨q1, us, q2, q3⟩ =>
    ⟨fun i => by rw [hHb b (Array.getElem?_eq_some_iff.1 q2).1]; exact q1 i, us, hcell _ _ _ _ q2, q3.mono (Con.le_refl _) hH⟩
  have hpr : ∀ b, X.Pr b → b < w.heap.size := fun b hp => Nat.lt_of_lt_of_le (X.lt b hp) h.grown
  exact { h with
    tmps := fun t v e => (h.tmps t v e).mono (Con.le_refl _) hH
    fz := hfz
    hk := fun b hp => by rw [hHb b (hpr b hp)]; exact h.hk b hp
    h0 := Fz.le_trans h.h0 hH
    box := fun d b e => ⟨(h.box d b e).1, hbox _ _ _ (h.box d b e).2⟩
    perm := fun d p e => ⟨(h.perm d p e).1, fun hl => by
      rcases (h.perm d p e).2 hl with q | ⟨b, n, cap, cur, q1, q2, q3, q4, q5, q6⟩
      · exact .inl q
      · exact .inr ⟨b, n, cap, cur, q1, hcell _ _ _ _ q2, q3, q4, q5, fun i hi => by rw [hHb b (Array.getElem?_eq_some_iff.1 q2).1]; exact q6 i hi⟩⟩
    keep := fun b hp => by
      rcases hb b (hpr b hp) with e | ⟨hn, -⟩
      · rw [e]; exact h.keep b hp
      · exact absurd hp hn
    grown := Nat.le_trans h.grown hg
    os := h1.trans h.os
    tape := h2.trans h.tape
    output := h3.trans h.output }
theorem FzOk.ext {H : Fz} {w w' : World} (h : FzOk H w) (hb : ∀ b, b < w.heap.size → w'.heap[b]? = w.heap[b]? ∨ ∃ o, w.heap[b]? = some o ∧ o.isCells = false) : FzOk H w' := fun b i v e => by
  have hc := h b i v e
  have hlt := World.block_lt_of_cell? w ⟨b, i, none⟩ hc
  rcases hb b hlt with q | ⟨o, ho, hn⟩
  · unfold World.cell? at hc ⊢
    simp only at hc ⊢ q
    rw [q]; exact hc
  · unfold World.cell? at hc
    simp only [ho] at hc
    cases o <;> simp_all [Obj.isCells]
theorem Rel.putObj (h : Rel X κ H s a w) {r : Nat} {o : Obj} (o' : Obj) (hr : w.heap[r]? = some o) (ho : o.isCells = false) (hp : ¬ X.Pr r) : Rel X κ H s a (w.putObj r o') := by
  have hb : ∀ b, b < w.heap.size → (w.putObj r o').heap[b]? = w.heap[b]? ∨ (¬ X.Pr b ∧ ∃ o, w.heap[b]? = some o ∧ o.isCells = false) := fun b _ => by
    by_cases e : b = r
    · subst e; exact .inr ⟨hp, o, hr, ho⟩
    · exact .inl (World.putObj_heap_other e)
  exact h.ext (Fz.le_refl H) (fun _ _ => rfl) (h.fz.ext fun b hb' => (hb b hb').imp id (·.2)) hb (by simp) rfl rfl rfl
theorem Rel.allocObj (h : Rel X κ H s a w) (o : Obj) : Rel X κ H s a (w.alloc o) := by
  have hb : ∀ b, b < w.heap.size → (w.alloc o).heap[b]? = w.heap[b]? := fun b hb => by show (w.heap.push o)[b]? = _; rw [Array.getElem?_push]; split <;> first | omega | rfl
  exact h.ext (Fz.le_refl H) (fun _ _ => rfl) (h.fz.ext fun b hb' => .inl (hb b hb')) (fun b hb' => .inl (hb b hb')) (by simp) rfl rfl rfl
end
end Go.Proofs.YtoapgongbackaaaDoor.V

/-! V28: calls that leave a mark. -/
namespace Go.Proofs.YtoapgongbackaaaDoor.V
open Go

section
variable {P : Program} {T : Tab} {J : Kn} {G : Nat → Option (List AC)} {κ : Con} {H : Fz} {s : St} {a : Act} {w : World}

/-- What the body of a function that ranges over one comes to is what the call comes to. -/
theorem CT_ofM (E : Env P T J) {f : Nat} {fn : Func} {c : Code} {ars : List Arg} {rs : List Res} {css : List (List AC)} (hf : P.funcs[f]? = some fn) (hb : fn.body = some c) (hn : Nat.ble ars.length fn.ntmps = true)
    (he : ∀ (X : Ctx) (κ : Con) (H : Fz) (a : Act) (w : World), GlobOk G X.H0 → X.N = fn.ntmps → X.A = ars.length → Rel X κ H ⟨(args0 0 ars).1, (args0 0 ars).2, []⟩ a w →
      c.wpIn Fence.wide 0 P (fun e a' w' => (e = .normal ∨ e = .ret) ∧ ∃ D s κ' H', a'.defers = [{ target := .collected D, args := #[] }] ∧ X.W0.heap.size ≤ D ∧ w'.heap[D]? = some (.deferred (some [])) ∧
        Rel X κ' H' s { a' with defers := [] } w' ∧ resP T fn.results.toList s (fun rs' => finP (args0 0 ars).2 s fun css' => rs' = rs ∧ css' = css)) a w) : CT P G f ars rs css := by
  intro H w us hfz hG hargs hnd
  have hn := Nat.le_of_ble_eq_true hn
  have hul := argsR_len hargs
  refine (callsIn_wide (n := 0)).1 (callsIn_of_wp_marks hf hb trivial ?_)
  obtain ⟨a1, a2⟩ := args0_r 0 hargs
  let X : Ctx := { W0 := w, H0 := H, Pr := fun b => b < w.heap.size ∧ b ∉ blocksOf ars us, N := fn.ntmps, A := ars.length, ab := abOf us, lt := fun _ h => h.1 }
  let κ0 : Con := { blk := fun d _ => abOf us d, row := fun _ _ => undef, nb := fun d => if (find d (args0 0 ars).2).isSome then 1 else 0, nr := fun _ => 0 }
  have hrel : Rel X κ0 H ⟨(args0 0 ars).1, (args0 0 ars).2, []⟩ { tmps := us.toArray ++ Array.replicate (fn.ntmps - us.toArray.size) undef, defers := [] } w := by
    refine { size := by simp [X]; omega, tmps := ?_, defers := rfl, fz := hfz, hk := fun _ _ => rfl, h0 := Fz.le_refl H, box := ?_, nobox := ?_, args := ?_, perm := by simp [find], noperm := fun _ _ => rfl, bb := ?_, rr := by simp [find], br := by simp [find], pb := ?_, pr := by simp [find], keep := fun _ _ => rfl, grown := Nat.le_refl _, os := rfl, tape := rfl, output := rfl }
    · intro t v hft
      obtain ⟨j, u, e1, e2, e3⟩ := a1 t v hft
      have e1' : t = j := by omega
      subst e1'
      have hget : (us.toArray ++ Array.replicate (fn.ntmps - us.toArray.size) undef).getD t undef = u := by
        have hlt := (List.getElem?_eq_some_iff.1 e2).1
        rw [Array.getD_eq_getD_getElem?, Array.getElem?_append_left (by simpa using hlt)]
        simp [e2]
      rw [hget]
      rcases e3 with ⟨rfl, h1, rfl⟩ | h1
      · refine .one _ _ (ACr.ptr (κ := κ0) t 0 0 ?_)
        simp [κ0, h1]
      · exact h1.mono (Con.no_le κ0) (Fz.le_refl H)
    · intro d b hfd
      obtain ⟨j, e1, e2, e3, e4, -⟩ := a2 d b hfd
      have e1' : d = j := by omega
      subst e1'
      obtain ⟨m1, us', m2, m3⟩ := e4
      refine ⟨by simp [κ0, hfd, e3], m1, us', m2, m3.mono (Con.no_le κ0) (Fz.le_refl H)⟩
    · intro d hfd
      simp only at hfd
      simp [κ0, hfd]
    · intro d b _ _; rfl
    · intro d d' b b' h1 h2 hq
      exact blocks_inj 0 hargs hnd d d' b b' h1 h2 hq
    · intro d b hfd hp
      obtain ⟨j, e1, -, -, -, e5⟩ := a2 d b hfd
      have e1' : d = j := by omega
      subst e1'
      exact hp.2 e5
  refine wpIn_mono (he X κ0 H _ w hG rfl rfl hrel) fun e a' w0 hq => ?_
  obtain ⟨he0, D, s, κ', H', hd, hDw, hD, h0, hk⟩ := hq
  have h : Rel X κ' H' s { a' with defers := [] } (w0.putObj D (.deferred none)) := h0.putObj _ hD rfl fun hp => by
    have := X.lt D hp
    omega
  have fin : ∃ v, (results fn a'.tmps).run P (w0.putObj D (.deferred none)) = .ok v (w0.putObj D (.deferred none)) ∧ ∃ v' H', Ending.returned v = .returned v' ∧ CPost H w ars us rs css v' H' (w0.putObj D (.deferred none)) := by
    generalize w0.putObj D (.deferred none) = w' at h
    obtain ⟨rs', vs, k1, k2, k3, k4, k5⟩ := resP_r E h hk
    obtain ⟨css', ⟨rfl, rfl⟩, m2, m3⟩ := finP_r h k1
    refine ⟨valueOf vs, results_run k3 k5, valueOf vs, H', rfl, ?_⟩
    have hab : ∀ (i d : Nat) (b0 : Box) (cs : List AC), (args0 0 ars).2[i]? = some (d, b0) → css'[i]? = some cs → (∃ b, find d s.boxes = some b ∧ κ'.blk d b.gen = abOf us d) ∧ BoxIn Con.no H' w' (abOf us d) b0.ty cs := by
      intro i d b0 cs hi hc
      obtain ⟨b, h1, h2⟩ := m3 i d b0 cs hi hc
      have hd : d < ars.length := by
        have := args0_lt ars 0 i d b0 hi
        omega
      have := h.args d b hd h1
      exact ⟨⟨b, h1, this⟩, by rw [this] at h2; exact h2⟩
    refine { le := h.h0, fz := h.fz, keep := fun b hb1 hb2 => ⟨h.keep b ⟨hb1, hb2⟩, h.hk b ⟨hb1, hb2⟩⟩, outs := ?_, grown := h.grown, os := h.os, tape := h.tape, output := h.output, res := ⟨vs, ?_, rfl⟩ }
    · exact outs_of 0 hargs m2 fun k d b0 cs hk hc => (hab k d b0 cs hk hc).2
    · refine resL_of k2 fun j r u hr hu => ?_
      have := k4 j r u hr hu
      cases r with
      | val => exact this
      | row e sz xs =>
        obtain ⟨q1, q2, q3⟩ := this
        refine ⟨q1, q2, fun k hk => ?_⟩
        obtain ⟨d, p, f1, f2, f3⟩ := q3 k hk
        rcases Nat.lt_or_ge k w.heap.size with hlt | hge
        · exfalso
          have hnp := h.pr d p k f1 f2 f3
          have hmem : k ∈ blocksOf ars us := by
            by_cases hm : k ∈ blocksOf ars us
            · exact hm
            · exact absurd ⟨hlt, hm⟩ hnp
          obtain ⟨i, d', b0, hi, hd'⟩ := blocks_mem 0 hargs k hmem
          have hil : i < css'.length := by rw [m2]; exact (List.getElem?_eq_some_iff.1 hi).1
          obtain ⟨⟨b, hb1, hb2⟩, -⟩ := hab i d' b0 _ hi (List.getElem?_eq_getElem hil)
          rw [Nat.sub_zero] at hd'
          exact h.br d' d b p hb1 f1 f2 (by rw [f3, hb2, hd'])
        · exact hge
  have hl : LeavesInM Fence.wide 0 P fn a'.tmps (fun e w' => ∃ v H', e = .returned v ∧ CPost H w ars us rs css v H' w') a'.defers .returning w0 := by
    rw [hd]
    exact ⟨by simp, .inl ⟨D, _, rfl, run_takeDeferred hD, fin⟩⟩
  rcases he0 with rfl | rfl
  · exact hl
  · exact hl

/-- A state of temporaries alone. -/
theorem rel0 {N : Nat} {ts : List (Nat × AV)} (hfz : FzOk H w) (hs : a.tmps.size = N) (hd : a.defers = []) (ht : ∀ t v, find t ts = some v → AVr Con.no H v (a.tmps.getD t undef)) :
    Rel { W0 := w, H0 := H, Pr := fun b => b < w.heap.size, N := N, A := 0, ab := fun _ => 0, lt := fun _ h => h } Con.no H ⟨ts, [], []⟩ a w :=
  { size := hs, tmps := ht, defers := hd, fz := hfz, hk := fun _ _ => rfl, h0 := Fz.le_refl H, box := by simp [find], nobox := fun _ _ => rfl, args := by simp [find], perm := by simp [find], noperm := fun _ _ => rfl,
    bb := by simp [find], rr := by simp [find], br := by simp [find], pb := by simp [find], pr := by simp [find], keep := fun _ _ => rfl, grown := Nat.le_refl _, os := rfl, tape := rfl, output := rfl }
/-- What no world's step mends. -/
structure Later (H : Fz) (w : World) (H' : Fz) (w' : World) : Prop where
  le : Fz.le H H'
  eq : ∀ b, b < w.heap.size → H' b = H b
  fz : FzOk H' w'
  blk : ∀ b, b < w.heap.size → w'.heap[b]? = w.heap[b]?
  grown : w.heap.size ≤ w'.heap.size
  os : w'.os = w.os
  tape : w'.tape = w.tape
  output : w'.output = w.output
theorem Rel.later {X : Ctx} {H' : Fz} {w' : World} (h : Rel X κ H s a w) (k : Later H w H' w') : Rel X κ H' s a w' :=
  h.ext k.le k.eq k.fz (fun b hb => .inl (k.blk b hb)) k.grown k.os k.tape k.output
theorem later_of {N : Nat} {H' : Fz} {w' : World} (h : Rel { W0 := w, H0 := H, Pr := fun b => b < w.heap.size, N := N, A := 0, ab := fun _ => 0, lt := fun _ h => h } κ H' s a w') : Later H w H' w' :=
  ⟨h.h0, fun b hb => h.hk b hb, h.fz, fun b hb => h.keep b hb, h.grown, h.os, h.tape, h.output⟩
end
end Go.Proofs.YtoapgongbackaaaDoor.V

/-! V29: a region in a round's frame, behind a mark: what is no cells stays. -/
namespace Go.Proofs.YtoapgongbackaaaDoor.V
open Go

section
variable {P : Program} {T : Tab} {J : Kn} {G : Nat → Option (List AC)} {X : Ctx} {κ : Con} {H : Fz} {s : St} {a : Act} {w : World}

def Ctx.re (X : Ctx) (κ : Con) (H : Fz) (s : St) (w : World) (A : Nat) : Ctx where
  W0 := w
  H0 := H
  Pr := fun b => b < w.heap.size ∧ (∀ d bx, find d s.boxes = some bx → κ.blk d bx.gen ≠ b) ∧ ∀ d p, find d s.perms = some p → p.live = true → (κ.row d p.gen).ownBlock ≠ some b
  N := X.N
  A := A
  ab := fun d => match find d s.boxes with
    | some b => κ.blk d b.gen
    | none => 0
  lt := fun _ h => h.1
theorem Rel.re (h : Rel X κ H s a w) (A : Nat) : Rel (X.re κ H s w A) κ H s a w :=
  { h with
    hk := fun _ _ => rfl
    h0 := Fz.le_refl H
    args := fun d b _ hb => by simp [Ctx.re, hb]
    pb := fun d b hb hp => hp.2.1 d b hb rfl
    pr := fun d p k hp hl hk hh => hh.2.2 d p hp hl hk
    keep := fun _ _ => rfl
    grown := Nat.le_refl _
    os := rfl
    tape := rfl
    output := rfl }
theorem Rel.back {A : Nat} {κ' : Con} {H' : Fz} {s' : St} {a' : Act} {w' : World} (h : Rel X κ H s a w) (hA : X.A ≤ A) (h' : Rel (X.re κ H s w A) κ' H' s' a' w') (hb : ∀ d, d < X.A → find d s'.boxes = none) : Rel X κ' H' s' a' w' := by
  have hpr : ∀ b, X.Pr b → (X.re κ H s w A).Pr b := fun b hp => ⟨Nat.lt_of_lt_of_le (X.lt b hp) h.grown, fun d bx hd e => h.pb d bx hd (e ▸ hp), fun d p hd hl e => h.pr d p b hd hl e hp⟩
  exact { h' with
    hk := fun b hp => (h'.hk b (hpr b hp)).trans (h.hk b hp)
    h0 := Fz.le_trans h.h0 h'.h0
    args := fun d b hd hb' => by rw [hb d hd] at hb'; cases hb'
    pb := fun d b hb' hp => h'.pb d b hb' (hpr _ hp)
    pr := fun d p k hd hl hk hp => h'.pr d p k hd hl hk (hpr _ hp)
    keep := fun b hp => (h'.keep b (hpr b hp)).trans (h.keep b hp)
    grown := Nat.le_trans h.grown h'.grown
    os := h'.os.trans h.os
    tape := h'.tape.trans h.tape
    output := h'.output.trans h.output }
theorem Rel.other {A : Nat} {κ' : Con} {H' : Fz} {s' : St} {a' : Act} {w' : World} (h : Rel X κ H s a w) (h' : Rel (X.re κ H s w A) κ' H' s' a' w') {b : Nat} {o : Obj} (ho : w.heap[b]? = some o) (hn : o.isCells = false) : w'.heap[b]? = some o := by
  rw [← ho]
  refine h'.keep b ⟨(Array.getElem?_eq_some_iff.1 ho).1, fun d bx hd e => ?_, fun d p hd hl e => ?_⟩
  · obtain ⟨-, -, us, hc, -⟩ := h.box d bx hd
    rw [e, ho] at hc
    cases hc
    cases hn
  · rcases (h.perm d p hd).2 hl with q | ⟨b', n, cap, cur, q1, q2, -⟩
    · rw [q] at e; simp [Value.ownBlock] at e
    · rw [q1] at e
      simp only [Value.ownBlock, Option.some.injEq] at e
      rw [e, ho] at q2
      cases q2
      cases hn
end
end Go.Proofs.YtoapgongbackaaaDoor.V
