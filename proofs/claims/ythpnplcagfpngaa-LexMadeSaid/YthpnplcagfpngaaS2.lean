/- What the printed functions of package lex come to, told by the plain words of S1. -/
import Derived.Test.YthpnplcagfpngaaS1
import Derived.Test.YthpnplcagfpngaaQ8
namespace Go.Proofs.Ythpnplcagfpngaa.Lx
open Go.RowKit Go.Proofs.YthpnplcagfpngaaW.PrintWords Go.Proofs.YthpnplcagfpngaaW.PrintLast Go.Proofs.YthpnplcagfpngaaW.PrintMore
open Go.Proofs.Ythpnplcagfpngaa.Q
set_option linter.unusedVariables false
set_option linter.unusedSimpArgs false
theorem getD_lt {α : Type} {l : List α} {i : Nat} {d : α} (h : i < l.length) : l.getD i d = l[i] := by
  rw [List.getD_eq_getElem?_getD, List.getElem?_eq_getElem h]; rfl
theorem getD_ge {α : Type} {l : List α} {i : Nat} {d : α} (h : l.length ≤ i) : l.getD i d = d := by
  rw [List.getD_eq_getElem?_getD, List.getElem?_eq_none h]; rfl
theorem bt_ofL (l : List UInt8) (i : Nat) : bt (ofL l) (i : Int) = ((l.getD i 0).toNat : Int) := by
  unfold bt
  rw [Int.toNat_natCast]
  by_cases h : i < l.length
  · rw [dif_pos (by rw [ofL_size]; exact h)]
    have : (ofL l)[i]'(by rw [ofL_size]; exact h) = l[i] := rfl
    rw [this, getD_lt h]
  · rw [dif_neg (by rw [ofL_size]; exact h), getD_ge (by omega)]; rfl
theorem wrap_id {n : Int} (h0 : -9223372036854775808 ≤ n) (h1 : n < 9223372036854775808) : wrap64 n = n := by unfold wrap64; omega
theorem drop_cons {l : List UInt8} {i : Nat} (h : i < l.length) : l.drop i = l.getD i 0 :: l.drop (i + 1) := by
  rw [List.drop_eq_getElem_cons h, getD_lt h]
/-- A byte's class. -/
def cl (c : UInt8) : Int := if isLow c then 1 else if isUp c then 2 else if isDig c then 4 else if c == 95 then 8 else if isGap c then 16 else 0
theorem u8_of (c : UInt8) : UInt8.ofNat c.toNat = c := by simp
theorem all_bytes {P : UInt8 → Prop} [DecidablePred P] (h : ∀ i : Fin 256, P (UInt8.ofNat i.val)) (c : UInt8) : P c := by
  have := h ⟨c.toNat, c.toNat_lt⟩
  rwa [u8_of] at this
theorem class_3 (c : UInt8) : lex_class.f 3 (c.toNat : Int) = some (cl c) := all_bytes (P := fun c => lex_class.f 3 (c.toNat : Int) = some (cl c)) (by decide +kernel) c
theorem class_ev (c : UInt8) : Ev (fun k => lex_class.f k (c.toNat : Int)) (cl c) := Ev.of (fun k => lex_class.mono _ k) (class_3 c)
theorem cl_rest (c : UInt8) : (Go.bits .and .i64 (cl c) 15 = 0) = (isRest c = false) := all_bytes (P := fun c => (Go.bits .and .i64 (cl c) 15 = 0) = (isRest c = false)) (by decide +kernel) c
theorem cl_dig (c : UInt8) : (Go.bits .and .i64 (cl c) 4 = 0) = (isDig c = false) := all_bytes (P := fun c => (Go.bits .and .i64 (cl c) 4 = 0) = (isDig c = false)) (by decide +kernel) c
theorem cl_gap (c : UInt8) : (Go.bits .and .i64 (cl c) 16 = 0) = (isGap c = false) := all_bytes (P := fun c => (Go.bits .and .i64 (cl c) 16 = 0) = (isGap c = false)) (by decide +kernel) c
theorem cl_letter (c : UInt8) : (Go.bits .and .i64 (cl c) 3 = 0) = ((isLow c || isUp c) = false) := all_bytes (P := fun c => (Go.bits .and .i64 (cl c) 3 = 0) = ((isLow c || isUp c) = false)) (by decide +kernel) c
theorem cl_low (c : UInt8) : (cl c = 1) = (isLow c = true) := all_bytes (P := fun c => (cl c = 1) = (isLow c = true)) (by decide +kernel) c
theorem cl_up (c : UInt8) : (cl c = 2) = (isUp c = true) := all_bytes (P := fun c => (cl c = 2) = (isUp c = true)) (by decide +kernel) c
theorem evIs {α : Type} {g : Nat → Option α} {r r' : α} (h : Ev g r) (e : r = r') : Ev g r' := e ▸ h
/-- How long a text may be, for all that is counted here. -/
abbrev Sh (l : List UInt8) : Prop := l.length ≤ 140737488351232
theorem row_l (m : Int) (p : UInt8 → Bool) (hp : ∀ c, (Go.bits .and .i64 (cl c) m = 0) = (p c = false)) (l : List UInt8) (hl : Sh l) :
    ∀ (d i : Nat), l.length - i = d → i ≤ l.length → Ev (fun k => lex_row.l0 k (ofL l) m (i : Int)) ((i + ((l.drop i).takeWhile p).length : Nat) : Int) := by
  intro d
  induction d with
  | zero =>
    intro i hd hi
    have e : i = l.length := by omega
    subst e
    refine Ev.step (f := fun _ => some _) (fun k => by simp only [lex_row.l0]; rw [if_neg (by rw [ofL_size]; omega)]) (evIs (Ev.now _) (by simp))
  | succ d ih =>
    intro i hd hi
    have hlt : i < l.length := by omega
    refine Ev.step (f := fun k => (lex_class.f k (((l.getD i 0).toNat : Nat) : Int)).bind fun t => if Go.bits .and .i64 t m = 0 then some (i : Int) else lex_row.l0 k (ofL l) m (wrap64 ((i : Int) + 1)))
      (fun k => by simp only [lex_row.l0]; rw [if_pos (by rw [ofL_size]; omega), if_pos (by omega), bt_ofL]) ?_
    refine Ev.bind (class_ev _) ?_
    rw [drop_cons hlt]
    by_cases hc : p (l.getD i 0) = true
    · rw [List.takeWhile_cons_of_pos hc]
      refine Ev.congr (f := fun k => lex_row.l0 k (ofL l) m ((i + 1 : Nat) : Int)) (fun k => by rw [if_neg (by rw [hp, hc]; simp), wrap_id (by omega) (by omega)]; rfl) ?_
      exact evIs (ih (i + 1) (by omega) (by omega)) (by simp; omega)
    · rw [List.takeWhile_cons_of_neg hc]
      exact Ev.congr (f := fun _ => some (i : Int)) (fun k => by rw [if_pos (by rw [hp]; simpa using hc)]) (evIs (Ev.now _) (by simp))
theorem row_ev (m : Int) (p : UInt8 → Bool) (hp : ∀ c, (Go.bits .and .i64 (cl c) m = 0) = (p c = false)) (l : List UInt8) (hl : Sh l) :
    Ev (fun k => lex_row.f k (ofL l) m) ((l.takeWhile p).length : Int) := by
  have := row_l m p hp l hl l.length 0 (by omega) (by omega)
  exact evIs this (by simp)
/-! ### HasPrefix -/
theorem hasPrefix_at (l q : List UInt8) : strings_HasPrefix.f (ofL l) (ofL q) = some (q.isPrefixOf l) := by
  simp only [strings_HasPrefix.f, stringslite_HasPrefix.f, ofL_size, Int.toNat_natCast, ofL_toList, extract_to]
  by_cases h : (l.length : Int) ≥ (q.length : Int)
  · rw [if_pos h, if_pos (by omega), if_pos (by omega)]
    simp only [Option.bind_some, Option.some.injEq]
    rw [Bool.eq_iff_iff, beq_iff_eq, List.isPrefixOf_iff_prefix, List.prefix_iff_eq_take]
    exact eq_comm
  · rw [if_neg h]
    simp only [Option.bind_some, Option.some.injEq]
    rw [eq_comm, Bool.eq_false_iff]
    intro hp
    have := (List.isPrefixOf_iff_prefix.1 hp).length_le
    omega
/-! ### skipped -/
theorem remark_ofL : (⟨#[45, 45]⟩ : ByteArray) = ofL [45, 45] := rfl
theorem prefix2 (a b : UInt8) (l : List UInt8) : [a, b].isPrefixOf l = (match l with | [] => false | c :: r => c == a && hd b r) := by
  rcases l with _ | ⟨c, _ | ⟨d, r⟩⟩
  · rfl
  · simp [List.isPrefixOf, hd]
  · simp only [List.isPrefixOf, hd, Bool.and_true]
    rw [Bool.eq_iff_iff]; simp only [Bool.and_eq_true, beq_iff_eq]
    constructor <;> (rintro ⟨h1, h2⟩; exact ⟨h1.symm, h2.symm⟩)
theorem skip_run {l : List UInt8} {g : Nat} (hg : g = (l.takeWhile isGap).length) (hp : ([45, 45] : List UInt8).isPrefixOf (l.drop g) = true) :
    skipL false l = g + skipL true (l.drop g) ∧ 0 < (l.drop g).length := by
  rw [skip_gaps, dropWhile_eq, ← hg]
  rw [prefix2] at hp
  generalize hr : l.drop g = r at *
  cases r with
  | nil => simp at hp
  | cons c r =>
    simp only [Bool.and_eq_true, beq_iff_eq] at hp
    obtain ⟨rfl, h2⟩ := hp
    refine ⟨?_, by simp⟩
    rw [show skipL false (45 :: r) = skipL true r + 1 by simp [skipL, isGap, h2], show skipL true (45 :: r) = skipL true r + 1 by simp [skipL]]
theorem gap_stop (l : List UInt8) : ∀ c r, l.drop (l.takeWhile isGap).length = c :: r → isGap c = false := by
  induction l with
  | nil => intro c r h; simp at h
  | cons a l ih =>
    intro c r h
    by_cases ha : isGap a = true
    · rw [List.takeWhile_cons_of_pos ha] at h
      exact ih c r (by simpa using h)
    · rw [List.takeWhile_cons_of_neg ha] at h
      simp at h
      obtain ⟨rfl, _⟩ := h
      simpa using ha
theorem skip_end {l : List UInt8} {g : Nat} (hg : g = (l.takeWhile isGap).length) (hp : ([45, 45] : List UInt8).isPrefixOf (l.drop g) = false) :
    skipL false l = g := by
  rw [skip_gaps, dropWhile_eq, ← hg]
  rw [prefix2] at hp
  have hs := gap_stop l
  rw [← hg] at hs
  generalize l.drop g = r at *
  cases r with
  | nil => simp [skipL]
  | cons c r =>
    have := hs c r rfl
    simp only at hp
    simp [skipL, this, hp]
theorem index10 (l : List UInt8) : strings_IndexByte.f (ofL l) 10 = some (Lib.indexByte l 10) := rfl
theorem index_lt (l : List UInt8) (c : UInt8) : Lib.indexByte l c < l.length ∨ l = [] := by
  induction l with
  | nil => right; rfl
  | cons b l ih =>
    left
    simp only [Lib.indexByte]
    split
    · simp <;> omega
    · split
      · simp <;> omega
      · rcases ih with h | h
        · simp <;> omega
        · subst h; simp [Lib.indexByte] at *
theorem skipped_l (l : List UInt8) (hl : Sh l) : ∀ (d n : Nat), l.length - n ≤ d → n ≤ l.length →
    Ev (fun k => lex_skipped.l0 k (ofL l) (n : Int)) ((n + skipL false (l.drop n) : Nat) : Int) := by
  intro d
  induction d with
  | zero =>
    intro n hd hn
    have e : l.drop n = [] := List.drop_eq_nil_of_le (by omega)
    refine Ev.step (f := fun k => (lex_row.f k (ofL (l.drop n)) 16).bind fun t => if 0 ≤ wrap64 ((n : Int) + t) then if wrap64 ((n : Int) + t) ≤ ((ofL l).size : Int) then (strings_HasPrefix.f ((ofL l).extract ((wrap64 ((n : Int) + t)) : Int).toNat (ofL l).size) (⟨#[45, 45]⟩ : ByteArray)).bind fun t1 => (if t1 = true then ((strings_IndexByte.f ((ofL l).extract ((wrap64 ((n : Int) + t)) : Int).toNat (ofL l).size) 10).bind fun t2 => (if t2 ≥ 0 then (lex_skipped.l0 k (ofL l) (wrap64 ((wrap64 ((n : Int) + t)) + t2))) else (lex_skipped.l0 k (ofL l) ((ofL l).size : Int)))) else (some (wrap64 ((n : Int) + t)))) else none else none)
      (fun k => by simp only [lex_skipped.l0]; rw [if_pos (by omega), if_pos (by rw [ofL_size]; omega), Int.toNat_natCast, extract_end]) ?_
    refine Ev.bind (row_ev 16 isGap cl_gap _ (by simp [Sh, e])) ?_
    refine Ev.congr (f := fun _ => some (n : Int)) (fun k => ?_) (evIs (Ev.now _) (by simp [e, skipL]))
    have w : wrap64 ((n : Int) + (((l.drop n).takeWhile isGap).length : Int)) = (n : Int) := by rw [e]; exact wrap_id (by simp) (by simp; omega)
    rw [w, if_pos (by omega), if_pos (by rw [ofL_size]; omega), Int.toNat_natCast, extract_end, remark_ofL, hasPrefix_at, e]
    simp [List.isPrefixOf]
  | succ d ih =>
    intro n hd hn
    have hg := takeWhile_le (p := isGap) (l.drop n)
    rw [List.length_drop] at hg
    generalize hge : ((l.drop n).takeWhile isGap).length = g at hg
    refine Ev.step (f := fun k => (lex_row.f k (ofL (l.drop n)) 16).bind fun t => if 0 ≤ wrap64 ((n : Int) + t) then if wrap64 ((n : Int) + t) ≤ ((ofL l).size : Int) then (strings_HasPrefix.f ((ofL l).extract ((wrap64 ((n : Int) + t)) : Int).toNat (ofL l).size) (⟨#[45, 45]⟩ : ByteArray)).bind fun t1 => (if t1 = true then ((strings_IndexByte.f ((ofL l).extract ((wrap64 ((n : Int) + t)) : Int).toNat (ofL l).size) 10).bind fun t2 => (if t2 ≥ 0 then (lex_skipped.l0 k (ofL l) (wrap64 ((wrap64 ((n : Int) + t)) + t2))) else (lex_skipped.l0 k (ofL l) ((ofL l).size : Int)))) else (some (wrap64 ((n : Int) + t)))) else none else none)
      (fun k => by simp only [lex_skipped.l0]; rw [if_pos (by omega), if_pos (by rw [ofL_size]; omega), Int.toNat_natCast, extract_end]) ?_
    refine Ev.bind (row_ev 16 isGap cl_gap _ (by simp [Sh]; omega)) ?_
    rw [hge]
    have w : wrap64 ((n : Int) + (g : Int)) = ((n + g : Nat) : Int) := by rw [wrap_id (by omega) (by omega)]; omega
    have hdd : (l.drop n).drop g = l.drop (n + g) := by rw [List.drop_drop]
    refine Ev.congr (f := fun k => if ([45, 45] : List UInt8).isPrefixOf (l.drop (n + g)) = true then (if Lib.indexByte (l.drop (n + g)) 10 ≥ 0 then lex_skipped.l0 k (ofL l) (wrap64 (((n + g : Nat) : Int) + Lib.indexByte (l.drop (n + g)) 10)) else lex_skipped.l0 k (ofL l) (l.length : Int)) else some ((n + g : Nat) : Int)) (fun k => ?_) ?_
    · simp only [w]
      rw [if_pos (by omega), if_pos (by rw [ofL_size]; omega), Int.toNat_natCast, extract_end, remark_ofL, hasPrefix_at, index10, ofL_size]
      rfl
    · by_cases hp : ([45, 45] : List UInt8).isPrefixOf (l.drop (n + g)) = true
      · obtain ⟨h1, h2⟩ := skip_run (l := l.drop n) hge.symm (by rw [hdd]; exact hp)
        rw [hdd] at h1 h2
        rw [List.length_drop] at h2
        have hix := index_lt (l.drop (n + g)) 10
        have hge' := Lib.indexByte_ge (l.drop (n + g)) 10
        rw [h1, skip_true]
        by_cases hi : Lib.indexByte (l.drop (n + g)) 10 = -1
        · rw [if_pos hi]
          refine Ev.congr (f := fun k => lex_skipped.l0 k (ofL l) (l.length : Int)) (fun k => by rw [if_pos hp, if_neg (by omega)]) ?_
          exact evIs (ih l.length (by omega) (by omega)) (by simp [skipL]; omega)
        · rw [if_neg hi]
          have hil : Lib.indexByte (l.drop (n + g)) 10 < ((l.drop (n + g)).length : Int) := by
            rcases hix with h | h
            · exact h
            · rw [h] at hp; simp [List.isPrefixOf] at hp
          rw [List.length_drop] at hil
          have hpos : 0 < Lib.indexByte (l.drop (n + g)) 10 := by
            rw [prefix2] at hp
            generalize l.drop (n + g) = r at hp hi hge'
            cases r with
            | nil => simp at hp
            | cons c r =>
              simp only [Bool.and_eq_true, beq_iff_eq] at hp
              obtain ⟨rfl, _⟩ := hp
              have := Lib.indexByte_ge r 10
              simp only [Lib.indexByte] at hi ⊢
              rw [if_neg (by decide)] at hi ⊢
              split
              · rename_i h3; rw [if_pos h3] at hi; exact absurd rfl hi
              · rename_i h3; have : ¬ Lib.indexByte r 10 = -1 := by simpa using h3
                omega
          have w2 : wrap64 (((n + g : Nat) : Int) + Lib.indexByte (l.drop (n + g)) 10) = ((n + g + (Lib.indexByte (l.drop (n + g)) 10).toNat : Nat) : Int) := by
            rw [wrap_id (by omega) (by omega)]; omega
          refine Ev.congr (f := fun k => lex_skipped.l0 k (ofL l) ((n + g + (Lib.indexByte (l.drop (n + g)) 10).toNat : Nat) : Int)) (fun k => by rw [if_pos hp, if_pos (by omega), w2]) ?_
          exact evIs (ih _ (by omega) (by omega)) (by rw [List.drop_drop]; omega)
      · have h1 := skip_end (l := l.drop n) hge.symm (by rw [hdd]; exact Bool.eq_false_iff.2 hp)
        refine Ev.congr (f := fun _ => some ((n + g : Nat) : Int)) (fun k => by rw [if_neg hp]) (evIs (Ev.now _) (by rw [h1]))
theorem skipped_ev (l : List UInt8) (hl : Sh l) : Ev (fun k => lex_skipped.f k (ofL l)) ((skipL false l : Nat) : Int) :=
  evIs (skipped_l l hl l.length 0 (by omega) (by omega)) (by simp)
/-! ### names and words -/
theorem all_take (p : UInt8 → Bool) (l : List UInt8) : ((l.takeWhile p).length = l.length) = (l.all p = true) := by
  induction l with
  | nil => simp
  | cons c r ih =>
    by_cases h : p c = true
    · rw [List.takeWhile_cons_of_pos h]; simp [h]; simpa using ih
    · rw [List.takeWhile_cons_of_neg h]; simp [h]
theorem named_ev (first : Int) (p : UInt8 → Bool) (hp : ∀ c, (cl c = first) = (p c = true)) (w : List UInt8) (hl : Sh w) :
    Ev (fun k => lex_named.f k (ofL w) first) (rowOf p w) := by
  cases w with
  | nil => exact Ev.congr (f := fun _ => some false) (fun k => by simp only [lex_named.f, ofL_toList]; simp) (evIs (Ev.now _) (by simp [rowOf]))
  | cons c r =>
    by_cases h30 : (c :: r).length ≤ 30
    · refine Ev.congr (f := fun k => (lex_class.f k (c.toNat : Int)).bind fun t => if t = first then (lex_row.f k (ofL (c :: r)) 15).bind fun t1 => some (t1 == (((c :: r).length : Nat) : Int)) else some false)
        (fun k => by simp only [lex_named.f, ofL_toList, ofL_size]; rw [if_neg (by simp), if_pos (by omega), if_pos (by simp <;> omega)]; rw [show bt (ofL (c :: r)) 0 = (c.toNat : Int) from bt_ofL (c :: r) 0]) ?_
      refine Ev.bind (class_ev c) ?_
      by_cases hc : cl c = first
      · refine Ev.congr (f := fun k => (lex_row.f k (ofL (c :: r)) 15).bind fun t1 => some (t1 == (((c :: r).length : Nat) : Int))) (fun k => by rw [if_pos hc]) ?_
        refine Ev.bind (row_ev 15 isRest cl_rest _ hl) (evIs (Ev.now _) ?_)
        rw [hp] at hc
        rw [Bool.eq_iff_iff, beq_iff_eq]
        have := all_take isRest (c :: r)
        rw [Int.ofNat_inj, this]
        simp only [rowOf, hc, h30, Bool.true_and, decide_true, Bool.and_true]
      · refine Ev.congr (f := fun k => some false) (fun k => by rw [if_neg hc]) (evIs (Ev.now _) ?_)
        rw [hp] at hc
        have hc' : p c = false := by simpa using hc
        simp [rowOf, hc']
    · exact Ev.congr (f := fun _ => some false) (fun k => by simp only [lex_named.f, ofL_toList, ofL_size]; rw [if_neg (by simp), if_neg (by omega)]) (evIs (Ev.now _) (by simp only [rowOf, h30, decide_false, Bool.and_false]))
theorem word_at (w : List UInt8) : lex_word.f (ofL w) = some (isWord w) := by
  simp only [lex_word.f, ofL_toList, isWord, words, List.contains_cons, List.contains_nil]
  repeat' split
  all_goals first | (rename_i h; subst h; rfl) | (simp only [Option.some.injEq]; symm; simp [*])
theorem name_ev (w : List UInt8) (hl : Sh w) : Ev (fun k => lex_Name.f k (ofL w)) (isName w) := by
  refine Ev.congr (f := fun k => (lex_named.f k (ofL w) 1).bind fun t => if t = true then some (!isWord w) else some false) (fun k => by simp only [lex_Name.f, word_at, Option.bind_some]) ?_
  refine Ev.bind (named_ev 1 isLow cl_low w hl) (evIs (Ev.congr (f := fun _ => some (isName w)) (fun k => ?_) (Ev.now _)) rfl)
  unfold isName
  cases rowOf isLow w <;> simp
theorem con_ev (w : List UInt8) (hl : Sh w) : Ev (fun k => lex_Con.f k (ofL w)) (isCon w) := by
  refine Ev.congr (f := fun k => (lex_named.f k (ofL w) 2).bind fun t => some t) (fun k => by simp only [lex_Con.f]) ?_
  exact Ev.bind (named_ev 2 isUp cl_up w hl) (Ev.now _)
/-! ### numbers -/
theorem dig_val (c : UInt8) (h : isDig c = true) : ((c.toNat : Int) - 48) % 256 = (c.toNat : Int) - 48 ∧ 0 ≤ (c.toNat : Int) - 48 ∧ (c.toNat : Int) - 48 ≤ 9 := by
  simp only [isDig, Bool.and_eq_true, decide_eq_true_eq] at h
  omega
/-- What the program's number tells. -/
def numT (l r : List UInt8) (n : Int) : Int × Bool := match numFrom n r with
  | none => (0, false)
  | some v => (v, decide (l.length = 1 ∨ hd 48 l = false))
theorem number_l (l : List UInt8) (hl : Sh l) (hne : l ≠ []) (hd' : l.all isDig = true) :
    ∀ (d i : Nat) (n : Int), l.length - i = d → i ≤ l.length → 0 ≤ n → n ≤ 2147483647 →
      Ev (fun k => lex_number.l0 k (ofL l) n (l.length : Int) (i : Int)) (numT l (l.drop i) n) := by
  intro d
  induction d with
  | zero =>
    intro i n hd hi h0 h1
    have e : l.drop i = [] := List.drop_eq_nil_of_le (by omega)
    refine Ev.step (f := fun _ => some (n, decide (l.length = 1 ∨ Lx.hd 48 l = false))) (fun k => ?_) (evIs (Ev.now _) (by simp [e, numT, numFrom]))
    simp only [lex_number.l0, ofL_size]
    rw [if_neg (by omega)]
    by_cases h : l.length = 1
    · rw [if_pos (by omega)]; simp [h]
    · have : 0 < l.length := List.length_pos_iff.2 hne
      rw [if_neg (by omega), if_pos (by omega)]
      cases l with
      | nil => simp at hne
      | cons c r =>
        rw [show bt (ofL (c :: r)) 0 = (c.toNat : Int) from bt_ofL (c :: r) 0]
        simp only [h, false_or, Lx.hd, Option.some.injEq, Prod.mk.injEq, true_and]
        rw [Bool.eq_iff_iff, decide_eq_true_iff, bne_iff_ne, ← Bool.not_eq_true, beq_iff_eq, ← UInt8.toNat_inj]
        show ¬ ((c.toNat : Int) = 48) ↔ ¬ (c.toNat = 48)
        omega
  | succ d ih =>
    intro i n hd hi h0 h1
    have hlt : i < l.length := by omega
    have hdg : isDig (l.getD i 0) = true := by
      rw [getD_lt hlt]; exact List.all_eq_true.1 hd' _ (List.getElem_mem hlt)
    obtain ⟨v1, v2, v3⟩ := dig_val _ hdg
    rw [drop_cons hlt]
    generalize hc : l.getD i 0 = c at *
    have e1 : wrap64 (n * 10) = n * 10 := wrap_id (by omega) (by omega)
    have e2 : wrap64 (n * 10 + ((c.toNat : Int) - 48)) = n * 10 + ((c.toNat : Int) - 48) := wrap_id (by omega) (by omega)
    refine Ev.step (f := fun k => if n * 10 + ((c.toNat : Int) - 48) > 2147483647 then some (0, false) else lex_number.l0 k (ofL l) (n * 10 + ((c.toNat : Int) - 48)) (l.length : Int) ((i + 1 : Nat) : Int)) (fun k => ?_) ?_
    · simp only [lex_number.l0, ofL_size]
      rw [if_pos (by omega), if_pos (by omega), if_pos (by omega), bt_ofL, hc, v1, e1, e2, wrap_id (n := (i : Int) + 1) (by omega) (by omega)]
      rfl
    · by_cases hb : n * 10 + ((c.toNat : Int) - 48) > 2147483647
      · exact Ev.congr (f := fun _ => some (0, false)) (fun k => by rw [if_pos hb]) (evIs (Ev.now _) (by unfold numT numFrom; rw [if_pos hb]))
      · refine Ev.congr (fun k => by rw [if_neg hb]) (evIs (ih (i + 1) _ (by omega) (by omega) (by omega) (by omega)) ?_)
        unfold numT
        conv => rhs; unfold numFrom
        rw [if_neg (by omega)]
theorem number_ev (l : List UInt8) (hl : Sh l) (hne : l ≠ []) (hd' : l.all isDig = true) : Ev (fun k => lex_number.f k (ofL l)) (numT l l 0) := by
  refine Ev.congr (f := fun k => lex_number.l0 k (ofL l) 0 (l.length : Int) ((0 : Nat) : Int)) (fun k => by simp only [lex_number.f, ofL_size]; rfl) ?_
  exact evIs (number_l l hl hne hd' l.length 0 0 (by omega) (by omega) (by omega) (by omega)) (by simp)
theorem numT_numL (l : List UInt8) : (∃ v, numL l = some v ∧ numT l l 0 = (v, true)) ∨ (numL l = none ∧ ∃ v, numT l l 0 = (v, false)) := by
  unfold numL numT
  cases numFrom 0 l with
  | none => right; simp
  | some v =>
    by_cases h : l.length = 1 ∨ hd 48 l = false
    · left; exact ⟨v, by simp [h], by simp [h]⟩
    · right; exact ⟨by simp [h], v, by simp [h]⟩
end Go.Proofs.Ythpnplcagfpngaa.Lx
