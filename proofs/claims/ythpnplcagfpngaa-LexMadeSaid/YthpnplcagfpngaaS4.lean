/- The document's example of the lexer, and words that serve all statements of layer 9. -/
import Derived.Test.YthpnplcagfpngaaS3
import Derived.KernelRfl
namespace Go.Proofs.Ythpnplcagfpngaa.Lx
open Go.RowKit Go.Proofs.YthpnplcagfpngaaW.PrintWords Go.Proofs.YthpnplcagfpngaaW.PrintLast Go.Proofs.YthpnplcagfpngaaW.PrintMore
open Go.Proofs.Ythpnplcagfpngaa.Q
set_option linter.unusedVariables false
set_option linter.unusedSimpArgs false
/-- lexA, by a number of rounds: for texts that stand written out. -/
def lexF : Nat → Nat → List UInt8 → Except Nat (List Tk)
  | 0, _, _ => .ok []
  | f + 1, pos, l => match l with
    | [] => .ok []
    | c :: r =>
      let t := tokL (c :: r)
      if t.2 = 0 then .error pos else
      let l' := (c :: r).drop t.2
      let g := skipL false l'
      match lexF f (pos + t.2 + g) (l'.drop g) with
      | .error e => .error e
      | .ok ts => .ok ({ t.1 with pos := pos } :: ts)
theorem lexA_F : ∀ (f pos : Nat) (l : List UInt8), l.length < f → lexA pos l = lexF f pos l
  | 0, _, _, h => by omega
  | f + 1, pos, [], h => by rw [lexA_nil]; rfl
  | f + 1, pos, c :: r, h => by
    by_cases h0 : (tokL (c :: r)).2 = 0
    · rw [lexA_err (by simp) h0]; simp only [lexF]; rw [if_pos h0]
    · rw [lexA_cons h0]; simp only [lexF]; rw [if_neg h0]
      rw [lexA_F f _ _ (by simp only [List.length_drop, List.length_cons] at h ⊢; omega)]
      cases lexF f _ _ <;> rfl
theorem lexL_F (l : List UInt8) : lexL l = lexF (l.length + 1) (skipL false l) (l.drop (skipL false l)) := lexA_F _ _ _ (by simp only [List.length_drop]; omega)
def exA : List UInt8 := [108, 101, 116, 32, 120, 61, 49, 59]
def exB : List UInt8 := [97, 32, 35]
theorem lex_exA : lexL exA = .ok [⟨4, 0, [108, 101, 116], 0⟩, ⟨1, 4, [120], 0⟩, ⟨5, 5, [61], 0⟩, ⟨3, 6, [], 1⟩, ⟨5, 7, [59], 0⟩] := by rw [lexL_F]; kernel_rfl
theorem lex_exB : lexL exB = .error 2 := by rw [lexL_F]; kernel_rfl
theorem awake_ev : Ev (fun k => warplaw9_awake.f k) true := by
  have h1 := Lex_ev exA (by decide)
  have h2 := Lex_ev exB (by decide)
  rw [lex_exA] at h1
  rw [lex_exB] at h2
  refine Ev.congr (f := fun k => (lex_Lex.f k (ofL exA)).bind fun bt137 => ((lex_Lex.f k (ofL exB)).bind fun bt142 => (if (bt137.1.length : Int) = 5 then ((warplaw1_Num.f bt137.2.1).bind fun t147 => (if t147 = 0 then ((warplaw1_Num.f bt142.2.1).bind fun t148 => (if t148 = 3 then (some (bt142.2.2 == 2)) else (some false))) else (some false))) else (some false)))) (fun k => rfl) ?_
  refine Ev.bind h1 (Ev.bind h2 ?_)
  exact ⟨0, fun k _ => rfl⟩
/-- A last step: the document's example. -/
theorem awake_last : Ev (fun k => (warplaw9_awake.f k).bind fun t => some t) true := Ev.bind awake_ev (Ev.now _)
theorem takeWhile_id {p : UInt8 → Bool} {l : List UInt8} (h : l.all p = true) : l.takeWhile p = l := by
  have h1 : (l.takeWhile p).length = l.length := by rw [all_take]; exact h
  have h2 := take_take p l
  rw [h1, List.take_length] at h2
  exact h2.symm
theorem tokL_letter (c : UInt8) (r : List UInt8) (h : (isLow c || isUp c) = true) (w : List UInt8) (hw : (c :: r).takeWhile isRest = w) :
    tokL (c :: r) = if isWord w then (⟨4, 0, w, 0⟩, w.length) else if isName w then (⟨1, 0, w, 0⟩, w.length) else if isCon w then (⟨2, 0, w, 0⟩, w.length) else (⟨0, 0, w, 0⟩, 0) := by
  simp only [tokL]; rw [if_pos h, hw]
theorem tokL_digit (c : UInt8) (r : List UInt8) (h : isDig c = true) (w : List UInt8) (hw : (c :: r).takeWhile isDig = w) :
    tokL (c :: r) = match numL w with | some n => (⟨3, 0, [], n⟩, w.length) | none => (⟨0, 0, [], 0⟩, 0) := by
  have h' : ¬ (isLow c || isUp c) = true := by
    simp only [isDig, isLow, isUp, Bool.and_eq_true, Bool.or_eq_true, decide_eq_true_eq] at h ⊢
    omega
  simp only [tokL]; rw [if_neg h', if_pos h, hw]
  cases numL w <;> rfl
end Go.Proofs.Ythpnplcagfpngaa.Lx
