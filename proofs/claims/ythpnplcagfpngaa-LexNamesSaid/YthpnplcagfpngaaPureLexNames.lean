/- LexNames: rows of letters and digits that begin with q or Q are one name or one Con up to 30 bytes, and beyond that none; the words of the language are words. For all inputs. -/
import Derived.Test.YthpnplcagfpngaaQ20
import Derived.Test.YthpnplcagfpngaaS4
import Derived.OpenShut
namespace Go.Proofs.Ythpnplcagfpngaa.Pure
open Go.RowKit Go.Proofs.Ythpnplcagfpngaa.Q Go.Proofs.YthpnplcagfpngaaW.PrintWords Go.Proofs.YthpnplcagfpngaaW.PrintLast
open Go.Proofs.Ythpnplcagfpngaa.Lx
set_option linter.unusedVariables false
set_option linter.unusedSimpArgs false
def start (up : Bool) : UInt8 := if up then 81 else 113
def kindOf (up : Bool) : Int := if up then 2 else 1
theorem tok_row (up : Bool) (r : List UInt8) (hr : r.all isRest = true) :
    tokL (start up :: r) = if (start up :: r).length ≤ 30 then (⟨kindOf up, 0, start up :: r, 0⟩, (start up :: r).length) else (⟨0, 0, start up :: r, 0⟩, 0) := by
  have h1 : isRest (start up) = true := by cases up <;> rfl
  have hw : (start up :: r).takeWhile isRest = start up :: r := by
    exact takeWhile_id (by simp only [List.all_cons, h1, hr, Bool.and_true])
  have hword : isWord (start up :: r) = false := by
    cases up <;> simp [isWord, words, start]
  rw [tokL_letter (start up) r (by cases up <;> rfl) _ hw, hword]
  by_cases h : (start up :: r).length ≤ 30
  · rw [if_pos h]
    cases up
    · rw [if_neg (by simp), if_pos]
      · rfl
      · simp only [isName, rowOf, hword, List.all_cons, h1, hr, h, decide_true, Bool.and_true, Bool.not_false]; rfl
    · rw [if_neg (by simp), if_neg, if_pos]
      · rfl
      · simp only [isCon, rowOf, List.all_cons, h1, hr, h, decide_true, Bool.and_true]; rfl
      · simp [isName, rowOf, start, isLow]
  · rw [if_neg h]
    rw [if_neg (by simp), if_neg (by simp only [isName, rowOf, h, decide_false, Bool.and_false, Bool.false_and]; simp), if_neg (by simp only [isCon, rowOf, h, decide_false, Bool.and_false]; simp)]
theorem skip_row (up : Bool) (r : List UInt8) : skipL false (start up :: r) = 0 := by cases up <;> simp [skipL, start, isGap]
theorem lex_row_ (up : Bool) (r : List UInt8) (hr : r.all isRest = true) :
    lexL (start up :: r) = if (start up :: r).length ≤ 30 then .ok [⟨kindOf up, 0, start up :: r, 0⟩] else .error 0 := by
  unfold lexL
  rw [skip_row, List.drop_zero]
  by_cases h : (start up :: r).length ≤ 30
  · rw [if_pos h, lexA_cons (by rw [tok_row up r hr, if_pos h]; simp), tok_row up r hr, if_pos h]
    simp only [List.drop_length]
    rw [show skipL false [] = 0 from rfl, List.drop_nil, lexA_nil]
  · rw [if_neg h, lexA_err (by simp) (by rw [tok_row up r hr, if_neg h])]
theorem name_row (up : Bool) (r : List UInt8) (hr : r.all isRest = true) : isName (start up :: r) = (decide ((start up :: r).length ≤ 30) && !up) := by
  have h1 : isRest (start up) = true := by cases up <;> rfl
  have hword : isWord (start up :: r) = false := by cases up <;> simp [isWord, words, start]
  simp only [isName, rowOf, hword, List.all_cons, h1, hr]
  cases up <;> simp [start, isLow]
theorem con_row (up : Bool) (r : List UInt8) (hr : r.all isRest = true) : isCon (start up :: r) = (decide ((start up :: r).length ≤ 30) && up) := by
  have h1 : isRest (start up) = true := by cases up <;> rfl
  simp only [isCon, rowOf, List.all_cons, h1, hr]
  cases up <;> simp [start, isUp]
def wordsText : List UInt8 := [100, 97, 116, 97, 32, 108, 101, 116, 32, 105, 110, 32, 105, 102, 32, 116, 104, 101, 110, 32, 101, 108, 115, 101, 32, 99, 97, 115, 101, 32, 111, 102, 32, 116, 114, 117, 101, 32, 102, 97, 108, 115, 101]
def wordToks : List Tk := [⟨4, 0, [100, 97, 116, 97], 0⟩, ⟨4, 5, [108, 101, 116], 0⟩, ⟨4, 9, [105, 110], 0⟩, ⟨4, 12, [105, 102], 0⟩, ⟨4, 15, [116, 104, 101, 110], 0⟩, ⟨4, 20, [101, 108, 115, 101], 0⟩, ⟨4, 25, [99, 97, 115, 101], 0⟩, ⟨4, 30, [111, 102], 0⟩, ⟨4, 33, [116, 114, 117, 101], 0⟩, ⟨4, 38, [102, 97, 108, 115, 101], 0⟩]
theorem lex_words : lexL wordsText = .ok wordToks := by rw [lexL_F]; kernel_rfl
theorem words_l (up : Bool) (r : List UInt8) (hr : r.all isRest = true) (h30 : (start up :: r).length ≤ 30) :
    ∀ (d i : Nat), 10 - i = d → i ≤ 10 →
      Ev (fun k => warplaw9_LexNames.l1 k up (ofL (start up :: r)) [toS ⟨kindOf up, 0, start up :: r, 0⟩] 0 (kindOf up) (wordToks.map toS) 0 (i : Int)) true := by
  have hsh : Sh (start up :: r) := by unfold Sh; omega
  intro d
  induction d with
  | zero =>
    intro i hd hi
    have e : i = 10 := by omega
    subst e
    refine Ev.step (f := fun k => (lex_Name.f k (ofL (start up :: r))).bind fun t330 => (if (t330 != up) = true then ((lex_Con.f k (ofL (start up :: r))).bind fun t331 => (if (t331 == up) = true then ((warplaw9_awake.f k).bind fun t333 => (some t333)) else (some false))) else (some false))) (fun k => ?_) ?_
    · simp only [warplaw9_LexNames.l1]
      rw [if_neg (by decide), Num_at]
      simp only [Option.bind_some, if_true]
      rw [if_pos (by simp), if_pos (by simp), if_pos]
      · rfl
      · simp [rd_T38, toS]
    · refine Ev.bind (name_ev _ hsh) ?_
      refine Ev.congr (fun k => by rw [if_pos (by rw [name_row up r hr]; cases up <;> simp [h30] <;> simpa using h30)]) ?_
      refine Ev.bind (con_ev _ hsh) ?_
      refine Ev.congr (fun k => by rw [if_pos (by rw [con_row up r hr]; cases up <;> simp [h30] <;> simpa using h30)]) ?_
      exact awake_last
  | succ d ih =>
    intro i hd hi
    have hlt : i < 10 := by omega
    have hk : ∀ j : Fin 10, ((wordToks.map toS).getD j.val z38).f0 = 4 ∧ ∃ w, ((wordToks.map toS).getD j.val z38).f2 = ofL w ∧ isName w = false ∧ w.length ≤ 30 := by
      intro j
      match j with
      | 0 => exact ⟨rfl, _, rfl, by decide, by decide⟩
      | 1 => exact ⟨rfl, _, rfl, by decide, by decide⟩
      | 2 => exact ⟨rfl, _, rfl, by decide, by decide⟩
      | 3 => exact ⟨rfl, _, rfl, by decide, by decide⟩
      | 4 => exact ⟨rfl, _, rfl, by decide, by decide⟩
      | 5 => exact ⟨rfl, _, rfl, by decide, by decide⟩
      | 6 => exact ⟨rfl, _, rfl, by decide, by decide⟩
      | 7 => exact ⟨rfl, _, rfl, by decide, by decide⟩
      | 8 => exact ⟨rfl, _, rfl, by decide, by decide⟩
      | 9 => exact ⟨rfl, _, rfl, by decide, by decide⟩
    obtain ⟨k0, w, k1, k2, k3⟩ := hk ⟨i, hlt⟩
    refine Ev.step (f := fun k => (lex_Name.f k (ofL w)).bind fun t327 => (if t327 = true then (some false) else (warplaw9_LexNames.l1 k up (ofL (start up :: r)) [toS ⟨kindOf up, 0, start up :: r, 0⟩] 0 (kindOf up) (wordToks.map toS) 0 ((i + 1 : Nat) : Int)))) (fun k => ?_) ?_
    · simp only [warplaw9_LexNames.l1]
      rw [if_pos (by simp only [List.length_map]; show (i : Int) < ((10 : Nat) : Int); omega), if_pos (by omega), if_pos (by unfold rd_T38; rw [Int.toNat_natCast]; exact k0)]
      rw [show (rd_T38 (wordToks.map toS) (i : Int)).f2 = ofL w by unfold rd_T38; rw [Int.toNat_natCast]; exact k1, wrap_id (by omega) (by omega)]
      rfl
    · refine Ev.bind (name_ev w (by unfold Sh; omega)) ?_
      refine Ev.congr (fun k => by rw [if_neg (by rw [k2]; simp)]) ?_
      exact ih (i + 1) (by omega) (by omega)
theorem end_ev (up : Bool) (r : List UInt8) (hr : r.all isRest = true) (hl : r.length ≤ 40) (l0 : List Int) :
    Ev (fun k => (lex_Lex.f k (ofL (start up :: r))).bind fun bt311 => (if (((start up :: r).length : Nat) : Int) > 30 then ((warplaw1_Num.f bt311.2.1).bind fun t316 => (if t316 = 3 then (if bt311.2.2 = 0 then (if (bt311.1.length : Int) = 0 then ((lex_Name.f k (ofL (start up :: r))).bind fun t317 => (if t317 = true then (some false) else ((lex_Con.f k (ofL (start up :: r))).bind fun t318 => (if t318 = true then (some false) else ((warplaw9_awake.f k).bind fun t319 => (some t319)))))) else (some false)) else (some false)) else (some false))) else (if up = true then (warplaw9_LexNames.j2 k up (ofL (start up :: r)) bt311.1 bt311.2.1 2) else (warplaw9_LexNames.j2 k up (ofL (start up :: r)) bt311.1 bt311.2.1 1)))) true := by
  have hlen : (start up :: r).length = r.length + 1 := rfl
  have hsh : Sh (start up :: r) := by unfold Sh; omega
  refine Ev.bind (Lex_ev _ (by omega)) ?_
  rw [lex_row_ up r hr]
  by_cases h30 : (start up :: r).length ≤ 30
  · rw [if_pos h30]
    have hw := Lex_ev wordsText (by decide)
    rw [lex_words] at hw
    refine Ev.congr (f := fun k => warplaw9_LexNames.j2 k up (ofL (start up :: r)) [toS ⟨kindOf up, 0, start up :: r, 0⟩] 0 (kindOf up)) (fun k => ?_) ?_
    · rw [if_neg (by omega)]
      cases up <;> rfl
    · refine Ev.step (f := fun k => (lex_Lex.f k (ofL wordsText)).bind fun bt320 => (warplaw9_LexNames.l1 k up (ofL (start up :: r)) [toS ⟨kindOf up, 0, start up :: r, 0⟩] 0 (kindOf up) bt320.1 bt320.2.1 0)) (fun k => rfl) ?_
      refine Ev.bind hw ?_
      exact words_l up r hr h30 10 0 (by omega) (by omega)
  · rw [if_neg h30]
    refine Ev.congr (f := fun k => (lex_Name.f k (ofL (start up :: r))).bind fun t317 => (if t317 = true then (some false) else ((lex_Con.f k (ofL (start up :: r))).bind fun t318 => (if t318 = true then (some false) else ((warplaw9_awake.f k).bind fun t319 => (some t319)))))) (fun k => ?_) ?_
    · rw [if_pos (by omega)]
      rfl
    · refine Ev.bind (name_ev _ hsh) ?_
      refine Ev.congr (fun k => by rw [if_neg (by rw [name_row up r hr]; simp only [h30, decide_false, Bool.false_and]; simp)]) ?_
      refine Ev.bind (con_ev _ hsh) ?_
      refine Ev.congr (fun k => by rw [if_neg (by rw [con_row up r hr]; simp only [h30, decide_false, Bool.false_and]; simp)]) ?_
      exact awake_last
theorem loop_ev (up : Bool) (l0 : List Int) (hl : l0.length ≤ 40) (hw : ∀ x ∈ l0, (Lit.int .u8 x).wf = true) :
    ∀ (d i : Nat) (r : List UInt8), l0.length - i = d → i ≤ l0.length → r.all isRest = true → r.length = i →
      Ev (fun k => warplaw9_LexNames.l0 k l0 up (ofL (start up :: r)) (i : Int)) true := by
  intro d
  induction d with
  | zero =>
    intro i r hd hi hr hri
    refine Ev.step (fun k => ?_) (end_ev up r hr (by omega) l0)
    simp only [warplaw9_LexNames.l0]
    rw [if_neg (by omega), ofL_size]
  | succ d ih =>
    intro i r hd hi hr hri
    have hlt : i < l0.length := by omega
    have hwx := hw l0[i] (List.getElem_mem hlt)
    have hrd : rd l0 (i : Int) = l0[i] := by unfold rd; rw [Int.toNat_natCast, getD_lt hlt]
    generalize l0[i] = x at hwx hrd
    have hx := Go.bounds_u8 hwx
    have h5 : 0 ≤ Int.tmod x 5 ∧ Int.tmod x 5 < 5 := by rw [Int.tmod_eq_emod_of_nonneg hx.1]; omega
    obtain ⟨j, hj⟩ : ∃ j : Nat, Int.tmod x 5 = (j : Int) := ⟨(Int.tmod x 5).toNat, by omega⟩
    have hp : ∀ j : Fin 5, ∃ c, rdOf ByteArray.empty ([(⟨#[97]⟩ : ByteArray), (⟨#[90]⟩ : ByteArray), (⟨#[95]⟩ : ByteArray), (⟨#[55]⟩ : ByteArray), (⟨#[116]⟩ : ByteArray)] : List ByteArray) (j.val : Int) = ofL [c] ∧ isRest c = true := by
      intro j
      match j with
      | 0 => exact ⟨97, rfl, rfl⟩
      | 1 => exact ⟨90, rfl, rfl⟩
      | 2 => exact ⟨95, rfl, rfl⟩
      | 3 => exact ⟨55, rfl, rfl⟩
      | 4 => exact ⟨116, rfl, rfl⟩
    obtain ⟨c, hc, hcr⟩ := hp ⟨j, by omega⟩
    refine Ev.step (fun k => ?_) (ih (i + 1) (r ++ [c]) (by omega) (by omega) (by simp [hr, hcr]) (by simp [hri]))
    simp only [warplaw9_LexNames.l0]
    rw [if_pos (by omega)]
    simp only [Option.bind_some, hrd, hj]
    rw [if_pos (by omega), if_pos (by omega), if_pos (by simp only [List.length_cons, List.length_nil]; omega)]
    rw [show rdOf ByteArray.empty _ (j : Int) = ofL [c] from hc]
    rw [if_pos (by rw [ofL_size, ofL_size]; simp only [List.length_cons, List.length_nil]; omega), ofL_append, wrap_id (by omega) (by omega)]
    rfl
theorem LexNames : warplaw9_LexNames.Pure := by
  intro l0 a1 hm hb hw
  refine Ev.rounds (g := fun k => warplaw9_LexNames.f k l0 a1) ?_
  by_cases h : (l0.length : Int) > 40
  · exact Ev.congr (fun k => by simp only [warplaw9_LexNames.f]; rw [if_pos h]) awake_last
  · refine Ev.congr (f := fun k => warplaw9_LexNames.j0 k l0 a1 (ofL [start a1])) (fun k => ?_) ?_
    · simp only [warplaw9_LexNames.f]
      rw [if_neg h]
      cases a1 <;> rfl
    · exact Ev.step (fun k => rfl) (loop_ev a1 l0 (by omega) hw l0.length 0 [] (by omega) (by omega) rfl rfl)
end Go.Proofs.Ythpnplcagfpngaa.Pure
