/- Words: a text by numbers; it is short, whatever the numbers. -/
import Derived.Test.YthpnplcagfpngaaS4
import Derived.Test.YthpnplcagfpngaaQ15
import Derived.OpenShut
namespace Go.Proofs.Ythpnplcagfpngaa.Lx
open Go.RowKit Go.Proofs.YthpnplcagfpngaaW.PrintWords Go.Proofs.YthpnplcagfpngaaW.PrintLast Go.Proofs.YthpnplcagfpngaaW.PrintMore
open Go.Proofs.Ythpnplcagfpngaa.Q
set_option linter.unusedVariables false
set_option linter.unusedSimpArgs false
def pieces : List (List UInt8) := [[108, 101, 116, 32], [120], [102, 32], [67, 111, 110, 115], [61], [45, 62], [92], [40], [41], [44], [123], [125], [59], [124], [100, 97, 116, 97, 32], [105, 110, 32], [49, 50], [48], [99, 97, 115, 101, 32], [111, 102, 32], [45, 45, 32, 114, 10], [10], [9], [32], [116, 114, 117, 101, 32], [105, 102, 32], [97, 95, 49], [84, 50, 32], [101, 108, 115, 101, 32], [116, 104, 101, 110, 32], [48, 48, 55], [95], [45], [62], [102, 97, 108, 115, 101], [50, 49, 52, 55, 52, 56, 51, 54, 52, 55], [50, 49, 52, 55, 52, 56, 51, 54, 52, 56]]
theorem pieces_le : ∀ p ∈ pieces, p.length ≤ 10 := by decide
theorem words_l (l0 : List Int) (hw : ∀ x ∈ l0, (Lit.int .u8 x).wf = true) : ∀ (d i : Nat) (s : List UInt8), 200 - i ≤ d → i ≤ 200 → s.length ≤ 10 * i →
    ∃ t, t.length ≤ 2000 ∧ t.length ≤ s.length + 10 * (l0.length - i) ∧ Ev (fun k => warplaw9_Words.l0 k l0 (pieces.map ofL) (ofL s) (i : Int)) (ofL t) := by
  intro d
  induction d with
  | zero =>
    intro i s hd hi hs
    have e : i = 200 := by omega
    subst e
    refine ⟨s, by omega, by omega, Ev.step (f := fun _ => some (ofL s)) (fun k => ?_) (Ev.now _)⟩
    simp only [warplaw9_Words.l0]
    by_cases h : ((200 : Nat) : Int) < (l0.length : Int)
    · rw [if_pos h, if_neg (by omega)]
    · rw [if_neg h]
  | succ d ih =>
    intro i s hd hi hs
    by_cases h : i < l0.length ∧ i < 200
    · have hlt := h.1
      have hwx := Go.bounds_u8 (hw l0[i] (List.getElem_mem hlt))
      have hrd : rd l0 (i : Int) = l0[i] := by unfold rd; rw [Int.toNat_natCast, getD_lt hlt]
      generalize l0[i] = x at hwx hrd
      have hlen : (pieces.map ofL).length = 37 := by rw [List.length_map]; rfl
      obtain ⟨j, hj, hjl⟩ : ∃ j : Nat, Int.tmod (wrap64 x) ((37 : Nat) : Int) = (j : Int) ∧ j < 37 := by
        rw [wrap_id (by omega) (by omega), Int.tmod_eq_emod_of_nonneg (by omega)]
        exact ⟨(x % 37).toNat, by omega, by omega⟩
      have hjp : j < pieces.length := hjl
      have hp : rdOf ByteArray.empty (pieces.map ofL) (j : Int) = ofL pieces[j] := by
        unfold rdOf; rw [Int.toNat_natCast, getD_lt (by simpa using hjp)]; simp
      have hpl := pieces_le pieces[j] (List.getElem_mem hjp)
      generalize pieces[j] = p at hp hpl
      obtain ⟨t, h1, h2, h3⟩ := ih (i + 1) (s ++ p) (by omega) (by omega) (by simp; omega)
      rw [List.length_append] at h2
      refine ⟨t, h1, by omega, Ev.step (fun k => ?_) h3⟩
      simp only [warplaw9_Words.l0, hlen, hrd, hj]
      rw [if_pos (by omega), if_pos (by omega), if_pos (by omega), if_neg (by omega), if_pos (by omega), if_pos (by omega), hp, if_pos (by rw [ofL_size, ofL_size]; omega), ofL_append, wrap_id (by omega) (by omega)]
      rfl
    · refine ⟨s, by omega, by omega, Ev.step (f := fun _ => some (ofL s)) (fun k => ?_) (Ev.now _)⟩
      simp only [warplaw9_Words.l0]
      by_cases h1 : (i : Int) < (l0.length : Int)
      · rw [if_pos h1, if_neg (by omega)]
      · rw [if_neg h1]
theorem Words_ev (l0 : List Int) (hw : ∀ x ∈ l0, (Lit.int .u8 x).wf = true) :
    ∃ s, s.length ≤ 2000 ∧ s.length ≤ 10 * l0.length ∧ Ev (fun k => warplaw9_Words.f k l0) (ofL s) := by
  obtain ⟨t, h1, h2, h3⟩ := words_l l0 hw 200 0 [] (by omega) (by omega) (by simp)
  exact ⟨t, h1, by simp at h2; omega, Ev.congr (fun k => rfl) h3⟩
/-! ### what lies ahead of a token, taken alone, has no token -/
theorem skip_take (l : List UInt8) : ∀ b, skipL b (l.take (skipL b l)) = skipL b l := by
  induction l with
  | nil => intro b; simp [skipL]
  | cons c r ih =>
    intro b
    cases b
    · simp only [skipL]
      by_cases h1 : isGap c = true
      · rw [if_pos h1, List.take_succ_cons, skipL, if_pos h1, ih]
      · rw [if_neg h1]
        by_cases h2 : (c == 45 && hd 45 r) = true
        · rw [if_pos h2, List.take_succ_cons, skipL, if_neg h1]
          have h3 : hd 45 (r.take (skipL true r)) = true := by
            cases r with
            | nil => simp [hd] at h2
            | cons d t =>
              simp only [hd, Bool.and_eq_true] at h2
              have : ∃ n, skipL true (d :: t) = n + 1 := by
                simp only [skipL]; split <;> exact ⟨_, rfl⟩
              obtain ⟨n, hn⟩ := this
              rw [hn, List.take_succ_cons]
              exact h2.2
          rw [Bool.and_eq_true] at h2
          rw [if_pos (by rw [h2.1, h3]; rfl), ih]
        · rw [if_neg h2]; simp [skipL]
    · simp only [skipL]
      by_cases h1 : (c == 10) = true
      · rw [if_pos h1, List.take_succ_cons, skipL, if_pos h1, ih]
      · rw [if_neg h1, List.take_succ_cons, skipL, if_neg h1, ih]
theorem lex_gap (l : List UInt8) : lexL (l.take (skipL false l)) = .ok [] := by
  unfold lexL
  rw [skip_take]
  have := skipL_le false l
  rw [List.drop_eq_nil_of_le (by simp; omega), lexA_nil]
end Go.Proofs.Ythpnplcagfpngaa.Lx
