/- LexBlanks: blanks, line ends, remarks between two texts change nothing but places, and part what would be one. For all inputs. -/
import Derived.Test.YthpnplcagfpngaaQ17
import Derived.Test.YthpnplcagfpngaaS6
import Derived.Test.YthpnplcagfpngaaS7
import Derived.Test.YthpnplcagfpngaaS8
namespace Go.Proofs.Ythpnplcagfpngaa.Pure
open Go.RowKit Go.Proofs.Ythpnplcagfpngaa.Q Go.Proofs.YthpnplcagfpngaaW.PrintWords Go.Proofs.YthpnplcagfpngaaW.PrintLast
open Go.Proofs.Ythpnplcagfpngaa.Lx
set_option linter.unusedVariables false
set_option linter.unusedSimpArgs false
theorem pos_at (x y : List Tk) (d i : Nat) (hi : i < y.length) : rd_T38 ((x ++ y.map (shift d)).map toS) ((x.length + i : Nat) : Int) = toS (shift d y[i]) ∧ rd_T38 (y.map toS) (i : Int) = toS y[i] := by
  constructor
  · unfold rd_T38
    rw [Int.toNat_natCast, getD_lt (by simp; omega)]
    simp
  · unfold rd_T38
    rw [Int.toNat_natCast, getD_lt (by simpa using hi)]
    simp
theorem each_ev (x y : List Tk) (d : Nat) (hd : d ≤ 5000) (hx : x.length ≤ 5000) (hy : y.length ≤ 5000) (hp : ∀ t ∈ y, t.pos ≤ 5000) :
    ∀ (m i : Nat), y.length - i = m → i ≤ y.length →
      Ev (fun k => warplaw9_LexBlanks.l1 k (x.map toS) (y.map toS) ((x ++ y.map (shift d)).map toS) (d : Int) (i : Int)) true := by
  intro m
  induction m with
  | zero =>
    intro i hm hi
    refine Ev.step (fun k => ?_) awake_last
    simp only [warplaw9_LexBlanks.l1]
    rw [if_neg (by simp; omega)]
  | succ m ih =>
    intro i hm hi
    have hlt : i < y.length := by omega
    obtain ⟨h1, h2⟩ := pos_at x y d i hlt
    have hpi := hp y[i] (List.getElem_mem hlt)
    have w1 : wrap64 (((x.map toS).length : Int) + (i : Int)) = ((x.length + i : Nat) : Int) := by rw [List.length_map, wrap_id (by omega) (by omega)]; omega
    have w2 : wrap64 ((y[i].pos : Int) + (d : Int)) = ((y[i].pos + d : Nat) : Int) := by rw [wrap_id (by omega) (by omega)]; omega
    have w3 : wrap64 ((i : Int) + 1) = ((i + 1 : Nat) : Int) := by rw [wrap_id (by omega) (by omega)]; rfl
    refine Ev.step (fun k => ?_) (ih (i + 1) (by omega) (by omega))
    simp only [warplaw9_LexBlanks.l1, w1, h1, h2, w3]
    clear w1 w3
    rw [if_pos (by rw [List.length_map]; omega), if_pos (by omega), if_pos (by omega), if_pos (by simp; omega), if_neg]
    simp only [toS, shift, w2]
    simp
theorem shift_len (d : Nat) (ts : List Tk) : (ts.map (shift d)).length = ts.length := List.length_map ..
theorem lexA_pos : ∀ (n pos : Nat) (l : List UInt8) (ts : List Tk), l.length ≤ n → lexA pos l = .ok ts → ∀ t ∈ ts, t.pos ≤ pos + l.length := by
  intro n
  induction n with
  | zero =>
    intro pos l ts hn hx
    have : l = [] := List.length_eq_zero_iff.1 (by omega)
    subst this
    rw [lexA_nil] at hx; cases hx; simp
  | succ n ih =>
    intro pos l ts hn hx
    by_cases hne : l = []
    · subst hne; rw [lexA_nil] at hx; cases hx; simp
    · by_cases h0 : (tokL l).2 = 0
      · rw [lexA_err hne h0] at hx; cases hx
      · rw [lexA_cons h0] at hx
        have hle := tokL_le l
        have hsk := skipL_le false (l.drop (tokL l).2)
        split at hx
        · cases hx
        · rename_i ts' hts
          cases hx
          have := List.length_pos_iff.2 hne
          have h2 := ih _ _ ts' (by simp; omega) hts
          intro t ht
          rcases List.mem_cons.1 ht with rfl | ht
          · simp
          · have := h2 t ht
            simp at this hsk; omega
theorem lexL_pos (l : List UInt8) (ts : List Tk) (h : lexL l = .ok ts) : ∀ t ∈ ts, t.pos ≤ l.length := by
  intro t ht
  have := lexA_pos _ _ _ _ (Nat.le_refl _) h t ht
  have hs := skipL_le false l
  simp at this; omega
theorem lexA_lt : ∀ (n pos e : Nat) (l : List UInt8), l.length ≤ n → lexA pos l = .error e → e ≤ pos + l.length := by
  intro n
  induction n with
  | zero =>
    intro pos e l hn hx
    have : l = [] := List.length_eq_zero_iff.1 (by omega)
    subst this
    rw [lexA_nil] at hx; cases hx
  | succ n ih =>
    intro pos e l hn hx
    by_cases hne : l = []
    · subst hne; rw [lexA_nil] at hx; cases hx
    · have hpos := List.length_pos_iff.2 hne
      by_cases h0 : (tokL l).2 = 0
      · rw [lexA_err hne h0] at hx; cases hx; omega
      · rw [lexA_cons h0] at hx
        have hle := tokL_le l
        have hsk := skipL_le false (l.drop (tokL l).2)
        split at hx
        · rename_i e' hts
          cases hx
          have h2 := ih _ _ _ (by simp; omega) hts
          simp at h2 hsk; omega
        · cases hx
theorem lexL_err (l : List UInt8) (e : Nat) (h : lexL l = .error e) : e ≤ l.length := by
  have := lexA_lt _ _ _ _ (Nat.le_refl _) h
  have hs := skipL_le false l
  simp at this; omega
/-- What goes as a whole, whatever stands behind. -/
def Goes (g : List UInt8) : Prop := ∀ b, skipL false (g ++ b) = g.length + skipL false b
theorem goes_app {g h : List UInt8} (a : Goes g) (b : Goes h) : Goes (g ++ h) := fun c => by
  rw [List.append_assoc, a, b, List.length_append]; omega
def gaps : List (List UInt8) := [[32], [10], [9], [45, 45, 32, 108, 101, 116, 32, 120, 10], [45, 45, 10]]
theorem goes_gap : ∀ g ∈ gaps, Goes g ∧ g.length ≤ 10 := by
  intro g hg
  simp only [gaps, List.mem_cons, List.mem_nil_iff, or_false] at hg
  rcases hg with rfl | rfl | rfl | rfl | rfl
  all_goals refine ⟨fun b => ?_, by simp⟩
  all_goals simp [skipL, isGap, hd]
  all_goals omega
theorem end_ev (a b g : List UInt8) (ha : a.length ≤ 2000) (hb : b.length ≤ 2000) (hg : g.length ≤ 500) (hgo : Goes g) :
    Ev (fun k => (lex_Lex.f k (ofL a)).bind fun bt246 => ((lex_Lex.f k (ofL b)).bind fun bt251 => ((lex_Lex.f k (ofL ((a ++ 10 :: g) ++ b))).bind fun bt256 => (if bt246.2.1 = 0 then (if bt251.2.1 = 0 then (if bt256.2.1 = 0 then (if (bt256.1.length : Int) = (wrap64 ((bt246.1.length : Int) + (bt251.1.length : Int))) then (if 0 ≤ (bt246.1.length : Int) then (if (bt246.1.length : Int) ≤ (bt256.1.length : Int) then ((warplaw9_Same.f k (bt256.1.take ((bt246.1.length : Int) : Int).toNat) bt246.1).bind fun t272 => (warplaw9_LexBlanks.j2 k bt246.1 bt251.1 bt256.1 ((a.length + (10 :: g).length : Nat) : Int) (!t272))) else (none)) else (none)) else (warplaw9_LexBlanks.j2 k bt246.1 bt251.1 bt256.1 ((a.length + (10 :: g).length : Nat) : Int) true)) else (warplaw9_LexBlanks.j2 k bt246.1 bt251.1 bt256.1 ((a.length + (10 :: g).length : Nat) : Int) true)) else (if bt256.2.1 = bt251.2.1 then (if bt256.2.2 = (wrap64 (bt251.2.2 + ((a.length + (10 :: g).length : Nat) : Int))) then ((warplaw9_awake.f k).bind fun t266 => (some t266)) else (some false)) else (some false))) else (if bt256.2.1 = bt246.2.1 then (if bt256.2.2 = bt246.2.2 then ((warplaw9_awake.f k).bind fun t263 => (some t263)) else (some false)) else (some false)))))) true := by
  have hl : (10 :: g).length = g.length + 1 := rfl
  have hj : lexL ((a ++ 10 :: g) ++ b) = joinE (lexL a) (shiftE (a.length + (10 :: g).length) (lexL b)) := by
    rw [lexL_S, lexL_S a, List.append_assoc, List.cons_append, lexS_join (g ++ b) _ 0 a (Nat.le_refl _), lexS_gap g hgo, lexS_at (0 + a.length + 1 + g.length), show 0 + a.length + 1 + g.length = a.length + (10 :: g).length by omega]
  refine Ev.bind (Lex_ev a (by omega)) (Ev.bind (Lex_ev b (by omega)) (Ev.bind (Lex_ev _ (by simp; omega)) ?_))
  rw [hj]
  cases hxa : lexL a with
  | error e =>
    refine Ev.congr (fun k => ?_) awake_last
    show (if (3 : Int) = 0 then _ else (if (3 : Int) = 3 then (if (e : Int) = (e : Int) then _ else _) else _)) = _
    rw [if_neg (by omega), if_pos rfl, if_pos rfl]
  | ok x =>
    have hxl := lexL_len a x hxa
    cases hxb : lexL b with
    | error e =>
      have he := lexL_err b e hxb
      refine Ev.congr (fun k => ?_) awake_last
      show (if (0 : Int) = 0 then (if (3 : Int) = 0 then _ else (if (3 : Int) = 3 then (if ((e + (a.length + (10 :: g).length) : Nat) : Int) = wrap64 ((e : Int) + ((a.length + (10 :: g).length : Nat) : Int)) then _ else _) else _)) else _) = _
      rw [if_pos rfl, if_neg (by omega), if_pos rfl, if_pos (by rw [wrap_id (by omega) (by omega)]; omega)]
    | ok y =>
      have hyl := lexL_len b y hxb
      have hyp := lexL_pos b y hxb
      have hzl : (x ++ y.map (shift (a.length + (10 :: g).length))).length = x.length + y.length := by simp
      have hsame : ((x ++ y.map (shift (a.length + (10 :: g).length))).map toS).take ((((x.map toS).length : Nat) : Int)).toNat = x.map toS := by
        rw [Int.toNat_natCast, List.map_append, List.take_left']
        rfl
      refine Ev.congr (f := fun k => (warplaw9_Same.f k (x.map toS) (x.map toS)).bind fun t272 => (warplaw9_LexBlanks.j2 k (x.map toS) (y.map toS) ((x ++ y.map (shift (a.length + (10 :: g).length))).map toS) ((a.length + (10 :: g).length : Nat) : Int) (!t272))) (fun k => ?_) ?_
      · show (if (0 : Int) = 0 then (if (0 : Int) = 0 then (if (0 : Int) = 0 then (if ((((x ++ y.map (shift (a.length + (10 :: g).length))).map toS).length : Nat) : Int) = wrap64 (((x.map toS).length : Int) + ((y.map toS).length : Int)) then (if 0 ≤ ((x.map toS).length : Int) then (if ((x.map toS).length : Int) ≤ ((((x ++ y.map (shift (a.length + (10 :: g).length))).map toS).length : Nat) : Int) then ((warplaw9_Same.f k (((x ++ y.map (shift (a.length + (10 :: g).length))).map toS).take ((((x.map toS).length : Nat) : Int)).toNat) (x.map toS)).bind _) else _) else _) else _) else _) else _) else _) = _
        rw [if_pos rfl, if_pos rfl, if_pos rfl, if_pos (by simp only [List.length_map]; rw [wrap_id (by omega) (by omega), hzl]; omega), if_pos (by omega), if_pos (by simp only [List.length_map]; rw [hzl]; omega), hsame]
        rfl
      · refine Ev.bind (Same_ev _ (by simp; omega)) ?_
        refine Ev.step (fun k => ?_) (each_ev x y (a.length + (10 :: g).length) (by omega) (by omega) (by omega) (fun t ht => by have := hyp t ht; omega) y.length 0 (by omega) (by omega))
        simp only [warplaw9_LexBlanks.j2]
        rw [if_neg (by simp)]
        rfl
theorem gap_ev (a b : List UInt8) (ha : a.length ≤ 2000) (hb : b.length ≤ 2000) (l2 : List Int) (hl2 : l2.length ≤ 20) (hw : ∀ x ∈ l2, (Lit.int .u8 x).wf = true) :
    ∀ (d i : Nat) (g : List UInt8), l2.length - i = d → i ≤ l2.length → g.length ≤ 10 * i → Goes g →
      Ev (fun k => warplaw9_LexBlanks.l0 k l2 (ofL a) (ofL b) (ofL (10 :: g)) (i : Int)) true := by
  intro d
  induction d with
  | zero =>
    intro i g hd hi hg hgo
    have hl : (10 :: g).length = g.length + 1 := rfl
    refine Ev.step (fun k => ?_) (end_ev a b g ha hb (by omega) hgo)
    simp only [warplaw9_LexBlanks.l0, Num_at, Option.bind_some]
    rw [if_neg (by omega)]
    have z1 : (ofL a).size + (ofL (10 :: g)).size ≤ 9223372036854775807 := by rw [ofL_size, ofL_size]; omega
    have z2 : (ofL a ++ ofL (10 :: g)).size + (ofL b).size ≤ 9223372036854775807 := by rw [ofL_append, ofL_size, ofL_size, List.length_append]; omega
    have z3 : wrap64 (((ofL a).size : Int) + ((ofL (10 :: g)).size : Int)) = ((a.length + (10 :: g).length : Nat) : Int) := by rw [ofL_size, ofL_size, wrap_id (by omega) (by omega)]; omega
    have z4 : (ofL a ++ ofL (10 :: g)) ++ ofL b = ofL ((a ++ 10 :: g) ++ b) := by rw [ofL_append, ofL_append]
    simp only [z1, z2, z3, z4, if_true]
  | succ d ih =>
    intro i g hd hi hg hgo
    have hl : (10 :: g).length = g.length + 1 := rfl
    have hlt : i < l2.length := by omega
    have hwx := Go.bounds_u8 (hw l2[i] (List.getElem_mem hlt))
    have hrd : rd l2 (i : Int) = l2[i] := by unfold rd; rw [Int.toNat_natCast, getD_lt hlt]
    generalize l2[i] = x at hwx hrd
    obtain ⟨j, hj, hjl⟩ : ∃ j : Nat, Int.tmod x 5 = (j : Int) ∧ j < 5 := by
      rw [Int.tmod_eq_emod_of_nonneg hwx.1]
      exact ⟨(x % 5).toNat, by omega, by omega⟩
    have hjp : j < gaps.length := hjl
    have hp : rdOf ByteArray.empty (gaps.map ofL) (j : Int) = ofL gaps[j] := by
      unfold rdOf; rw [Int.toNat_natCast, getD_lt (by simpa using hjp)]; simp
    obtain ⟨hq1, hq2⟩ := goes_gap gaps[j] (List.getElem_mem hjp)
    generalize gaps[j] = q at hp hq1 hq2
    have hlen : (gaps.map ofL).length = 5 := by rw [List.length_map]; rfl
    refine Ev.step (f := fun k => warplaw9_LexBlanks.l0 k l2 (ofL a) (ofL b) (ofL (10 :: (g ++ q))) ((i + 1 : Nat) : Int)) (fun k => ?_) (ih (i + 1) (g ++ q) (by omega) (by omega) (by simp; omega) (goes_app hgo hq1))
    simp only [warplaw9_LexBlanks.l0]
    rw [if_pos (by omega)]
    show ((if 0 ≤ (i : Int) then (if 0 ≤ (Int.tmod (rd l2 (i : Int)) 5) then (if (Int.tmod (rd l2 (i : Int)) 5) < ((gaps.map ofL).length : Int) then (if (ofL (10 :: g)).size + (rdOf ByteArray.empty (gaps.map ofL) (Int.tmod (rd l2 (i : Int)) 5)).size ≤ 9223372036854775807 then (warplaw9_LexBlanks.l0 k l2 (ofL a) (ofL b) (ofL (10 :: g) ++ (rdOf ByteArray.empty (gaps.map ofL) (Int.tmod (rd l2 (i : Int)) 5))) (wrap64 ((i : Int) + 1))) else (none)) else (none)) else (none)) else (none))) = _
    rw [hrd, hj, hlen, if_pos (by omega), if_pos (by omega), if_pos (by omega), hp, if_pos (by rw [ofL_size, ofL_size]; omega), ofL_append, wrap_id (by omega) (by omega)]
    rfl
theorem LexBlanks : warplaw9_LexBlanks.Pure := by
  intro l0 l1 l2 _ _ h0 _ _ h1 _ _ h2
  refine Ev.rounds (g := fun k => warplaw9_LexBlanks.f k l0 l1 l2) ?_
  have yes : Ev (fun k => warplaw9_LexBlanks.j0 k l0 l1 l2 true) true :=
    Ev.step (f := fun k => (warplaw9_awake.f k).bind fun t => some t) (fun k => by simp only [warplaw9_LexBlanks.j0]; rw [if_pos trivial]) awake_last
  by_cases g0 : (l0.length : Int) > 60
  · exact Ev.congr (fun k => by simp only [warplaw9_LexBlanks.f]; rw [if_pos g0]) yes
  · by_cases g1 : (l1.length : Int) > 60
    · exact Ev.congr (fun k => by simp only [warplaw9_LexBlanks.f]; rw [if_neg g0, if_pos g1]) yes
    · by_cases g2 : (l2.length : Int) > 20
      · exact Ev.congr (fun k => by simp only [warplaw9_LexBlanks.f]; rw [if_neg g0, if_neg g1, decide_eq_true g2]) yes
      · refine Ev.congr (f := fun k => warplaw9_LexBlanks.j0 k l0 l1 l2 false) (fun k => by simp only [warplaw9_LexBlanks.f]; rw [if_neg g0, if_neg g1, decide_eq_false g2]) ?_
        obtain ⟨a, ha, _, hA⟩ := Words_ev l0 h0
        obtain ⟨b, hb, _, hB⟩ := Words_ev l1 h1
        refine Ev.step (f := fun k => (warplaw9_Words.f k l0).bind fun t239 => ((warplaw9_Words.f k l1).bind fun t240 => (warplaw9_LexBlanks.l0 k l2 t239 t240 (⟨#[10]⟩ : ByteArray) 0))) (fun k => by simp only [warplaw9_LexBlanks.j0]; rw [if_neg (by simp)]) ?_
        exact Ev.bind hA (Ev.bind hB (gap_ev a b ha hb l2 (by omega) h2 l2.length 0 [] (by omega) (by omega) (by simp) (fun c => by simp)))
end Go.Proofs.Ythpnplcagfpngaa.Pure
