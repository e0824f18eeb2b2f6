/- What the printed functions token and Lex of package lex come to. -/
import Derived.Test.YthpnplcagfpngaaS2
namespace Go.Proofs.Ythpnplcagfpngaa.Lx
open Go.RowKit Go.Proofs.YthpnplcagfpngaaW.PrintWords Go.Proofs.YthpnplcagfpngaaW.PrintLast Go.Proofs.YthpnplcagfpngaaW.PrintMore
open Go.Proofs.Ythpnplcagfpngaa.Q
set_option linter.unusedVariables false
set_option linter.unusedSimpArgs false
/-- A token as token() hands it back: its cells and its length. -/
def tup (t : Tk × Nat) : Int × Int × ByteArray × Int × Int := (t.1.kind, 0, ofL t.1.s, t.1.n, (t.2 : Int))
def signs : List (List UInt8) := [[45, 62], [92], [61], [59], [124], [40], [41], [44], [123], [125]]
def signF (l : List UInt8) (ss : List (List UInt8)) : Tk × Nat := match ss with
  | [] => (⟨0, 0, [], 0⟩, 0)
  | s :: ss => if s.isPrefixOf l then (⟨5, 0, s, 0⟩, s.length) else signF l ss
theorem sign_l (l : List UInt8) (ss : List (List UInt8)) (hss : ss.length ≤ 10) : ∀ (d i : Nat), ss.length - i = d → i ≤ ss.length →
    Ev (fun k => lex_token.l0 k (ofL l) (ss.map ofL) (ss.length : Int) (i : Int)) (tup (signF l (ss.drop i))) := by
  intro d
  induction d with
  | zero =>
    intro i hd hi
    have e : ss.drop i = [] := List.drop_eq_nil_of_le (by omega)
    refine Ev.step (f := fun _ => some _) (fun k => by simp only [lex_token.l0]; rw [if_neg (by omega)]) (evIs (Ev.now _) ?_)
    rw [e]; rfl
  | succ d ih =>
    intro i hd hi
    have hlt : i < ss.length := by omega
    have er : rdOf ByteArray.empty (ss.map ofL) (i : Int) = ofL ss[i] := by
      unfold rdOf; rw [Int.toNat_natCast, getD_lt (by simpa using hlt)]; simp
    rw [List.drop_eq_getElem_cons hlt]
    generalize ss[i] = s at er
    refine Ev.step (f := fun k => if s.isPrefixOf l = true then some (5, 0, ofL s, 0, (s.length : Int)) else lex_token.l0 k (ofL l) (ss.map ofL) (ss.length : Int) ((i + 1 : Nat) : Int)) (fun k => ?_) ?_
    · simp only [lex_token.l0]
      rw [if_pos (by omega), if_pos (by omega), if_pos (by rw [List.length_map]; omega), er, hasPrefix_at, ofL_size, wrap_id (by omega) (by omega)]
      rfl
    · by_cases h : s.isPrefixOf l = true
      · exact Ev.congr (f := fun _ => some _) (fun k => by rw [if_pos h]) (evIs (Ev.now _) (by simp [signF, h, tup]))
      · exact Ev.congr (fun k => by rw [if_neg h]) (evIs (ih (i + 1) (by omega) (by omega)) (by conv => rhs; unfold signF; rw [if_neg h]))
theorem prefix1 (a : UInt8) (c : UInt8) (r : List UInt8) : [a].isPrefixOf (c :: r) = (c == a) := by
  simp only [List.isPrefixOf, Bool.and_true]
  rw [Bool.eq_iff_iff, beq_iff_eq, beq_iff_eq]
  exact eq_comm
theorem tokL_sign (c : UInt8) (r : List UInt8) (h1 : (isLow c || isUp c) = false) (h2 : isDig c = false) :
    tokL (c :: r) = if (c == 45 && hd 62 r) = true then (⟨5, 0, [45, 62], 0⟩, 2) else if signs1.contains c = true then (⟨5, 0, [c], 0⟩, 1) else (⟨0, 0, [], 0⟩, 0) := by
  simp only [tokL]
  rw [if_neg (by simp [h1]), if_neg (by simp [h2])]
theorem sign_tok (c : UInt8) (r : List UInt8) (h1 : (isLow c || isUp c) = false) (h2 : isDig c = false) : signF (c :: r) signs = tokL (c :: r) := by
  rw [tokL_sign c r h1 h2, signs, signF, prefix2]
  by_cases h : (c == 45 && hd 62 r) = true
  · rw [if_pos h, if_pos h]; rfl
  · rw [if_neg h, if_neg h]
    simp only [signF, prefix1, beq_iff_eq, List.length_cons, List.length_nil]
    by_cases g0 : c = 92
    · subst g0; rfl
    rw [if_neg g0]
    by_cases g1 : c = 61
    · subst g1; rfl
    rw [if_neg g1]
    by_cases g2 : c = 59
    · subst g2; rfl
    rw [if_neg g2]
    by_cases g3 : c = 124
    · subst g3; rfl
    rw [if_neg g3]
    by_cases g4 : c = 40
    · subst g4; rfl
    rw [if_neg g4]
    by_cases g5 : c = 41
    · subst g5; rfl
    rw [if_neg g5]
    by_cases g6 : c = 44
    · subst g6; rfl
    rw [if_neg g6]
    by_cases g7 : c = 123
    · subst g7; rfl
    rw [if_neg g7]
    by_cases g8 : c = 125
    · subst g8; rfl
    rw [if_neg g8]
    rw [if_neg (by simp [signs1, g0, g1, g2, g3, g4, g5, g6, g7, g8])]
theorem take_take (p : UInt8 → Bool) (l : List UInt8) : l.take (l.takeWhile p).length = l.takeWhile p := by
  have := List.takeWhile_prefix p (l := l)
  exact (List.prefix_iff_eq_take.1 this).symm
theorem token_ev (l : List UInt8) (hl : Sh l) (hne : l ≠ []) : Ev (fun k => lex_token.f k (ofL l)) (tup (tokL l)) := by
  cases l with
  | nil => exact absurd rfl hne
  | cons c r =>
    have hr := takeWhile_le (p := isRest) (c :: r)
    have hw := takeWhile_le (p := isDig) (c :: r)
    refine Ev.congr (f := fun k => (lex_row.f k (ofL (c :: r)) 15).bind fun t112 => (lex_class.f k (c.toNat : Int)).bind fun t113 => (if (Go.bits .and .i64 t113 3) = 0 then ((lex_row.f k (ofL (c :: r)) 4).bind fun t118 => (if t118 > 0 then (if 0 ≤ t118 then (if t118 ≤ (((c :: r).length : Nat) : Int) then ((lex_number.f k (ofL ((c :: r).take (t118 : Int).toNat))).bind fun bt119 => (if bt119.2 = true then (some (3, 0, (⟨#[]⟩ : ByteArray), bt119.1, t118)) else (some (0, 0, (⟨#[]⟩ : ByteArray), 0, 0)))) else (none)) else (none)) else lex_token.l0 k (ofL (c :: r)) (signs.map ofL) ((signs.map ofL).length : Int) 0)) else (if 0 ≤ t112 then (if t112 ≤ (((c :: r).length : Nat) : Int) then ((lex_word.f (ofL ((c :: r).take (t112 : Int).toNat))).bind fun t115 => (if t115 = true then (some (4, 0, ofL ((c :: r).take (t112 : Int).toNat), 0, t112)) else ((lex_Name.f k (ofL ((c :: r).take (t112 : Int).toNat))).bind fun t116 => (if t116 = true then (some (1, 0, ofL ((c :: r).take (t112 : Int).toNat), 0, t112)) else ((lex_Con.f k (ofL ((c :: r).take (t112 : Int).toNat))).bind fun t117 => (if t117 = true then (some (2, 0, ofL ((c :: r).take (t112 : Int).toNat), 0, t112)) else (some (0, 0, ofL ((c :: r).take (t112 : Int).toNat), 0, 0)))))))) else (none)) else (none)))) (fun k => ?_) ?_
    · simp only [lex_token.f, ofL_size, extract_to]
      have h0 : (0 : Int) < (((c :: r).length : Nat) : Int) := by simp <;> omega
      rw [show bt (ofL (c :: r)) 0 = (c.toNat : Int) from bt_ofL (c :: r) 0]
      simp only [h0, if_true]
      rfl
    refine Ev.bind (row_ev 15 isRest cl_rest _ hl) ?_
    refine Ev.bind (class_ev c) ?_
    by_cases hlet : (isLow c || isUp c) = true
    · generalize hwe : (c :: r).takeWhile isRest = w at hr
      have ht : (c :: r).take w.length = w := by rw [← hwe]; exact take_take _ _
      have hsw : Sh w := by unfold Sh at hl ⊢; omega
      have hT : tokL (c :: r) = if isWord w then (⟨4, 0, w, 0⟩, w.length) else if isName w then (⟨1, 0, w, 0⟩, w.length) else if isCon w then (⟨2, 0, w, 0⟩, w.length) else (⟨0, 0, w, 0⟩, 0) := by
        simp only [tokL]; rw [if_pos hlet, hwe]
      refine Ev.congr (f := fun k => if isWord w = true then some (4, 0, ofL w, 0, (w.length : Int)) else (lex_Name.f k (ofL w)).bind fun t116 => (if t116 = true then (some (1, 0, ofL w, 0, (w.length : Int))) else ((lex_Con.f k (ofL w)).bind fun t117 => (if t117 = true then (some (2, 0, ofL w, 0, (w.length : Int))) else (some (0, 0, ofL w, 0, 0)))))) (fun k => ?_) ?_
      · rw [if_neg (by rw [cl_letter, hlet]; simp), if_pos (by omega), if_pos (by omega), Int.toNat_natCast, ht, word_at]
        rfl
      · by_cases h1 : isWord w = true
        · exact Ev.congr (f := fun _ => some _) (fun k => by rw [if_pos h1]) (evIs (Ev.now _) (by rw [hT, if_pos h1]; rfl))
        · refine Ev.congr (fun k => by rw [if_neg h1]) (Ev.bind (name_ev w hsw) ?_)
          by_cases h2 : isName w = true
          · exact Ev.congr (f := fun _ => some _) (fun k => by rw [if_pos h2]) (evIs (Ev.now _) (by rw [hT, if_neg h1, if_pos h2]; rfl))
          · refine Ev.congr (fun k => by rw [if_neg h2]) (Ev.bind (con_ev w hsw) ?_)
            by_cases h3 : isCon w = true
            · exact Ev.congr (f := fun _ => some _) (fun k => by rw [if_pos h3]) (evIs (Ev.now _) (by rw [hT, if_neg h1, if_neg h2, if_pos h3]; rfl))
            · exact Ev.congr (f := fun _ => some _) (fun k => by rw [if_neg h3]) (evIs (Ev.now _) (by rw [hT, if_neg h1, if_neg h2, if_neg h3]; rfl))
    · have hlet' : (isLow c || isUp c) = false := by simpa using hlet
      refine Ev.congr (fun k => by rw [if_pos (by rw [cl_letter, hlet'])]) ?_
      refine Ev.bind (row_ev 4 isDig cl_dig _ hl) ?_
      by_cases hdg : isDig c = true
      · generalize hwe : (c :: r).takeWhile isDig = w at hw
        have ht : (c :: r).take w.length = w := by rw [← hwe]; exact take_take _ _
        have hsw : Sh w := by unfold Sh at hl ⊢; omega
        have hwn : w ≠ [] := by rw [← hwe, List.takeWhile_cons_of_pos hdg]; simp
        have hwa : w.all isDig = true := by rw [← hwe]; exact List.all_takeWhile
        have hT : tokL (c :: r) = match numL w with | some n => (⟨3, 0, [], n⟩, w.length) | none => (⟨0, 0, [], 0⟩, 0) := by
          simp only [tokL]; rw [if_neg hlet, if_pos hdg, hwe]
          cases numL w <;> rfl
        have hwp : 0 < w.length := List.length_pos_iff.2 hwn
        refine Ev.congr (f := fun k => (lex_number.f k (ofL w)).bind fun bt119 => (if bt119.2 = true then (some (3, 0, (⟨#[]⟩ : ByteArray), bt119.1, (w.length : Int))) else (some (0, 0, (⟨#[]⟩ : ByteArray), 0, 0)))) (fun k => ?_) ?_
        · rw [if_pos (by omega), if_pos (by omega), if_pos (by omega), Int.toNat_natCast, ht]
        · refine Ev.bind (number_ev w hsw hwn hwa) ?_
          rcases numT_numL w with ⟨v, e1, e2⟩ | ⟨e1, v, e2⟩
          · exact Ev.congr (f := fun _ => some _) (fun k => by rw [e2, if_pos rfl]) (evIs (Ev.now _) (by rw [hT, e1]; rfl))
          · exact Ev.congr (f := fun _ => some _) (fun k => by rw [e2, if_neg (by simp)]) (evIs (Ev.now _) (by rw [hT, e1]; rfl))
      · have hdg' : isDig c = false := by simpa using hdg
        refine Ev.congr (f := fun k => lex_token.l0 k (ofL (c :: r)) (signs.map ofL) (signs.length : Int) ((0 : Nat) : Int)) (fun k => ?_) ?_
        · rw [List.takeWhile_cons_of_neg (by simp [hdg']), if_neg (by simp), List.length_map]
          rfl
        · exact evIs (sign_l (c :: r) signs (by decide) 10 0 (by decide) (by decide)) (by rw [List.drop_zero, sign_tok c r hlet' hdg'])
/-! ### Lex -/
def toS (t : Tk) : S38 := ⟨t.kind, (t.pos : Int), ofL t.s, t.n⟩
/-- What Lex hands back, of what the tokens are, behind those that there are already. -/
def out (acc : List S38) (x : Except Nat (List Tk)) : List S38 × Int × Int := match x with
  | .error e => ([], 3, (e : Int))
  | .ok ts => (acc ++ ts.map toS, 0, 0)
theorem Lex_l (l : List UInt8) (hl : l.length ≤ 65536) : ∀ (d i : Nat) (acc : List S38), l.length - i ≤ d → i ≤ l.length → acc.length ≤ i →
    Ev (fun k => lex_Lex.l0 k (ofL l) acc (i : Int)) (out acc (lexA i (l.drop i))) := by
  intro d
  induction d with
  | zero =>
    intro i acc hd hi ha
    have e : l.drop i = [] := List.drop_eq_nil_of_le (by omega)
    refine Ev.step (f := fun _ => some (acc, 0, 0)) (fun k => by simp only [lex_Lex.l0, ofL_size]; rw [if_neg (by omega)]) (evIs (Ev.now _) ?_)
    rw [e, lexA_nil]; simp [out]
  | succ d ih =>
    intro i acc hd hi ha
    by_cases hlt : i < l.length
    · have hne : l.drop i ≠ [] := by intro h; have := congrArg List.length h; simp at this; omega
      have hsh : Sh (l.drop i) := by simp [Sh]; omega
      have htl := tokL_le (l.drop i)
      rw [List.length_drop] at htl
      refine Ev.step (f := fun k => (lex_token.f k (ofL (l.drop i))).bind fun bt127 => (if bt127.2.2.2.2 = 0 then (some (([] : List (S38)), 3, (i : Int))) else (if acc.length < 3518437208883 then (if 0 ≤ (wrap64 ((i : Int) + bt127.2.2.2.2)) then (if (wrap64 ((i : Int) + bt127.2.2.2.2)) ≤ (l.length : Int) then ((lex_skipped.f k ((ofL l).extract ((wrap64 ((i : Int) + bt127.2.2.2.2)) : Int).toNat (ofL l).size)).bind fun t136 => (lex_Lex.l0 k (ofL l) (acc ++ [(⟨bt127.1, (i : Int), bt127.2.2.1, bt127.2.2.2.1⟩ : S38)]) (wrap64 ((wrap64 ((i : Int) + bt127.2.2.2.2)) + t136)))) else (none)) else (none)) else (none)))) (fun k => ?_) ?_
      · simp only [lex_Lex.l0]
        rw [if_pos (by rw [ofL_size]; omega), if_pos (by omega), if_pos (by rw [ofL_size]; omega), Int.toNat_natCast, extract_end, ofL_size]
      refine Ev.bind (token_ev _ hsh hne) ?_
      generalize htk : tokL (l.drop i) = t at htl
      by_cases h0 : t.2 = 0
      · have a1 : ((t.2 : Nat) : Int) = 0 := by omega
        exact Ev.congr (f := fun _ => some (([] : List S38), 3, (i : Int))) (fun k => by show (if ((t.2 : Nat) : Int) = 0 then _ else _) = _; rw [if_pos a1]) (evIs (Ev.now _) (by rw [lexA_err hne (by rw [htk]; exact h0)]; rfl))
      · have w : wrap64 ((i : Int) + (t.2 : Int)) = ((i + t.2 : Nat) : Int) := by rw [wrap_id (by omega) (by omega)]; omega
        have hdd : (l.drop i).drop t.2 = l.drop (i + t.2) := by rw [List.drop_drop]
        have a1 : ¬ ((t.2 : Nat) : Int) = 0 := by omega
        have a2 : acc.length < 3518437208883 := Nat.lt_of_le_of_lt ha (Nat.lt_of_le_of_lt hi (Nat.lt_of_le_of_lt hl (by decide)))
        have a3 : (0 : Int) ≤ ((i + t.2 : Nat) : Int) := Int.natCast_nonneg _
        have a4 : ((i + t.2 : Nat) : Int) ≤ (l.length : Int) := by omega
        have hsk := skipL_le false (l.drop (i + t.2))
        rw [List.length_drop] at hsk
        refine Ev.congr (f := fun k => (lex_skipped.f k (ofL (l.drop (i + t.2)))).bind fun t136 => (lex_Lex.l0 k (ofL l) (acc ++ [toS { t.1 with pos := i }]) (wrap64 (((i + t.2 : Nat) : Int) + t136)))) (fun k => ?_) ?_
        · simp only [tup, w]
          rw [if_neg (by exact a1), if_pos (by exact a2), if_pos (by exact a3), if_pos (by exact a4), Int.toNat_natCast, extract_end]
          rfl
        · clear w
          refine Ev.bind (skipped_ev _ (by simp [Sh]; omega)) ?_
          generalize hg : skipL false (l.drop (i + t.2)) = g at hsk
          have w2 : wrap64 (((i + t.2 : Nat) : Int) + (g : Int)) = ((i + t.2 + g : Nat) : Int) := by rw [wrap_id (by omega) (by omega)]; omega
          rw [w2]
          clear w2
          refine evIs (ih (i + t.2 + g) _ (by omega) (by omega) (by simp; omega)) ?_
          rw [lexA_cons (l := l.drop i) (by rw [htk]; exact h0), htk, hdd, hg, List.drop_drop]
          cases lexA (i + t.2 + g) (l.drop (i + t.2 + g)) with
          | error e => rfl
          | ok ts => simp [out]
    · have e : l.drop i = [] := List.drop_eq_nil_of_le (by omega)
      refine Ev.step (f := fun _ => some (acc, 0, 0)) (fun k => by simp only [lex_Lex.l0, ofL_size]; rw [if_neg (by omega)]) (evIs (Ev.now _) ?_)
      rw [e, lexA_nil]; simp [out]
theorem Lex_ev (l : List UInt8) (hl : l.length ≤ 65536) : Ev (fun k => lex_Lex.f k (ofL l)) (out [] (lexL l)) := by
  have hs := skipL_le false l
  refine Ev.congr (f := fun k => (lex_skipped.f k (ofL l)).bind fun t => lex_Lex.l0 k (ofL l) [] t) (fun k => by simp only [lex_Lex.f, ofL_size]; rw [if_neg (by omega)]) ?_
  exact Ev.bind (skipped_ev l (by simp [Sh]; omega)) (Lex_l l hl l.length _ [] (by omega) hs (by simp))
theorem Num_at (n : Int) : warplaw1_Num.f n = some n := rfl
end Go.Proofs.Ythpnplcagfpngaa.Lx
