/- LexAll: any text's tokens, or where there is none, and whether it is a name, are the document's. For all inputs. -/
import Derived.Test.YthpnplcagfpngaaQ14
import Derived.Test.YthpnplcagfpngaaR2
namespace Go.Proofs.Ythpnplcagfpngaa.Pure
open Go.RowKit Go.Proofs.Ythpnplcagfpngaa.Q Go.Proofs.YthpnplcagfpngaaW.PrintWords Go.Proofs.YthpnplcagfpngaaW.PrintLast
open Go.Proofs.Ythpnplcagfpngaa.Lx
set_option linter.unusedVariables false
set_option linter.unusedSimpArgs false
theorem out_len (l : List UInt8) (hl : l.length ≤ 65536) : (out [] (lexL l)).1.length ≤ 65536 := by
  cases h : lexL l with
  | error e => simp [out]
  | ok ts => have := lexL_len l ts h; simp [out]; omega
theorem all_text (l : List UInt8) : Ev (fun k => warplaw9_LexAll.f k (ofL l)) true := by
  by_cases h : ((ofL l).size : Int) > 3000
  · exact Ev.congr (fun k => by simp only [warplaw9_LexAll.f]; rw [if_pos h]) awake_last
  · have hl : l.length ≤ 3000 := by rw [ofL_size] at h; omega
    have hsh : Sh l := by unfold Sh; omega
    have ho := out_len l (by omega)
    refine Ev.congr (f := fun k => (lex_Lex.f k (ofL l)).bind fun bt200 => ((warpref9_Lex.f k (ofL l)).bind fun bt205 => ((warplaw9_Same.f k bt200.1 bt205.1).bind fun t211 => (if t211 = true then (if bt200.2.1 = bt205.2.1 then (if bt200.2.2 = bt205.2.2 then ((lex_Name.f k (ofL l)).bind fun t213 => ((warpref9_Name.f k (ofL l)).bind fun t214 => (if (t213 == t214) = true then ((lex_Con.f k (ofL l)).bind fun t215 => ((warpref9_Con.f k (ofL l)).bind fun t216 => (if (t215 == t216) = true then ((warplaw9_awake.f k).bind fun t217 => (some t217)) else (some false)))) else (some false)))) else (some false)) else (some false)) else (some false))))) (fun k => by simp only [warplaw9_LexAll.f, Num_at, Option.bind_some]; rw [if_neg h]) ?_
    refine Ev.bind (Lex_ev l (by omega)) (Ev.bind (rLex_ev l (by omega)) (Ev.bind (Same_ev _ ho) ?_))
    refine Ev.congr (fun k => by rw [if_pos rfl, if_pos rfl, if_pos rfl]) ?_
    refine Ev.bind (name_ev l hsh) (Ev.bind (rname_ev l hsh) ?_)
    refine Ev.congr (fun k => by rw [if_pos (by simp)]) ?_
    refine Ev.bind (con_ev l hsh) (Ev.bind (rcon_ev l hsh) ?_)
    exact Ev.congr (fun k => by rw [if_pos (by simp)]) awake_last
theorem LexAll : warplaw9_LexAll.Pure := by
  intro a0 h
  have := all_text a0.data.toList
  rw [of_data] at this
  exact Ev.rounds this
end Go.Proofs.Ythpnplcagfpngaa.Pure
