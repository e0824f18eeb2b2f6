/- LexMade: the tokens of texts by numbers are the document's. For all inputs. -/
import Derived.Test.YthpnplcagfpngaaQ16
import Derived.Test.YthpnplcagfpngaaR2
import Derived.Test.YthpnplcagfpngaaS6
namespace Go.Proofs.Ythpnplcagfpngaa.Pure
open Go.RowKit Go.Proofs.Ythpnplcagfpngaa.Q Go.Proofs.YthpnplcagfpngaaW.PrintWords Go.Proofs.YthpnplcagfpngaaW.PrintLast
open Go.Proofs.Ythpnplcagfpngaa.Lx
set_option linter.unusedVariables false
set_option linter.unusedSimpArgs false
theorem out_len (l : List UInt8) (hl : l.length ≤ 65536) : (out [] (lexL l)).1.length ≤ 65536 := by
  cases h : lexL l with
  | error e => simp [out]
  | ok ts => have := lexL_len l ts h; simp [out]; omega
theorem LexMade : warplaw9_LexMade.Pure := by
  intro l0 _ _ hw
  refine Ev.rounds (g := fun k => warplaw9_LexMade.f k l0) ?_
  obtain ⟨s, hs, _, hS⟩ := Words_ev l0 hw
  have ho := out_len s (by omega)
  refine Ev.congr (f := fun k => (warplaw9_Words.f k l0).bind fun t223 => ((lex_Lex.f k t223).bind fun bt224 => ((warpref9_Lex.f k t223).bind fun bt229 => ((warplaw9_Same.f k bt224.1 bt229.1).bind fun t235 => (if t235 = true then (if bt224.2.1 = bt229.2.1 then (if bt224.2.2 = bt229.2.2 then ((warplaw9_awake.f k).bind fun t237 => (some t237)) else (some false)) else (some false)) else (some false)))))) (fun k => by simp only [warplaw9_LexMade.f, Num_at, Option.bind_some]) ?_
  refine Ev.bind hS (Ev.bind (Lex_ev s (by omega)) (Ev.bind (rLex_ev s (by omega)) (Ev.bind (Same_ev _ ho) ?_)))
  exact Ev.congr (fun k => by rw [if_pos rfl, if_pos rfl, if_pos rfl]) awake_last
end Go.Proofs.Ythpnplcagfpngaa.Pure
