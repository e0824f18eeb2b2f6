/-
  DERIVED. GIVEN WITH THE SEED: THE CARDS: each row of YtgkenhpfiempbaaGreatDoorRows.lean that lists a variable, with what it lists TIED to the program's text (the seventh form; the later family's looks); each row that meets fmt, with fmt's text TOLD by the authors' own Lean function (tested against real Go, not proved from fmt's source: count such statements apart). THE CARD IS WHAT COUNTS. Prove the row's statement (the work); the ties are given (YtgkenhpfiempbaaGreatDoorTie.lean); close each card by the builder's one call (the guide's Derived/Test/ToyasCard.lean, 'card_holds'). Laid BY PROGRAM, IN A SANDBOX (cutbox-door.mjs). By AI agents, Wed Nov 11 2026. No macro, syntax, notation, axiom, sorry.
-/
import Derived.Test.YtgkenhpfiempbaaGreatDoorRows
import GoSem.ClaimSeven
namespace Go.Proofs.YtgkenhpfiempbaaGreatDoor
namespace Rows

/-- THE TIED CARD OF 'warptop.TopEnds'. -/
def topEndsCard : Claim7 := { stood := { row := topEndsRow, standIns := [], harness := (true, "386731e5544eb91a166090be21d65103ccfc71637b99c461001c009bb0fb004e"), looks := false }, kinds := [], alts := [], laidByText := true, laidKinds := [.data, .data, .data, .data, .data], laidTests := true, laidLooks := .later }
def TopEndsCardSaid : Prop := Claim7.holds Tryz.pinned (.plain (OpenSpec.ofChange topEndsSpec)) topEndsCard

/-- THE TIED CARD OF 'warptop.TopKnown'. -/
def topKnownCard : Claim7 := { stood := { row := topKnownRow, standIns := [], harness := (true, "386731e5544eb91a166090be21d65103ccfc71637b99c461001c009bb0fb004e"), looks := false }, kinds := [], alts := [], laidByText := true, laidKinds := [.data, .data, .data, .data, .data], laidTests := true, laidLooks := .later }
def TopKnownCardSaid : Prop := Claim7.holds Tryz.pinned (.plain (OpenSpec.ofChange topKnownSpec)) topKnownCard

/-- THE TIED CARD OF 'warptop.TopMore'. -/
def topMoreCard : Claim7 := { stood := { row := topMoreRow, standIns := [], harness := (true, "386731e5544eb91a166090be21d65103ccfc71637b99c461001c009bb0fb004e"), looks := false }, kinds := [], alts := [], laidByText := true, laidKinds := [.data, .data, .data, .data, .data], laidTests := true, laidLooks := .later }
def TopMoreCardSaid : Prop := Claim7.holds Tryz.pinned (.plain (OpenSpec.ofChange topMoreSpec)) topMoreCard

/-- THE SECOND FORM's CARD OF 'warptop.TopEnds'. -/
def topEndsUptoCard : Claim7 := { stood := { row := topEndsUptoRow, standIns := [], harness := (true, "386731e5544eb91a166090be21d65103ccfc71637b99c461001c009bb0fb004e"), looks := false }, kinds := [], alts := [], laidByText := true, laidKinds := [.data, .data, .data, .data, .data], laidTests := true, laidLooks := .later }
def TopEndsUptoCardSaid : Prop := Claim7.holds Tryz.pinned (.plain (OpenSpec.upto topEndsSpec)) topEndsUptoCard

/-- THE SECOND FORM's CARD OF 'warptop.TopKnown'. -/
def topKnownUptoCard : Claim7 := { stood := { row := topKnownUptoRow, standIns := [], harness := (true, "386731e5544eb91a166090be21d65103ccfc71637b99c461001c009bb0fb004e"), looks := false }, kinds := [], alts := [], laidByText := true, laidKinds := [.data, .data, .data, .data, .data], laidTests := true, laidLooks := .later }
def TopKnownUptoCardSaid : Prop := Claim7.holds Tryz.pinned (.plain (OpenSpec.upto topKnownSpec)) topKnownUptoCard

/-- THE SECOND FORM's CARD OF 'warptop.TopMore'. -/
def topMoreUptoCard : Claim7 := { stood := { row := topMoreUptoRow, standIns := [], harness := (true, "386731e5544eb91a166090be21d65103ccfc71637b99c461001c009bb0fb004e"), looks := false }, kinds := [], alts := [], laidByText := true, laidKinds := [.data, .data, .data, .data, .data], laidTests := true, laidLooks := .later }
def TopMoreUptoCardSaid : Prop := Claim7.holds Tryz.pinned (.plain (OpenSpec.upto topMoreSpec)) topMoreUptoCard
end Rows
end Go.Proofs.YtgkenhpfiempbaaGreatDoor
