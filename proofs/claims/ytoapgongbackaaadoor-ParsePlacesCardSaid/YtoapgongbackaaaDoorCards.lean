/-
  DERIVED. GIVEN WITH THE SEED: THE CARDS: each row of YtoapgongbackaaaDoorRows.lean that lists a variable, with what it lists TIED to the program's text (the seventh form; the later family's looks); each row that meets fmt, with fmt's text TOLD by the authors' own Lean function (tested against real Go, not proved from fmt's source: count such statements apart). THE CARD IS WHAT COUNTS. Prove the row's statement (the work); the ties are given (YtoapgongbackaaaDoorTie.lean); close each card by the builder's one call (the guide's Derived/Test/ToyasCard.lean, 'card_holds'). Laid BY PROGRAM, IN A SANDBOX (cutbox-door.mjs). By AI agents, Wed Nov 11 2026. No macro, syntax, notation, axiom, sorry.
-/
import Derived.Test.YtoapgongbackaaaDoorRows
import GoSem.ClaimSeven
namespace Go.Proofs.YtoapgongbackaaaDoor
namespace Rows

/-- THE TIED CARD OF 'warplaw10.ParseAll'. -/
def parseAllCard : Claim7 := { stood := { row := parseAllRow, standIns := [], harness := (true, "fd1079d515897d9efa6f2646308e6782c47eeab83f27ca2422027889c300fbb1"), looks := false }, kinds := [], alts := [], laidByText := true, laidKinds := [.data, .data], laidTests := true, laidLooks := .later }
def ParseAllCardSaid : Prop := Claim7.holds Tryd.pinned (.plain (OpenSpec.ofChange parseAllSpec)) parseAllCard

/-- THE TIED CARD OF 'warplaw10.ParseMade'. -/
def parseMadeCard : Claim7 := { stood := { row := parseMadeRow, standIns := [], harness := (true, "fd1079d515897d9efa6f2646308e6782c47eeab83f27ca2422027889c300fbb1"), looks := false }, kinds := [], alts := [], laidByText := true, laidKinds := [.data, .data], laidTests := true, laidLooks := .later }
def ParseMadeCardSaid : Prop := Claim7.holds Tryd.pinned (.plain (OpenSpec.ofChange parseMadeSpec)) parseMadeCard

/-- THE TIED CARD OF 'warplaw10.ParseBrackets'. -/
def parseBracketsCard : Claim7 := { stood := { row := parseBracketsRow, standIns := [], harness := (true, "fd1079d515897d9efa6f2646308e6782c47eeab83f27ca2422027889c300fbb1"), looks := false }, kinds := [], alts := [], laidByText := true, laidKinds := [.data, .data], laidTests := true, laidLooks := .later }
def ParseBracketsCardSaid : Prop := Claim7.holds Tryd.pinned (.plain (OpenSpec.ofChange parseBracketsSpec)) parseBracketsCard

/-- THE TIED CARD OF 'warplaw10.ParseSugar'. -/
def parseSugarCard : Claim7 := { stood := { row := parseSugarRow, standIns := [], harness := (true, "fd1079d515897d9efa6f2646308e6782c47eeab83f27ca2422027889c300fbb1"), looks := false }, kinds := [], alts := [], laidByText := true, laidKinds := [.data, .data], laidTests := true, laidLooks := .later }
def ParseSugarCardSaid : Prop := Claim7.holds Tryd.pinned (.plain (OpenSpec.ofChange parseSugarSpec)) parseSugarCard

/-- THE TIED CARD OF 'warplaw10.ParsePlaces'. -/
def parsePlacesCard : Claim7 := { stood := { row := parsePlacesRow, standIns := [], harness := (true, "fd1079d515897d9efa6f2646308e6782c47eeab83f27ca2422027889c300fbb1"), looks := false }, kinds := [], alts := [], laidByText := true, laidKinds := [.data, .data], laidTests := true, laidLooks := .later }
def ParsePlacesCardSaid : Prop := Claim7.holds Tryd.pinned (.plain (OpenSpec.ofChange parsePlacesSpec)) parsePlacesCard

/-- THE TIED CARD OF 'warplaw10.ParseDeep'. -/
def parseDeepCard : Claim7 := { stood := { row := parseDeepRow, standIns := [], harness := (true, "fd1079d515897d9efa6f2646308e6782c47eeab83f27ca2422027889c300fbb1"), looks := false }, kinds := [], alts := [], laidByText := true, laidKinds := [.data, .data], laidTests := true, laidLooks := .later }
def ParseDeepCardSaid : Prop := Claim7.holds Tryd.pinned (.plain (OpenSpec.ofChange parseDeepSpec)) parseDeepCard

/-- THE TIED CARD OF 'warplaw10.ParseTypes'. -/
def parseTypesCard : Claim7 := { stood := { row := parseTypesRow, standIns := [], harness := (true, "fd1079d515897d9efa6f2646308e6782c47eeab83f27ca2422027889c300fbb1"), looks := false }, kinds := [], alts := [], laidByText := true, laidKinds := [.data, .data], laidTests := true, laidLooks := .later }
def ParseTypesCardSaid : Prop := Claim7.holds Tryd.pinned (.plain (OpenSpec.ofChange parseTypesSpec)) parseTypesCard

/-- THE TIED CARD OF 'warplaw10.ParseJoins'. -/
def parseJoinsCard : Claim7 := { stood := { row := parseJoinsRow, standIns := [], harness := (true, "fd1079d515897d9efa6f2646308e6782c47eeab83f27ca2422027889c300fbb1"), looks := false }, kinds := [], alts := [], laidByText := true, laidKinds := [.data, .data], laidTests := true, laidLooks := .later }
def ParseJoinsCardSaid : Prop := Claim7.holds Tryd.pinned (.plain (OpenSpec.ofChange parseJoinsSpec)) parseJoinsCard

/-- THE SECOND FORM's CARD OF 'warplaw10.ParseAll'. -/
def parseAllUptoCard : Claim7 := { stood := { row := parseAllUptoRow, standIns := [], harness := (true, "fd1079d515897d9efa6f2646308e6782c47eeab83f27ca2422027889c300fbb1"), looks := false }, kinds := [], alts := [], laidByText := true, laidKinds := [.data, .data], laidTests := true, laidLooks := .later }
def ParseAllUptoCardSaid : Prop := Claim7.holds Tryd.pinned (.plain (OpenSpec.upto parseAllSpec)) parseAllUptoCard

/-- THE SECOND FORM's CARD OF 'warplaw10.ParseMade'. -/
def parseMadeUptoCard : Claim7 := { stood := { row := parseMadeUptoRow, standIns := [], harness := (true, "fd1079d515897d9efa6f2646308e6782c47eeab83f27ca2422027889c300fbb1"), looks := false }, kinds := [], alts := [], laidByText := true, laidKinds := [.data, .data], laidTests := true, laidLooks := .later }
def ParseMadeUptoCardSaid : Prop := Claim7.holds Tryd.pinned (.plain (OpenSpec.upto parseMadeSpec)) parseMadeUptoCard

/-- THE SECOND FORM's CARD OF 'warplaw10.ParseBrackets'. -/
def parseBracketsUptoCard : Claim7 := { stood := { row := parseBracketsUptoRow, standIns := [], harness := (true, "fd1079d515897d9efa6f2646308e6782c47eeab83f27ca2422027889c300fbb1"), looks := false }, kinds := [], alts := [], laidByText := true, laidKinds := [.data, .data], laidTests := true, laidLooks := .later }
def ParseBracketsUptoCardSaid : Prop := Claim7.holds Tryd.pinned (.plain (OpenSpec.upto parseBracketsSpec)) parseBracketsUptoCard

/-- THE SECOND FORM's CARD OF 'warplaw10.ParseSugar'. -/
def parseSugarUptoCard : Claim7 := { stood := { row := parseSugarUptoRow, standIns := [], harness := (true, "fd1079d515897d9efa6f2646308e6782c47eeab83f27ca2422027889c300fbb1"), looks := false }, kinds := [], alts := [], laidByText := true, laidKinds := [.data, .data], laidTests := true, laidLooks := .later }
def ParseSugarUptoCardSaid : Prop := Claim7.holds Tryd.pinned (.plain (OpenSpec.upto parseSugarSpec)) parseSugarUptoCard

/-- THE SECOND FORM's CARD OF 'warplaw10.ParsePlaces'. -/
def parsePlacesUptoCard : Claim7 := { stood := { row := parsePlacesUptoRow, standIns := [], harness := (true, "fd1079d515897d9efa6f2646308e6782c47eeab83f27ca2422027889c300fbb1"), looks := false }, kinds := [], alts := [], laidByText := true, laidKinds := [.data, .data], laidTests := true, laidLooks := .later }
def ParsePlacesUptoCardSaid : Prop := Claim7.holds Tryd.pinned (.plain (OpenSpec.upto parsePlacesSpec)) parsePlacesUptoCard

/-- THE SECOND FORM's CARD OF 'warplaw10.ParseDeep'. -/
def parseDeepUptoCard : Claim7 := { stood := { row := parseDeepUptoRow, standIns := [], harness := (true, "fd1079d515897d9efa6f2646308e6782c47eeab83f27ca2422027889c300fbb1"), looks := false }, kinds := [], alts := [], laidByText := true, laidKinds := [.data, .data], laidTests := true, laidLooks := .later }
def ParseDeepUptoCardSaid : Prop := Claim7.holds Tryd.pinned (.plain (OpenSpec.upto parseDeepSpec)) parseDeepUptoCard

/-- THE SECOND FORM's CARD OF 'warplaw10.ParseTypes'. -/
def parseTypesUptoCard : Claim7 := { stood := { row := parseTypesUptoRow, standIns := [], harness := (true, "fd1079d515897d9efa6f2646308e6782c47eeab83f27ca2422027889c300fbb1"), looks := false }, kinds := [], alts := [], laidByText := true, laidKinds := [.data, .data], laidTests := true, laidLooks := .later }
def ParseTypesUptoCardSaid : Prop := Claim7.holds Tryd.pinned (.plain (OpenSpec.upto parseTypesSpec)) parseTypesUptoCard

/-- THE SECOND FORM's CARD OF 'warplaw10.ParseJoins'. -/
def parseJoinsUptoCard : Claim7 := { stood := { row := parseJoinsUptoRow, standIns := [], harness := (true, "fd1079d515897d9efa6f2646308e6782c47eeab83f27ca2422027889c300fbb1"), looks := false }, kinds := [], alts := [], laidByText := true, laidKinds := [.data, .data], laidTests := true, laidLooks := .later }
def ParseJoinsUptoCardSaid : Prop := Claim7.holds Tryd.pinned (.plain (OpenSpec.upto parseJoinsSpec)) parseJoinsUptoCard
end Rows
end Go.Proofs.YtoapgongbackaaaDoor
