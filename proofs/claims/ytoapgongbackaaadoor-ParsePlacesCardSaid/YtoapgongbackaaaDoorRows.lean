/-
  NARROWER THAN 'FOR EVERY INPUT', by the rows' own cells (each row's printed sentence says how): ParseAll: laid · ParseMade: laid · ParseBrackets: laid · ParseSugar: laid · ParsePlaces: laid · ParseDeep: laid · ParseTypes: laid · ParseJoins: laid.
  DERIVED. THE GIVEN ROWS OF THIS SEAT. 8 by the template 'for every input the law returns true; each argument reads behind the call as it read before'; 0 by the template 'total and deterministic' (their statements: YtoapgongbackaaaDoorTotals.lean).
  GIVEN WITH THE SEED: the statements are not yours to turn. If you find one false, say at which input.
  Laid BY PROGRAM, IN A SANDBOX (cutbox-rows.mjs): the forced cells as the released guide's own fill.sh prints them over the translation c7eefe6dd0394be3… (all of the seat's roots in one cut). By AI agents, Wed Nov 11 2026. No macro, syntax, notation, axiom, sorry.
-/
import Derived.Test.YtoapgongbackaaaDoorChecked
import GoSem.Claim
import GoSem.ClaimJoined
import GoSem.ClaimMapViews
import Derived.JoinedTies
import Derived.KernelRfl
namespace Go.Proofs.YtoapgongbackaaaDoor
/- THE CELL 'sum', in the pinned program and in every row, IS THE sha256 OF THE DUMP (.gsa) THAT YtoapgongbackaaaDoorProg.lean LOADS. Nothing in Lean hashes anything: it is a label: what it is worth is what the hold of that sum in a sandbox is worth. -/
noncomputable def Tryd.pinned : Pinned := { name := "ytoapgongbackaaadoor", sum := "c7eefe6dd0394be3220e5dc62ee5753e6f09a257e1fc7e63554a501c2e39d00b", checked := Tryd.checked }
namespace Rows
def none {H : Type} : Left H := { results := [], args := [] }

/- WHAT THE LISTED PACKAGE-LEVEL VARIABLES READ AS WHEN THE CALL BEGINS. Each datum BY PROGRAM (the guide's laid-datum.mjs) off the statement by which the dump's own 'gosem.cut.vars' lays the variable. In a bare row this is a premise. The card (YtoapgongbackaaaDoorCards.lean) ties it to the program's text. -/
def laid_warp_parse_name {H : Type} : DataW H := .agg [.lit (.int .i64 1), .lit (.string [])]
def laid_warp_parse_con {H : Type} : DataW H := .agg [.lit (.int .i64 2), .lit (.string [])]

/-- 'warplaw10.ParseAll': WHATEVER THE INPUT: true; the input reads as it did. -/
def parseAllSpec : ChangeSpec := { name := "parseAll", fn := fun _ => fun
  | [d] => { results := [.lit (.bool true)], args := [d] }
  | _ => none }
def parseAllRow : OpenClaim := { program := "ytoapgongbackaaadoor", sum := "c7eefe6dd0394be3220e5dc62ee5753e6f09a257e1fc7e63554a501c2e39d00b", func := "warp/warplaw10.ParseAll", spec := "parseAll", inPlace := ["internal/bytealg.IndexByteString"], unfollowed := true, recurses := true, named := ["warp/parse.name", "warp/parse.con"], apart := false, laid := [("warp/parse.name", laid_warp_parse_name), ("warp/parse.con", laid_warp_parse_con)] }
def ParseAllSaid : Prop := parseAllRow.holds Tryd.pinned (OpenSpec.ofChange parseAllSpec)

/-- ITS FALSE NEIGHBOUR: 'it returns false'. Refute it at one input. -/
def parseAllWrong : ChangeSpec := { name := "parseAll", fn := fun _ => fun
  | [d] => { results := [.lit (.bool false)], args := [d] }
  | _ => none }
def ParseAllWrongFalsely : Prop := parseAllRow.holds Tryd.pinned (OpenSpec.ofChange parseAllWrong)

/-- 'warplaw10.ParseMade': WHATEVER THE INPUT: true; the input reads as it did. -/
def parseMadeSpec : ChangeSpec := { name := "parseMade", fn := fun _ => fun
  | [d1, d2, d3] => { results := [.lit (.bool true)], args := [d1, d2, d3] }
  | _ => none }
def parseMadeRow : OpenClaim := { program := "ytoapgongbackaaadoor", sum := "c7eefe6dd0394be3220e5dc62ee5753e6f09a257e1fc7e63554a501c2e39d00b", func := "warp/warplaw10.ParseMade", spec := "parseMade", inPlace := ["internal/bytealg.IndexByteString"], unfollowed := true, recurses := true, named := ["warp/parse.name", "warp/parse.con"], apart := false, laid := [("warp/parse.name", laid_warp_parse_name), ("warp/parse.con", laid_warp_parse_con)] }
def ParseMadeSaid : Prop := parseMadeRow.holds Tryd.pinned (OpenSpec.ofChange parseMadeSpec)

/-- ITS FALSE NEIGHBOUR: 'it returns false'. Refute it at one input. -/
def parseMadeWrong : ChangeSpec := { name := "parseMade", fn := fun _ => fun
  | [d1, d2, d3] => { results := [.lit (.bool false)], args := [d1, d2, d3] }
  | _ => none }
def ParseMadeWrongFalsely : Prop := parseMadeRow.holds Tryd.pinned (OpenSpec.ofChange parseMadeWrong)

/-- 'warplaw10.ParseBrackets': WHATEVER THE INPUT: true; the input reads as it did. -/
def parseBracketsSpec : ChangeSpec := { name := "parseBrackets", fn := fun _ => fun
  | [d1, d2] => { results := [.lit (.bool true)], args := [d1, d2] }
  | _ => none }
def parseBracketsRow : OpenClaim := { program := "ytoapgongbackaaadoor", sum := "c7eefe6dd0394be3220e5dc62ee5753e6f09a257e1fc7e63554a501c2e39d00b", func := "warp/warplaw10.ParseBrackets", spec := "parseBrackets", inPlace := ["internal/bytealg.IndexByteString"], unfollowed := true, recurses := true, named := ["warp/parse.name", "warp/parse.con"], apart := false, laid := [("warp/parse.name", laid_warp_parse_name), ("warp/parse.con", laid_warp_parse_con)] }
def ParseBracketsSaid : Prop := parseBracketsRow.holds Tryd.pinned (OpenSpec.ofChange parseBracketsSpec)

/-- ITS FALSE NEIGHBOUR: 'it returns false'. Refute it at one input. -/
def parseBracketsWrong : ChangeSpec := { name := "parseBrackets", fn := fun _ => fun
  | [d1, d2] => { results := [.lit (.bool false)], args := [d1, d2] }
  | _ => none }
def ParseBracketsWrongFalsely : Prop := parseBracketsRow.holds Tryd.pinned (OpenSpec.ofChange parseBracketsWrong)

/-- 'warplaw10.ParseSugar': WHATEVER THE INPUT: true; the input reads as it did. -/
def parseSugarSpec : ChangeSpec := { name := "parseSugar", fn := fun _ => fun
  | [d1, d2] => { results := [.lit (.bool true)], args := [d1, d2] }
  | _ => none }
def parseSugarRow : OpenClaim := { program := "ytoapgongbackaaadoor", sum := "c7eefe6dd0394be3220e5dc62ee5753e6f09a257e1fc7e63554a501c2e39d00b", func := "warp/warplaw10.ParseSugar", spec := "parseSugar", inPlace := ["internal/bytealg.IndexByteString"], unfollowed := true, recurses := true, named := ["warp/parse.name", "warp/parse.con"], apart := false, laid := [("warp/parse.name", laid_warp_parse_name), ("warp/parse.con", laid_warp_parse_con)] }
def ParseSugarSaid : Prop := parseSugarRow.holds Tryd.pinned (OpenSpec.ofChange parseSugarSpec)

/-- ITS FALSE NEIGHBOUR: 'it returns false'. Refute it at one input. -/
def parseSugarWrong : ChangeSpec := { name := "parseSugar", fn := fun _ => fun
  | [d1, d2] => { results := [.lit (.bool false)], args := [d1, d2] }
  | _ => none }
def ParseSugarWrongFalsely : Prop := parseSugarRow.holds Tryd.pinned (OpenSpec.ofChange parseSugarWrong)

/-- 'warplaw10.ParsePlaces': WHATEVER THE INPUT: true; the input reads as it did. -/
def parsePlacesSpec : ChangeSpec := { name := "parsePlaces", fn := fun _ => fun
  | [d1, d2] => { results := [.lit (.bool true)], args := [d1, d2] }
  | _ => none }
def parsePlacesRow : OpenClaim := { program := "ytoapgongbackaaadoor", sum := "c7eefe6dd0394be3220e5dc62ee5753e6f09a257e1fc7e63554a501c2e39d00b", func := "warp/warplaw10.ParsePlaces", spec := "parsePlaces", inPlace := ["internal/bytealg.IndexByteString"], unfollowed := true, recurses := true, named := ["warp/parse.name", "warp/parse.con"], apart := false, laid := [("warp/parse.name", laid_warp_parse_name), ("warp/parse.con", laid_warp_parse_con)] }
def ParsePlacesSaid : Prop := parsePlacesRow.holds Tryd.pinned (OpenSpec.ofChange parsePlacesSpec)

/-- ITS FALSE NEIGHBOUR: 'it returns false'. Refute it at one input. -/
def parsePlacesWrong : ChangeSpec := { name := "parsePlaces", fn := fun _ => fun
  | [d1, d2] => { results := [.lit (.bool false)], args := [d1, d2] }
  | _ => none }
def ParsePlacesWrongFalsely : Prop := parsePlacesRow.holds Tryd.pinned (OpenSpec.ofChange parsePlacesWrong)

/-- 'warplaw10.ParseDeep': WHATEVER THE INPUT: true; the input reads as it did. -/
def parseDeepSpec : ChangeSpec := { name := "parseDeep", fn := fun _ => fun
  | [d1, d2] => { results := [.lit (.bool true)], args := [d1, d2] }
  | _ => none }
def parseDeepRow : OpenClaim := { program := "ytoapgongbackaaadoor", sum := "c7eefe6dd0394be3220e5dc62ee5753e6f09a257e1fc7e63554a501c2e39d00b", func := "warp/warplaw10.ParseDeep", spec := "parseDeep", inPlace := ["internal/bytealg.IndexByteString"], unfollowed := true, recurses := true, named := ["warp/parse.name", "warp/parse.con"], apart := false, laid := [("warp/parse.name", laid_warp_parse_name), ("warp/parse.con", laid_warp_parse_con)] }
def ParseDeepSaid : Prop := parseDeepRow.holds Tryd.pinned (OpenSpec.ofChange parseDeepSpec)

/-- ITS FALSE NEIGHBOUR: 'it returns false'. Refute it at one input. -/
def parseDeepWrong : ChangeSpec := { name := "parseDeep", fn := fun _ => fun
  | [d1, d2] => { results := [.lit (.bool false)], args := [d1, d2] }
  | _ => none }
def ParseDeepWrongFalsely : Prop := parseDeepRow.holds Tryd.pinned (OpenSpec.ofChange parseDeepWrong)

/-- 'warplaw10.ParseTypes': WHATEVER THE INPUT: true; the input reads as it did. -/
def parseTypesSpec : ChangeSpec := { name := "parseTypes", fn := fun _ => fun
  | [d] => { results := [.lit (.bool true)], args := [d] }
  | _ => none }
def parseTypesRow : OpenClaim := { program := "ytoapgongbackaaadoor", sum := "c7eefe6dd0394be3220e5dc62ee5753e6f09a257e1fc7e63554a501c2e39d00b", func := "warp/warplaw10.ParseTypes", spec := "parseTypes", inPlace := ["internal/bytealg.IndexByteString"], unfollowed := true, recurses := true, named := ["warp/parse.name", "warp/parse.con"], apart := false, laid := [("warp/parse.name", laid_warp_parse_name), ("warp/parse.con", laid_warp_parse_con)] }
def ParseTypesSaid : Prop := parseTypesRow.holds Tryd.pinned (OpenSpec.ofChange parseTypesSpec)

/-- ITS FALSE NEIGHBOUR: 'it returns false'. Refute it at one input. -/
def parseTypesWrong : ChangeSpec := { name := "parseTypes", fn := fun _ => fun
  | [d] => { results := [.lit (.bool false)], args := [d] }
  | _ => none }
def ParseTypesWrongFalsely : Prop := parseTypesRow.holds Tryd.pinned (OpenSpec.ofChange parseTypesWrong)

/-- 'warplaw10.ParseJoins': WHATEVER THE INPUT: true; the input reads as it did. -/
def parseJoinsSpec : ChangeSpec := { name := "parseJoins", fn := fun _ => fun
  | [d1, d2] => { results := [.lit (.bool true)], args := [d1, d2] }
  | _ => none }
def parseJoinsRow : OpenClaim := { program := "ytoapgongbackaaadoor", sum := "c7eefe6dd0394be3220e5dc62ee5753e6f09a257e1fc7e63554a501c2e39d00b", func := "warp/warplaw10.ParseJoins", spec := "parseJoins", inPlace := ["internal/bytealg.IndexByteString"], unfollowed := true, recurses := true, named := ["warp/parse.name", "warp/parse.con"], apart := false, laid := [("warp/parse.name", laid_warp_parse_name), ("warp/parse.con", laid_warp_parse_con)] }
def ParseJoinsSaid : Prop := parseJoinsRow.holds Tryd.pinned (OpenSpec.ofChange parseJoinsSpec)

/-- ITS FALSE NEIGHBOUR: 'it returns false'. Refute it at one input. -/
def parseJoinsWrong : ChangeSpec := { name := "parseJoins", fn := fun _ => fun
  | [d1, d2] => { results := [.lit (.bool false)], args := [d1, d2] }
  | _ => none }
def ParseJoinsWrongFalsely : Prop := parseJoinsRow.holds Tryd.pinned (OpenSpec.ofChange parseJoinsWrong)

/- THE SECOND FORM. 'bulk': how many values and letters a reading holds, each counted each time it is reached (what is shared counts as often as it is met; a slice's spare places count too). A statement '..UptoSaid' is the law's where the arguments, and the package variables that the reading takes, are together of bulk at most 1048576: NARROWER than '..Said'. Prove '..Said' where nothing that the law and all that it calls make is longer than what came in: it says more and counts as full. Else prove '..UptoSaid'. A law counts once. -/
mutual
def uptoBulk {H : Type} : DataW H → Nat
  | .lit (.string bytes) => bytes.length + 1
  | .lit _ => 1
  | .nil => 1
  | .ptr d => uptoBulk d + 1
  | .slice elems spare => uptoBulkAll elems + uptoBulkAll spare + 1
  | .agg parts => uptoBulkAll parts + 1
  | .iface _ d => uptoBulk d + 1
  | .map entries => uptoBulkEntries entries + 1
  | .held _ => 1
def uptoBulkAll {H : Type} : List (DataW H) → Nat
  | [] => 0
  | d :: r => uptoBulk d + uptoBulkAll r
def uptoBulkEntries {H : Type} : List (Lit × DataW H) → Nat
  | [] => 0
  | x :: r => uptoBulkEntry x + uptoBulkEntries r
def uptoBulkEntry {H : Type} : Lit × DataW H → Nat
  | (.string bytes, d) => bytes.length + uptoBulk d + 1
  | (_, d) => uptoBulk d + 1
 end
def uptoSmall : (H : Type) → List (DataW H) → Bool := fun _ ds => decide (uptoBulkAll ds ≤ 1048576)
def OpenSpec.upto (s : _root_.Go.ChangeSpec) : _root_.Go.OpenSpec := { _root_.Go.OpenSpec.ofChange s with cond := some uptoSmall }

/-- 'warplaw10.ParseAll', WHERE WHAT IT READS IS OF BULK AT MOST 1048576: true; the input reads as it did. -/
def parseAllUptoRow : OpenClaim := { program := "ytoapgongbackaaadoor", sum := "c7eefe6dd0394be3220e5dc62ee5753e6f09a257e1fc7e63554a501c2e39d00b", func := "warp/warplaw10.ParseAll", spec := "parseAll", inPlace := ["internal/bytealg.IndexByteString"], unfollowed := true, recurses := true, named := ["warp/parse.name", "warp/parse.con"], apart := false, laid := [("warp/parse.name", laid_warp_parse_name), ("warp/parse.con", laid_warp_parse_con)], narrowed := true }
def ParseAllUptoSaid : Prop := parseAllUptoRow.holds Tryd.pinned (OpenSpec.upto parseAllSpec)

/-- 'warplaw10.ParseMade', WHERE WHAT IT READS IS OF BULK AT MOST 1048576: true; the input reads as it did. -/
def parseMadeUptoRow : OpenClaim := { program := "ytoapgongbackaaadoor", sum := "c7eefe6dd0394be3220e5dc62ee5753e6f09a257e1fc7e63554a501c2e39d00b", func := "warp/warplaw10.ParseMade", spec := "parseMade", inPlace := ["internal/bytealg.IndexByteString"], unfollowed := true, recurses := true, named := ["warp/parse.name", "warp/parse.con"], apart := false, laid := [("warp/parse.name", laid_warp_parse_name), ("warp/parse.con", laid_warp_parse_con)], narrowed := true }
def ParseMadeUptoSaid : Prop := parseMadeUptoRow.holds Tryd.pinned (OpenSpec.upto parseMadeSpec)

/-- 'warplaw10.ParseBrackets', WHERE WHAT IT READS IS OF BULK AT MOST 1048576: true; the input reads as it did. -/
def parseBracketsUptoRow : OpenClaim := { program := "ytoapgongbackaaadoor", sum := "c7eefe6dd0394be3220e5dc62ee5753e6f09a257e1fc7e63554a501c2e39d00b", func := "warp/warplaw10.ParseBrackets", spec := "parseBrackets", inPlace := ["internal/bytealg.IndexByteString"], unfollowed := true, recurses := true, named := ["warp/parse.name", "warp/parse.con"], apart := false, laid := [("warp/parse.name", laid_warp_parse_name), ("warp/parse.con", laid_warp_parse_con)], narrowed := true }
def ParseBracketsUptoSaid : Prop := parseBracketsUptoRow.holds Tryd.pinned (OpenSpec.upto parseBracketsSpec)

/-- 'warplaw10.ParseSugar', WHERE WHAT IT READS IS OF BULK AT MOST 1048576: true; the input reads as it did. -/
def parseSugarUptoRow : OpenClaim := { program := "ytoapgongbackaaadoor", sum := "c7eefe6dd0394be3220e5dc62ee5753e6f09a257e1fc7e63554a501c2e39d00b", func := "warp/warplaw10.ParseSugar", spec := "parseSugar", inPlace := ["internal/bytealg.IndexByteString"], unfollowed := true, recurses := true, named := ["warp/parse.name", "warp/parse.con"], apart := false, laid := [("warp/parse.name", laid_warp_parse_name), ("warp/parse.con", laid_warp_parse_con)], narrowed := true }
def ParseSugarUptoSaid : Prop := parseSugarUptoRow.holds Tryd.pinned (OpenSpec.upto parseSugarSpec)

/-- 'warplaw10.ParsePlaces', WHERE WHAT IT READS IS OF BULK AT MOST 1048576: true; the input reads as it did. -/
def parsePlacesUptoRow : OpenClaim := { program := "ytoapgongbackaaadoor", sum := "c7eefe6dd0394be3220e5dc62ee5753e6f09a257e1fc7e63554a501c2e39d00b", func := "warp/warplaw10.ParsePlaces", spec := "parsePlaces", inPlace := ["internal/bytealg.IndexByteString"], unfollowed := true, recurses := true, named := ["warp/parse.name", "warp/parse.con"], apart := false, laid := [("warp/parse.name", laid_warp_parse_name), ("warp/parse.con", laid_warp_parse_con)], narrowed := true }
def ParsePlacesUptoSaid : Prop := parsePlacesUptoRow.holds Tryd.pinned (OpenSpec.upto parsePlacesSpec)

/-- 'warplaw10.ParseDeep', WHERE WHAT IT READS IS OF BULK AT MOST 1048576: true; the input reads as it did. -/
def parseDeepUptoRow : OpenClaim := { program := "ytoapgongbackaaadoor", sum := "c7eefe6dd0394be3220e5dc62ee5753e6f09a257e1fc7e63554a501c2e39d00b", func := "warp/warplaw10.ParseDeep", spec := "parseDeep", inPlace := ["internal/bytealg.IndexByteString"], unfollowed := true, recurses := true, named := ["warp/parse.name", "warp/parse.con"], apart := false, laid := [("warp/parse.name", laid_warp_parse_name), ("warp/parse.con", laid_warp_parse_con)], narrowed := true }
def ParseDeepUptoSaid : Prop := parseDeepUptoRow.holds Tryd.pinned (OpenSpec.upto parseDeepSpec)

/-- 'warplaw10.ParseTypes', WHERE WHAT IT READS IS OF BULK AT MOST 1048576: true; the input reads as it did. -/
def parseTypesUptoRow : OpenClaim := { program := "ytoapgongbackaaadoor", sum := "c7eefe6dd0394be3220e5dc62ee5753e6f09a257e1fc7e63554a501c2e39d00b", func := "warp/warplaw10.ParseTypes", spec := "parseTypes", inPlace := ["internal/bytealg.IndexByteString"], unfollowed := true, recurses := true, named := ["warp/parse.name", "warp/parse.con"], apart := false, laid := [("warp/parse.name", laid_warp_parse_name), ("warp/parse.con", laid_warp_parse_con)], narrowed := true }
def ParseTypesUptoSaid : Prop := parseTypesUptoRow.holds Tryd.pinned (OpenSpec.upto parseTypesSpec)

/-- 'warplaw10.ParseJoins', WHERE WHAT IT READS IS OF BULK AT MOST 1048576: true; the input reads as it did. -/
def parseJoinsUptoRow : OpenClaim := { program := "ytoapgongbackaaadoor", sum := "c7eefe6dd0394be3220e5dc62ee5753e6f09a257e1fc7e63554a501c2e39d00b", func := "warp/warplaw10.ParseJoins", spec := "parseJoins", inPlace := ["internal/bytealg.IndexByteString"], unfollowed := true, recurses := true, named := ["warp/parse.name", "warp/parse.con"], apart := false, laid := [("warp/parse.name", laid_warp_parse_name), ("warp/parse.con", laid_warp_parse_con)], narrowed := true }
def ParseJoinsUptoSaid : Prop := parseJoinsUptoRow.holds Tryd.pinned (OpenSpec.upto parseJoinsSpec)

end Rows
end Go.Proofs.YtoapgongbackaaaDoor
