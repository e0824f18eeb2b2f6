/-
  No cell of these rows narrows 'for every input' (looked for: loops, veiled, ifaces, maps, wideKeys, modest, calm, conditions, laid).
  DERIVED. THE GIVEN ROWS OF THIS SEAT. 6 by the template 'for every input the law returns true; each argument reads behind the call as it read before'; 0 by the template 'total and deterministic' (their statements: YthpnplcagfpngaaTotals.lean).
  GIVEN WITH THE SEED: the statements are not yours to turn. If you find one false, say at which input.
  Laid BY PROGRAM, IN A SANDBOX (cutbox-rows.mjs): the forced cells as the released guide's own fill.sh prints them over the translation 525f285ff30add0f… (all of the seat's roots in one cut). By AI agents, Wed Nov 11 2026. No macro, syntax, notation, axiom, sorry.
-/
import Derived.Test.YthpnplcagfpngaaChecked
import GoSem.Claim
import GoSem.ClaimJoined
import GoSem.ClaimMapViews
import Derived.JoinedTies
import Derived.KernelRfl
namespace Go.Proofs.Ythpnplcagfpngaa
/- THE CELL 'sum', in the pinned program and in every row, IS THE sha256 OF THE DUMP (.gsa) THAT YthpnplcagfpngaaProg.lean LOADS. Nothing in Lean hashes anything: it is a label: what it is worth is what the hold of that sum in a sandbox is worth. -/
noncomputable def Try.pinned : Pinned := { name := "ythpnplcagfpngaa", sum := "525f285ff30add0fd37753ead3e6ed168d23eca5d2713a7673db546b28fff24c", checked := Try.checked }
namespace Rows
def none {H : Type} : Left H := { results := [], args := [] }

/-- 'warplaw9.LexAll': WHATEVER THE INPUT: true; the input reads as it did. -/
def lexAllSpec : ChangeSpec := { name := "lexAll", fn := fun _ => fun
  | [d] => { results := [.lit (.bool true)], args := [d] }
  | _ => none }
def lexAllRow : OpenClaim := { program := "ythpnplcagfpngaa", sum := "525f285ff30add0fd37753ead3e6ed168d23eca5d2713a7673db546b28fff24c", func := "warp/warplaw9.LexAll", spec := "lexAll", inPlace := ["internal/bytealg.IndexByteString"], apart := false }
def LexAllSaid : Prop := lexAllRow.holds Try.pinned (OpenSpec.ofChange lexAllSpec)

/-- ITS FALSE NEIGHBOUR: 'it returns false'. Refute it at one input. -/
def lexAllWrong : ChangeSpec := { name := "lexAll", fn := fun _ => fun
  | [d] => { results := [.lit (.bool false)], args := [d] }
  | _ => none }
def LexAllWrongFalsely : Prop := lexAllRow.holds Try.pinned (OpenSpec.ofChange lexAllWrong)

/-- 'warplaw9.LexMade': WHATEVER THE INPUT: true; the input reads as it did. -/
def lexMadeSpec : ChangeSpec := { name := "lexMade", fn := fun _ => fun
  | [d] => { results := [.lit (.bool true)], args := [d] }
  | _ => none }
def lexMadeRow : OpenClaim := { program := "ythpnplcagfpngaa", sum := "525f285ff30add0fd37753ead3e6ed168d23eca5d2713a7673db546b28fff24c", func := "warp/warplaw9.LexMade", spec := "lexMade", inPlace := ["internal/bytealg.IndexByteString"], apart := false }
def LexMadeSaid : Prop := lexMadeRow.holds Try.pinned (OpenSpec.ofChange lexMadeSpec)

/-- ITS FALSE NEIGHBOUR: 'it returns false'. Refute it at one input. -/
def lexMadeWrong : ChangeSpec := { name := "lexMade", fn := fun _ => fun
  | [d] => { results := [.lit (.bool false)], args := [d] }
  | _ => none }
def LexMadeWrongFalsely : Prop := lexMadeRow.holds Try.pinned (OpenSpec.ofChange lexMadeWrong)

/-- 'warplaw9.LexBlanks': WHATEVER THE INPUT: true; the input reads as it did. -/
def lexBlanksSpec : ChangeSpec := { name := "lexBlanks", fn := fun _ => fun
  | [d1, d2, d3] => { results := [.lit (.bool true)], args := [d1, d2, d3] }
  | _ => none }
def lexBlanksRow : OpenClaim := { program := "ythpnplcagfpngaa", sum := "525f285ff30add0fd37753ead3e6ed168d23eca5d2713a7673db546b28fff24c", func := "warp/warplaw9.LexBlanks", spec := "lexBlanks", inPlace := ["internal/bytealg.IndexByteString"], apart := false }
def LexBlanksSaid : Prop := lexBlanksRow.holds Try.pinned (OpenSpec.ofChange lexBlanksSpec)

/-- ITS FALSE NEIGHBOUR: 'it returns false'. Refute it at one input. -/
def lexBlanksWrong : ChangeSpec := { name := "lexBlanks", fn := fun _ => fun
  | [d1, d2, d3] => { results := [.lit (.bool false)], args := [d1, d2, d3] }
  | _ => none }
def LexBlanksWrongFalsely : Prop := lexBlanksRow.holds Try.pinned (OpenSpec.ofChange lexBlanksWrong)

/-- 'warplaw9.LexNumbers': WHATEVER THE INPUT: true; the input reads as it did. -/
def lexNumbersSpec : ChangeSpec := { name := "lexNumbers", fn := fun _ => fun
  | [d1, d2] => { results := [.lit (.bool true)], args := [d1, d2] }
  | _ => none }
def lexNumbersRow : OpenClaim := { program := "ythpnplcagfpngaa", sum := "525f285ff30add0fd37753ead3e6ed168d23eca5d2713a7673db546b28fff24c", func := "warp/warplaw9.LexNumbers", spec := "lexNumbers", inPlace := ["internal/bytealg.IndexByteString"], apart := false }
def LexNumbersSaid : Prop := lexNumbersRow.holds Try.pinned (OpenSpec.ofChange lexNumbersSpec)

/-- ITS FALSE NEIGHBOUR: 'it returns false'. Refute it at one input. -/
def lexNumbersWrong : ChangeSpec := { name := "lexNumbers", fn := fun _ => fun
  | [d1, d2] => { results := [.lit (.bool false)], args := [d1, d2] }
  | _ => none }
def LexNumbersWrongFalsely : Prop := lexNumbersRow.holds Try.pinned (OpenSpec.ofChange lexNumbersWrong)

/-- 'warplaw9.LexNames': WHATEVER THE INPUT: true; the input reads as it did. -/
def lexNamesSpec : ChangeSpec := { name := "lexNames", fn := fun _ => fun
  | [d1, d2] => { results := [.lit (.bool true)], args := [d1, d2] }
  | _ => none }
def lexNamesRow : OpenClaim := { program := "ythpnplcagfpngaa", sum := "525f285ff30add0fd37753ead3e6ed168d23eca5d2713a7673db546b28fff24c", func := "warp/warplaw9.LexNames", spec := "lexNames", inPlace := ["internal/bytealg.IndexByteString"], apart := false }
def LexNamesSaid : Prop := lexNamesRow.holds Try.pinned (OpenSpec.ofChange lexNamesSpec)

/-- ITS FALSE NEIGHBOUR: 'it returns false'. Refute it at one input. -/
def lexNamesWrong : ChangeSpec := { name := "lexNames", fn := fun _ => fun
  | [d1, d2] => { results := [.lit (.bool false)], args := [d1, d2] }
  | _ => none }
def LexNamesWrongFalsely : Prop := lexNamesRow.holds Try.pinned (OpenSpec.ofChange lexNamesWrong)

/-- 'warplaw9.LexCovers': WHATEVER THE INPUT: true; the input reads as it did. -/
def lexCoversSpec : ChangeSpec := { name := "lexCovers", fn := fun _ => fun
  | [d] => { results := [.lit (.bool true)], args := [d] }
  | _ => none }
def lexCoversRow : OpenClaim := { program := "ythpnplcagfpngaa", sum := "525f285ff30add0fd37753ead3e6ed168d23eca5d2713a7673db546b28fff24c", func := "warp/warplaw9.LexCovers", spec := "lexCovers", inPlace := ["internal/bytealg.IndexByteString"], apart := false }
def LexCoversSaid : Prop := lexCoversRow.holds Try.pinned (OpenSpec.ofChange lexCoversSpec)

/-- ITS FALSE NEIGHBOUR: 'it returns false'. Refute it at one input. -/
def lexCoversWrong : ChangeSpec := { name := "lexCovers", fn := fun _ => fun
  | [d] => { results := [.lit (.bool false)], args := [d] }
  | _ => none }
def LexCoversWrongFalsely : Prop := lexCoversRow.holds Try.pinned (OpenSpec.ofChange lexCoversWrong)

/- THE SECOND FORM. 'bulk': how many values and letters a reading holds, each counted each time it is reached (what is shared counts as often as it is met; a slice's spare places count too). A statement '..UptoSaid' is the law's where the arguments, and the package variables that the reading takes, are together of bulk at most 1048576: NARROWER than '..Said'. Prove '..Said' where nothing that the law and all that it calls make is longer than what came in: it says more and counts as full. Else prove '..UptoSaid'. A law counts once. -/
mutual
def uptoBulk {H : Type} : DataW H → Nat
  | .lit (.string bytes) => bytes.length + 1
  | .lit _ => 1
  | .nil => 1
  | .ptr d => uptoBulk d + 1
  | .slice elems spare => uptoBulkAll elems + uptoBulkAll spare + 1
  | .agg parts => uptoBulkAll parts + 1
  | .iface _ d => uptoBulk d + 1
  | .map entries => uptoBulkEntries entries + 1
  | .held _ => 1
def uptoBulkAll {H : Type} : List (DataW H) → Nat
  | [] => 0
  | d :: r => uptoBulk d + uptoBulkAll r
def uptoBulkEntries {H : Type} : List (Lit × DataW H) → Nat
  | [] => 0
  | x :: r => uptoBulkEntry x + uptoBulkEntries r
def uptoBulkEntry {H : Type} : Lit × DataW H → Nat
  | (.string bytes, d) => bytes.length + uptoBulk d + 1
  | (_, d) => uptoBulk d + 1
 end
def uptoSmall : (H : Type) → List (DataW H) → Bool := fun _ ds => decide (uptoBulkAll ds ≤ 1048576)
def OpenSpec.upto (s : _root_.Go.ChangeSpec) : _root_.Go.OpenSpec := { _root_.Go.OpenSpec.ofChange s with cond := some uptoSmall }

/-- 'warplaw9.LexAll', WHERE WHAT IT READS IS OF BULK AT MOST 1048576: true; the input reads as it did. -/
def lexAllUptoRow : OpenClaim := { program := "ythpnplcagfpngaa", sum := "525f285ff30add0fd37753ead3e6ed168d23eca5d2713a7673db546b28fff24c", func := "warp/warplaw9.LexAll", spec := "lexAll", inPlace := ["internal/bytealg.IndexByteString"], apart := false, narrowed := true }
def LexAllUptoSaid : Prop := lexAllUptoRow.holds Try.pinned (OpenSpec.upto lexAllSpec)

/-- 'warplaw9.LexMade', WHERE WHAT IT READS IS OF BULK AT MOST 1048576: true; the input reads as it did. -/
def lexMadeUptoRow : OpenClaim := { program := "ythpnplcagfpngaa", sum := "525f285ff30add0fd37753ead3e6ed168d23eca5d2713a7673db546b28fff24c", func := "warp/warplaw9.LexMade", spec := "lexMade", inPlace := ["internal/bytealg.IndexByteString"], apart := false, narrowed := true }
def LexMadeUptoSaid : Prop := lexMadeUptoRow.holds Try.pinned (OpenSpec.upto lexMadeSpec)

/-- 'warplaw9.LexBlanks', WHERE WHAT IT READS IS OF BULK AT MOST 1048576: true; the input reads as it did. -/
def lexBlanksUptoRow : OpenClaim := { program := "ythpnplcagfpngaa", sum := "525f285ff30add0fd37753ead3e6ed168d23eca5d2713a7673db546b28fff24c", func := "warp/warplaw9.LexBlanks", spec := "lexBlanks", inPlace := ["internal/bytealg.IndexByteString"], apart := false, narrowed := true }
def LexBlanksUptoSaid : Prop := lexBlanksUptoRow.holds Try.pinned (OpenSpec.upto lexBlanksSpec)

/-- 'warplaw9.LexNumbers', WHERE WHAT IT READS IS OF BULK AT MOST 1048576: true; the input reads as it did. -/
def lexNumbersUptoRow : OpenClaim := { program := "ythpnplcagfpngaa", sum := "525f285ff30add0fd37753ead3e6ed168d23eca5d2713a7673db546b28fff24c", func := "warp/warplaw9.LexNumbers", spec := "lexNumbers", inPlace := ["internal/bytealg.IndexByteString"], apart := false, narrowed := true }
def LexNumbersUptoSaid : Prop := lexNumbersUptoRow.holds Try.pinned (OpenSpec.upto lexNumbersSpec)

/-- 'warplaw9.LexNames', WHERE WHAT IT READS IS OF BULK AT MOST 1048576: true; the input reads as it did. -/
def lexNamesUptoRow : OpenClaim := { program := "ythpnplcagfpngaa", sum := "525f285ff30add0fd37753ead3e6ed168d23eca5d2713a7673db546b28fff24c", func := "warp/warplaw9.LexNames", spec := "lexNames", inPlace := ["internal/bytealg.IndexByteString"], apart := false, narrowed := true }
def LexNamesUptoSaid : Prop := lexNamesUptoRow.holds Try.pinned (OpenSpec.upto lexNamesSpec)

/-- 'warplaw9.LexCovers', WHERE WHAT IT READS IS OF BULK AT MOST 1048576: true; the input reads as it did. -/
def lexCoversUptoRow : OpenClaim := { program := "ythpnplcagfpngaa", sum := "525f285ff30add0fd37753ead3e6ed168d23eca5d2713a7673db546b28fff24c", func := "warp/warplaw9.LexCovers", spec := "lexCovers", inPlace := ["internal/bytealg.IndexByteString"], apart := false, narrowed := true }
def LexCoversUptoSaid : Prop := lexCoversUptoRow.holds Try.pinned (OpenSpec.upto lexCoversSpec)

end Rows
end Go.Proofs.Ythpnplcagfpngaa
