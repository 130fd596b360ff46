/-
  No cell of these rows narrows 'for every input' (looked for: loops, veiled, ifaces, maps, wideKeys, modest, calm, conditions, laid).
  DERIVED. THE GIVEN ROWS OF THIS SEAT. 12 by the template 'for every input the law returns true; each argument reads behind the call as it read before'; 0 by the template 'total and deterministic' (their statements: YtkmfhabgempjiaaTotals.lean).
  GIVEN WITH THE SEED: the statements are not yours to turn. If you find one false, say at which input.
  Laid BY PROGRAM, IN A SANDBOX (cutbox-rows.mjs): the forced cells as the released guide's own fill.sh prints them over the translation 9d02945a25b832bb… (all of the seat's roots in one cut). By AI agents, Wed Nov 11 2026. No macro, syntax, notation, axiom, sorry.
-/
import Derived.Test.YtkmfhabgempjiaaChecked
import GoSem.Claim
import GoSem.ClaimJoined
import GoSem.ClaimMapViews
import Derived.JoinedTies
import Derived.KernelRfl
namespace Go.Proofs.Ytkmfhabgempjiaa
/- THE CELL 'sum', in the pinned program and in every row, IS THE sha256 OF THE DUMP (.gsa) THAT YtkmfhabgempjiaaProg.lean LOADS. Nothing in Lean hashes anything: it is a label: what it is worth is what the hold of that sum in a sandbox is worth. -/
noncomputable def Try.pinned : Pinned := { name := "ytkmfhabgempjiaa", sum := "9d02945a25b832bb204df190c3f8afca0cf04b6618521482dca69eb47b29f515", checked := Try.checked }
namespace Rows
def none {H : Type} : Left H := { results := [], args := [] }

/-- 'quincunxlaw24.XformSmith': WHATEVER THE INPUT: true; the input reads as it did. -/
def xformSmithSpec : ChangeSpec := { name := "xformSmith", fn := fun _ => fun
  | [d1, d2] => { results := [.lit (.bool true)], args := [d1, d2] }
  | _ => none }
def xformSmithRow : OpenClaim := { program := "ytkmfhabgempjiaa", sum := "9d02945a25b832bb204df190c3f8afca0cf04b6618521482dca69eb47b29f515", func := "quincunx/quincunxlaw24.XformSmith", spec := "xformSmith", unfollowed := true, recurses := true, apart := false }
def XformSmithSaid : Prop := xformSmithRow.holds Try.pinned (OpenSpec.ofChange xformSmithSpec)

/-- ITS FALSE NEIGHBOUR: 'it returns false'. Refute it at one input. -/
def xformSmithWrong : ChangeSpec := { name := "xformSmith", fn := fun _ => fun
  | [d1, d2] => { results := [.lit (.bool false)], args := [d1, d2] }
  | _ => none }
def XformSmithWrongFalsely : Prop := xformSmithRow.holds Try.pinned (OpenSpec.ofChange xformSmithWrong)

/-- 'quincunxlaw24.XformMinors': WHATEVER THE INPUT: true; the input reads as it did. -/
def xformMinorsSpec : ChangeSpec := { name := "xformMinors", fn := fun _ => fun
  | [d1, d2] => { results := [.lit (.bool true)], args := [d1, d2] }
  | _ => none }
def xformMinorsRow : OpenClaim := { program := "ytkmfhabgempjiaa", sum := "9d02945a25b832bb204df190c3f8afca0cf04b6618521482dca69eb47b29f515", func := "quincunx/quincunxlaw24.XformMinors", spec := "xformMinors", unfollowed := true, recurses := true, apart := false }
def XformMinorsSaid : Prop := xformMinorsRow.holds Try.pinned (OpenSpec.ofChange xformMinorsSpec)

/-- ITS FALSE NEIGHBOUR: 'it returns false'. Refute it at one input. -/
def xformMinorsWrong : ChangeSpec := { name := "xformMinors", fn := fun _ => fun
  | [d1, d2] => { results := [.lit (.bool false)], args := [d1, d2] }
  | _ => none }
def XformMinorsWrongFalsely : Prop := xformMinorsRow.holds Try.pinned (OpenSpec.ofChange xformMinorsWrong)

/-- 'quincunxlaw24.XformHermite': WHATEVER THE INPUT: true; the input reads as it did. -/
def xformHermiteSpec : ChangeSpec := { name := "xformHermite", fn := fun _ => fun
  | [d1, d2] => { results := [.lit (.bool true)], args := [d1, d2] }
  | _ => none }
def xformHermiteRow : OpenClaim := { program := "ytkmfhabgempjiaa", sum := "9d02945a25b832bb204df190c3f8afca0cf04b6618521482dca69eb47b29f515", func := "quincunx/quincunxlaw24.XformHermite", spec := "xformHermite", unfollowed := true, recurses := true, apart := false }
def XformHermiteSaid : Prop := xformHermiteRow.holds Try.pinned (OpenSpec.ofChange xformHermiteSpec)

/-- ITS FALSE NEIGHBOUR: 'it returns false'. Refute it at one input. -/
def xformHermiteWrong : ChangeSpec := { name := "xformHermite", fn := fun _ => fun
  | [d1, d2] => { results := [.lit (.bool false)], args := [d1, d2] }
  | _ => none }
def XformHermiteWrongFalsely : Prop := xformHermiteRow.holds Try.pinned (OpenSpec.ofChange xformHermiteWrong)

/-- 'quincunxlaw24.XformRanks': WHATEVER THE INPUT: true; the input reads as it did. -/
def xformRanksSpec : ChangeSpec := { name := "xformRanks", fn := fun _ => fun
  | [d1, d2] => { results := [.lit (.bool true)], args := [d1, d2] }
  | _ => none }
def xformRanksRow : OpenClaim := { program := "ytkmfhabgempjiaa", sum := "9d02945a25b832bb204df190c3f8afca0cf04b6618521482dca69eb47b29f515", func := "quincunx/quincunxlaw24.XformRanks", spec := "xformRanks", unfollowed := true, recurses := true, apart := false }
def XformRanksSaid : Prop := xformRanksRow.holds Try.pinned (OpenSpec.ofChange xformRanksSpec)

/-- ITS FALSE NEIGHBOUR: 'it returns false'. Refute it at one input. -/
def xformRanksWrong : ChangeSpec := { name := "xformRanks", fn := fun _ => fun
  | [d1, d2] => { results := [.lit (.bool false)], args := [d1, d2] }
  | _ => none }
def XformRanksWrongFalsely : Prop := xformRanksRow.holds Try.pinned (OpenSpec.ofChange xformRanksWrong)

/-- 'quincunxlaw24.XformOne': WHATEVER THE INPUT: true; the input reads as it did. -/
def xformOneSpec : ChangeSpec := { name := "xformOne", fn := fun _ => fun
  | [d1, d2, d3] => { results := [.lit (.bool true)], args := [d1, d2, d3] }
  | _ => none }
def xformOneRow : OpenClaim := { program := "ytkmfhabgempjiaa", sum := "9d02945a25b832bb204df190c3f8afca0cf04b6618521482dca69eb47b29f515", func := "quincunx/quincunxlaw24.XformOne", spec := "xformOne", unfollowed := true, recurses := true, apart := false }
def XformOneSaid : Prop := xformOneRow.holds Try.pinned (OpenSpec.ofChange xformOneSpec)

/-- ITS FALSE NEIGHBOUR: 'it returns false'. Refute it at one input. -/
def xformOneWrong : ChangeSpec := { name := "xformOne", fn := fun _ => fun
  | [d1, d2, d3] => { results := [.lit (.bool false)], args := [d1, d2, d3] }
  | _ => none }
def XformOneWrongFalsely : Prop := xformOneRow.holds Try.pinned (OpenSpec.ofChange xformOneWrong)

/-- 'quincunxlaw24.XformIs': WHATEVER THE INPUT: true; the input reads as it did. -/
def xformIsSpec : ChangeSpec := { name := "xformIs", fn := fun _ => fun
  | [d1, d2] => { results := [.lit (.bool true)], args := [d1, d2] }
  | _ => none }
def xformIsRow : OpenClaim := { program := "ytkmfhabgempjiaa", sum := "9d02945a25b832bb204df190c3f8afca0cf04b6618521482dca69eb47b29f515", func := "quincunx/quincunxlaw24.XformIs", spec := "xformIs", unfollowed := true, recurses := true, apart := false }
def XformIsSaid : Prop := xformIsRow.holds Try.pinned (OpenSpec.ofChange xformIsSpec)

/-- ITS FALSE NEIGHBOUR: 'it returns false'. Refute it at one input. -/
def xformIsWrong : ChangeSpec := { name := "xformIs", fn := fun _ => fun
  | [d1, d2] => { results := [.lit (.bool false)], args := [d1, d2] }
  | _ => none }
def XformIsWrongFalsely : Prop := xformIsRow.holds Try.pinned (OpenSpec.ofChange xformIsWrong)

/-- 'quincunxlaw25.FrobBlocks': WHATEVER THE INPUT: true; the input reads as it did. -/
def frobBlocksSpec : ChangeSpec := { name := "frobBlocks", fn := fun _ => fun
  | [d1, d2] => { results := [.lit (.bool true)], args := [d1, d2] }
  | _ => none }
def frobBlocksRow : OpenClaim := { program := "ytkmfhabgempjiaa", sum := "9d02945a25b832bb204df190c3f8afca0cf04b6618521482dca69eb47b29f515", func := "quincunx/quincunxlaw25.FrobBlocks", spec := "frobBlocks", unfollowed := true, recurses := true, apart := false }
def FrobBlocksSaid : Prop := frobBlocksRow.holds Try.pinned (OpenSpec.ofChange frobBlocksSpec)

/-- ITS FALSE NEIGHBOUR: 'it returns false'. Refute it at one input. -/
def frobBlocksWrong : ChangeSpec := { name := "frobBlocks", fn := fun _ => fun
  | [d1, d2] => { results := [.lit (.bool false)], args := [d1, d2] }
  | _ => none }
def FrobBlocksWrongFalsely : Prop := frobBlocksRow.holds Try.pinned (OpenSpec.ofChange frobBlocksWrong)

/-- 'quincunxlaw25.FrobCommutes': WHATEVER THE INPUT: true; the input reads as it did. -/
def frobCommutesSpec : ChangeSpec := { name := "frobCommutes", fn := fun _ => fun
  | [d1, d2] => { results := [.lit (.bool true)], args := [d1, d2] }
  | _ => none }
def frobCommutesRow : OpenClaim := { program := "ytkmfhabgempjiaa", sum := "9d02945a25b832bb204df190c3f8afca0cf04b6618521482dca69eb47b29f515", func := "quincunx/quincunxlaw25.FrobCommutes", spec := "frobCommutes", unfollowed := true, recurses := true, apart := false }
def FrobCommutesSaid : Prop := frobCommutesRow.holds Try.pinned (OpenSpec.ofChange frobCommutesSpec)

/-- ITS FALSE NEIGHBOUR: 'it returns false'. Refute it at one input. -/
def frobCommutesWrong : ChangeSpec := { name := "frobCommutes", fn := fun _ => fun
  | [d1, d2] => { results := [.lit (.bool false)], args := [d1, d2] }
  | _ => none }
def FrobCommutesWrongFalsely : Prop := frobCommutesRow.holds Try.pinned (OpenSpec.ofChange frobCommutesWrong)

/-- 'quincunxlaw25.FrobForms': WHATEVER THE INPUT: true; the input reads as it did. -/
def frobFormsSpec : ChangeSpec := { name := "frobForms", fn := fun _ => fun
  | [d1, d2] => { results := [.lit (.bool true)], args := [d1, d2] }
  | _ => none }
def frobFormsRow : OpenClaim := { program := "ytkmfhabgempjiaa", sum := "9d02945a25b832bb204df190c3f8afca0cf04b6618521482dca69eb47b29f515", func := "quincunx/quincunxlaw25.FrobForms", spec := "frobForms", unfollowed := true, recurses := true, apart := false }
def FrobFormsSaid : Prop := frobFormsRow.holds Try.pinned (OpenSpec.ofChange frobFormsSpec)

/-- ITS FALSE NEIGHBOUR: 'it returns false'. Refute it at one input. -/
def frobFormsWrong : ChangeSpec := { name := "frobForms", fn := fun _ => fun
  | [d1, d2] => { results := [.lit (.bool false)], args := [d1, d2] }
  | _ => none }
def FrobFormsWrongFalsely : Prop := frobFormsRow.holds Try.pinned (OpenSpec.ofChange frobFormsWrong)

/-- 'quincunxlaw25.FrobSimilar': WHATEVER THE INPUT: true; the input reads as it did. -/
def frobSimilarSpec : ChangeSpec := { name := "frobSimilar", fn := fun _ => fun
  | [d1, d2, d3] => { results := [.lit (.bool true)], args := [d1, d2, d3] }
  | _ => none }
def frobSimilarRow : OpenClaim := { program := "ytkmfhabgempjiaa", sum := "9d02945a25b832bb204df190c3f8afca0cf04b6618521482dca69eb47b29f515", func := "quincunx/quincunxlaw25.FrobSimilar", spec := "frobSimilar", unfollowed := true, recurses := true, apart := false }
def FrobSimilarSaid : Prop := frobSimilarRow.holds Try.pinned (OpenSpec.ofChange frobSimilarSpec)

/-- ITS FALSE NEIGHBOUR: 'it returns false'. Refute it at one input. -/
def frobSimilarWrong : ChangeSpec := { name := "frobSimilar", fn := fun _ => fun
  | [d1, d2, d3] => { results := [.lit (.bool false)], args := [d1, d2, d3] }
  | _ => none }
def FrobSimilarWrongFalsely : Prop := frobSimilarRow.holds Try.pinned (OpenSpec.ofChange frobSimilarWrong)

/-- 'quincunxlaw25.FrobApart': WHATEVER THE INPUT: true; the input reads as it did. -/
def frobApartSpec : ChangeSpec := { name := "frobApart", fn := fun _ => fun
  | [d1, d2, d3] => { results := [.lit (.bool true)], args := [d1, d2, d3] }
  | _ => none }
def frobApartRow : OpenClaim := { program := "ytkmfhabgempjiaa", sum := "9d02945a25b832bb204df190c3f8afca0cf04b6618521482dca69eb47b29f515", func := "quincunx/quincunxlaw25.FrobApart", spec := "frobApart", unfollowed := true, recurses := true, apart := false }
def FrobApartSaid : Prop := frobApartRow.holds Try.pinned (OpenSpec.ofChange frobApartSpec)

/-- ITS FALSE NEIGHBOUR: 'it returns false'. Refute it at one input. -/
def frobApartWrong : ChangeSpec := { name := "frobApart", fn := fun _ => fun
  | [d1, d2, d3] => { results := [.lit (.bool false)], args := [d1, d2, d3] }
  | _ => none }
def FrobApartWrongFalsely : Prop := frobApartRow.holds Try.pinned (OpenSpec.ofChange frobApartWrong)

/-- 'quincunxlaw25.FrobInvariants': WHATEVER THE INPUT: true; the input reads as it did. -/
def frobInvariantsSpec : ChangeSpec := { name := "frobInvariants", fn := fun _ => fun
  | [d1, d2] => { results := [.lit (.bool true)], args := [d1, d2] }
  | _ => none }
def frobInvariantsRow : OpenClaim := { program := "ytkmfhabgempjiaa", sum := "9d02945a25b832bb204df190c3f8afca0cf04b6618521482dca69eb47b29f515", func := "quincunx/quincunxlaw25.FrobInvariants", spec := "frobInvariants", unfollowed := true, recurses := true, apart := false }
def FrobInvariantsSaid : Prop := frobInvariantsRow.holds Try.pinned (OpenSpec.ofChange frobInvariantsSpec)

/-- ITS FALSE NEIGHBOUR: 'it returns false'. Refute it at one input. -/
def frobInvariantsWrong : ChangeSpec := { name := "frobInvariants", fn := fun _ => fun
  | [d1, d2] => { results := [.lit (.bool false)], args := [d1, d2] }
  | _ => none }
def FrobInvariantsWrongFalsely : Prop := frobInvariantsRow.holds Try.pinned (OpenSpec.ofChange frobInvariantsWrong)

/- THE SECOND FORM. 'bulk': how many values and letters a reading holds, each counted each time it is reached (what is shared counts as often as it is met; a slice's spare places count too). A statement '..UptoSaid' is the law's where the arguments, and the package variables that the reading takes, are together of bulk at most 1048576: NARROWER than '..Said'. Prove '..Said' where nothing that the law and all that it calls make is longer than what came in: it says more and counts as full. Else prove '..UptoSaid'. A law counts once. -/
mutual
def uptoBulk {H : Type} : DataW H → Nat
  | .lit (.string bytes) => bytes.length + 1
  | .lit _ => 1
  | .nil => 1
  | .ptr d => uptoBulk d + 1
  | .slice elems spare => uptoBulkAll elems + uptoBulkAll spare + 1
  | .agg parts => uptoBulkAll parts + 1
  | .iface _ d => uptoBulk d + 1
  | .map entries => uptoBulkEntries entries + 1
  | .held _ => 1
def uptoBulkAll {H : Type} : List (DataW H) → Nat
  | [] => 0
  | d :: r => uptoBulk d + uptoBulkAll r
def uptoBulkEntries {H : Type} : List (Lit × DataW H) → Nat
  | [] => 0
  | x :: r => uptoBulkEntry x + uptoBulkEntries r
def uptoBulkEntry {H : Type} : Lit × DataW H → Nat
  | (.string bytes, d) => bytes.length + uptoBulk d + 1
  | (_, d) => uptoBulk d + 1
 end
def uptoSmall : (H : Type) → List (DataW H) → Bool := fun _ ds => decide (uptoBulkAll ds ≤ 1048576)
def OpenSpec.upto (s : _root_.Go.ChangeSpec) : _root_.Go.OpenSpec := { _root_.Go.OpenSpec.ofChange s with cond := some uptoSmall }

/-- 'quincunxlaw24.XformSmith', WHERE WHAT IT READS IS OF BULK AT MOST 1048576: true; the input reads as it did. -/
def xformSmithUptoRow : OpenClaim := { program := "ytkmfhabgempjiaa", sum := "9d02945a25b832bb204df190c3f8afca0cf04b6618521482dca69eb47b29f515", func := "quincunx/quincunxlaw24.XformSmith", spec := "xformSmith", unfollowed := true, recurses := true, apart := false, narrowed := true }
def XformSmithUptoSaid : Prop := xformSmithUptoRow.holds Try.pinned (OpenSpec.upto xformSmithSpec)

/-- 'quincunxlaw24.XformMinors', WHERE WHAT IT READS IS OF BULK AT MOST 1048576: true; the input reads as it did. -/
def xformMinorsUptoRow : OpenClaim := { program := "ytkmfhabgempjiaa", sum := "9d02945a25b832bb204df190c3f8afca0cf04b6618521482dca69eb47b29f515", func := "quincunx/quincunxlaw24.XformMinors", spec := "xformMinors", unfollowed := true, recurses := true, apart := false, narrowed := true }
def XformMinorsUptoSaid : Prop := xformMinorsUptoRow.holds Try.pinned (OpenSpec.upto xformMinorsSpec)

/-- 'quincunxlaw24.XformHermite', WHERE WHAT IT READS IS OF BULK AT MOST 1048576: true; the input reads as it did. -/
def xformHermiteUptoRow : OpenClaim := { program := "ytkmfhabgempjiaa", sum := "9d02945a25b832bb204df190c3f8afca0cf04b6618521482dca69eb47b29f515", func := "quincunx/quincunxlaw24.XformHermite", spec := "xformHermite", unfollowed := true, recurses := true, apart := false, narrowed := true }
def XformHermiteUptoSaid : Prop := xformHermiteUptoRow.holds Try.pinned (OpenSpec.upto xformHermiteSpec)

/-- 'quincunxlaw24.XformRanks', WHERE WHAT IT READS IS OF BULK AT MOST 1048576: true; the input reads as it did. -/
def xformRanksUptoRow : OpenClaim := { program := "ytkmfhabgempjiaa", sum := "9d02945a25b832bb204df190c3f8afca0cf04b6618521482dca69eb47b29f515", func := "quincunx/quincunxlaw24.XformRanks", spec := "xformRanks", unfollowed := true, recurses := true, apart := false, narrowed := true }
def XformRanksUptoSaid : Prop := xformRanksUptoRow.holds Try.pinned (OpenSpec.upto xformRanksSpec)

/-- 'quincunxlaw24.XformOne', WHERE WHAT IT READS IS OF BULK AT MOST 1048576: true; the input reads as it did. -/
def xformOneUptoRow : OpenClaim := { program := "ytkmfhabgempjiaa", sum := "9d02945a25b832bb204df190c3f8afca0cf04b6618521482dca69eb47b29f515", func := "quincunx/quincunxlaw24.XformOne", spec := "xformOne", unfollowed := true, recurses := true, apart := false, narrowed := true }
def XformOneUptoSaid : Prop := xformOneUptoRow.holds Try.pinned (OpenSpec.upto xformOneSpec)

/-- 'quincunxlaw24.XformIs', WHERE WHAT IT READS IS OF BULK AT MOST 1048576: true; the input reads as it did. -/
def xformIsUptoRow : OpenClaim := { program := "ytkmfhabgempjiaa", sum := "9d02945a25b832bb204df190c3f8afca0cf04b6618521482dca69eb47b29f515", func := "quincunx/quincunxlaw24.XformIs", spec := "xformIs", unfollowed := true, recurses := true, apart := false, narrowed := true }
def XformIsUptoSaid : Prop := xformIsUptoRow.holds Try.pinned (OpenSpec.upto xformIsSpec)

/-- 'quincunxlaw25.FrobBlocks', WHERE WHAT IT READS IS OF BULK AT MOST 1048576: true; the input reads as it did. -/
def frobBlocksUptoRow : OpenClaim := { program := "ytkmfhabgempjiaa", sum := "9d02945a25b832bb204df190c3f8afca0cf04b6618521482dca69eb47b29f515", func := "quincunx/quincunxlaw25.FrobBlocks", spec := "frobBlocks", unfollowed := true, recurses := true, apart := false, narrowed := true }
def FrobBlocksUptoSaid : Prop := frobBlocksUptoRow.holds Try.pinned (OpenSpec.upto frobBlocksSpec)

/-- 'quincunxlaw25.FrobCommutes', WHERE WHAT IT READS IS OF BULK AT MOST 1048576: true; the input reads as it did. -/
def frobCommutesUptoRow : OpenClaim := { program := "ytkmfhabgempjiaa", sum := "9d02945a25b832bb204df190c3f8afca0cf04b6618521482dca69eb47b29f515", func := "quincunx/quincunxlaw25.FrobCommutes", spec := "frobCommutes", unfollowed := true, recurses := true, apart := false, narrowed := true }
def FrobCommutesUptoSaid : Prop := frobCommutesUptoRow.holds Try.pinned (OpenSpec.upto frobCommutesSpec)

/-- 'quincunxlaw25.FrobForms', WHERE WHAT IT READS IS OF BULK AT MOST 1048576: true; the input reads as it did. -/
def frobFormsUptoRow : OpenClaim := { program := "ytkmfhabgempjiaa", sum := "9d02945a25b832bb204df190c3f8afca0cf04b6618521482dca69eb47b29f515", func := "quincunx/quincunxlaw25.FrobForms", spec := "frobForms", unfollowed := true, recurses := true, apart := false, narrowed := true }
def FrobFormsUptoSaid : Prop := frobFormsUptoRow.holds Try.pinned (OpenSpec.upto frobFormsSpec)

/-- 'quincunxlaw25.FrobSimilar', WHERE WHAT IT READS IS OF BULK AT MOST 1048576: true; the input reads as it did. -/
def frobSimilarUptoRow : OpenClaim := { program := "ytkmfhabgempjiaa", sum := "9d02945a25b832bb204df190c3f8afca0cf04b6618521482dca69eb47b29f515", func := "quincunx/quincunxlaw25.FrobSimilar", spec := "frobSimilar", unfollowed := true, recurses := true, apart := false, narrowed := true }
def FrobSimilarUptoSaid : Prop := frobSimilarUptoRow.holds Try.pinned (OpenSpec.upto frobSimilarSpec)

/-- 'quincunxlaw25.FrobApart', WHERE WHAT IT READS IS OF BULK AT MOST 1048576: true; the input reads as it did. -/
def frobApartUptoRow : OpenClaim := { program := "ytkmfhabgempjiaa", sum := "9d02945a25b832bb204df190c3f8afca0cf04b6618521482dca69eb47b29f515", func := "quincunx/quincunxlaw25.FrobApart", spec := "frobApart", unfollowed := true, recurses := true, apart := false, narrowed := true }
def FrobApartUptoSaid : Prop := frobApartUptoRow.holds Try.pinned (OpenSpec.upto frobApartSpec)

/-- 'quincunxlaw25.FrobInvariants', WHERE WHAT IT READS IS OF BULK AT MOST 1048576: true; the input reads as it did. -/
def frobInvariantsUptoRow : OpenClaim := { program := "ytkmfhabgempjiaa", sum := "9d02945a25b832bb204df190c3f8afca0cf04b6618521482dca69eb47b29f515", func := "quincunx/quincunxlaw25.FrobInvariants", spec := "frobInvariants", unfollowed := true, recurses := true, apart := false, narrowed := true }
def FrobInvariantsUptoSaid : Prop := frobInvariantsUptoRow.holds Try.pinned (OpenSpec.upto frobInvariantsSpec)

end Rows
end Go.Proofs.Ytkmfhabgempjiaa
