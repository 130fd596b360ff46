/-
  No cell of these rows narrows 'for every input' (looked for: loops, veiled, ifaces, maps, wideKeys, modest, calm, conditions, laid).
  DERIVED. THE GIVEN ROWS OF THIS SEAT. 7 by the template 'for every input the law returns true; each argument reads behind the call as it read before'; 0 by the template 'total and deterministic' (their statements: YtjpioijlpgmlfaaTotals.lean).
  GIVEN WITH THE SEED: the statements are not yours to turn. If you find one false, say at which input.
  Laid BY PROGRAM, IN A SANDBOX (cutbox-rows.mjs): the forced cells as the released guide's own fill.sh prints them over the translation ed39f26327e342f9… (all of the seat's roots in one cut). By AI agents, Wed Nov 11 2026. No macro, syntax, notation, axiom, sorry.
-/
import Derived.Test.YtjpioijlpgmlfaaChecked
import GoSem.Claim
import GoSem.ClaimJoined
import GoSem.ClaimMapViews
import Derived.JoinedTies
import Derived.KernelRfl
namespace Go.Proofs.Ytjpioijlpgmlfaa
/- THE CELL 'sum', in the pinned program and in every row, IS THE sha256 OF THE DUMP (.gsa) THAT YtjpioijlpgmlfaaProg.lean LOADS. Nothing in Lean hashes anything: it is a label: what it is worth is what the hold of that sum in a sandbox is worth. -/
noncomputable def Try.pinned : Pinned := { name := "ytjpioijlpgmlfaa", sum := "ed39f26327e342f9fb87dcdb56bfaeaac1eea77597987b6fbc149717882b2e0c", checked := Try.checked }
namespace Rows
def none {H : Type} : Left H := { results := [], args := [] }

/-- 'quincunxlaw09.PolyDerives': WHATEVER THE INPUT: true; the input reads as it did. -/
def polyDerivesSpec : ChangeSpec := { name := "polyDerives", fn := fun _ => fun
  | [d1, d2, d3] => { results := [.lit (.bool true)], args := [d1, d2, d3] }
  | _ => none }
def polyDerivesRow : OpenClaim := { program := "ytjpioijlpgmlfaa", sum := "ed39f26327e342f9fb87dcdb56bfaeaac1eea77597987b6fbc149717882b2e0c", func := "quincunx/quincunxlaw09.PolyDerives", spec := "polyDerives", unfollowed := true, recurses := true, apart := false }
def PolyDerivesSaid : Prop := polyDerivesRow.holds Try.pinned (OpenSpec.ofChange polyDerivesSpec)

/-- ITS FALSE NEIGHBOUR: 'it returns false'. Refute it at one input. -/
def polyDerivesWrong : ChangeSpec := { name := "polyDerives", fn := fun _ => fun
  | [d1, d2, d3] => { results := [.lit (.bool false)], args := [d1, d2, d3] }
  | _ => none }
def PolyDerivesWrongFalsely : Prop := polyDerivesRow.holds Try.pinned (OpenSpec.ofChange polyDerivesWrong)

/-- 'quincunxlaw09.PolyDivides': WHATEVER THE INPUT: true; the input reads as it did. -/
def polyDividesSpec : ChangeSpec := { name := "polyDivides", fn := fun _ => fun
  | [d1, d2, d3] => { results := [.lit (.bool true)], args := [d1, d2, d3] }
  | _ => none }
def polyDividesRow : OpenClaim := { program := "ytjpioijlpgmlfaa", sum := "ed39f26327e342f9fb87dcdb56bfaeaac1eea77597987b6fbc149717882b2e0c", func := "quincunx/quincunxlaw09.PolyDivides", spec := "polyDivides", apart := false }
def PolyDividesSaid : Prop := polyDividesRow.holds Try.pinned (OpenSpec.ofChange polyDividesSpec)

/-- ITS FALSE NEIGHBOUR: 'it returns false'. Refute it at one input. -/
def polyDividesWrong : ChangeSpec := { name := "polyDivides", fn := fun _ => fun
  | [d1, d2, d3] => { results := [.lit (.bool false)], args := [d1, d2, d3] }
  | _ => none }
def PolyDividesWrongFalsely : Prop := polyDividesRow.holds Try.pinned (OpenSpec.ofChange polyDividesWrong)

/-- 'quincunxlaw09.PolyReckons': WHATEVER THE INPUT: true; the input reads as it did. -/
def polyReckonsSpec : ChangeSpec := { name := "polyReckons", fn := fun _ => fun
  | [d1, d2, d3] => { results := [.lit (.bool true)], args := [d1, d2, d3] }
  | _ => none }
def polyReckonsRow : OpenClaim := { program := "ytjpioijlpgmlfaa", sum := "ed39f26327e342f9fb87dcdb56bfaeaac1eea77597987b6fbc149717882b2e0c", func := "quincunx/quincunxlaw09.PolyReckons", spec := "polyReckons", unfollowed := true, recurses := true, apart := false }
def PolyReckonsSaid : Prop := polyReckonsRow.holds Try.pinned (OpenSpec.ofChange polyReckonsSpec)

/-- ITS FALSE NEIGHBOUR: 'it returns false'. Refute it at one input. -/
def polyReckonsWrong : ChangeSpec := { name := "polyReckons", fn := fun _ => fun
  | [d1, d2, d3] => { results := [.lit (.bool false)], args := [d1, d2, d3] }
  | _ => none }
def PolyReckonsWrongFalsely : Prop := polyReckonsRow.holds Try.pinned (OpenSpec.ofChange polyReckonsWrong)

/-- 'quincunxlaw09.PolyPowers': WHATEVER THE INPUT: true; the input reads as it did. -/
def polyPowersSpec : ChangeSpec := { name := "polyPowers", fn := fun _ => fun
  | [d1, d2, d3] => { results := [.lit (.bool true)], args := [d1, d2, d3] }
  | _ => none }
def polyPowersRow : OpenClaim := { program := "ytjpioijlpgmlfaa", sum := "ed39f26327e342f9fb87dcdb56bfaeaac1eea77597987b6fbc149717882b2e0c", func := "quincunx/quincunxlaw09.PolyPowers", spec := "polyPowers", apart := false }
def PolyPowersSaid : Prop := polyPowersRow.holds Try.pinned (OpenSpec.ofChange polyPowersSpec)

/-- ITS FALSE NEIGHBOUR: 'it returns false'. Refute it at one input. -/
def polyPowersWrong : ChangeSpec := { name := "polyPowers", fn := fun _ => fun
  | [d1, d2, d3] => { results := [.lit (.bool false)], args := [d1, d2, d3] }
  | _ => none }
def PolyPowersWrongFalsely : Prop := polyPowersRow.holds Try.pinned (OpenSpec.ofChange polyPowersWrong)

/-- 'quincunxlaw09.PolyLcm': WHATEVER THE INPUT: true; the input reads as it did. -/
def polyLcmSpec : ChangeSpec := { name := "polyLcm", fn := fun _ => fun
  | [d1, d2, d3] => { results := [.lit (.bool true)], args := [d1, d2, d3] }
  | _ => none }
def polyLcmRow : OpenClaim := { program := "ytjpioijlpgmlfaa", sum := "ed39f26327e342f9fb87dcdb56bfaeaac1eea77597987b6fbc149717882b2e0c", func := "quincunx/quincunxlaw09.PolyLcm", spec := "polyLcm", apart := false }
def PolyLcmSaid : Prop := polyLcmRow.holds Try.pinned (OpenSpec.ofChange polyLcmSpec)

/-- ITS FALSE NEIGHBOUR: 'it returns false'. Refute it at one input. -/
def polyLcmWrong : ChangeSpec := { name := "polyLcm", fn := fun _ => fun
  | [d1, d2, d3] => { results := [.lit (.bool false)], args := [d1, d2, d3] }
  | _ => none }
def PolyLcmWrongFalsely : Prop := polyLcmRow.holds Try.pinned (OpenSpec.ofChange polyLcmWrong)

/-- 'quincunxlaw09.PolyXgcd': WHATEVER THE INPUT: true; the input reads as it did. -/
def polyXgcdSpec : ChangeSpec := { name := "polyXgcd", fn := fun _ => fun
  | [d1, d2, d3] => { results := [.lit (.bool true)], args := [d1, d2, d3] }
  | _ => none }
def polyXgcdRow : OpenClaim := { program := "ytjpioijlpgmlfaa", sum := "ed39f26327e342f9fb87dcdb56bfaeaac1eea77597987b6fbc149717882b2e0c", func := "quincunx/quincunxlaw09.PolyXgcd", spec := "polyXgcd", unfollowed := true, recurses := true, apart := false }
def PolyXgcdSaid : Prop := polyXgcdRow.holds Try.pinned (OpenSpec.ofChange polyXgcdSpec)

/-- ITS FALSE NEIGHBOUR: 'it returns false'. Refute it at one input. -/
def polyXgcdWrong : ChangeSpec := { name := "polyXgcd", fn := fun _ => fun
  | [d1, d2, d3] => { results := [.lit (.bool false)], args := [d1, d2, d3] }
  | _ => none }
def PolyXgcdWrongFalsely : Prop := polyXgcdRow.holds Try.pinned (OpenSpec.ofChange polyXgcdWrong)

/-- 'quincunxlaw09.PolyPrimes': WHATEVER THE INPUT: true; the input reads as it did. -/
def polyPrimesSpec : ChangeSpec := { name := "polyPrimes", fn := fun _ => fun
  | [d1, d2] => { results := [.lit (.bool true)], args := [d1, d2] }
  | _ => none }
def polyPrimesRow : OpenClaim := { program := "ytjpioijlpgmlfaa", sum := "ed39f26327e342f9fb87dcdb56bfaeaac1eea77597987b6fbc149717882b2e0c", func := "quincunx/quincunxlaw09.PolyPrimes", spec := "polyPrimes", unfollowed := true, recurses := true, apart := false }
def PolyPrimesSaid : Prop := polyPrimesRow.holds Try.pinned (OpenSpec.ofChange polyPrimesSpec)

/-- ITS FALSE NEIGHBOUR: 'it returns false'. Refute it at one input. -/
def polyPrimesWrong : ChangeSpec := { name := "polyPrimes", fn := fun _ => fun
  | [d1, d2] => { results := [.lit (.bool false)], args := [d1, d2] }
  | _ => none }
def PolyPrimesWrongFalsely : Prop := polyPrimesRow.holds Try.pinned (OpenSpec.ofChange polyPrimesWrong)

/- THE SECOND FORM. 'bulk': how many values and letters a reading holds, each counted each time it is reached (what is shared counts as often as it is met; a slice's spare places count too). A statement '..UptoSaid' is the law's where the arguments, and the package variables that the reading takes, are together of bulk at most 1048576: NARROWER than '..Said'. Prove '..Said' where nothing that the law and all that it calls make is longer than what came in: it says more and counts as full. Else prove '..UptoSaid'. A law counts once. -/
mutual
def uptoBulk {H : Type} : DataW H → Nat
  | .lit (.string bytes) => bytes.length + 1
  | .lit _ => 1
  | .nil => 1
  | .ptr d => uptoBulk d + 1
  | .slice elems spare => uptoBulkAll elems + uptoBulkAll spare + 1
  | .agg parts => uptoBulkAll parts + 1
  | .iface _ d => uptoBulk d + 1
  | .map entries => uptoBulkEntries entries + 1
  | .held _ => 1
def uptoBulkAll {H : Type} : List (DataW H) → Nat
  | [] => 0
  | d :: r => uptoBulk d + uptoBulkAll r
def uptoBulkEntries {H : Type} : List (Lit × DataW H) → Nat
  | [] => 0
  | x :: r => uptoBulkEntry x + uptoBulkEntries r
def uptoBulkEntry {H : Type} : Lit × DataW H → Nat
  | (.string bytes, d) => bytes.length + uptoBulk d + 1
  | (_, d) => uptoBulk d + 1
 end
def uptoSmall : (H : Type) → List (DataW H) → Bool := fun _ ds => decide (uptoBulkAll ds ≤ 1048576)
def OpenSpec.upto (s : _root_.Go.ChangeSpec) : _root_.Go.OpenSpec := { _root_.Go.OpenSpec.ofChange s with cond := some uptoSmall }

/-- 'quincunxlaw09.PolyDerives', WHERE WHAT IT READS IS OF BULK AT MOST 1048576: true; the input reads as it did. -/
def polyDerivesUptoRow : OpenClaim := { program := "ytjpioijlpgmlfaa", sum := "ed39f26327e342f9fb87dcdb56bfaeaac1eea77597987b6fbc149717882b2e0c", func := "quincunx/quincunxlaw09.PolyDerives", spec := "polyDerives", unfollowed := true, recurses := true, apart := false, narrowed := true }
def PolyDerivesUptoSaid : Prop := polyDerivesUptoRow.holds Try.pinned (OpenSpec.upto polyDerivesSpec)

/-- 'quincunxlaw09.PolyDivides', WHERE WHAT IT READS IS OF BULK AT MOST 1048576: true; the input reads as it did. -/
def polyDividesUptoRow : OpenClaim := { program := "ytjpioijlpgmlfaa", sum := "ed39f26327e342f9fb87dcdb56bfaeaac1eea77597987b6fbc149717882b2e0c", func := "quincunx/quincunxlaw09.PolyDivides", spec := "polyDivides", apart := false, narrowed := true }
def PolyDividesUptoSaid : Prop := polyDividesUptoRow.holds Try.pinned (OpenSpec.upto polyDividesSpec)

/-- 'quincunxlaw09.PolyReckons', WHERE WHAT IT READS IS OF BULK AT MOST 1048576: true; the input reads as it did. -/
def polyReckonsUptoRow : OpenClaim := { program := "ytjpioijlpgmlfaa", sum := "ed39f26327e342f9fb87dcdb56bfaeaac1eea77597987b6fbc149717882b2e0c", func := "quincunx/quincunxlaw09.PolyReckons", spec := "polyReckons", unfollowed := true, recurses := true, apart := false, narrowed := true }
def PolyReckonsUptoSaid : Prop := polyReckonsUptoRow.holds Try.pinned (OpenSpec.upto polyReckonsSpec)

/-- 'quincunxlaw09.PolyPowers', WHERE WHAT IT READS IS OF BULK AT MOST 1048576: true; the input reads as it did. -/
def polyPowersUptoRow : OpenClaim := { program := "ytjpioijlpgmlfaa", sum := "ed39f26327e342f9fb87dcdb56bfaeaac1eea77597987b6fbc149717882b2e0c", func := "quincunx/quincunxlaw09.PolyPowers", spec := "polyPowers", apart := false, narrowed := true }
def PolyPowersUptoSaid : Prop := polyPowersUptoRow.holds Try.pinned (OpenSpec.upto polyPowersSpec)

/-- 'quincunxlaw09.PolyLcm', WHERE WHAT IT READS IS OF BULK AT MOST 1048576: true; the input reads as it did. -/
def polyLcmUptoRow : OpenClaim := { program := "ytjpioijlpgmlfaa", sum := "ed39f26327e342f9fb87dcdb56bfaeaac1eea77597987b6fbc149717882b2e0c", func := "quincunx/quincunxlaw09.PolyLcm", spec := "polyLcm", apart := false, narrowed := true }
def PolyLcmUptoSaid : Prop := polyLcmUptoRow.holds Try.pinned (OpenSpec.upto polyLcmSpec)

/-- 'quincunxlaw09.PolyXgcd', WHERE WHAT IT READS IS OF BULK AT MOST 1048576: true; the input reads as it did. -/
def polyXgcdUptoRow : OpenClaim := { program := "ytjpioijlpgmlfaa", sum := "ed39f26327e342f9fb87dcdb56bfaeaac1eea77597987b6fbc149717882b2e0c", func := "quincunx/quincunxlaw09.PolyXgcd", spec := "polyXgcd", unfollowed := true, recurses := true, apart := false, narrowed := true }
def PolyXgcdUptoSaid : Prop := polyXgcdUptoRow.holds Try.pinned (OpenSpec.upto polyXgcdSpec)

/-- 'quincunxlaw09.PolyPrimes', WHERE WHAT IT READS IS OF BULK AT MOST 1048576: true; the input reads as it did. -/
def polyPrimesUptoRow : OpenClaim := { program := "ytjpioijlpgmlfaa", sum := "ed39f26327e342f9fb87dcdb56bfaeaac1eea77597987b6fbc149717882b2e0c", func := "quincunx/quincunxlaw09.PolyPrimes", spec := "polyPrimes", unfollowed := true, recurses := true, apart := false, narrowed := true }
def PolyPrimesUptoSaid : Prop := polyPrimesUptoRow.holds Try.pinned (OpenSpec.upto polyPrimesSpec)

end Rows
end Go.Proofs.Ytjpioijlpgmlfaa
