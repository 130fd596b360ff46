/-
  No cell of these rows narrows 'for every input' (looked for: loops, veiled, ifaces, maps, wideKeys, modest, calm, conditions, laid).
  DERIVED. THE GIVEN ROWS OF THIS SEAT. 12 by the template 'for every input the law returns true; each argument reads behind the call as it read before'; 0 by the template 'total and deterministic' (their statements: YthghdjpjbngllaaTotals.lean).
  GIVEN WITH THE SEED: the statements are not yours to turn. If you find one false, say at which input.
  Laid BY PROGRAM, IN A SANDBOX (cutbox-rows.mjs): the forced cells as the released guide's own fill.sh prints them over the translation a07bbddc443b5dda… (all of the seat's roots in one cut). By AI agents, Wed Nov 11 2026. No macro, syntax, notation, axiom, sorry.
-/
import Derived.Test.YthghdjpjbngllaaChecked
import GoSem.Claim
import GoSem.ClaimJoined
import GoSem.ClaimMapViews
import Derived.JoinedTies
import Derived.KernelRfl
namespace Go.Proofs.Ythghdjpjbngllaa
/- THE CELL 'sum', in the pinned program and in every row, IS THE sha256 OF THE DUMP (.gsa) THAT YthghdjpjbngllaaProg.lean LOADS. Nothing in Lean hashes anything: it is a label: what it is worth is what the hold of that sum in a sandbox is worth. -/
noncomputable def Try.pinned : Pinned := { name := "ythghdjpjbngllaa", sum := "a07bbddc443b5dda7887f6b78a49f12c6c5cd94085f19c194d4cabcb94cb7c12", checked := Try.checked }
namespace Rows
def none {H : Type} : Left H := { results := [], args := [] }

/-- 'quincunxlaw23.XmatDets': WHATEVER THE INPUT: true; the input reads as it did. -/
def xmatDetsSpec : ChangeSpec := { name := "xmatDets", fn := fun _ => fun
  | [d1, d2] => { results := [.lit (.bool true)], args := [d1, d2] }
  | _ => none }
def xmatDetsRow : OpenClaim := { program := "ythghdjpjbngllaa", sum := "a07bbddc443b5dda7887f6b78a49f12c6c5cd94085f19c194d4cabcb94cb7c12", func := "quincunx/quincunxlaw23.XmatDets", spec := "xmatDets", unfollowed := true, recurses := true, apart := false }
def XmatDetsSaid : Prop := xmatDetsRow.holds Try.pinned (OpenSpec.ofChange xmatDetsSpec)

/-- ITS FALSE NEIGHBOUR: 'it returns false'. Refute it at one input. -/
def xmatDetsWrong : ChangeSpec := { name := "xmatDets", fn := fun _ => fun
  | [d1, d2] => { results := [.lit (.bool false)], args := [d1, d2] }
  | _ => none }
def XmatDetsWrongFalsely : Prop := xmatDetsRow.holds Try.pinned (OpenSpec.ofChange xmatDetsWrong)

/-- 'quincunxlaw22.HessChars': WHATEVER THE INPUT: true; the input reads as it did. -/
def hessCharsSpec : ChangeSpec := { name := "hessChars", fn := fun _ => fun
  | [d1, d2] => { results := [.lit (.bool true)], args := [d1, d2] }
  | _ => none }
def hessCharsRow : OpenClaim := { program := "ythghdjpjbngllaa", sum := "a07bbddc443b5dda7887f6b78a49f12c6c5cd94085f19c194d4cabcb94cb7c12", func := "quincunx/quincunxlaw22.HessChars", spec := "hessChars", unfollowed := true, recurses := true, apart := false }
def HessCharsSaid : Prop := hessCharsRow.holds Try.pinned (OpenSpec.ofChange hessCharsSpec)

/-- ITS FALSE NEIGHBOUR: 'it returns false'. Refute it at one input. -/
def hessCharsWrong : ChangeSpec := { name := "hessChars", fn := fun _ => fun
  | [d1, d2] => { results := [.lit (.bool false)], args := [d1, d2] }
  | _ => none }
def HessCharsWrongFalsely : Prop := hessCharsRow.holds Try.pinned (OpenSpec.ofChange hessCharsWrong)

/-- 'quincunxlaw22.HessForms': WHATEVER THE INPUT: true; the input reads as it did. -/
def hessFormsSpec : ChangeSpec := { name := "hessForms", fn := fun _ => fun
  | [d1, d2] => { results := [.lit (.bool true)], args := [d1, d2] }
  | _ => none }
def hessFormsRow : OpenClaim := { program := "ythghdjpjbngllaa", sum := "a07bbddc443b5dda7887f6b78a49f12c6c5cd94085f19c194d4cabcb94cb7c12", func := "quincunx/quincunxlaw22.HessForms", spec := "hessForms", unfollowed := true, recurses := true, apart := false }
def HessFormsSaid : Prop := hessFormsRow.holds Try.pinned (OpenSpec.ofChange hessFormsSpec)

/-- ITS FALSE NEIGHBOUR: 'it returns false'. Refute it at one input. -/
def hessFormsWrong : ChangeSpec := { name := "hessForms", fn := fun _ => fun
  | [d1, d2] => { results := [.lit (.bool false)], args := [d1, d2] }
  | _ => none }
def HessFormsWrongFalsely : Prop := hessFormsRow.holds Try.pinned (OpenSpec.ofChange hessFormsWrong)

/-- 'quincunxlaw23.XmatEvals': WHATEVER THE INPUT: true; the input reads as it did. -/
def xmatEvalsSpec : ChangeSpec := { name := "xmatEvals", fn := fun _ => fun
  | [d1, d2, d3] => { results := [.lit (.bool true)], args := [d1, d2, d3] }
  | _ => none }
def xmatEvalsRow : OpenClaim := { program := "ythghdjpjbngllaa", sum := "a07bbddc443b5dda7887f6b78a49f12c6c5cd94085f19c194d4cabcb94cb7c12", func := "quincunx/quincunxlaw23.XmatEvals", spec := "xmatEvals", unfollowed := true, recurses := true, apart := false }
def XmatEvalsSaid : Prop := xmatEvalsRow.holds Try.pinned (OpenSpec.ofChange xmatEvalsSpec)

/-- ITS FALSE NEIGHBOUR: 'it returns false'. Refute it at one input. -/
def xmatEvalsWrong : ChangeSpec := { name := "xmatEvals", fn := fun _ => fun
  | [d1, d2, d3] => { results := [.lit (.bool false)], args := [d1, d2, d3] }
  | _ => none }
def XmatEvalsWrongFalsely : Prop := xmatEvalsRow.holds Try.pinned (OpenSpec.ofChange xmatEvalsWrong)

/-- 'quincunxlaw23.XmatReckons': WHATEVER THE INPUT: true; the input reads as it did. -/
def xmatReckonsSpec : ChangeSpec := { name := "xmatReckons", fn := fun _ => fun
  | [d1, d2, d3] => { results := [.lit (.bool true)], args := [d1, d2, d3] }
  | _ => none }
def xmatReckonsRow : OpenClaim := { program := "ythghdjpjbngllaa", sum := "a07bbddc443b5dda7887f6b78a49f12c6c5cd94085f19c194d4cabcb94cb7c12", func := "quincunx/quincunxlaw23.XmatReckons", spec := "xmatReckons", unfollowed := true, recurses := true, apart := false }
def XmatReckonsSaid : Prop := xmatReckonsRow.holds Try.pinned (OpenSpec.ofChange xmatReckonsSpec)

/-- ITS FALSE NEIGHBOUR: 'it returns false'. Refute it at one input. -/
def xmatReckonsWrong : ChangeSpec := { name := "xmatReckons", fn := fun _ => fun
  | [d1, d2, d3] => { results := [.lit (.bool false)], args := [d1, d2, d3] }
  | _ => none }
def XmatReckonsWrongFalsely : Prop := xmatReckonsRow.holds Try.pinned (OpenSpec.ofChange xmatReckonsWrong)

/-- 'quincunxlaw22.HessEvals': WHATEVER THE INPUT: true; the input reads as it did. -/
def hessEvalsSpec : ChangeSpec := { name := "hessEvals", fn := fun _ => fun
  | [d1, d2, d3] => { results := [.lit (.bool true)], args := [d1, d2, d3] }
  | _ => none }
def hessEvalsRow : OpenClaim := { program := "ythghdjpjbngllaa", sum := "a07bbddc443b5dda7887f6b78a49f12c6c5cd94085f19c194d4cabcb94cb7c12", func := "quincunx/quincunxlaw22.HessEvals", spec := "hessEvals", unfollowed := true, recurses := true, apart := false }
def HessEvalsSaid : Prop := hessEvalsRow.holds Try.pinned (OpenSpec.ofChange hessEvalsSpec)

/-- ITS FALSE NEIGHBOUR: 'it returns false'. Refute it at one input. -/
def hessEvalsWrong : ChangeSpec := { name := "hessEvals", fn := fun _ => fun
  | [d1, d2, d3] => { results := [.lit (.bool false)], args := [d1, d2, d3] }
  | _ => none }
def HessEvalsWrongFalsely : Prop := hessEvalsRow.holds Try.pinned (OpenSpec.ofChange hessEvalsWrong)

/-- 'quincunxlaw23.XmatProducts': WHATEVER THE INPUT: true; the input reads as it did. -/
def xmatProductsSpec : ChangeSpec := { name := "xmatProducts", fn := fun _ => fun
  | [d1, d2, d3] => { results := [.lit (.bool true)], args := [d1, d2, d3] }
  | _ => none }
def xmatProductsRow : OpenClaim := { program := "ythghdjpjbngllaa", sum := "a07bbddc443b5dda7887f6b78a49f12c6c5cd94085f19c194d4cabcb94cb7c12", func := "quincunx/quincunxlaw23.XmatProducts", spec := "xmatProducts", unfollowed := true, recurses := true, apart := false }
def XmatProductsSaid : Prop := xmatProductsRow.holds Try.pinned (OpenSpec.ofChange xmatProductsSpec)

/-- ITS FALSE NEIGHBOUR: 'it returns false'. Refute it at one input. -/
def xmatProductsWrong : ChangeSpec := { name := "xmatProducts", fn := fun _ => fun
  | [d1, d2, d3] => { results := [.lit (.bool false)], args := [d1, d2, d3] }
  | _ => none }
def XmatProductsWrongFalsely : Prop := xmatProductsRow.holds Try.pinned (OpenSpec.ofChange xmatProductsWrong)

/-- 'quincunxlaw23.XmatChars': WHATEVER THE INPUT: true; the input reads as it did. -/
def xmatCharsSpec : ChangeSpec := { name := "xmatChars", fn := fun _ => fun
  | [d1, d2] => { results := [.lit (.bool true)], args := [d1, d2] }
  | _ => none }
def xmatCharsRow : OpenClaim := { program := "ythghdjpjbngllaa", sum := "a07bbddc443b5dda7887f6b78a49f12c6c5cd94085f19c194d4cabcb94cb7c12", func := "quincunx/quincunxlaw23.XmatChars", spec := "xmatChars", unfollowed := true, recurses := true, apart := false }
def XmatCharsSaid : Prop := xmatCharsRow.holds Try.pinned (OpenSpec.ofChange xmatCharsSpec)

/-- ITS FALSE NEIGHBOUR: 'it returns false'. Refute it at one input. -/
def xmatCharsWrong : ChangeSpec := { name := "xmatChars", fn := fun _ => fun
  | [d1, d2] => { results := [.lit (.bool false)], args := [d1, d2] }
  | _ => none }
def XmatCharsWrongFalsely : Prop := xmatCharsRow.holds Try.pinned (OpenSpec.ofChange xmatCharsWrong)

/-- 'quincunxlaw22.HessCayley': WHATEVER THE INPUT: true; the input reads as it did. -/
def hessCayleySpec : ChangeSpec := { name := "hessCayley", fn := fun _ => fun
  | [d1, d2] => { results := [.lit (.bool true)], args := [d1, d2] }
  | _ => none }
def hessCayleyRow : OpenClaim := { program := "ythghdjpjbngllaa", sum := "a07bbddc443b5dda7887f6b78a49f12c6c5cd94085f19c194d4cabcb94cb7c12", func := "quincunx/quincunxlaw22.HessCayley", spec := "hessCayley", unfollowed := true, recurses := true, apart := false }
def HessCayleySaid : Prop := hessCayleyRow.holds Try.pinned (OpenSpec.ofChange hessCayleySpec)

/-- ITS FALSE NEIGHBOUR: 'it returns false'. Refute it at one input. -/
def hessCayleyWrong : ChangeSpec := { name := "hessCayley", fn := fun _ => fun
  | [d1, d2] => { results := [.lit (.bool false)], args := [d1, d2] }
  | _ => none }
def HessCayleyWrongFalsely : Prop := hessCayleyRow.holds Try.pinned (OpenSpec.ofChange hessCayleyWrong)

/-- 'quincunxlaw22.HessCompanions': WHATEVER THE INPUT: true; the input reads as it did. -/
def hessCompanionsSpec : ChangeSpec := { name := "hessCompanions", fn := fun _ => fun
  | [d1, d2] => { results := [.lit (.bool true)], args := [d1, d2] }
  | _ => none }
def hessCompanionsRow : OpenClaim := { program := "ythghdjpjbngllaa", sum := "a07bbddc443b5dda7887f6b78a49f12c6c5cd94085f19c194d4cabcb94cb7c12", func := "quincunx/quincunxlaw22.HessCompanions", spec := "hessCompanions", unfollowed := true, recurses := true, apart := false }
def HessCompanionsSaid : Prop := hessCompanionsRow.holds Try.pinned (OpenSpec.ofChange hessCompanionsSpec)

/-- ITS FALSE NEIGHBOUR: 'it returns false'. Refute it at one input. -/
def hessCompanionsWrong : ChangeSpec := { name := "hessCompanions", fn := fun _ => fun
  | [d1, d2] => { results := [.lit (.bool false)], args := [d1, d2] }
  | _ => none }
def HessCompanionsWrongFalsely : Prop := hessCompanionsRow.holds Try.pinned (OpenSpec.ofChange hessCompanionsWrong)

/-- 'quincunxlaw22.HessMinimal': WHATEVER THE INPUT: true; the input reads as it did. -/
def hessMinimalSpec : ChangeSpec := { name := "hessMinimal", fn := fun _ => fun
  | [d1, d2] => { results := [.lit (.bool true)], args := [d1, d2] }
  | _ => none }
def hessMinimalRow : OpenClaim := { program := "ythghdjpjbngllaa", sum := "a07bbddc443b5dda7887f6b78a49f12c6c5cd94085f19c194d4cabcb94cb7c12", func := "quincunx/quincunxlaw22.HessMinimal", spec := "hessMinimal", unfollowed := true, recurses := true, apart := false }
def HessMinimalSaid : Prop := hessMinimalRow.holds Try.pinned (OpenSpec.ofChange hessMinimalSpec)

/-- ITS FALSE NEIGHBOUR: 'it returns false'. Refute it at one input. -/
def hessMinimalWrong : ChangeSpec := { name := "hessMinimal", fn := fun _ => fun
  | [d1, d2] => { results := [.lit (.bool false)], args := [d1, d2] }
  | _ => none }
def HessMinimalWrongFalsely : Prop := hessMinimalRow.holds Try.pinned (OpenSpec.ofChange hessMinimalWrong)

/-- 'quincunxlaw22.HessOrders': WHATEVER THE INPUT: true; the input reads as it did. -/
def hessOrdersSpec : ChangeSpec := { name := "hessOrders", fn := fun _ => fun
  | [d1, d2, d3] => { results := [.lit (.bool true)], args := [d1, d2, d3] }
  | _ => none }
def hessOrdersRow : OpenClaim := { program := "ythghdjpjbngllaa", sum := "a07bbddc443b5dda7887f6b78a49f12c6c5cd94085f19c194d4cabcb94cb7c12", func := "quincunx/quincunxlaw22.HessOrders", spec := "hessOrders", unfollowed := true, recurses := true, apart := false }
def HessOrdersSaid : Prop := hessOrdersRow.holds Try.pinned (OpenSpec.ofChange hessOrdersSpec)

/-- ITS FALSE NEIGHBOUR: 'it returns false'. Refute it at one input. -/
def hessOrdersWrong : ChangeSpec := { name := "hessOrders", fn := fun _ => fun
  | [d1, d2, d3] => { results := [.lit (.bool false)], args := [d1, d2, d3] }
  | _ => none }
def HessOrdersWrongFalsely : Prop := hessOrdersRow.holds Try.pinned (OpenSpec.ofChange hessOrdersWrong)

/- THE SECOND FORM. 'bulk': how many values and letters a reading holds, each counted each time it is reached (what is shared counts as often as it is met; a slice's spare places count too). A statement '..UptoSaid' is the law's where the arguments, and the package variables that the reading takes, are together of bulk at most 1048576: NARROWER than '..Said'. Prove '..Said' where nothing that the law and all that it calls make is longer than what came in: it says more and counts as full. Else prove '..UptoSaid'. A law counts once. -/
mutual
def uptoBulk {H : Type} : DataW H → Nat
  | .lit (.string bytes) => bytes.length + 1
  | .lit _ => 1
  | .nil => 1
  | .ptr d => uptoBulk d + 1
  | .slice elems spare => uptoBulkAll elems + uptoBulkAll spare + 1
  | .agg parts => uptoBulkAll parts + 1
  | .iface _ d => uptoBulk d + 1
  | .map entries => uptoBulkEntries entries + 1
  | .held _ => 1
def uptoBulkAll {H : Type} : List (DataW H) → Nat
  | [] => 0
  | d :: r => uptoBulk d + uptoBulkAll r
def uptoBulkEntries {H : Type} : List (Lit × DataW H) → Nat
  | [] => 0
  | x :: r => uptoBulkEntry x + uptoBulkEntries r
def uptoBulkEntry {H : Type} : Lit × DataW H → Nat
  | (.string bytes, d) => bytes.length + uptoBulk d + 1
  | (_, d) => uptoBulk d + 1
 end
def uptoSmall : (H : Type) → List (DataW H) → Bool := fun _ ds => decide (uptoBulkAll ds ≤ 1048576)
def OpenSpec.upto (s : _root_.Go.ChangeSpec) : _root_.Go.OpenSpec := { _root_.Go.OpenSpec.ofChange s with cond := some uptoSmall }

/-- 'quincunxlaw23.XmatDets', WHERE WHAT IT READS IS OF BULK AT MOST 1048576: true; the input reads as it did. -/
def xmatDetsUptoRow : OpenClaim := { program := "ythghdjpjbngllaa", sum := "a07bbddc443b5dda7887f6b78a49f12c6c5cd94085f19c194d4cabcb94cb7c12", func := "quincunx/quincunxlaw23.XmatDets", spec := "xmatDets", unfollowed := true, recurses := true, apart := false, narrowed := true }
def XmatDetsUptoSaid : Prop := xmatDetsUptoRow.holds Try.pinned (OpenSpec.upto xmatDetsSpec)

/-- 'quincunxlaw22.HessChars', WHERE WHAT IT READS IS OF BULK AT MOST 1048576: true; the input reads as it did. -/
def hessCharsUptoRow : OpenClaim := { program := "ythghdjpjbngllaa", sum := "a07bbddc443b5dda7887f6b78a49f12c6c5cd94085f19c194d4cabcb94cb7c12", func := "quincunx/quincunxlaw22.HessChars", spec := "hessChars", unfollowed := true, recurses := true, apart := false, narrowed := true }
def HessCharsUptoSaid : Prop := hessCharsUptoRow.holds Try.pinned (OpenSpec.upto hessCharsSpec)

/-- 'quincunxlaw22.HessForms', WHERE WHAT IT READS IS OF BULK AT MOST 1048576: true; the input reads as it did. -/
def hessFormsUptoRow : OpenClaim := { program := "ythghdjpjbngllaa", sum := "a07bbddc443b5dda7887f6b78a49f12c6c5cd94085f19c194d4cabcb94cb7c12", func := "quincunx/quincunxlaw22.HessForms", spec := "hessForms", unfollowed := true, recurses := true, apart := false, narrowed := true }
def HessFormsUptoSaid : Prop := hessFormsUptoRow.holds Try.pinned (OpenSpec.upto hessFormsSpec)

/-- 'quincunxlaw23.XmatEvals', WHERE WHAT IT READS IS OF BULK AT MOST 1048576: true; the input reads as it did. -/
def xmatEvalsUptoRow : OpenClaim := { program := "ythghdjpjbngllaa", sum := "a07bbddc443b5dda7887f6b78a49f12c6c5cd94085f19c194d4cabcb94cb7c12", func := "quincunx/quincunxlaw23.XmatEvals", spec := "xmatEvals", unfollowed := true, recurses := true, apart := false, narrowed := true }
def XmatEvalsUptoSaid : Prop := xmatEvalsUptoRow.holds Try.pinned (OpenSpec.upto xmatEvalsSpec)

/-- 'quincunxlaw23.XmatReckons', WHERE WHAT IT READS IS OF BULK AT MOST 1048576: true; the input reads as it did. -/
def xmatReckonsUptoRow : OpenClaim := { program := "ythghdjpjbngllaa", sum := "a07bbddc443b5dda7887f6b78a49f12c6c5cd94085f19c194d4cabcb94cb7c12", func := "quincunx/quincunxlaw23.XmatReckons", spec := "xmatReckons", unfollowed := true, recurses := true, apart := false, narrowed := true }
def XmatReckonsUptoSaid : Prop := xmatReckonsUptoRow.holds Try.pinned (OpenSpec.upto xmatReckonsSpec)

/-- 'quincunxlaw22.HessEvals', WHERE WHAT IT READS IS OF BULK AT MOST 1048576: true; the input reads as it did. -/
def hessEvalsUptoRow : OpenClaim := { program := "ythghdjpjbngllaa", sum := "a07bbddc443b5dda7887f6b78a49f12c6c5cd94085f19c194d4cabcb94cb7c12", func := "quincunx/quincunxlaw22.HessEvals", spec := "hessEvals", unfollowed := true, recurses := true, apart := false, narrowed := true }
def HessEvalsUptoSaid : Prop := hessEvalsUptoRow.holds Try.pinned (OpenSpec.upto hessEvalsSpec)

/-- 'quincunxlaw23.XmatProducts', WHERE WHAT IT READS IS OF BULK AT MOST 1048576: true; the input reads as it did. -/
def xmatProductsUptoRow : OpenClaim := { program := "ythghdjpjbngllaa", sum := "a07bbddc443b5dda7887f6b78a49f12c6c5cd94085f19c194d4cabcb94cb7c12", func := "quincunx/quincunxlaw23.XmatProducts", spec := "xmatProducts", unfollowed := true, recurses := true, apart := false, narrowed := true }
def XmatProductsUptoSaid : Prop := xmatProductsUptoRow.holds Try.pinned (OpenSpec.upto xmatProductsSpec)

/-- 'quincunxlaw23.XmatChars', WHERE WHAT IT READS IS OF BULK AT MOST 1048576: true; the input reads as it did. -/
def xmatCharsUptoRow : OpenClaim := { program := "ythghdjpjbngllaa", sum := "a07bbddc443b5dda7887f6b78a49f12c6c5cd94085f19c194d4cabcb94cb7c12", func := "quincunx/quincunxlaw23.XmatChars", spec := "xmatChars", unfollowed := true, recurses := true, apart := false, narrowed := true }
def XmatCharsUptoSaid : Prop := xmatCharsUptoRow.holds Try.pinned (OpenSpec.upto xmatCharsSpec)

/-- 'quincunxlaw22.HessCayley', WHERE WHAT IT READS IS OF BULK AT MOST 1048576: true; the input reads as it did. -/
def hessCayleyUptoRow : OpenClaim := { program := "ythghdjpjbngllaa", sum := "a07bbddc443b5dda7887f6b78a49f12c6c5cd94085f19c194d4cabcb94cb7c12", func := "quincunx/quincunxlaw22.HessCayley", spec := "hessCayley", unfollowed := true, recurses := true, apart := false, narrowed := true }
def HessCayleyUptoSaid : Prop := hessCayleyUptoRow.holds Try.pinned (OpenSpec.upto hessCayleySpec)

/-- 'quincunxlaw22.HessCompanions', WHERE WHAT IT READS IS OF BULK AT MOST 1048576: true; the input reads as it did. -/
def hessCompanionsUptoRow : OpenClaim := { program := "ythghdjpjbngllaa", sum := "a07bbddc443b5dda7887f6b78a49f12c6c5cd94085f19c194d4cabcb94cb7c12", func := "quincunx/quincunxlaw22.HessCompanions", spec := "hessCompanions", unfollowed := true, recurses := true, apart := false, narrowed := true }
def HessCompanionsUptoSaid : Prop := hessCompanionsUptoRow.holds Try.pinned (OpenSpec.upto hessCompanionsSpec)

/-- 'quincunxlaw22.HessMinimal', WHERE WHAT IT READS IS OF BULK AT MOST 1048576: true; the input reads as it did. -/
def hessMinimalUptoRow : OpenClaim := { program := "ythghdjpjbngllaa", sum := "a07bbddc443b5dda7887f6b78a49f12c6c5cd94085f19c194d4cabcb94cb7c12", func := "quincunx/quincunxlaw22.HessMinimal", spec := "hessMinimal", unfollowed := true, recurses := true, apart := false, narrowed := true }
def HessMinimalUptoSaid : Prop := hessMinimalUptoRow.holds Try.pinned (OpenSpec.upto hessMinimalSpec)

/-- 'quincunxlaw22.HessOrders', WHERE WHAT IT READS IS OF BULK AT MOST 1048576: true; the input reads as it did. -/
def hessOrdersUptoRow : OpenClaim := { program := "ythghdjpjbngllaa", sum := "a07bbddc443b5dda7887f6b78a49f12c6c5cd94085f19c194d4cabcb94cb7c12", func := "quincunx/quincunxlaw22.HessOrders", spec := "hessOrders", unfollowed := true, recurses := true, apart := false, narrowed := true }
def HessOrdersUptoSaid : Prop := hessOrdersUptoRow.holds Try.pinned (OpenSpec.upto hessOrdersSpec)

end Rows
end Go.Proofs.Ythghdjpjbngllaa
