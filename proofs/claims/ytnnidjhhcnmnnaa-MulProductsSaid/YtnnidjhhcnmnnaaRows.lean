/-
  No cell of these rows narrows 'for every input' (looked for: loops, veiled, ifaces, maps, wideKeys, modest, calm, conditions, laid).
  DERIVED. THE GIVEN ROWS OF THIS SEAT. 12 by the template 'for every input the law returns true; each argument reads behind the call as it read before'; 0 by the template 'total and deterministic' (their statements: YtnnidjhhcnmnnaaTotals.lean).
  GIVEN WITH THE SEED: the statements are not yours to turn. If you find one false, say at which input.
  Laid BY PROGRAM, IN A SANDBOX (cutbox-rows.mjs): the forced cells as the released guide's own fill.sh prints them over the translation de88e463f391cd4b… (all of the seat's roots in one cut). By AI agents, Wed Nov 11 2026. No macro, syntax, notation, axiom, sorry.
-/
import Derived.Test.YtnnidjhhcnmnnaaChecked
import GoSem.Claim
import GoSem.ClaimJoined
import GoSem.ClaimMapViews
import Derived.JoinedTies
import Derived.KernelRfl
namespace Go.Proofs.Ytnnidjhhcnmnnaa
/- THE CELL 'sum', in the pinned program and in every row, IS THE sha256 OF THE DUMP (.gsa) THAT YtnnidjhhcnmnnaaProg.lean LOADS. Nothing in Lean hashes anything: it is a label: what it is worth is what the hold of that sum in a sandbox is worth. -/
noncomputable def Try.pinned : Pinned := { name := "ytnnidjhhcnmnnaa", sum := "de88e463f391cd4bf828a6fd27e820a79695949f0495355787b0c67a166f2520", checked := Try.checked }
namespace Rows
def none {H : Type} : Left H := { results := [], args := [] }

/-- 'quincunxlaw01.NatShifts': WHATEVER THE INPUT: true; the input reads as it did. -/
def natShiftsSpec : ChangeSpec := { name := "natShifts", fn := fun _ => fun
  | [d1, d2] => { results := [.lit (.bool true)], args := [d1, d2] }
  | _ => none }
def natShiftsRow : OpenClaim := { program := "ytnnidjhhcnmnnaa", sum := "de88e463f391cd4bf828a6fd27e820a79695949f0495355787b0c67a166f2520", func := "quincunx/quincunxlaw01.NatShifts", spec := "natShifts", inPlace := ["math/bits.Add64"], apart := false }
def NatShiftsSaid : Prop := natShiftsRow.holds Try.pinned (OpenSpec.ofChange natShiftsSpec)

/-- ITS FALSE NEIGHBOUR: 'it returns false'. Refute it at one input. -/
def natShiftsWrong : ChangeSpec := { name := "natShifts", fn := fun _ => fun
  | [d1, d2] => { results := [.lit (.bool false)], args := [d1, d2] }
  | _ => none }
def NatShiftsWrongFalsely : Prop := natShiftsRow.holds Try.pinned (OpenSpec.ofChange natShiftsWrong)

/-- 'quincunxlaw01.NatMuls': WHATEVER THE INPUT: true; the input reads as it did. -/
def natMulsSpec : ChangeSpec := { name := "natMuls", fn := fun _ => fun
  | [d1, d2, d3] => { results := [.lit (.bool true)], args := [d1, d2, d3] }
  | _ => none }
def natMulsRow : OpenClaim := { program := "ytnnidjhhcnmnnaa", sum := "de88e463f391cd4bf828a6fd27e820a79695949f0495355787b0c67a166f2520", func := "quincunx/quincunxlaw01.NatMuls", spec := "natMuls", inPlace := ["math/bits.Add64"], apart := false }
def NatMulsSaid : Prop := natMulsRow.holds Try.pinned (OpenSpec.ofChange natMulsSpec)

/-- ITS FALSE NEIGHBOUR: 'it returns false'. Refute it at one input. -/
def natMulsWrong : ChangeSpec := { name := "natMuls", fn := fun _ => fun
  | [d1, d2, d3] => { results := [.lit (.bool false)], args := [d1, d2, d3] }
  | _ => none }
def NatMulsWrongFalsely : Prop := natMulsRow.holds Try.pinned (OpenSpec.ofChange natMulsWrong)

/-- 'quincunxlaw01.NatAdds': WHATEVER THE INPUT: true; the input reads as it did. -/
def natAddsSpec : ChangeSpec := { name := "natAdds", fn := fun _ => fun
  | [d1, d2] => { results := [.lit (.bool true)], args := [d1, d2] }
  | _ => none }
def natAddsRow : OpenClaim := { program := "ytnnidjhhcnmnnaa", sum := "de88e463f391cd4bf828a6fd27e820a79695949f0495355787b0c67a166f2520", func := "quincunx/quincunxlaw01.NatAdds", spec := "natAdds", inPlace := ["math/bits.Add64", "math/bits.Sub64"], apart := false }
def NatAddsSaid : Prop := natAddsRow.holds Try.pinned (OpenSpec.ofChange natAddsSpec)

/-- ITS FALSE NEIGHBOUR: 'it returns false'. Refute it at one input. -/
def natAddsWrong : ChangeSpec := { name := "natAdds", fn := fun _ => fun
  | [d1, d2] => { results := [.lit (.bool false)], args := [d1, d2] }
  | _ => none }
def NatAddsWrongFalsely : Prop := natAddsRow.holds Try.pinned (OpenSpec.ofChange natAddsWrong)

/-- 'quincunxlaw01.NatRing': WHATEVER THE INPUT: true; the input reads as it did. -/
def natRingSpec : ChangeSpec := { name := "natRing", fn := fun _ => fun
  | [d1, d2, d3] => { results := [.lit (.bool true)], args := [d1, d2, d3] }
  | _ => none }
def natRingRow : OpenClaim := { program := "ytnnidjhhcnmnnaa", sum := "de88e463f391cd4bf828a6fd27e820a79695949f0495355787b0c67a166f2520", func := "quincunx/quincunxlaw01.NatRing", spec := "natRing", inPlace := ["math/bits.Add64"], apart := false }
def NatRingSaid : Prop := natRingRow.holds Try.pinned (OpenSpec.ofChange natRingSpec)

/-- ITS FALSE NEIGHBOUR: 'it returns false'. Refute it at one input. -/
def natRingWrong : ChangeSpec := { name := "natRing", fn := fun _ => fun
  | [d1, d2, d3] => { results := [.lit (.bool false)], args := [d1, d2, d3] }
  | _ => none }
def NatRingWrongFalsely : Prop := natRingRow.holds Try.pinned (OpenSpec.ofChange natRingWrong)

/-- 'quincunxlaw01.NatOrder': WHATEVER THE INPUT: true; the input reads as it did. -/
def natOrderSpec : ChangeSpec := { name := "natOrder", fn := fun _ => fun
  | [d1, d2, d3] => { results := [.lit (.bool true)], args := [d1, d2, d3] }
  | _ => none }
def natOrderRow : OpenClaim := { program := "ytnnidjhhcnmnnaa", sum := "de88e463f391cd4bf828a6fd27e820a79695949f0495355787b0c67a166f2520", func := "quincunx/quincunxlaw01.NatOrder", spec := "natOrder", inPlace := ["math/bits.Add64", "math/bits.Sub64"], apart := false }
def NatOrderSaid : Prop := natOrderRow.holds Try.pinned (OpenSpec.ofChange natOrderSpec)

/-- ITS FALSE NEIGHBOUR: 'it returns false'. Refute it at one input. -/
def natOrderWrong : ChangeSpec := { name := "natOrder", fn := fun _ => fun
  | [d1, d2, d3] => { results := [.lit (.bool false)], args := [d1, d2, d3] }
  | _ => none }
def NatOrderWrongFalsely : Prop := natOrderRow.holds Try.pinned (OpenSpec.ofChange natOrderWrong)

/-- 'quincunxlaw01.NatOwn': WHATEVER THE INPUT: true; the input reads as it did. -/
def natOwnSpec : ChangeSpec := { name := "natOwn", fn := fun _ => fun
  | [d1, d2, d3] => { results := [.lit (.bool true)], args := [d1, d2, d3] }
  | _ => none }
def natOwnRow : OpenClaim := { program := "ytnnidjhhcnmnnaa", sum := "de88e463f391cd4bf828a6fd27e820a79695949f0495355787b0c67a166f2520", func := "quincunx/quincunxlaw01.NatOwn", spec := "natOwn", inPlace := ["math/bits.Add64", "math/bits.Sub64"], apart := false }
def NatOwnSaid : Prop := natOwnRow.holds Try.pinned (OpenSpec.ofChange natOwnSpec)

/-- ITS FALSE NEIGHBOUR: 'it returns false'. Refute it at one input. -/
def natOwnWrong : ChangeSpec := { name := "natOwn", fn := fun _ => fun
  | [d1, d2, d3] => { results := [.lit (.bool false)], args := [d1, d2, d3] }
  | _ => none }
def NatOwnWrongFalsely : Prop := natOwnRow.holds Try.pinned (OpenSpec.ofChange natOwnWrong)

/-- 'quincunxlaw02.MulMuls': WHATEVER THE INPUT: true; the input reads as it did. -/
def mulMulsSpec : ChangeSpec := { name := "mulMuls", fn := fun _ => fun
  | [d1, d2] => { results := [.lit (.bool true)], args := [d1, d2] }
  | _ => none }
def mulMulsRow : OpenClaim := { program := "ytnnidjhhcnmnnaa", sum := "de88e463f391cd4bf828a6fd27e820a79695949f0495355787b0c67a166f2520", func := "quincunx/quincunxlaw02.MulMuls", spec := "mulMuls", inPlace := ["math/bits.Add64", "math/bits.Sub64"], unfollowed := true, recurses := true, apart := false }
def MulMulsSaid : Prop := mulMulsRow.holds Try.pinned (OpenSpec.ofChange mulMulsSpec)

/-- ITS FALSE NEIGHBOUR: 'it returns false'. Refute it at one input. -/
def mulMulsWrong : ChangeSpec := { name := "mulMuls", fn := fun _ => fun
  | [d1, d2] => { results := [.lit (.bool false)], args := [d1, d2] }
  | _ => none }
def MulMulsWrongFalsely : Prop := mulMulsRow.holds Try.pinned (OpenSpec.ofChange mulMulsWrong)

/-- 'quincunxlaw02.MulSame': WHATEVER THE INPUT: true; the input reads as it did. -/
def mulSameSpec : ChangeSpec := { name := "mulSame", fn := fun _ => fun
  | [d1, d2] => { results := [.lit (.bool true)], args := [d1, d2] }
  | _ => none }
def mulSameRow : OpenClaim := { program := "ytnnidjhhcnmnnaa", sum := "de88e463f391cd4bf828a6fd27e820a79695949f0495355787b0c67a166f2520", func := "quincunx/quincunxlaw02.MulSame", spec := "mulSame", inPlace := ["math/bits.Add64", "math/bits.Sub64"], unfollowed := true, recurses := true, apart := false }
def MulSameSaid : Prop := mulSameRow.holds Try.pinned (OpenSpec.ofChange mulSameSpec)

/-- ITS FALSE NEIGHBOUR: 'it returns false'. Refute it at one input. -/
def mulSameWrong : ChangeSpec := { name := "mulSame", fn := fun _ => fun
  | [d1, d2] => { results := [.lit (.bool false)], args := [d1, d2] }
  | _ => none }
def MulSameWrongFalsely : Prop := mulSameRow.holds Try.pinned (OpenSpec.ofChange mulSameWrong)

/-- 'quincunxlaw02.MulPowers': WHATEVER THE INPUT: true; the input reads as it did. -/
def mulPowersSpec : ChangeSpec := { name := "mulPowers", fn := fun _ => fun
  | [d1, d2] => { results := [.lit (.bool true)], args := [d1, d2] }
  | _ => none }
def mulPowersRow : OpenClaim := { program := "ytnnidjhhcnmnnaa", sum := "de88e463f391cd4bf828a6fd27e820a79695949f0495355787b0c67a166f2520", func := "quincunx/quincunxlaw02.MulPowers", spec := "mulPowers", inPlace := ["math/bits.Add64", "math/bits.Sub64"], unfollowed := true, recurses := true, apart := false }
def MulPowersSaid : Prop := mulPowersRow.holds Try.pinned (OpenSpec.ofChange mulPowersSpec)

/-- ITS FALSE NEIGHBOUR: 'it returns false'. Refute it at one input. -/
def mulPowersWrong : ChangeSpec := { name := "mulPowers", fn := fun _ => fun
  | [d1, d2] => { results := [.lit (.bool false)], args := [d1, d2] }
  | _ => none }
def MulPowersWrongFalsely : Prop := mulPowersRow.holds Try.pinned (OpenSpec.ofChange mulPowersWrong)

/-- 'quincunxlaw02.MulRules': WHATEVER THE INPUT: true; the input reads as it did. -/
def mulRulesSpec : ChangeSpec := { name := "mulRules", fn := fun _ => fun
  | [d1, d2, d3] => { results := [.lit (.bool true)], args := [d1, d2, d3] }
  | _ => none }
def mulRulesRow : OpenClaim := { program := "ytnnidjhhcnmnnaa", sum := "de88e463f391cd4bf828a6fd27e820a79695949f0495355787b0c67a166f2520", func := "quincunx/quincunxlaw02.MulRules", spec := "mulRules", inPlace := ["math/bits.Add64", "math/bits.Sub64"], unfollowed := true, recurses := true, apart := false }
def MulRulesSaid : Prop := mulRulesRow.holds Try.pinned (OpenSpec.ofChange mulRulesSpec)

/-- ITS FALSE NEIGHBOUR: 'it returns false'. Refute it at one input. -/
def mulRulesWrong : ChangeSpec := { name := "mulRules", fn := fun _ => fun
  | [d1, d2, d3] => { results := [.lit (.bool false)], args := [d1, d2, d3] }
  | _ => none }
def MulRulesWrongFalsely : Prop := mulRulesRow.holds Try.pinned (OpenSpec.ofChange mulRulesWrong)

/-- 'quincunxlaw02.MulProducts': WHATEVER THE INPUT: true; the input reads as it did. -/
def mulProductsSpec : ChangeSpec := { name := "mulProducts", fn := fun _ => fun
  | [d] => { results := [.lit (.bool true)], args := [d] }
  | _ => none }
def mulProductsRow : OpenClaim := { program := "ytnnidjhhcnmnnaa", sum := "de88e463f391cd4bf828a6fd27e820a79695949f0495355787b0c67a166f2520", func := "quincunx/quincunxlaw02.MulProducts", spec := "mulProducts", inPlace := ["math/bits.Add64", "math/bits.Sub64"], unfollowed := true, recurses := true, apart := false }
def MulProductsSaid : Prop := mulProductsRow.holds Try.pinned (OpenSpec.ofChange mulProductsSpec)

/-- ITS FALSE NEIGHBOUR: 'it returns false'. Refute it at one input. -/
def mulProductsWrong : ChangeSpec := { name := "mulProducts", fn := fun _ => fun
  | [d] => { results := [.lit (.bool false)], args := [d] }
  | _ => none }
def MulProductsWrongFalsely : Prop := mulProductsRow.holds Try.pinned (OpenSpec.ofChange mulProductsWrong)

/-- 'quincunxlaw02.MulOwn': WHATEVER THE INPUT: true; the input reads as it did. -/
def mulOwnSpec : ChangeSpec := { name := "mulOwn", fn := fun _ => fun
  | [d1, d2] => { results := [.lit (.bool true)], args := [d1, d2] }
  | _ => none }
def mulOwnRow : OpenClaim := { program := "ytnnidjhhcnmnnaa", sum := "de88e463f391cd4bf828a6fd27e820a79695949f0495355787b0c67a166f2520", func := "quincunx/quincunxlaw02.MulOwn", spec := "mulOwn", inPlace := ["math/bits.Add64", "math/bits.Sub64"], unfollowed := true, recurses := true, apart := false }
def MulOwnSaid : Prop := mulOwnRow.holds Try.pinned (OpenSpec.ofChange mulOwnSpec)

/-- ITS FALSE NEIGHBOUR: 'it returns false'. Refute it at one input. -/
def mulOwnWrong : ChangeSpec := { name := "mulOwn", fn := fun _ => fun
  | [d1, d2] => { results := [.lit (.bool false)], args := [d1, d2] }
  | _ => none }
def MulOwnWrongFalsely : Prop := mulOwnRow.holds Try.pinned (OpenSpec.ofChange mulOwnWrong)

/- THE SECOND FORM. 'bulk': how many values and letters a reading holds, each counted each time it is reached (what is shared counts as often as it is met; a slice's spare places count too). A statement '..UptoSaid' is the law's where the arguments, and the package variables that the reading takes, are together of bulk at most 1048576: NARROWER than '..Said'. Prove '..Said' where nothing that the law and all that it calls make is longer than what came in: it says more and counts as full. Else prove '..UptoSaid'. A law counts once. -/
mutual
def uptoBulk {H : Type} : DataW H → Nat
  | .lit (.string bytes) => bytes.length + 1
  | .lit _ => 1
  | .nil => 1
  | .ptr d => uptoBulk d + 1
  | .slice elems spare => uptoBulkAll elems + uptoBulkAll spare + 1
  | .agg parts => uptoBulkAll parts + 1
  | .iface _ d => uptoBulk d + 1
  | .map entries => uptoBulkEntries entries + 1
  | .held _ => 1
def uptoBulkAll {H : Type} : List (DataW H) → Nat
  | [] => 0
  | d :: r => uptoBulk d + uptoBulkAll r
def uptoBulkEntries {H : Type} : List (Lit × DataW H) → Nat
  | [] => 0
  | x :: r => uptoBulkEntry x + uptoBulkEntries r
def uptoBulkEntry {H : Type} : Lit × DataW H → Nat
  | (.string bytes, d) => bytes.length + uptoBulk d + 1
  | (_, d) => uptoBulk d + 1
 end
def uptoSmall : (H : Type) → List (DataW H) → Bool := fun _ ds => decide (uptoBulkAll ds ≤ 1048576)
def OpenSpec.upto (s : _root_.Go.ChangeSpec) : _root_.Go.OpenSpec := { _root_.Go.OpenSpec.ofChange s with cond := some uptoSmall }

/-- 'quincunxlaw01.NatShifts', WHERE WHAT IT READS IS OF BULK AT MOST 1048576: true; the input reads as it did. -/
def natShiftsUptoRow : OpenClaim := { program := "ytnnidjhhcnmnnaa", sum := "de88e463f391cd4bf828a6fd27e820a79695949f0495355787b0c67a166f2520", func := "quincunx/quincunxlaw01.NatShifts", spec := "natShifts", inPlace := ["math/bits.Add64"], apart := false, narrowed := true }
def NatShiftsUptoSaid : Prop := natShiftsUptoRow.holds Try.pinned (OpenSpec.upto natShiftsSpec)

/-- 'quincunxlaw01.NatMuls', WHERE WHAT IT READS IS OF BULK AT MOST 1048576: true; the input reads as it did. -/
def natMulsUptoRow : OpenClaim := { program := "ytnnidjhhcnmnnaa", sum := "de88e463f391cd4bf828a6fd27e820a79695949f0495355787b0c67a166f2520", func := "quincunx/quincunxlaw01.NatMuls", spec := "natMuls", inPlace := ["math/bits.Add64"], apart := false, narrowed := true }
def NatMulsUptoSaid : Prop := natMulsUptoRow.holds Try.pinned (OpenSpec.upto natMulsSpec)

/-- 'quincunxlaw01.NatAdds', WHERE WHAT IT READS IS OF BULK AT MOST 1048576: true; the input reads as it did. -/
def natAddsUptoRow : OpenClaim := { program := "ytnnidjhhcnmnnaa", sum := "de88e463f391cd4bf828a6fd27e820a79695949f0495355787b0c67a166f2520", func := "quincunx/quincunxlaw01.NatAdds", spec := "natAdds", inPlace := ["math/bits.Add64", "math/bits.Sub64"], apart := false, narrowed := true }
def NatAddsUptoSaid : Prop := natAddsUptoRow.holds Try.pinned (OpenSpec.upto natAddsSpec)

/-- 'quincunxlaw01.NatRing', WHERE WHAT IT READS IS OF BULK AT MOST 1048576: true; the input reads as it did. -/
def natRingUptoRow : OpenClaim := { program := "ytnnidjhhcnmnnaa", sum := "de88e463f391cd4bf828a6fd27e820a79695949f0495355787b0c67a166f2520", func := "quincunx/quincunxlaw01.NatRing", spec := "natRing", inPlace := ["math/bits.Add64"], apart := false, narrowed := true }
def NatRingUptoSaid : Prop := natRingUptoRow.holds Try.pinned (OpenSpec.upto natRingSpec)

/-- 'quincunxlaw01.NatOrder', WHERE WHAT IT READS IS OF BULK AT MOST 1048576: true; the input reads as it did. -/
def natOrderUptoRow : OpenClaim := { program := "ytnnidjhhcnmnnaa", sum := "de88e463f391cd4bf828a6fd27e820a79695949f0495355787b0c67a166f2520", func := "quincunx/quincunxlaw01.NatOrder", spec := "natOrder", inPlace := ["math/bits.Add64", "math/bits.Sub64"], apart := false, narrowed := true }
def NatOrderUptoSaid : Prop := natOrderUptoRow.holds Try.pinned (OpenSpec.upto natOrderSpec)

/-- 'quincunxlaw01.NatOwn', WHERE WHAT IT READS IS OF BULK AT MOST 1048576: true; the input reads as it did. -/
def natOwnUptoRow : OpenClaim := { program := "ytnnidjhhcnmnnaa", sum := "de88e463f391cd4bf828a6fd27e820a79695949f0495355787b0c67a166f2520", func := "quincunx/quincunxlaw01.NatOwn", spec := "natOwn", inPlace := ["math/bits.Add64", "math/bits.Sub64"], apart := false, narrowed := true }
def NatOwnUptoSaid : Prop := natOwnUptoRow.holds Try.pinned (OpenSpec.upto natOwnSpec)

/-- 'quincunxlaw02.MulMuls', WHERE WHAT IT READS IS OF BULK AT MOST 1048576: true; the input reads as it did. -/
def mulMulsUptoRow : OpenClaim := { program := "ytnnidjhhcnmnnaa", sum := "de88e463f391cd4bf828a6fd27e820a79695949f0495355787b0c67a166f2520", func := "quincunx/quincunxlaw02.MulMuls", spec := "mulMuls", inPlace := ["math/bits.Add64", "math/bits.Sub64"], unfollowed := true, recurses := true, apart := false, narrowed := true }
def MulMulsUptoSaid : Prop := mulMulsUptoRow.holds Try.pinned (OpenSpec.upto mulMulsSpec)

/-- 'quincunxlaw02.MulSame', WHERE WHAT IT READS IS OF BULK AT MOST 1048576: true; the input reads as it did. -/
def mulSameUptoRow : OpenClaim := { program := "ytnnidjhhcnmnnaa", sum := "de88e463f391cd4bf828a6fd27e820a79695949f0495355787b0c67a166f2520", func := "quincunx/quincunxlaw02.MulSame", spec := "mulSame", inPlace := ["math/bits.Add64", "math/bits.Sub64"], unfollowed := true, recurses := true, apart := false, narrowed := true }
def MulSameUptoSaid : Prop := mulSameUptoRow.holds Try.pinned (OpenSpec.upto mulSameSpec)

/-- 'quincunxlaw02.MulPowers', WHERE WHAT IT READS IS OF BULK AT MOST 1048576: true; the input reads as it did. -/
def mulPowersUptoRow : OpenClaim := { program := "ytnnidjhhcnmnnaa", sum := "de88e463f391cd4bf828a6fd27e820a79695949f0495355787b0c67a166f2520", func := "quincunx/quincunxlaw02.MulPowers", spec := "mulPowers", inPlace := ["math/bits.Add64", "math/bits.Sub64"], unfollowed := true, recurses := true, apart := false, narrowed := true }
def MulPowersUptoSaid : Prop := mulPowersUptoRow.holds Try.pinned (OpenSpec.upto mulPowersSpec)

/-- 'quincunxlaw02.MulRules', WHERE WHAT IT READS IS OF BULK AT MOST 1048576: true; the input reads as it did. -/
def mulRulesUptoRow : OpenClaim := { program := "ytnnidjhhcnmnnaa", sum := "de88e463f391cd4bf828a6fd27e820a79695949f0495355787b0c67a166f2520", func := "quincunx/quincunxlaw02.MulRules", spec := "mulRules", inPlace := ["math/bits.Add64", "math/bits.Sub64"], unfollowed := true, recurses := true, apart := false, narrowed := true }
def MulRulesUptoSaid : Prop := mulRulesUptoRow.holds Try.pinned (OpenSpec.upto mulRulesSpec)

/-- 'quincunxlaw02.MulProducts', WHERE WHAT IT READS IS OF BULK AT MOST 1048576: true; the input reads as it did. -/
def mulProductsUptoRow : OpenClaim := { program := "ytnnidjhhcnmnnaa", sum := "de88e463f391cd4bf828a6fd27e820a79695949f0495355787b0c67a166f2520", func := "quincunx/quincunxlaw02.MulProducts", spec := "mulProducts", inPlace := ["math/bits.Add64", "math/bits.Sub64"], unfollowed := true, recurses := true, apart := false, narrowed := true }
def MulProductsUptoSaid : Prop := mulProductsUptoRow.holds Try.pinned (OpenSpec.upto mulProductsSpec)

/-- 'quincunxlaw02.MulOwn', WHERE WHAT IT READS IS OF BULK AT MOST 1048576: true; the input reads as it did. -/
def mulOwnUptoRow : OpenClaim := { program := "ytnnidjhhcnmnnaa", sum := "de88e463f391cd4bf828a6fd27e820a79695949f0495355787b0c67a166f2520", func := "quincunx/quincunxlaw02.MulOwn", spec := "mulOwn", inPlace := ["math/bits.Add64", "math/bits.Sub64"], unfollowed := true, recurses := true, apart := false, narrowed := true }
def MulOwnUptoSaid : Prop := mulOwnUptoRow.holds Try.pinned (OpenSpec.upto mulOwnSpec)

end Rows
end Go.Proofs.Ytnnidjhhcnmnnaa
