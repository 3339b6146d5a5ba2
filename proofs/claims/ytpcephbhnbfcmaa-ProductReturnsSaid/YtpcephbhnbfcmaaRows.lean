/-
  NARROWER THAN 'FOR EVERY INPUT', by the rows' own cells (each row's printed sentence says how): ProductLays: loops · MaskLooks: loops · SumLays: loops · SumMoves: loops.
  DERIVED. THE GIVEN ROWS OF THIS SEAT. 15 by the template 'for every input the law returns true; each argument reads behind the call as it read before'; 0 by the template 'total and deterministic' (their statements: YtpcephbhnbfcmaaTotals.lean).
  GIVEN WITH THE SEED: the statements are not yours to turn. If you find one false, say at which input.
  Laid BY PROGRAM, IN A SANDBOX (cutbox-rows.mjs): the forced cells as the released guide's own fill.sh prints them over the translation 13d202b638e574c2… (all of the seat's roots in one cut). By AI agents, Wed Nov 11 2026. No macro, syntax, notation, axiom, sorry.
-/
import Derived.Test.YtpcephbhnbfcmaaChecked
import GoSem.Claim
import GoSem.ClaimJoined
import GoSem.ClaimMapViews
import Derived.JoinedTies
import Derived.KernelRfl
namespace Go.Proofs.Ytpcephbhnbfcmaa
/- THE CELL 'sum', in the pinned program and in every row, IS THE sha256 OF THE DUMP (.gsa) THAT YtpcephbhnbfcmaaProg.lean LOADS. Nothing in Lean hashes anything: it is a label: what it is worth is what the hold of that sum in a sandbox is worth. -/
noncomputable def Try.pinned : Pinned := { name := "ytpcephbhnbfcmaa", sum := "13d202b638e574c20bdb7527a20905be0d165850ff0e497fbfd56a4970105f58", checked := Try.checked }
namespace Rows
def none {H : Type} : Left H := { results := [], args := [] }

/-- 'libevolutionlaw16.ProductLays': WHATEVER THE INPUT: true; the input reads as it did. -/
def productLaysSpec : ChangeSpec := { name := "productLays", fn := fun _ => fun
  | [d1, d2, d3, d4] => { results := [.lit (.bool true)], args := [d1, d2, d3, d4] }
  | _ => none }
def productLaysRow : OpenClaim := { program := "ytpcephbhnbfcmaa", sum := "13d202b638e574c20bdb7527a20905be0d165850ff0e497fbfd56a4970105f58", func := "libevolution/libevolutionlaw16.ProductLays", spec := "productLays", unfollowed := true, recurses := true, loops := true, apart := false }
def ProductLaysSaid : Prop := productLaysRow.holds Try.pinned (OpenSpec.ofChange productLaysSpec)

/-- ITS FALSE NEIGHBOUR: 'it returns false'. Refute it at one input. -/
def productLaysWrong : ChangeSpec := { name := "productLays", fn := fun _ => fun
  | [d1, d2, d3, d4] => { results := [.lit (.bool false)], args := [d1, d2, d3, d4] }
  | _ => none }
def ProductLaysWrongFalsely : Prop := productLaysRow.holds Try.pinned (OpenSpec.ofChange productLaysWrong)

/-- 'libevolutionlaw16.ProductSpares': WHATEVER THE INPUT: true; the input reads as it did. -/
def productSparesSpec : ChangeSpec := { name := "productSpares", fn := fun _ => fun
  | [d] => { results := [.lit (.bool true)], args := [d] }
  | _ => none }
def productSparesRow : OpenClaim := { program := "ytpcephbhnbfcmaa", sum := "13d202b638e574c20bdb7527a20905be0d165850ff0e497fbfd56a4970105f58", func := "libevolution/libevolutionlaw16.ProductSpares", spec := "productSpares", unfollowed := true, recurses := true, apart := false }
def ProductSparesSaid : Prop := productSparesRow.holds Try.pinned (OpenSpec.ofChange productSparesSpec)

/-- ITS FALSE NEIGHBOUR: 'it returns false'. Refute it at one input. -/
def productSparesWrong : ChangeSpec := { name := "productSpares", fn := fun _ => fun
  | [d] => { results := [.lit (.bool false)], args := [d] }
  | _ => none }
def ProductSparesWrongFalsely : Prop := productSparesRow.holds Try.pinned (OpenSpec.ofChange productSparesWrong)

/-- 'libevolutionlaw16.ProductSingle': WHATEVER THE INPUT: true; the input reads as it did. -/
def productSingleSpec : ChangeSpec := { name := "productSingle", fn := fun _ => fun
  | [d] => { results := [.lit (.bool true)], args := [d] }
  | _ => none }
def productSingleRow : OpenClaim := { program := "ytpcephbhnbfcmaa", sum := "13d202b638e574c20bdb7527a20905be0d165850ff0e497fbfd56a4970105f58", func := "libevolution/libevolutionlaw16.ProductSingle", spec := "productSingle", unfollowed := true, recurses := true, apart := false }
def ProductSingleSaid : Prop := productSingleRow.holds Try.pinned (OpenSpec.ofChange productSingleSpec)

/-- ITS FALSE NEIGHBOUR: 'it returns false'. Refute it at one input. -/
def productSingleWrong : ChangeSpec := { name := "productSingle", fn := fun _ => fun
  | [d] => { results := [.lit (.bool false)], args := [d] }
  | _ => none }
def ProductSingleWrongFalsely : Prop := productSingleRow.holds Try.pinned (OpenSpec.ofChange productSingleWrong)

/-- 'libevolutionlaw17.SumReturns': WHATEVER THE INPUT: true; the input reads as it did. -/
def sumReturnsSpec : ChangeSpec := { name := "sumReturns", fn := fun _ => fun
  | [d] => { results := [.lit (.bool true)], args := [d] }
  | _ => none }
def sumReturnsRow : OpenClaim := { program := "ytpcephbhnbfcmaa", sum := "13d202b638e574c20bdb7527a20905be0d165850ff0e497fbfd56a4970105f58", func := "libevolution/libevolutionlaw17.SumReturns", spec := "sumReturns", inPlace := ["internal/bytealg.MakeNoZero"], unfollowed := true, recurses := true, apart := false }
def SumReturnsSaid : Prop := sumReturnsRow.holds Try.pinned (OpenSpec.ofChange sumReturnsSpec)

/-- ITS FALSE NEIGHBOUR: 'it returns false'. Refute it at one input. -/
def sumReturnsWrong : ChangeSpec := { name := "sumReturns", fn := fun _ => fun
  | [d] => { results := [.lit (.bool false)], args := [d] }
  | _ => none }
def SumReturnsWrongFalsely : Prop := sumReturnsRow.holds Try.pinned (OpenSpec.ofChange sumReturnsWrong)

/-- 'libevolutionlaw17.SumTags': WHATEVER THE INPUT: true; the input reads as it did. -/
def sumTagsSpec : ChangeSpec := { name := "sumTags", fn := fun _ => fun
  | [d1, d2] => { results := [.lit (.bool true)], args := [d1, d2] }
  | _ => none }
def sumTagsRow : OpenClaim := { program := "ytpcephbhnbfcmaa", sum := "13d202b638e574c20bdb7527a20905be0d165850ff0e497fbfd56a4970105f58", func := "libevolution/libevolutionlaw17.SumTags", spec := "sumTags", inPlace := ["internal/bytealg.MakeNoZero"], unfollowed := true, recurses := true, apart := false }
def SumTagsSaid : Prop := sumTagsRow.holds Try.pinned (OpenSpec.ofChange sumTagsSpec)

/-- ITS FALSE NEIGHBOUR: 'it returns false'. Refute it at one input. -/
def sumTagsWrong : ChangeSpec := { name := "sumTags", fn := fun _ => fun
  | [d1, d2] => { results := [.lit (.bool false)], args := [d1, d2] }
  | _ => none }
def SumTagsWrongFalsely : Prop := sumTagsRow.holds Try.pinned (OpenSpec.ofChange sumTagsWrong)

/-- 'libevolutionlaw15.MaskBits': WHATEVER THE INPUT: true; the input reads as it did. -/
def maskBitsSpec : ChangeSpec := { name := "maskBits", fn := fun _ => fun
  | [d1, d2] => { results := [.lit (.bool true)], args := [d1, d2] }
  | _ => none }
def maskBitsRow : OpenClaim := { program := "ytpcephbhnbfcmaa", sum := "13d202b638e574c20bdb7527a20905be0d165850ff0e497fbfd56a4970105f58", func := "libevolution/libevolutionlaw15.MaskBits", spec := "maskBits", apart := false }
def MaskBitsSaid : Prop := maskBitsRow.holds Try.pinned (OpenSpec.ofChange maskBitsSpec)

/-- ITS FALSE NEIGHBOUR: 'it returns false'. Refute it at one input. -/
def maskBitsWrong : ChangeSpec := { name := "maskBits", fn := fun _ => fun
  | [d1, d2] => { results := [.lit (.bool false)], args := [d1, d2] }
  | _ => none }
def MaskBitsWrongFalsely : Prop := maskBitsRow.holds Try.pinned (OpenSpec.ofChange maskBitsWrong)

/-- 'libevolutionlaw15.MaskNumbers': WHATEVER THE INPUT: true; the input reads as it did. -/
def maskNumbersSpec : ChangeSpec := { name := "maskNumbers", fn := fun _ => fun
  | [d1, d2, d3, d4] => { results := [.lit (.bool true)], args := [d1, d2, d3, d4] }
  | _ => none }
def maskNumbersRow : OpenClaim := { program := "ytpcephbhnbfcmaa", sum := "13d202b638e574c20bdb7527a20905be0d165850ff0e497fbfd56a4970105f58", func := "libevolution/libevolutionlaw15.MaskNumbers", spec := "maskNumbers", inPlace := ["internal/bytealg.MakeNoZero"], apart := false }
def MaskNumbersSaid : Prop := maskNumbersRow.holds Try.pinned (OpenSpec.ofChange maskNumbersSpec)

/-- ITS FALSE NEIGHBOUR: 'it returns false'. Refute it at one input. -/
def maskNumbersWrong : ChangeSpec := { name := "maskNumbers", fn := fun _ => fun
  | [d1, d2, d3, d4] => { results := [.lit (.bool false)], args := [d1, d2, d3, d4] }
  | _ => none }
def MaskNumbersWrongFalsely : Prop := maskNumbersRow.holds Try.pinned (OpenSpec.ofChange maskNumbersWrong)

/-- 'libevolutionlaw15.MaskFits': WHATEVER THE INPUT: true; the input reads as it did. -/
def maskFitsSpec : ChangeSpec := { name := "maskFits", fn := fun _ => fun
  | [d1, d2] => { results := [.lit (.bool true)], args := [d1, d2] }
  | _ => none }
def maskFitsRow : OpenClaim := { program := "ytpcephbhnbfcmaa", sum := "13d202b638e574c20bdb7527a20905be0d165850ff0e497fbfd56a4970105f58", func := "libevolution/libevolutionlaw15.MaskFits", spec := "maskFits", inPlace := ["internal/bytealg.MakeNoZero"], apart := false }
def MaskFitsSaid : Prop := maskFitsRow.holds Try.pinned (OpenSpec.ofChange maskFitsSpec)

/-- ITS FALSE NEIGHBOUR: 'it returns false'. Refute it at one input. -/
def maskFitsWrong : ChangeSpec := { name := "maskFits", fn := fun _ => fun
  | [d1, d2] => { results := [.lit (.bool false)], args := [d1, d2] }
  | _ => none }
def MaskFitsWrongFalsely : Prop := maskFitsRow.holds Try.pinned (OpenSpec.ofChange maskFitsWrong)

/-- 'libevolutionlaw15.MaskLooks': WHATEVER THE INPUT: true; the input reads as it did. -/
def maskLooksSpec : ChangeSpec := { name := "maskLooks", fn := fun _ => fun
  | [d1, d2, d3, d4, d5, d6] => { results := [.lit (.bool true)], args := [d1, d2, d3, d4, d5, d6] }
  | _ => none }
def maskLooksRow : OpenClaim := { program := "ytpcephbhnbfcmaa", sum := "13d202b638e574c20bdb7527a20905be0d165850ff0e497fbfd56a4970105f58", func := "libevolution/libevolutionlaw15.MaskLooks", spec := "maskLooks", inPlace := ["internal/bytealg.MakeNoZero"], loops := true, apart := false }
def MaskLooksSaid : Prop := maskLooksRow.holds Try.pinned (OpenSpec.ofChange maskLooksSpec)

/-- ITS FALSE NEIGHBOUR: 'it returns false'. Refute it at one input. -/
def maskLooksWrong : ChangeSpec := { name := "maskLooks", fn := fun _ => fun
  | [d1, d2, d3, d4, d5, d6] => { results := [.lit (.bool false)], args := [d1, d2, d3, d4, d5, d6] }
  | _ => none }
def MaskLooksWrongFalsely : Prop := maskLooksRow.holds Try.pinned (OpenSpec.ofChange maskLooksWrong)

/-- 'libevolutionlaw16.ProductReturns': WHATEVER THE INPUT: true; the input reads as it did. -/
def productReturnsSpec : ChangeSpec := { name := "productReturns", fn := fun _ => fun
  | [d] => { results := [.lit (.bool true)], args := [d] }
  | _ => none }
def productReturnsRow : OpenClaim := { program := "ytpcephbhnbfcmaa", sum := "13d202b638e574c20bdb7527a20905be0d165850ff0e497fbfd56a4970105f58", func := "libevolution/libevolutionlaw16.ProductReturns", spec := "productReturns", inPlace := ["internal/bytealg.MakeNoZero"], unfollowed := true, recurses := true, apart := false }
def ProductReturnsSaid : Prop := productReturnsRow.holds Try.pinned (OpenSpec.ofChange productReturnsSpec)

/-- ITS FALSE NEIGHBOUR: 'it returns false'. Refute it at one input. -/
def productReturnsWrong : ChangeSpec := { name := "productReturns", fn := fun _ => fun
  | [d] => { results := [.lit (.bool false)], args := [d] }
  | _ => none }
def ProductReturnsWrongFalsely : Prop := productReturnsRow.holds Try.pinned (OpenSpec.ofChange productReturnsWrong)

/-- 'libevolutionlaw17.SumLays': WHATEVER THE INPUT: true; the input reads as it did. -/
def sumLaysSpec : ChangeSpec := { name := "sumLays", fn := fun _ => fun
  | [d1, d2, d3, d4, d5] => { results := [.lit (.bool true)], args := [d1, d2, d3, d4, d5] }
  | _ => none }
def sumLaysRow : OpenClaim := { program := "ytpcephbhnbfcmaa", sum := "13d202b638e574c20bdb7527a20905be0d165850ff0e497fbfd56a4970105f58", func := "libevolution/libevolutionlaw17.SumLays", spec := "sumLays", inPlace := ["internal/bytealg.MakeNoZero"], unfollowed := true, recurses := true, loops := true, apart := false }
def SumLaysSaid : Prop := sumLaysRow.holds Try.pinned (OpenSpec.ofChange sumLaysSpec)

/-- ITS FALSE NEIGHBOUR: 'it returns false'. Refute it at one input. -/
def sumLaysWrong : ChangeSpec := { name := "sumLays", fn := fun _ => fun
  | [d1, d2, d3, d4, d5] => { results := [.lit (.bool false)], args := [d1, d2, d3, d4, d5] }
  | _ => none }
def SumLaysWrongFalsely : Prop := sumLaysRow.holds Try.pinned (OpenSpec.ofChange sumLaysWrong)

/-- 'libevolutionlaw17.SumSizes': WHATEVER THE INPUT: true; the input reads as it did. -/
def sumSizesSpec : ChangeSpec := { name := "sumSizes", fn := fun _ => fun
  | [d] => { results := [.lit (.bool true)], args := [d] }
  | _ => none }
def sumSizesRow : OpenClaim := { program := "ytpcephbhnbfcmaa", sum := "13d202b638e574c20bdb7527a20905be0d165850ff0e497fbfd56a4970105f58", func := "libevolution/libevolutionlaw17.SumSizes", spec := "sumSizes", inPlace := ["internal/bytealg.MakeNoZero"], unfollowed := true, recurses := true, apart := false }
def SumSizesSaid : Prop := sumSizesRow.holds Try.pinned (OpenSpec.ofChange sumSizesSpec)

/-- ITS FALSE NEIGHBOUR: 'it returns false'. Refute it at one input. -/
def sumSizesWrong : ChangeSpec := { name := "sumSizes", fn := fun _ => fun
  | [d] => { results := [.lit (.bool false)], args := [d] }
  | _ => none }
def SumSizesWrongFalsely : Prop := sumSizesRow.holds Try.pinned (OpenSpec.ofChange sumSizesWrong)

/-- 'libevolutionlaw17.SumSingle': WHATEVER THE INPUT: true; the input reads as it did. -/
def sumSingleSpec : ChangeSpec := { name := "sumSingle", fn := fun _ => fun
  | [d] => { results := [.lit (.bool true)], args := [d] }
  | _ => none }
def sumSingleRow : OpenClaim := { program := "ytpcephbhnbfcmaa", sum := "13d202b638e574c20bdb7527a20905be0d165850ff0e497fbfd56a4970105f58", func := "libevolution/libevolutionlaw17.SumSingle", spec := "sumSingle", inPlace := ["internal/bytealg.MakeNoZero"], unfollowed := true, recurses := true, apart := false }
def SumSingleSaid : Prop := sumSingleRow.holds Try.pinned (OpenSpec.ofChange sumSingleSpec)

/-- ITS FALSE NEIGHBOUR: 'it returns false'. Refute it at one input. -/
def sumSingleWrong : ChangeSpec := { name := "sumSingle", fn := fun _ => fun
  | [d] => { results := [.lit (.bool false)], args := [d] }
  | _ => none }
def SumSingleWrongFalsely : Prop := sumSingleRow.holds Try.pinned (OpenSpec.ofChange sumSingleWrong)

/-- 'libevolutionlaw17.SumNests': WHATEVER THE INPUT: true; the input reads as it did. -/
def sumNestsSpec : ChangeSpec := { name := "sumNests", fn := fun _ => fun
  | [d] => { results := [.lit (.bool true)], args := [d] }
  | _ => none }
def sumNestsRow : OpenClaim := { program := "ytpcephbhnbfcmaa", sum := "13d202b638e574c20bdb7527a20905be0d165850ff0e497fbfd56a4970105f58", func := "libevolution/libevolutionlaw17.SumNests", spec := "sumNests", inPlace := ["internal/bytealg.MakeNoZero"], unfollowed := true, recurses := true, apart := false }
def SumNestsSaid : Prop := sumNestsRow.holds Try.pinned (OpenSpec.ofChange sumNestsSpec)

/-- ITS FALSE NEIGHBOUR: 'it returns false'. Refute it at one input. -/
def sumNestsWrong : ChangeSpec := { name := "sumNests", fn := fun _ => fun
  | [d] => { results := [.lit (.bool false)], args := [d] }
  | _ => none }
def SumNestsWrongFalsely : Prop := sumNestsRow.holds Try.pinned (OpenSpec.ofChange sumNestsWrong)

/-- 'libevolutionlaw17.SumMoves': WHATEVER THE INPUT: true; the input reads as it did. -/
def sumMovesSpec : ChangeSpec := { name := "sumMoves", fn := fun _ => fun
  | [d1, d2, d3, d4] => { results := [.lit (.bool true)], args := [d1, d2, d3, d4] }
  | _ => none }
def sumMovesRow : OpenClaim := { program := "ytpcephbhnbfcmaa", sum := "13d202b638e574c20bdb7527a20905be0d165850ff0e497fbfd56a4970105f58", func := "libevolution/libevolutionlaw17.SumMoves", spec := "sumMoves", inPlace := ["internal/bytealg.MakeNoZero"], unfollowed := true, recurses := true, loops := true, apart := false }
def SumMovesSaid : Prop := sumMovesRow.holds Try.pinned (OpenSpec.ofChange sumMovesSpec)

/-- ITS FALSE NEIGHBOUR: 'it returns false'. Refute it at one input. -/
def sumMovesWrong : ChangeSpec := { name := "sumMoves", fn := fun _ => fun
  | [d1, d2, d3, d4] => { results := [.lit (.bool false)], args := [d1, d2, d3, d4] }
  | _ => none }
def SumMovesWrongFalsely : Prop := sumMovesRow.holds Try.pinned (OpenSpec.ofChange sumMovesWrong)

/- THE SECOND FORM. 'bulk': how many values and letters a reading holds, each counted each time it is reached (what is shared counts as often as it is met; a slice's spare places count too). A statement '..UptoSaid' is the law's where the arguments, and the package variables that the reading takes, are together of bulk at most 1048576: NARROWER than '..Said'. Prove '..Said' where nothing that the law and all that it calls make is longer than what came in: it says more and counts as full. Else prove '..UptoSaid'. A law counts once. -/
mutual
def uptoBulk {H : Type} : DataW H → Nat
  | .lit (.string bytes) => bytes.length + 1
  | .lit _ => 1
  | .nil => 1
  | .ptr d => uptoBulk d + 1
  | .slice elems spare => uptoBulkAll elems + uptoBulkAll spare + 1
  | .agg parts => uptoBulkAll parts + 1
  | .iface _ d => uptoBulk d + 1
  | .map entries => uptoBulkEntries entries + 1
  | .held _ => 1
def uptoBulkAll {H : Type} : List (DataW H) → Nat
  | [] => 0
  | d :: r => uptoBulk d + uptoBulkAll r
def uptoBulkEntries {H : Type} : List (Lit × DataW H) → Nat
  | [] => 0
  | x :: r => uptoBulkEntry x + uptoBulkEntries r
def uptoBulkEntry {H : Type} : Lit × DataW H → Nat
  | (.string bytes, d) => bytes.length + uptoBulk d + 1
  | (_, d) => uptoBulk d + 1
 end
def uptoSmall : (H : Type) → List (DataW H) → Bool := fun _ ds => decide (uptoBulkAll ds ≤ 1048576)
def OpenSpec.upto (s : _root_.Go.ChangeSpec) : _root_.Go.OpenSpec := { _root_.Go.OpenSpec.ofChange s with cond := some uptoSmall }

/-- 'libevolutionlaw16.ProductLays', WHERE WHAT IT READS IS OF BULK AT MOST 1048576: true; the input reads as it did. -/
def productLaysUptoRow : OpenClaim := { program := "ytpcephbhnbfcmaa", sum := "13d202b638e574c20bdb7527a20905be0d165850ff0e497fbfd56a4970105f58", func := "libevolution/libevolutionlaw16.ProductLays", spec := "productLays", unfollowed := true, recurses := true, loops := true, apart := false, narrowed := true }
def ProductLaysUptoSaid : Prop := productLaysUptoRow.holds Try.pinned (OpenSpec.upto productLaysSpec)

/-- 'libevolutionlaw16.ProductSpares', WHERE WHAT IT READS IS OF BULK AT MOST 1048576: true; the input reads as it did. -/
def productSparesUptoRow : OpenClaim := { program := "ytpcephbhnbfcmaa", sum := "13d202b638e574c20bdb7527a20905be0d165850ff0e497fbfd56a4970105f58", func := "libevolution/libevolutionlaw16.ProductSpares", spec := "productSpares", unfollowed := true, recurses := true, apart := false, narrowed := true }
def ProductSparesUptoSaid : Prop := productSparesUptoRow.holds Try.pinned (OpenSpec.upto productSparesSpec)

/-- 'libevolutionlaw16.ProductSingle', WHERE WHAT IT READS IS OF BULK AT MOST 1048576: true; the input reads as it did. -/
def productSingleUptoRow : OpenClaim := { program := "ytpcephbhnbfcmaa", sum := "13d202b638e574c20bdb7527a20905be0d165850ff0e497fbfd56a4970105f58", func := "libevolution/libevolutionlaw16.ProductSingle", spec := "productSingle", unfollowed := true, recurses := true, apart := false, narrowed := true }
def ProductSingleUptoSaid : Prop := productSingleUptoRow.holds Try.pinned (OpenSpec.upto productSingleSpec)

/-- 'libevolutionlaw17.SumReturns', WHERE WHAT IT READS IS OF BULK AT MOST 1048576: true; the input reads as it did. -/
def sumReturnsUptoRow : OpenClaim := { program := "ytpcephbhnbfcmaa", sum := "13d202b638e574c20bdb7527a20905be0d165850ff0e497fbfd56a4970105f58", func := "libevolution/libevolutionlaw17.SumReturns", spec := "sumReturns", inPlace := ["internal/bytealg.MakeNoZero"], unfollowed := true, recurses := true, apart := false, narrowed := true }
def SumReturnsUptoSaid : Prop := sumReturnsUptoRow.holds Try.pinned (OpenSpec.upto sumReturnsSpec)

/-- 'libevolutionlaw17.SumTags', WHERE WHAT IT READS IS OF BULK AT MOST 1048576: true; the input reads as it did. -/
def sumTagsUptoRow : OpenClaim := { program := "ytpcephbhnbfcmaa", sum := "13d202b638e574c20bdb7527a20905be0d165850ff0e497fbfd56a4970105f58", func := "libevolution/libevolutionlaw17.SumTags", spec := "sumTags", inPlace := ["internal/bytealg.MakeNoZero"], unfollowed := true, recurses := true, apart := false, narrowed := true }
def SumTagsUptoSaid : Prop := sumTagsUptoRow.holds Try.pinned (OpenSpec.upto sumTagsSpec)

/-- 'libevolutionlaw15.MaskBits', WHERE WHAT IT READS IS OF BULK AT MOST 1048576: true; the input reads as it did. -/
def maskBitsUptoRow : OpenClaim := { program := "ytpcephbhnbfcmaa", sum := "13d202b638e574c20bdb7527a20905be0d165850ff0e497fbfd56a4970105f58", func := "libevolution/libevolutionlaw15.MaskBits", spec := "maskBits", apart := false, narrowed := true }
def MaskBitsUptoSaid : Prop := maskBitsUptoRow.holds Try.pinned (OpenSpec.upto maskBitsSpec)

/-- 'libevolutionlaw15.MaskNumbers', WHERE WHAT IT READS IS OF BULK AT MOST 1048576: true; the input reads as it did. -/
def maskNumbersUptoRow : OpenClaim := { program := "ytpcephbhnbfcmaa", sum := "13d202b638e574c20bdb7527a20905be0d165850ff0e497fbfd56a4970105f58", func := "libevolution/libevolutionlaw15.MaskNumbers", spec := "maskNumbers", inPlace := ["internal/bytealg.MakeNoZero"], apart := false, narrowed := true }
def MaskNumbersUptoSaid : Prop := maskNumbersUptoRow.holds Try.pinned (OpenSpec.upto maskNumbersSpec)

/-- 'libevolutionlaw15.MaskFits', WHERE WHAT IT READS IS OF BULK AT MOST 1048576: true; the input reads as it did. -/
def maskFitsUptoRow : OpenClaim := { program := "ytpcephbhnbfcmaa", sum := "13d202b638e574c20bdb7527a20905be0d165850ff0e497fbfd56a4970105f58", func := "libevolution/libevolutionlaw15.MaskFits", spec := "maskFits", inPlace := ["internal/bytealg.MakeNoZero"], apart := false, narrowed := true }
def MaskFitsUptoSaid : Prop := maskFitsUptoRow.holds Try.pinned (OpenSpec.upto maskFitsSpec)

/-- 'libevolutionlaw15.MaskLooks', WHERE WHAT IT READS IS OF BULK AT MOST 1048576: true; the input reads as it did. -/
def maskLooksUptoRow : OpenClaim := { program := "ytpcephbhnbfcmaa", sum := "13d202b638e574c20bdb7527a20905be0d165850ff0e497fbfd56a4970105f58", func := "libevolution/libevolutionlaw15.MaskLooks", spec := "maskLooks", inPlace := ["internal/bytealg.MakeNoZero"], loops := true, apart := false, narrowed := true }
def MaskLooksUptoSaid : Prop := maskLooksUptoRow.holds Try.pinned (OpenSpec.upto maskLooksSpec)

/-- 'libevolutionlaw16.ProductReturns', WHERE WHAT IT READS IS OF BULK AT MOST 1048576: true; the input reads as it did. -/
def productReturnsUptoRow : OpenClaim := { program := "ytpcephbhnbfcmaa", sum := "13d202b638e574c20bdb7527a20905be0d165850ff0e497fbfd56a4970105f58", func := "libevolution/libevolutionlaw16.ProductReturns", spec := "productReturns", inPlace := ["internal/bytealg.MakeNoZero"], unfollowed := true, recurses := true, apart := false, narrowed := true }
def ProductReturnsUptoSaid : Prop := productReturnsUptoRow.holds Try.pinned (OpenSpec.upto productReturnsSpec)

/-- 'libevolutionlaw17.SumLays', WHERE WHAT IT READS IS OF BULK AT MOST 1048576: true; the input reads as it did. -/
def sumLaysUptoRow : OpenClaim := { program := "ytpcephbhnbfcmaa", sum := "13d202b638e574c20bdb7527a20905be0d165850ff0e497fbfd56a4970105f58", func := "libevolution/libevolutionlaw17.SumLays", spec := "sumLays", inPlace := ["internal/bytealg.MakeNoZero"], unfollowed := true, recurses := true, loops := true, apart := false, narrowed := true }
def SumLaysUptoSaid : Prop := sumLaysUptoRow.holds Try.pinned (OpenSpec.upto sumLaysSpec)

/-- 'libevolutionlaw17.SumSizes', WHERE WHAT IT READS IS OF BULK AT MOST 1048576: true; the input reads as it did. -/
def sumSizesUptoRow : OpenClaim := { program := "ytpcephbhnbfcmaa", sum := "13d202b638e574c20bdb7527a20905be0d165850ff0e497fbfd56a4970105f58", func := "libevolution/libevolutionlaw17.SumSizes", spec := "sumSizes", inPlace := ["internal/bytealg.MakeNoZero"], unfollowed := true, recurses := true, apart := false, narrowed := true }
def SumSizesUptoSaid : Prop := sumSizesUptoRow.holds Try.pinned (OpenSpec.upto sumSizesSpec)

/-- 'libevolutionlaw17.SumSingle', WHERE WHAT IT READS IS OF BULK AT MOST 1048576: true; the input reads as it did. -/
def sumSingleUptoRow : OpenClaim := { program := "ytpcephbhnbfcmaa", sum := "13d202b638e574c20bdb7527a20905be0d165850ff0e497fbfd56a4970105f58", func := "libevolution/libevolutionlaw17.SumSingle", spec := "sumSingle", inPlace := ["internal/bytealg.MakeNoZero"], unfollowed := true, recurses := true, apart := false, narrowed := true }
def SumSingleUptoSaid : Prop := sumSingleUptoRow.holds Try.pinned (OpenSpec.upto sumSingleSpec)

/-- 'libevolutionlaw17.SumNests', WHERE WHAT IT READS IS OF BULK AT MOST 1048576: true; the input reads as it did. -/
def sumNestsUptoRow : OpenClaim := { program := "ytpcephbhnbfcmaa", sum := "13d202b638e574c20bdb7527a20905be0d165850ff0e497fbfd56a4970105f58", func := "libevolution/libevolutionlaw17.SumNests", spec := "sumNests", inPlace := ["internal/bytealg.MakeNoZero"], unfollowed := true, recurses := true, apart := false, narrowed := true }
def SumNestsUptoSaid : Prop := sumNestsUptoRow.holds Try.pinned (OpenSpec.upto sumNestsSpec)

/-- 'libevolutionlaw17.SumMoves', WHERE WHAT IT READS IS OF BULK AT MOST 1048576: true; the input reads as it did. -/
def sumMovesUptoRow : OpenClaim := { program := "ytpcephbhnbfcmaa", sum := "13d202b638e574c20bdb7527a20905be0d165850ff0e497fbfd56a4970105f58", func := "libevolution/libevolutionlaw17.SumMoves", spec := "sumMoves", inPlace := ["internal/bytealg.MakeNoZero"], unfollowed := true, recurses := true, loops := true, apart := false, narrowed := true }
def SumMovesUptoSaid : Prop := sumMovesUptoRow.holds Try.pinned (OpenSpec.upto sumMovesSpec)

end Rows
end Go.Proofs.Ytpcephbhnbfcmaa
