/-
  No cell of these rows narrows 'for every input' (looked for: loops, veiled, ifaces, maps, wideKeys, modest, calm, conditions, laid).
  DERIVED. THE GIVEN ROWS OF THIS SEAT. 12 by the template 'for every input the law returns true; each argument reads behind the call as it read before'; 0 by the template 'total and deterministic' (their statements: YtalpeldjdmfnjaaTotals.lean).
  GIVEN WITH THE SEED: the statements are not yours to turn. If you find one false, say at which input.
  Laid BY PROGRAM, IN A SANDBOX (cutbox-rows.mjs): the forced cells as the released guide's own fill.sh prints them over the translation 60cd1a5f8ec10e64… (all of the seat's roots in one cut). By AI agents, Wed Nov 11 2026. No macro, syntax, notation, axiom, sorry.
-/
import Derived.Test.YtalpeldjdmfnjaaChecked
import GoSem.Claim
import GoSem.ClaimJoined
import GoSem.ClaimMapViews
import Derived.JoinedTies
import Derived.KernelRfl
namespace Go.Proofs.Ytalpeldjdmfnjaa
/- THE CELL 'sum', in the pinned program and in every row, IS THE sha256 OF THE DUMP (.gsa) THAT YtalpeldjdmfnjaaProg.lean LOADS. Nothing in Lean hashes anything: it is a label: what it is worth is what the hold of that sum in a sandbox is worth. -/
noncomputable def Try.pinned : Pinned := { name := "ytalpeldjdmfnjaa", sum := "60cd1a5f8ec10e647f8ee3571c27714fddc39488af57bcb6f479e388d6845ddb", checked := Try.checked }
namespace Rows
def none {H : Type} : Left H := { results := [], args := [] }

/-- 'corncriblaw18.LeaseLong': WHATEVER THE INPUT: true; the input reads as it did. -/
def leaseLongSpec : ChangeSpec := { name := "leaseLong", fn := fun _ => fun
  | [d1, d2] => { results := [.lit (.bool true)], args := [d1, d2] }
  | _ => none }
def leaseLongRow : OpenClaim := { program := "ytalpeldjdmfnjaa", sum := "60cd1a5f8ec10e647f8ee3571c27714fddc39488af57bcb6f479e388d6845ddb", func := "corncrib/corncriblaw18.LeaseLong", spec := "leaseLong", inPlace := ["internal/reflectlite.TypeOf"], unfollowed := true, recurses := true, apart := false }
def LeaseLongSaid : Prop := leaseLongRow.holds Try.pinned (OpenSpec.ofChange leaseLongSpec)

/-- ITS FALSE NEIGHBOUR: 'it returns false'. Refute it at one input. -/
def leaseLongWrong : ChangeSpec := { name := "leaseLong", fn := fun _ => fun
  | [d1, d2] => { results := [.lit (.bool false)], args := [d1, d2] }
  | _ => none }
def LeaseLongWrongFalsely : Prop := leaseLongRow.holds Try.pinned (OpenSpec.ofChange leaseLongWrong)

/-- 'corncriblaw02.SumBursts': WHATEVER THE INPUT: true; the input reads as it did. -/
def sumBurstsSpec : ChangeSpec := { name := "sumBursts", fn := fun _ => fun
  | [d1, d2, d3] => { results := [.lit (.bool true)], args := [d1, d2, d3] }
  | _ => none }
def sumBurstsRow : OpenClaim := { program := "ytalpeldjdmfnjaa", sum := "60cd1a5f8ec10e647f8ee3571c27714fddc39488af57bcb6f479e388d6845ddb", func := "corncrib/corncriblaw02.SumBursts", spec := "sumBursts", inPlace := ["internal/reflectlite.TypeOf"], unfollowed := true, recurses := true, apart := false }
def SumBurstsSaid : Prop := sumBurstsRow.holds Try.pinned (OpenSpec.ofChange sumBurstsSpec)

/-- ITS FALSE NEIGHBOUR: 'it returns false'. Refute it at one input. -/
def sumBurstsWrong : ChangeSpec := { name := "sumBursts", fn := fun _ => fun
  | [d1, d2, d3] => { results := [.lit (.bool false)], args := [d1, d2, d3] }
  | _ => none }
def SumBurstsWrongFalsely : Prop := sumBurstsRow.holds Try.pinned (OpenSpec.ofChange sumBurstsWrong)

/-- 'corncriblaw18.LeaseTwo': WHATEVER THE INPUT: true; the input reads as it did. -/
def leaseTwoSpec : ChangeSpec := { name := "leaseTwo", fn := fun _ => fun
  | [d1, d2] => { results := [.lit (.bool true)], args := [d1, d2] }
  | _ => none }
def leaseTwoRow : OpenClaim := { program := "ytalpeldjdmfnjaa", sum := "60cd1a5f8ec10e647f8ee3571c27714fddc39488af57bcb6f479e388d6845ddb", func := "corncrib/corncriblaw18.LeaseTwo", spec := "leaseTwo", inPlace := ["internal/reflectlite.TypeOf"], unfollowed := true, recurses := true, apart := false }
def LeaseTwoSaid : Prop := leaseTwoRow.holds Try.pinned (OpenSpec.ofChange leaseTwoSpec)

/-- ITS FALSE NEIGHBOUR: 'it returns false'. Refute it at one input. -/
def leaseTwoWrong : ChangeSpec := { name := "leaseTwo", fn := fun _ => fun
  | [d1, d2] => { results := [.lit (.bool false)], args := [d1, d2] }
  | _ => none }
def LeaseTwoWrongFalsely : Prop := leaseTwoRow.holds Try.pinned (OpenSpec.ofChange leaseTwoWrong)

/-- 'corncriblaw18.LeaseTurns': WHATEVER THE INPUT: true; the input reads as it did. -/
def leaseTurnsSpec : ChangeSpec := { name := "leaseTurns", fn := fun _ => fun
  | [d1, d2] => { results := [.lit (.bool true)], args := [d1, d2] }
  | _ => none }
def leaseTurnsRow : OpenClaim := { program := "ytalpeldjdmfnjaa", sum := "60cd1a5f8ec10e647f8ee3571c27714fddc39488af57bcb6f479e388d6845ddb", func := "corncrib/corncriblaw18.LeaseTurns", spec := "leaseTurns", inPlace := ["internal/reflectlite.TypeOf"], unfollowed := true, recurses := true, apart := false }
def LeaseTurnsSaid : Prop := leaseTurnsRow.holds Try.pinned (OpenSpec.ofChange leaseTurnsSpec)

/-- ITS FALSE NEIGHBOUR: 'it returns false'. Refute it at one input. -/
def leaseTurnsWrong : ChangeSpec := { name := "leaseTurns", fn := fun _ => fun
  | [d1, d2] => { results := [.lit (.bool false)], args := [d1, d2] }
  | _ => none }
def LeaseTurnsWrongFalsely : Prop := leaseTurnsRow.holds Try.pinned (OpenSpec.ofChange leaseTurnsWrong)

/-- 'corncriblaw01.PackPuts': WHATEVER THE INPUT: true; the input reads as it did. -/
def packPutsSpec : ChangeSpec := { name := "packPuts", fn := fun _ => fun
  | [d1, d2, d3, d4] => { results := [.lit (.bool true)], args := [d1, d2, d3, d4] }
  | _ => none }
def packPutsRow : OpenClaim := { program := "ytalpeldjdmfnjaa", sum := "60cd1a5f8ec10e647f8ee3571c27714fddc39488af57bcb6f479e388d6845ddb", func := "corncrib/corncriblaw01.PackPuts", spec := "packPuts", inPlace := ["internal/reflectlite.TypeOf"], unfollowed := true, recurses := true, apart := false }
def PackPutsSaid : Prop := packPutsRow.holds Try.pinned (OpenSpec.ofChange packPutsSpec)

/-- ITS FALSE NEIGHBOUR: 'it returns false'. Refute it at one input. -/
def packPutsWrong : ChangeSpec := { name := "packPuts", fn := fun _ => fun
  | [d1, d2, d3, d4] => { results := [.lit (.bool false)], args := [d1, d2, d3, d4] }
  | _ => none }
def PackPutsWrongFalsely : Prop := packPutsRow.holds Try.pinned (OpenSpec.ofChange packPutsWrong)

/-- 'corncriblaw01.PackBack': WHATEVER THE INPUT: true; the input reads as it did. -/
def packBackSpec : ChangeSpec := { name := "packBack", fn := fun _ => fun
  | [d1, d2, d3, d4, d5] => { results := [.lit (.bool true)], args := [d1, d2, d3, d4, d5] }
  | _ => none }
def packBackRow : OpenClaim := { program := "ytalpeldjdmfnjaa", sum := "60cd1a5f8ec10e647f8ee3571c27714fddc39488af57bcb6f479e388d6845ddb", func := "corncrib/corncriblaw01.PackBack", spec := "packBack", inPlace := ["internal/reflectlite.TypeOf"], unfollowed := true, recurses := true, apart := false }
def PackBackSaid : Prop := packBackRow.holds Try.pinned (OpenSpec.ofChange packBackSpec)

/-- ITS FALSE NEIGHBOUR: 'it returns false'. Refute it at one input. -/
def packBackWrong : ChangeSpec := { name := "packBack", fn := fun _ => fun
  | [d1, d2, d3, d4, d5] => { results := [.lit (.bool false)], args := [d1, d2, d3, d4, d5] }
  | _ => none }
def PackBackWrongFalsely : Prop := packBackRow.holds Try.pinned (OpenSpec.ofChange packBackWrong)

/-- 'corncriblaw01.PackCat': WHATEVER THE INPUT: true; the input reads as it did. -/
def packCatSpec : ChangeSpec := { name := "packCat", fn := fun _ => fun
  | [d] => { results := [.lit (.bool true)], args := [d] }
  | _ => none }
def packCatRow : OpenClaim := { program := "ytalpeldjdmfnjaa", sum := "60cd1a5f8ec10e647f8ee3571c27714fddc39488af57bcb6f479e388d6845ddb", func := "corncrib/corncriblaw01.PackCat", spec := "packCat", inPlace := ["internal/reflectlite.TypeOf"], unfollowed := true, recurses := true, apart := false }
def PackCatSaid : Prop := packCatRow.holds Try.pinned (OpenSpec.ofChange packCatSpec)

/-- ITS FALSE NEIGHBOUR: 'it returns false'. Refute it at one input. -/
def packCatWrong : ChangeSpec := { name := "packCat", fn := fun _ => fun
  | [d] => { results := [.lit (.bool false)], args := [d] }
  | _ => none }
def PackCatWrongFalsely : Prop := packCatRow.holds Try.pinned (OpenSpec.ofChange packCatWrong)

/-- 'corncriblaw01.PackSmall': WHATEVER THE INPUT: true; the input reads as it did. -/
def packSmallSpec : ChangeSpec := { name := "packSmall", fn := fun _ => fun
  | [d1, d2, d3] => { results := [.lit (.bool true)], args := [d1, d2, d3] }
  | _ => none }
def packSmallRow : OpenClaim := { program := "ytalpeldjdmfnjaa", sum := "60cd1a5f8ec10e647f8ee3571c27714fddc39488af57bcb6f479e388d6845ddb", func := "corncrib/corncriblaw01.PackSmall", spec := "packSmall", inPlace := ["internal/reflectlite.TypeOf"], unfollowed := true, recurses := true, apart := false }
def PackSmallSaid : Prop := packSmallRow.holds Try.pinned (OpenSpec.ofChange packSmallSpec)

/-- ITS FALSE NEIGHBOUR: 'it returns false'. Refute it at one input. -/
def packSmallWrong : ChangeSpec := { name := "packSmall", fn := fun _ => fun
  | [d1, d2, d3] => { results := [.lit (.bool false)], args := [d1, d2, d3] }
  | _ => none }
def PackSmallWrongFalsely : Prop := packSmallRow.holds Try.pinned (OpenSpec.ofChange packSmallWrong)

/-- 'corncriblaw01.PackPads': WHATEVER THE INPUT: true; the input reads as it did. -/
def packPadsSpec : ChangeSpec := { name := "packPads", fn := fun _ => fun
  | [d1, d2] => { results := [.lit (.bool true)], args := [d1, d2] }
  | _ => none }
def packPadsRow : OpenClaim := { program := "ytalpeldjdmfnjaa", sum := "60cd1a5f8ec10e647f8ee3571c27714fddc39488af57bcb6f479e388d6845ddb", func := "corncrib/corncriblaw01.PackPads", spec := "packPads", inPlace := ["internal/reflectlite.TypeOf"], unfollowed := true, recurses := true, apart := false }
def PackPadsSaid : Prop := packPadsRow.holds Try.pinned (OpenSpec.ofChange packPadsSpec)

/-- ITS FALSE NEIGHBOUR: 'it returns false'. Refute it at one input. -/
def packPadsWrong : ChangeSpec := { name := "packPads", fn := fun _ => fun
  | [d1, d2] => { results := [.lit (.bool false)], args := [d1, d2] }
  | _ => none }
def PackPadsWrongFalsely : Prop := packPadsRow.holds Try.pinned (OpenSpec.ofChange packPadsWrong)

/-- 'corncriblaw02.SumIs': WHATEVER THE INPUT: true; the input reads as it did. -/
def sumIsSpec : ChangeSpec := { name := "sumIs", fn := fun _ => fun
  | [d1, d2] => { results := [.lit (.bool true)], args := [d1, d2] }
  | _ => none }
def sumIsRow : OpenClaim := { program := "ytalpeldjdmfnjaa", sum := "60cd1a5f8ec10e647f8ee3571c27714fddc39488af57bcb6f479e388d6845ddb", func := "corncrib/corncriblaw02.SumIs", spec := "sumIs", inPlace := ["internal/reflectlite.TypeOf"], unfollowed := true, recurses := true, apart := false }
def SumIsSaid : Prop := sumIsRow.holds Try.pinned (OpenSpec.ofChange sumIsSpec)

/-- ITS FALSE NEIGHBOUR: 'it returns false'. Refute it at one input. -/
def sumIsWrong : ChangeSpec := { name := "sumIs", fn := fun _ => fun
  | [d1, d2] => { results := [.lit (.bool false)], args := [d1, d2] }
  | _ => none }
def SumIsWrongFalsely : Prop := sumIsRow.holds Try.pinned (OpenSpec.ofChange sumIsWrong)

/-- 'corncriblaw02.SumTells': WHATEVER THE INPUT: true; the input reads as it did. -/
def sumTellsSpec : ChangeSpec := { name := "sumTells", fn := fun _ => fun
  | [d1, d2] => { results := [.lit (.bool true)], args := [d1, d2] }
  | _ => none }
def sumTellsRow : OpenClaim := { program := "ytalpeldjdmfnjaa", sum := "60cd1a5f8ec10e647f8ee3571c27714fddc39488af57bcb6f479e388d6845ddb", func := "corncrib/corncriblaw02.SumTells", spec := "sumTells", inPlace := ["internal/reflectlite.TypeOf"], unfollowed := true, recurses := true, apart := false }
def SumTellsSaid : Prop := sumTellsRow.holds Try.pinned (OpenSpec.ofChange sumTellsSpec)

/-- ITS FALSE NEIGHBOUR: 'it returns false'. Refute it at one input. -/
def sumTellsWrong : ChangeSpec := { name := "sumTells", fn := fun _ => fun
  | [d1, d2] => { results := [.lit (.bool false)], args := [d1, d2] }
  | _ => none }
def SumTellsWrongFalsely : Prop := sumTellsRow.holds Try.pinned (OpenSpec.ofChange sumTellsWrong)

/-- 'corncriblaw02.SumParts': WHATEVER THE INPUT: true; the input reads as it did. -/
def sumPartsSpec : ChangeSpec := { name := "sumParts", fn := fun _ => fun
  | [d1, d2, d3] => { results := [.lit (.bool true)], args := [d1, d2, d3] }
  | _ => none }
def sumPartsRow : OpenClaim := { program := "ytalpeldjdmfnjaa", sum := "60cd1a5f8ec10e647f8ee3571c27714fddc39488af57bcb6f479e388d6845ddb", func := "corncrib/corncriblaw02.SumParts", spec := "sumParts", inPlace := ["internal/reflectlite.TypeOf"], unfollowed := true, recurses := true, apart := false }
def SumPartsSaid : Prop := sumPartsRow.holds Try.pinned (OpenSpec.ofChange sumPartsSpec)

/-- ITS FALSE NEIGHBOUR: 'it returns false'. Refute it at one input. -/
def sumPartsWrong : ChangeSpec := { name := "sumParts", fn := fun _ => fun
  | [d1, d2, d3] => { results := [.lit (.bool false)], args := [d1, d2, d3] }
  | _ => none }
def SumPartsWrongFalsely : Prop := sumPartsRow.holds Try.pinned (OpenSpec.ofChange sumPartsWrong)

/- THE SECOND FORM. 'bulk': how many values and letters a reading holds, each counted each time it is reached (what is shared counts as often as it is met; a slice's spare places count too). A statement '..UptoSaid' is the law's where the arguments, and the package variables that the reading takes, are together of bulk at most 1048576: NARROWER than '..Said'. Prove '..Said' where nothing that the law and all that it calls make is longer than what came in: it says more and counts as full. Else prove '..UptoSaid'. A law counts once. -/
mutual
def uptoBulk {H : Type} : DataW H → Nat
  | .lit (.string bytes) => bytes.length + 1
  | .lit _ => 1
  | .nil => 1
  | .ptr d => uptoBulk d + 1
  | .slice elems spare => uptoBulkAll elems + uptoBulkAll spare + 1
  | .agg parts => uptoBulkAll parts + 1
  | .iface _ d => uptoBulk d + 1
  | .map entries => uptoBulkEntries entries + 1
  | .held _ => 1
def uptoBulkAll {H : Type} : List (DataW H) → Nat
  | [] => 0
  | d :: r => uptoBulk d + uptoBulkAll r
def uptoBulkEntries {H : Type} : List (Lit × DataW H) → Nat
  | [] => 0
  | x :: r => uptoBulkEntry x + uptoBulkEntries r
def uptoBulkEntry {H : Type} : Lit × DataW H → Nat
  | (.string bytes, d) => bytes.length + uptoBulk d + 1
  | (_, d) => uptoBulk d + 1
 end
def uptoSmall : (H : Type) → List (DataW H) → Bool := fun _ ds => decide (uptoBulkAll ds ≤ 1048576)
def OpenSpec.upto (s : _root_.Go.ChangeSpec) : _root_.Go.OpenSpec := { _root_.Go.OpenSpec.ofChange s with cond := some uptoSmall }

/-- 'corncriblaw18.LeaseLong', WHERE WHAT IT READS IS OF BULK AT MOST 1048576: true; the input reads as it did. -/
def leaseLongUptoRow : OpenClaim := { program := "ytalpeldjdmfnjaa", sum := "60cd1a5f8ec10e647f8ee3571c27714fddc39488af57bcb6f479e388d6845ddb", func := "corncrib/corncriblaw18.LeaseLong", spec := "leaseLong", inPlace := ["internal/reflectlite.TypeOf"], unfollowed := true, recurses := true, apart := false, narrowed := true }
def LeaseLongUptoSaid : Prop := leaseLongUptoRow.holds Try.pinned (OpenSpec.upto leaseLongSpec)

/-- 'corncriblaw02.SumBursts', WHERE WHAT IT READS IS OF BULK AT MOST 1048576: true; the input reads as it did. -/
def sumBurstsUptoRow : OpenClaim := { program := "ytalpeldjdmfnjaa", sum := "60cd1a5f8ec10e647f8ee3571c27714fddc39488af57bcb6f479e388d6845ddb", func := "corncrib/corncriblaw02.SumBursts", spec := "sumBursts", inPlace := ["internal/reflectlite.TypeOf"], unfollowed := true, recurses := true, apart := false, narrowed := true }
def SumBurstsUptoSaid : Prop := sumBurstsUptoRow.holds Try.pinned (OpenSpec.upto sumBurstsSpec)

/-- 'corncriblaw18.LeaseTwo', WHERE WHAT IT READS IS OF BULK AT MOST 1048576: true; the input reads as it did. -/
def leaseTwoUptoRow : OpenClaim := { program := "ytalpeldjdmfnjaa", sum := "60cd1a5f8ec10e647f8ee3571c27714fddc39488af57bcb6f479e388d6845ddb", func := "corncrib/corncriblaw18.LeaseTwo", spec := "leaseTwo", inPlace := ["internal/reflectlite.TypeOf"], unfollowed := true, recurses := true, apart := false, narrowed := true }
def LeaseTwoUptoSaid : Prop := leaseTwoUptoRow.holds Try.pinned (OpenSpec.upto leaseTwoSpec)

/-- 'corncriblaw18.LeaseTurns', WHERE WHAT IT READS IS OF BULK AT MOST 1048576: true; the input reads as it did. -/
def leaseTurnsUptoRow : OpenClaim := { program := "ytalpeldjdmfnjaa", sum := "60cd1a5f8ec10e647f8ee3571c27714fddc39488af57bcb6f479e388d6845ddb", func := "corncrib/corncriblaw18.LeaseTurns", spec := "leaseTurns", inPlace := ["internal/reflectlite.TypeOf"], unfollowed := true, recurses := true, apart := false, narrowed := true }
def LeaseTurnsUptoSaid : Prop := leaseTurnsUptoRow.holds Try.pinned (OpenSpec.upto leaseTurnsSpec)

/-- 'corncriblaw01.PackPuts', WHERE WHAT IT READS IS OF BULK AT MOST 1048576: true; the input reads as it did. -/
def packPutsUptoRow : OpenClaim := { program := "ytalpeldjdmfnjaa", sum := "60cd1a5f8ec10e647f8ee3571c27714fddc39488af57bcb6f479e388d6845ddb", func := "corncrib/corncriblaw01.PackPuts", spec := "packPuts", inPlace := ["internal/reflectlite.TypeOf"], unfollowed := true, recurses := true, apart := false, narrowed := true }
def PackPutsUptoSaid : Prop := packPutsUptoRow.holds Try.pinned (OpenSpec.upto packPutsSpec)

/-- 'corncriblaw01.PackBack', WHERE WHAT IT READS IS OF BULK AT MOST 1048576: true; the input reads as it did. -/
def packBackUptoRow : OpenClaim := { program := "ytalpeldjdmfnjaa", sum := "60cd1a5f8ec10e647f8ee3571c27714fddc39488af57bcb6f479e388d6845ddb", func := "corncrib/corncriblaw01.PackBack", spec := "packBack", inPlace := ["internal/reflectlite.TypeOf"], unfollowed := true, recurses := true, apart := false, narrowed := true }
def PackBackUptoSaid : Prop := packBackUptoRow.holds Try.pinned (OpenSpec.upto packBackSpec)

/-- 'corncriblaw01.PackCat', WHERE WHAT IT READS IS OF BULK AT MOST 1048576: true; the input reads as it did. -/
def packCatUptoRow : OpenClaim := { program := "ytalpeldjdmfnjaa", sum := "60cd1a5f8ec10e647f8ee3571c27714fddc39488af57bcb6f479e388d6845ddb", func := "corncrib/corncriblaw01.PackCat", spec := "packCat", inPlace := ["internal/reflectlite.TypeOf"], unfollowed := true, recurses := true, apart := false, narrowed := true }
def PackCatUptoSaid : Prop := packCatUptoRow.holds Try.pinned (OpenSpec.upto packCatSpec)

/-- 'corncriblaw01.PackSmall', WHERE WHAT IT READS IS OF BULK AT MOST 1048576: true; the input reads as it did. -/
def packSmallUptoRow : OpenClaim := { program := "ytalpeldjdmfnjaa", sum := "60cd1a5f8ec10e647f8ee3571c27714fddc39488af57bcb6f479e388d6845ddb", func := "corncrib/corncriblaw01.PackSmall", spec := "packSmall", inPlace := ["internal/reflectlite.TypeOf"], unfollowed := true, recurses := true, apart := false, narrowed := true }
def PackSmallUptoSaid : Prop := packSmallUptoRow.holds Try.pinned (OpenSpec.upto packSmallSpec)

/-- 'corncriblaw01.PackPads', WHERE WHAT IT READS IS OF BULK AT MOST 1048576: true; the input reads as it did. -/
def packPadsUptoRow : OpenClaim := { program := "ytalpeldjdmfnjaa", sum := "60cd1a5f8ec10e647f8ee3571c27714fddc39488af57bcb6f479e388d6845ddb", func := "corncrib/corncriblaw01.PackPads", spec := "packPads", inPlace := ["internal/reflectlite.TypeOf"], unfollowed := true, recurses := true, apart := false, narrowed := true }
def PackPadsUptoSaid : Prop := packPadsUptoRow.holds Try.pinned (OpenSpec.upto packPadsSpec)

/-- 'corncriblaw02.SumIs', WHERE WHAT IT READS IS OF BULK AT MOST 1048576: true; the input reads as it did. -/
def sumIsUptoRow : OpenClaim := { program := "ytalpeldjdmfnjaa", sum := "60cd1a5f8ec10e647f8ee3571c27714fddc39488af57bcb6f479e388d6845ddb", func := "corncrib/corncriblaw02.SumIs", spec := "sumIs", inPlace := ["internal/reflectlite.TypeOf"], unfollowed := true, recurses := true, apart := false, narrowed := true }
def SumIsUptoSaid : Prop := sumIsUptoRow.holds Try.pinned (OpenSpec.upto sumIsSpec)

/-- 'corncriblaw02.SumTells', WHERE WHAT IT READS IS OF BULK AT MOST 1048576: true; the input reads as it did. -/
def sumTellsUptoRow : OpenClaim := { program := "ytalpeldjdmfnjaa", sum := "60cd1a5f8ec10e647f8ee3571c27714fddc39488af57bcb6f479e388d6845ddb", func := "corncrib/corncriblaw02.SumTells", spec := "sumTells", inPlace := ["internal/reflectlite.TypeOf"], unfollowed := true, recurses := true, apart := false, narrowed := true }
def SumTellsUptoSaid : Prop := sumTellsUptoRow.holds Try.pinned (OpenSpec.upto sumTellsSpec)

/-- 'corncriblaw02.SumParts', WHERE WHAT IT READS IS OF BULK AT MOST 1048576: true; the input reads as it did. -/
def sumPartsUptoRow : OpenClaim := { program := "ytalpeldjdmfnjaa", sum := "60cd1a5f8ec10e647f8ee3571c27714fddc39488af57bcb6f479e388d6845ddb", func := "corncrib/corncriblaw02.SumParts", spec := "sumParts", inPlace := ["internal/reflectlite.TypeOf"], unfollowed := true, recurses := true, apart := false, narrowed := true }
def SumPartsUptoSaid : Prop := sumPartsUptoRow.holds Try.pinned (OpenSpec.upto sumPartsSpec)

end Rows
end Go.Proofs.Ytalpeldjdmfnjaa
