/-
  No cell of these rows narrows 'for every input' (looked for: loops, veiled, ifaces, maps, wideKeys, modest, calm, conditions, laid).
  DERIVED. THE GIVEN ROWS OF THIS SEAT. 10 by the template 'for every input the law returns true; each argument reads behind the call as it read before'; 0 by the template 'total and deterministic' (their statements: YtkmifimdjdjdpaaTotals.lean).
  GIVEN WITH THE SEED: the statements are not yours to turn. If you find one false, say at which input.
  Laid BY PROGRAM, IN A SANDBOX (cutbox-rows.mjs): the forced cells as the released guide's own fill.sh prints them over the translation 52e6f0fba51fa87f… (all of the seat's roots in one cut). By AI agents, Wed Nov 11 2026. No macro, syntax, notation, axiom, sorry.
-/
import Derived.Test.YtkmifimdjdjdpaaChecked
import GoSem.Claim
import GoSem.ClaimJoined
import GoSem.ClaimMapViews
import Derived.JoinedTies
import Derived.KernelRfl
namespace Go.Proofs.Ytkmifimdjdjdpaa
/- THE CELL 'sum', in the pinned program and in every row, IS THE sha256 OF THE DUMP (.gsa) THAT YtkmifimdjdjdpaaProg.lean LOADS. Nothing in Lean hashes anything: it is a label: what it is worth is what the hold of that sum in a sandbox is worth. -/
noncomputable def Try.pinned : Pinned := { name := "ytkmifimdjdjdpaa", sum := "52e6f0fba51fa87f21b490590aed8b903b980585d563600a5abccd0b33d2dc84", checked := Try.checked }
namespace Rows
def none {H : Type} : Left H := { results := [], args := [] }

/-- 'corncriblaw03.NeedleGets': WHATEVER THE INPUT: true; the input reads as it did. -/
def needleGetsSpec : ChangeSpec := { name := "needleGets", fn := fun _ => fun
  | [d] => { results := [.lit (.bool true)], args := [d] }
  | _ => none }
def needleGetsRow : OpenClaim := { program := "ytkmifimdjdjdpaa", sum := "52e6f0fba51fa87f21b490590aed8b903b980585d563600a5abccd0b33d2dc84", func := "corncrib/corncriblaw03.NeedleGets", spec := "needleGets", inPlace := ["internal/reflectlite.TypeOf"], unfollowed := true, recurses := true, apart := false }
def NeedleGetsSaid : Prop := needleGetsRow.holds Try.pinned (OpenSpec.ofChange needleGetsSpec)

/-- ITS FALSE NEIGHBOUR: 'it returns false'. Refute it at one input. -/
def needleGetsWrong : ChangeSpec := { name := "needleGets", fn := fun _ => fun
  | [d] => { results := [.lit (.bool false)], args := [d] }
  | _ => none }
def NeedleGetsWrongFalsely : Prop := needleGetsRow.holds Try.pinned (OpenSpec.ofChange needleGetsWrong)

/-- 'corncriblaw05.CheckPuts': WHATEVER THE INPUT: true; the input reads as it did. -/
def checkPutsSpec : ChangeSpec := { name := "checkPuts", fn := fun _ => fun
  | [d] => { results := [.lit (.bool true)], args := [d] }
  | _ => none }
def checkPutsRow : OpenClaim := { program := "ytkmifimdjdjdpaa", sum := "52e6f0fba51fa87f21b490590aed8b903b980585d563600a5abccd0b33d2dc84", func := "corncrib/corncriblaw05.CheckPuts", spec := "checkPuts", inPlace := ["internal/reflectlite.TypeOf"], unfollowed := true, recurses := true, apart := false }
def CheckPutsSaid : Prop := checkPutsRow.holds Try.pinned (OpenSpec.ofChange checkPutsSpec)

/-- ITS FALSE NEIGHBOUR: 'it returns false'. Refute it at one input. -/
def checkPutsWrong : ChangeSpec := { name := "checkPuts", fn := fun _ => fun
  | [d] => { results := [.lit (.bool false)], args := [d] }
  | _ => none }
def CheckPutsWrongFalsely : Prop := checkPutsRow.holds Try.pinned (OpenSpec.ofChange checkPutsWrong)

/-- 'corncriblaw05.CheckGets': WHATEVER THE INPUT: true; the input reads as it did. -/
def checkGetsSpec : ChangeSpec := { name := "checkGets", fn := fun _ => fun
  | [d] => { results := [.lit (.bool true)], args := [d] }
  | _ => none }
def checkGetsRow : OpenClaim := { program := "ytkmifimdjdjdpaa", sum := "52e6f0fba51fa87f21b490590aed8b903b980585d563600a5abccd0b33d2dc84", func := "corncrib/corncriblaw05.CheckGets", spec := "checkGets", inPlace := ["internal/reflectlite.TypeOf"], unfollowed := true, recurses := true, apart := false }
def CheckGetsSaid : Prop := checkGetsRow.holds Try.pinned (OpenSpec.ofChange checkGetsSpec)

/-- ITS FALSE NEIGHBOUR: 'it returns false'. Refute it at one input. -/
def checkGetsWrong : ChangeSpec := { name := "checkGets", fn := fun _ => fun
  | [d] => { results := [.lit (.bool false)], args := [d] }
  | _ => none }
def CheckGetsWrongFalsely : Prop := checkGetsRow.holds Try.pinned (OpenSpec.ofChange checkGetsWrong)

/-- 'corncriblaw05.CheckBack': WHATEVER THE INPUT: true; the input reads as it did. -/
def checkBackSpec : ChangeSpec := { name := "checkBack", fn := fun _ => fun
  | [d1, d2] => { results := [.lit (.bool true)], args := [d1, d2] }
  | _ => none }
def checkBackRow : OpenClaim := { program := "ytkmifimdjdjdpaa", sum := "52e6f0fba51fa87f21b490590aed8b903b980585d563600a5abccd0b33d2dc84", func := "corncrib/corncriblaw05.CheckBack", spec := "checkBack", inPlace := ["internal/reflectlite.TypeOf"], unfollowed := true, recurses := true, apart := false }
def CheckBackSaid : Prop := checkBackRow.holds Try.pinned (OpenSpec.ofChange checkBackSpec)

/-- ITS FALSE NEIGHBOUR: 'it returns false'. Refute it at one input. -/
def checkBackWrong : ChangeSpec := { name := "checkBack", fn := fun _ => fun
  | [d1, d2] => { results := [.lit (.bool false)], args := [d1, d2] }
  | _ => none }
def CheckBackWrongFalsely : Prop := checkBackRow.holds Try.pinned (OpenSpec.ofChange checkBackWrong)

/-- 'corncriblaw05.CheckOrder': WHATEVER THE INPUT: true; the input reads as it did. -/
def checkOrderSpec : ChangeSpec := { name := "checkOrder", fn := fun _ => fun
  | [d1, d2] => { results := [.lit (.bool true)], args := [d1, d2] }
  | _ => none }
def checkOrderRow : OpenClaim := { program := "ytkmifimdjdjdpaa", sum := "52e6f0fba51fa87f21b490590aed8b903b980585d563600a5abccd0b33d2dc84", func := "corncrib/corncriblaw05.CheckOrder", spec := "checkOrder", inPlace := ["internal/reflectlite.TypeOf"], unfollowed := true, recurses := true, apart := false }
def CheckOrderSaid : Prop := checkOrderRow.holds Try.pinned (OpenSpec.ofChange checkOrderSpec)

/-- ITS FALSE NEIGHBOUR: 'it returns false'. Refute it at one input. -/
def checkOrderWrong : ChangeSpec := { name := "checkOrder", fn := fun _ => fun
  | [d1, d2] => { results := [.lit (.bool false)], args := [d1, d2] }
  | _ => none }
def CheckOrderWrongFalsely : Prop := checkOrderRow.holds Try.pinned (OpenSpec.ofChange checkOrderWrong)

/-- 'corncriblaw05.CheckTurned': WHATEVER THE INPUT: true; the input reads as it did. -/
def checkTurnedSpec : ChangeSpec := { name := "checkTurned", fn := fun _ => fun
  | [d1, d2] => { results := [.lit (.bool true)], args := [d1, d2] }
  | _ => none }
def checkTurnedRow : OpenClaim := { program := "ytkmifimdjdjdpaa", sum := "52e6f0fba51fa87f21b490590aed8b903b980585d563600a5abccd0b33d2dc84", func := "corncrib/corncriblaw05.CheckTurned", spec := "checkTurned", inPlace := ["internal/reflectlite.TypeOf"], unfollowed := true, recurses := true, apart := false }
def CheckTurnedSaid : Prop := checkTurnedRow.holds Try.pinned (OpenSpec.ofChange checkTurnedSpec)

/-- ITS FALSE NEIGHBOUR: 'it returns false'. Refute it at one input. -/
def checkTurnedWrong : ChangeSpec := { name := "checkTurned", fn := fun _ => fun
  | [d1, d2] => { results := [.lit (.bool false)], args := [d1, d2] }
  | _ => none }
def CheckTurnedWrongFalsely : Prop := checkTurnedRow.holds Try.pinned (OpenSpec.ofChange checkTurnedWrong)

/-- 'corncriblaw03.NeedlePuts': WHATEVER THE INPUT: true; the input reads as it did. -/
def needlePutsSpec : ChangeSpec := { name := "needlePuts", fn := fun _ => fun
  | [d1, d2, d3] => { results := [.lit (.bool true)], args := [d1, d2, d3] }
  | _ => none }
def needlePutsRow : OpenClaim := { program := "ytkmifimdjdjdpaa", sum := "52e6f0fba51fa87f21b490590aed8b903b980585d563600a5abccd0b33d2dc84", func := "corncrib/corncriblaw03.NeedlePuts", spec := "needlePuts", inPlace := ["internal/reflectlite.TypeOf"], unfollowed := true, recurses := true, apart := false }
def NeedlePutsSaid : Prop := needlePutsRow.holds Try.pinned (OpenSpec.ofChange needlePutsSpec)

/-- ITS FALSE NEIGHBOUR: 'it returns false'. Refute it at one input. -/
def needlePutsWrong : ChangeSpec := { name := "needlePuts", fn := fun _ => fun
  | [d1, d2, d3] => { results := [.lit (.bool false)], args := [d1, d2, d3] }
  | _ => none }
def NeedlePutsWrongFalsely : Prop := needlePutsRow.holds Try.pinned (OpenSpec.ofChange needlePutsWrong)

/-- 'corncriblaw03.NeedleBack': WHATEVER THE INPUT: true; the input reads as it did. -/
def needleBackSpec : ChangeSpec := { name := "needleBack", fn := fun _ => fun
  | [d1, d2, d3] => { results := [.lit (.bool true)], args := [d1, d2, d3] }
  | _ => none }
def needleBackRow : OpenClaim := { program := "ytkmifimdjdjdpaa", sum := "52e6f0fba51fa87f21b490590aed8b903b980585d563600a5abccd0b33d2dc84", func := "corncrib/corncriblaw03.NeedleBack", spec := "needleBack", inPlace := ["internal/reflectlite.TypeOf"], unfollowed := true, recurses := true, apart := false }
def NeedleBackSaid : Prop := needleBackRow.holds Try.pinned (OpenSpec.ofChange needleBackSpec)

/-- ITS FALSE NEIGHBOUR: 'it returns false'. Refute it at one input. -/
def needleBackWrong : ChangeSpec := { name := "needleBack", fn := fun _ => fun
  | [d1, d2, d3] => { results := [.lit (.bool false)], args := [d1, d2, d3] }
  | _ => none }
def NeedleBackWrongFalsely : Prop := needleBackRow.holds Try.pinned (OpenSpec.ofChange needleBackWrong)

/-- 'corncriblaw03.NeedleRow': WHATEVER THE INPUT: true; the input reads as it did. -/
def needleRowSpec : ChangeSpec := { name := "needleRow", fn := fun _ => fun
  | [d] => { results := [.lit (.bool true)], args := [d] }
  | _ => none }
def needleRowRow : OpenClaim := { program := "ytkmifimdjdjdpaa", sum := "52e6f0fba51fa87f21b490590aed8b903b980585d563600a5abccd0b33d2dc84", func := "corncrib/corncriblaw03.NeedleRow", spec := "needleRow", inPlace := ["internal/reflectlite.TypeOf"], unfollowed := true, recurses := true, apart := false }
def NeedleRowSaid : Prop := needleRowRow.holds Try.pinned (OpenSpec.ofChange needleRowSpec)

/-- ITS FALSE NEIGHBOUR: 'it returns false'. Refute it at one input. -/
def needleRowWrong : ChangeSpec := { name := "needleRow", fn := fun _ => fun
  | [d] => { results := [.lit (.bool false)], args := [d] }
  | _ => none }
def NeedleRowWrongFalsely : Prop := needleRowRow.holds Try.pinned (OpenSpec.ofChange needleRowWrong)

/-- 'corncriblaw03.NeedleApart': WHATEVER THE INPUT: true; the input reads as it did. -/
def needleApartSpec : ChangeSpec := { name := "needleApart", fn := fun _ => fun
  | [d1, d2] => { results := [.lit (.bool true)], args := [d1, d2] }
  | _ => none }
def needleApartRow : OpenClaim := { program := "ytkmifimdjdjdpaa", sum := "52e6f0fba51fa87f21b490590aed8b903b980585d563600a5abccd0b33d2dc84", func := "corncrib/corncriblaw03.NeedleApart", spec := "needleApart", inPlace := ["internal/reflectlite.TypeOf"], unfollowed := true, recurses := true, apart := false }
def NeedleApartSaid : Prop := needleApartRow.holds Try.pinned (OpenSpec.ofChange needleApartSpec)

/-- ITS FALSE NEIGHBOUR: 'it returns false'. Refute it at one input. -/
def needleApartWrong : ChangeSpec := { name := "needleApart", fn := fun _ => fun
  | [d1, d2] => { results := [.lit (.bool false)], args := [d1, d2] }
  | _ => none }
def NeedleApartWrongFalsely : Prop := needleApartRow.holds Try.pinned (OpenSpec.ofChange needleApartWrong)

/- THE SECOND FORM. 'bulk': how many values and letters a reading holds, each counted each time it is reached (what is shared counts as often as it is met; a slice's spare places count too). A statement '..UptoSaid' is the law's where the arguments, and the package variables that the reading takes, are together of bulk at most 1048576: NARROWER than '..Said'. Prove '..Said' where nothing that the law and all that it calls make is longer than what came in: it says more and counts as full. Else prove '..UptoSaid'. A law counts once. -/
mutual
def uptoBulk {H : Type} : DataW H → Nat
  | .lit (.string bytes) => bytes.length + 1
  | .lit _ => 1
  | .nil => 1
  | .ptr d => uptoBulk d + 1
  | .slice elems spare => uptoBulkAll elems + uptoBulkAll spare + 1
  | .agg parts => uptoBulkAll parts + 1
  | .iface _ d => uptoBulk d + 1
  | .map entries => uptoBulkEntries entries + 1
  | .held _ => 1
def uptoBulkAll {H : Type} : List (DataW H) → Nat
  | [] => 0
  | d :: r => uptoBulk d + uptoBulkAll r
def uptoBulkEntries {H : Type} : List (Lit × DataW H) → Nat
  | [] => 0
  | x :: r => uptoBulkEntry x + uptoBulkEntries r
def uptoBulkEntry {H : Type} : Lit × DataW H → Nat
  | (.string bytes, d) => bytes.length + uptoBulk d + 1
  | (_, d) => uptoBulk d + 1
 end
def uptoSmall : (H : Type) → List (DataW H) → Bool := fun _ ds => decide (uptoBulkAll ds ≤ 1048576)
def OpenSpec.upto (s : _root_.Go.ChangeSpec) : _root_.Go.OpenSpec := { _root_.Go.OpenSpec.ofChange s with cond := some uptoSmall }

/-- 'corncriblaw03.NeedleGets', WHERE WHAT IT READS IS OF BULK AT MOST 1048576: true; the input reads as it did. -/
def needleGetsUptoRow : OpenClaim := { program := "ytkmifimdjdjdpaa", sum := "52e6f0fba51fa87f21b490590aed8b903b980585d563600a5abccd0b33d2dc84", func := "corncrib/corncriblaw03.NeedleGets", spec := "needleGets", inPlace := ["internal/reflectlite.TypeOf"], unfollowed := true, recurses := true, apart := false, narrowed := true }
def NeedleGetsUptoSaid : Prop := needleGetsUptoRow.holds Try.pinned (OpenSpec.upto needleGetsSpec)

/-- 'corncriblaw05.CheckPuts', WHERE WHAT IT READS IS OF BULK AT MOST 1048576: true; the input reads as it did. -/
def checkPutsUptoRow : OpenClaim := { program := "ytkmifimdjdjdpaa", sum := "52e6f0fba51fa87f21b490590aed8b903b980585d563600a5abccd0b33d2dc84", func := "corncrib/corncriblaw05.CheckPuts", spec := "checkPuts", inPlace := ["internal/reflectlite.TypeOf"], unfollowed := true, recurses := true, apart := false, narrowed := true }
def CheckPutsUptoSaid : Prop := checkPutsUptoRow.holds Try.pinned (OpenSpec.upto checkPutsSpec)

/-- 'corncriblaw05.CheckGets', WHERE WHAT IT READS IS OF BULK AT MOST 1048576: true; the input reads as it did. -/
def checkGetsUptoRow : OpenClaim := { program := "ytkmifimdjdjdpaa", sum := "52e6f0fba51fa87f21b490590aed8b903b980585d563600a5abccd0b33d2dc84", func := "corncrib/corncriblaw05.CheckGets", spec := "checkGets", inPlace := ["internal/reflectlite.TypeOf"], unfollowed := true, recurses := true, apart := false, narrowed := true }
def CheckGetsUptoSaid : Prop := checkGetsUptoRow.holds Try.pinned (OpenSpec.upto checkGetsSpec)

/-- 'corncriblaw05.CheckBack', WHERE WHAT IT READS IS OF BULK AT MOST 1048576: true; the input reads as it did. -/
def checkBackUptoRow : OpenClaim := { program := "ytkmifimdjdjdpaa", sum := "52e6f0fba51fa87f21b490590aed8b903b980585d563600a5abccd0b33d2dc84", func := "corncrib/corncriblaw05.CheckBack", spec := "checkBack", inPlace := ["internal/reflectlite.TypeOf"], unfollowed := true, recurses := true, apart := false, narrowed := true }
def CheckBackUptoSaid : Prop := checkBackUptoRow.holds Try.pinned (OpenSpec.upto checkBackSpec)

/-- 'corncriblaw05.CheckOrder', WHERE WHAT IT READS IS OF BULK AT MOST 1048576: true; the input reads as it did. -/
def checkOrderUptoRow : OpenClaim := { program := "ytkmifimdjdjdpaa", sum := "52e6f0fba51fa87f21b490590aed8b903b980585d563600a5abccd0b33d2dc84", func := "corncrib/corncriblaw05.CheckOrder", spec := "checkOrder", inPlace := ["internal/reflectlite.TypeOf"], unfollowed := true, recurses := true, apart := false, narrowed := true }
def CheckOrderUptoSaid : Prop := checkOrderUptoRow.holds Try.pinned (OpenSpec.upto checkOrderSpec)

/-- 'corncriblaw05.CheckTurned', WHERE WHAT IT READS IS OF BULK AT MOST 1048576: true; the input reads as it did. -/
def checkTurnedUptoRow : OpenClaim := { program := "ytkmifimdjdjdpaa", sum := "52e6f0fba51fa87f21b490590aed8b903b980585d563600a5abccd0b33d2dc84", func := "corncrib/corncriblaw05.CheckTurned", spec := "checkTurned", inPlace := ["internal/reflectlite.TypeOf"], unfollowed := true, recurses := true, apart := false, narrowed := true }
def CheckTurnedUptoSaid : Prop := checkTurnedUptoRow.holds Try.pinned (OpenSpec.upto checkTurnedSpec)

/-- 'corncriblaw03.NeedlePuts', WHERE WHAT IT READS IS OF BULK AT MOST 1048576: true; the input reads as it did. -/
def needlePutsUptoRow : OpenClaim := { program := "ytkmifimdjdjdpaa", sum := "52e6f0fba51fa87f21b490590aed8b903b980585d563600a5abccd0b33d2dc84", func := "corncrib/corncriblaw03.NeedlePuts", spec := "needlePuts", inPlace := ["internal/reflectlite.TypeOf"], unfollowed := true, recurses := true, apart := false, narrowed := true }
def NeedlePutsUptoSaid : Prop := needlePutsUptoRow.holds Try.pinned (OpenSpec.upto needlePutsSpec)

/-- 'corncriblaw03.NeedleBack', WHERE WHAT IT READS IS OF BULK AT MOST 1048576: true; the input reads as it did. -/
def needleBackUptoRow : OpenClaim := { program := "ytkmifimdjdjdpaa", sum := "52e6f0fba51fa87f21b490590aed8b903b980585d563600a5abccd0b33d2dc84", func := "corncrib/corncriblaw03.NeedleBack", spec := "needleBack", inPlace := ["internal/reflectlite.TypeOf"], unfollowed := true, recurses := true, apart := false, narrowed := true }
def NeedleBackUptoSaid : Prop := needleBackUptoRow.holds Try.pinned (OpenSpec.upto needleBackSpec)

/-- 'corncriblaw03.NeedleRow', WHERE WHAT IT READS IS OF BULK AT MOST 1048576: true; the input reads as it did. -/
def needleRowUptoRow : OpenClaim := { program := "ytkmifimdjdjdpaa", sum := "52e6f0fba51fa87f21b490590aed8b903b980585d563600a5abccd0b33d2dc84", func := "corncrib/corncriblaw03.NeedleRow", spec := "needleRow", inPlace := ["internal/reflectlite.TypeOf"], unfollowed := true, recurses := true, apart := false, narrowed := true }
def NeedleRowUptoSaid : Prop := needleRowUptoRow.holds Try.pinned (OpenSpec.upto needleRowSpec)

/-- 'corncriblaw03.NeedleApart', WHERE WHAT IT READS IS OF BULK AT MOST 1048576: true; the input reads as it did. -/
def needleApartUptoRow : OpenClaim := { program := "ytkmifimdjdjdpaa", sum := "52e6f0fba51fa87f21b490590aed8b903b980585d563600a5abccd0b33d2dc84", func := "corncrib/corncriblaw03.NeedleApart", spec := "needleApart", inPlace := ["internal/reflectlite.TypeOf"], unfollowed := true, recurses := true, apart := false, narrowed := true }
def NeedleApartUptoSaid : Prop := needleApartUptoRow.holds Try.pinned (OpenSpec.upto needleApartSpec)

end Rows
end Go.Proofs.Ytkmifimdjdjdpaa
