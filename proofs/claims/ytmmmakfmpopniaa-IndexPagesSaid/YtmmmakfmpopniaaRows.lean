/-
  No cell of these rows narrows 'for every input' (looked for: loops, veiled, ifaces, maps, wideKeys, modest, calm, conditions, laid).
  DERIVED. THE GIVEN ROWS OF THIS SEAT. 4 by the template 'for every input the law returns true; each argument reads behind the call as it read before'; 0 by the template 'total and deterministic' (their statements: YtmmmakfmpopniaaTotals.lean).
  GIVEN WITH THE SEED: the statements are not yours to turn. If you find one false, say at which input.
  Laid BY PROGRAM, IN A SANDBOX (cutbox-rows.mjs): the forced cells as the released guide's own fill.sh prints them over the translation 9e082d9a9a8c0fed… (all of the seat's roots in one cut). By AI agents, Wed Nov 11 2026. No macro, syntax, notation, axiom, sorry.
-/
import Derived.Test.YtmmmakfmpopniaaChecked
import GoSem.Claim
import GoSem.ClaimJoined
import GoSem.ClaimMapViews
import Derived.JoinedTies
import Derived.KernelRfl
namespace Go.Proofs.Ytmmmakfmpopniaa
/- THE CELL 'sum', in the pinned program and in every row, IS THE sha256 OF THE DUMP (.gsa) THAT YtmmmakfmpopniaaProg.lean LOADS. Nothing in Lean hashes anything: it is a label: what it is worth is what the hold of that sum in a sandbox is worth. -/
noncomputable def Try.pinned : Pinned := { name := "ytmmmakfmpopniaa", sum := "9e082d9a9a8c0fedeaf8a9848d32f6f1f0ec02ee62f6ce7ba5529c4752251b71", checked := Try.checked }
namespace Rows
def none {H : Type} : Left H := { results := [], args := [] }

/-- 'corncriblaw08.IndexMerge': WHATEVER THE INPUT: true; the input reads as it did. -/
def indexMergeSpec : ChangeSpec := { name := "indexMerge", fn := fun _ => fun
  | [d1, d2] => { results := [.lit (.bool true)], args := [d1, d2] }
  | _ => none }
def indexMergeRow : OpenClaim := { program := "ytmmmakfmpopniaa", sum := "9e082d9a9a8c0fedeaf8a9848d32f6f1f0ec02ee62f6ce7ba5529c4752251b71", func := "corncrib/corncriblaw08.IndexMerge", spec := "indexMerge", inPlace := ["slices.overlaps[corncrib/api.Pos]", "internal/reflectlite.TypeOf"], unfollowed := true, recurses := true, apart := false }
def IndexMergeSaid : Prop := indexMergeRow.holds Try.pinned (OpenSpec.ofChange indexMergeSpec)

/-- ITS FALSE NEIGHBOUR: 'it returns false'. Refute it at one input. -/
def indexMergeWrong : ChangeSpec := { name := "indexMerge", fn := fun _ => fun
  | [d1, d2] => { results := [.lit (.bool false)], args := [d1, d2] }
  | _ => none }
def IndexMergeWrongFalsely : Prop := indexMergeRow.holds Try.pinned (OpenSpec.ofChange indexMergeWrong)

/-- 'corncriblaw08.IndexPlays': WHATEVER THE INPUT: true; the input reads as it did. -/
def indexPlaysSpec : ChangeSpec := { name := "indexPlays", fn := fun _ => fun
  | [d1, d2, d3] => { results := [.lit (.bool true)], args := [d1, d2, d3] }
  | _ => none }
def indexPlaysRow : OpenClaim := { program := "ytmmmakfmpopniaa", sum := "9e082d9a9a8c0fedeaf8a9848d32f6f1f0ec02ee62f6ce7ba5529c4752251b71", func := "corncrib/corncriblaw08.IndexPlays", spec := "indexPlays", inPlace := ["slices.overlaps[corncrib/api.Pos]", "internal/reflectlite.TypeOf"], unfollowed := true, recurses := true, apart := false }
def IndexPlaysSaid : Prop := indexPlaysRow.holds Try.pinned (OpenSpec.ofChange indexPlaysSpec)

/-- ITS FALSE NEIGHBOUR: 'it returns false'. Refute it at one input. -/
def indexPlaysWrong : ChangeSpec := { name := "indexPlays", fn := fun _ => fun
  | [d1, d2, d3] => { results := [.lit (.bool false)], args := [d1, d2, d3] }
  | _ => none }
def IndexPlaysWrongFalsely : Prop := indexPlaysRow.holds Try.pinned (OpenSpec.ofChange indexPlaysWrong)

/-- 'corncriblaw08.IndexPages': WHATEVER THE INPUT: true; the input reads as it did. -/
def indexPagesSpec : ChangeSpec := { name := "indexPages", fn := fun _ => fun
  | [d1, d2] => { results := [.lit (.bool true)], args := [d1, d2] }
  | _ => none }
def indexPagesRow : OpenClaim := { program := "ytmmmakfmpopniaa", sum := "9e082d9a9a8c0fedeaf8a9848d32f6f1f0ec02ee62f6ce7ba5529c4752251b71", func := "corncrib/corncriblaw08.IndexPages", spec := "indexPages", inPlace := ["slices.overlaps[corncrib/api.Pos]", "internal/reflectlite.TypeOf"], unfollowed := true, recurses := true, apart := false }
def IndexPagesSaid : Prop := indexPagesRow.holds Try.pinned (OpenSpec.ofChange indexPagesSpec)

/-- ITS FALSE NEIGHBOUR: 'it returns false'. Refute it at one input. -/
def indexPagesWrong : ChangeSpec := { name := "indexPages", fn := fun _ => fun
  | [d1, d2] => { results := [.lit (.bool false)], args := [d1, d2] }
  | _ => none }
def IndexPagesWrongFalsely : Prop := indexPagesRow.holds Try.pinned (OpenSpec.ofChange indexPagesWrong)

/-- 'corncriblaw08.IndexOwn': WHATEVER THE INPUT: true; the input reads as it did. -/
def indexOwnSpec : ChangeSpec := { name := "indexOwn", fn := fun _ => fun
  | [d1, d2] => { results := [.lit (.bool true)], args := [d1, d2] }
  | _ => none }
def indexOwnRow : OpenClaim := { program := "ytmmmakfmpopniaa", sum := "9e082d9a9a8c0fedeaf8a9848d32f6f1f0ec02ee62f6ce7ba5529c4752251b71", func := "corncrib/corncriblaw08.IndexOwn", spec := "indexOwn", inPlace := ["slices.overlaps[corncrib/api.Pos]", "internal/reflectlite.TypeOf"], unfollowed := true, recurses := true, apart := false }
def IndexOwnSaid : Prop := indexOwnRow.holds Try.pinned (OpenSpec.ofChange indexOwnSpec)

/-- ITS FALSE NEIGHBOUR: 'it returns false'. Refute it at one input. -/
def indexOwnWrong : ChangeSpec := { name := "indexOwn", fn := fun _ => fun
  | [d1, d2] => { results := [.lit (.bool false)], args := [d1, d2] }
  | _ => none }
def IndexOwnWrongFalsely : Prop := indexOwnRow.holds Try.pinned (OpenSpec.ofChange indexOwnWrong)

/- THE SECOND FORM. 'bulk': how many values and letters a reading holds, each counted each time it is reached (what is shared counts as often as it is met; a slice's spare places count too). A statement '..UptoSaid' is the law's where the arguments, and the package variables that the reading takes, are together of bulk at most 1048576: NARROWER than '..Said'. Prove '..Said' where nothing that the law and all that it calls make is longer than what came in: it says more and counts as full. Else prove '..UptoSaid'. A law counts once. -/
mutual
def uptoBulk {H : Type} : DataW H → Nat
  | .lit (.string bytes) => bytes.length + 1
  | .lit _ => 1
  | .nil => 1
  | .ptr d => uptoBulk d + 1
  | .slice elems spare => uptoBulkAll elems + uptoBulkAll spare + 1
  | .agg parts => uptoBulkAll parts + 1
  | .iface _ d => uptoBulk d + 1
  | .map entries => uptoBulkEntries entries + 1
  | .held _ => 1
def uptoBulkAll {H : Type} : List (DataW H) → Nat
  | [] => 0
  | d :: r => uptoBulk d + uptoBulkAll r
def uptoBulkEntries {H : Type} : List (Lit × DataW H) → Nat
  | [] => 0
  | x :: r => uptoBulkEntry x + uptoBulkEntries r
def uptoBulkEntry {H : Type} : Lit × DataW H → Nat
  | (.string bytes, d) => bytes.length + uptoBulk d + 1
  | (_, d) => uptoBulk d + 1
 end
def uptoSmall : (H : Type) → List (DataW H) → Bool := fun _ ds => decide (uptoBulkAll ds ≤ 1048576)
def OpenSpec.upto (s : _root_.Go.ChangeSpec) : _root_.Go.OpenSpec := { _root_.Go.OpenSpec.ofChange s with cond := some uptoSmall }

/-- 'corncriblaw08.IndexMerge', WHERE WHAT IT READS IS OF BULK AT MOST 1048576: true; the input reads as it did. -/
def indexMergeUptoRow : OpenClaim := { program := "ytmmmakfmpopniaa", sum := "9e082d9a9a8c0fedeaf8a9848d32f6f1f0ec02ee62f6ce7ba5529c4752251b71", func := "corncrib/corncriblaw08.IndexMerge", spec := "indexMerge", inPlace := ["slices.overlaps[corncrib/api.Pos]", "internal/reflectlite.TypeOf"], unfollowed := true, recurses := true, apart := false, narrowed := true }
def IndexMergeUptoSaid : Prop := indexMergeUptoRow.holds Try.pinned (OpenSpec.upto indexMergeSpec)

/-- 'corncriblaw08.IndexPlays', WHERE WHAT IT READS IS OF BULK AT MOST 1048576: true; the input reads as it did. -/
def indexPlaysUptoRow : OpenClaim := { program := "ytmmmakfmpopniaa", sum := "9e082d9a9a8c0fedeaf8a9848d32f6f1f0ec02ee62f6ce7ba5529c4752251b71", func := "corncrib/corncriblaw08.IndexPlays", spec := "indexPlays", inPlace := ["slices.overlaps[corncrib/api.Pos]", "internal/reflectlite.TypeOf"], unfollowed := true, recurses := true, apart := false, narrowed := true }
def IndexPlaysUptoSaid : Prop := indexPlaysUptoRow.holds Try.pinned (OpenSpec.upto indexPlaysSpec)

/-- 'corncriblaw08.IndexPages', WHERE WHAT IT READS IS OF BULK AT MOST 1048576: true; the input reads as it did. -/
def indexPagesUptoRow : OpenClaim := { program := "ytmmmakfmpopniaa", sum := "9e082d9a9a8c0fedeaf8a9848d32f6f1f0ec02ee62f6ce7ba5529c4752251b71", func := "corncrib/corncriblaw08.IndexPages", spec := "indexPages", inPlace := ["slices.overlaps[corncrib/api.Pos]", "internal/reflectlite.TypeOf"], unfollowed := true, recurses := true, apart := false, narrowed := true }
def IndexPagesUptoSaid : Prop := indexPagesUptoRow.holds Try.pinned (OpenSpec.upto indexPagesSpec)

/-- 'corncriblaw08.IndexOwn', WHERE WHAT IT READS IS OF BULK AT MOST 1048576: true; the input reads as it did. -/
def indexOwnUptoRow : OpenClaim := { program := "ytmmmakfmpopniaa", sum := "9e082d9a9a8c0fedeaf8a9848d32f6f1f0ec02ee62f6ce7ba5529c4752251b71", func := "corncrib/corncriblaw08.IndexOwn", spec := "indexOwn", inPlace := ["slices.overlaps[corncrib/api.Pos]", "internal/reflectlite.TypeOf"], unfollowed := true, recurses := true, apart := false, narrowed := true }
def IndexOwnUptoSaid : Prop := indexOwnUptoRow.holds Try.pinned (OpenSpec.upto indexOwnSpec)

end Rows
end Go.Proofs.Ytmmmakfmpopniaa
