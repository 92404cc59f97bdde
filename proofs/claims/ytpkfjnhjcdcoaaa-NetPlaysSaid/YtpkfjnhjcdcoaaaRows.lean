/-
  No cell of these rows narrows 'for every input' (looked for: loops, veiled, ifaces, maps, wideKeys, modest, calm, conditions, laid).
  DERIVED. THE GIVEN ROWS OF THIS SEAT. 8 by the template 'for every input the law returns true; each argument reads behind the call as it read before'; 0 by the template 'total and deterministic' (their statements: YtpkfjnhjcdcoaaaTotals.lean).
  GIVEN WITH THE SEED: the statements are not yours to turn. If you find one false, say at which input.
  Laid BY PROGRAM, IN A SANDBOX (cutbox-rows.mjs): the forced cells as the released guide's own fill.sh prints them over the translation ed707f00ed50f76c… (all of the seat's roots in one cut). By AI agents, Wed Nov 11 2026. No macro, syntax, notation, axiom, sorry.
-/
import Derived.Test.YtpkfjnhjcdcoaaaChecked
import GoSem.Claim
import GoSem.ClaimJoined
import GoSem.ClaimMapViews
import Derived.JoinedTies
import Derived.KernelRfl
namespace Go.Proofs.Ytpkfjnhjcdcoaaa
/- THE CELL 'sum', in the pinned program and in every row, IS THE sha256 OF THE DUMP (.gsa) THAT YtpkfjnhjcdcoaaaProg.lean LOADS. Nothing in Lean hashes anything: it is a label: what it is worth is what the hold of that sum in a sandbox is worth. -/
noncomputable def Try.pinned : Pinned := { name := "ytpkfjnhjcdcoaaa", sum := "ed707f00ed50f76c462803c1fc97e6d470ec33a8f836dcc5ba73419e4f84c6ec", checked := Try.checked }
namespace Rows
def none {H : Type} : Left H := { results := [], args := [] }

/-- 'corncriblaw14.WireReads': WHATEVER THE INPUT: true; the input reads as it did. -/
def wireReadsSpec : ChangeSpec := { name := "wireReads", fn := fun _ => fun
  | [d] => { results := [.lit (.bool true)], args := [d] }
  | _ => none }
def wireReadsRow : OpenClaim := { program := "ytpkfjnhjcdcoaaa", sum := "ed707f00ed50f76c462803c1fc97e6d470ec33a8f836dcc5ba73419e4f84c6ec", func := "corncrib/corncriblaw14.WireReads", spec := "wireReads", inPlace := ["internal/reflectlite.TypeOf"], unfollowed := true, recurses := true, apart := false }
def WireReadsSaid : Prop := wireReadsRow.holds Try.pinned (OpenSpec.ofChange wireReadsSpec)

/-- ITS FALSE NEIGHBOUR: 'it returns false'. Refute it at one input. -/
def wireReadsWrong : ChangeSpec := { name := "wireReads", fn := fun _ => fun
  | [d] => { results := [.lit (.bool false)], args := [d] }
  | _ => none }
def WireReadsWrongFalsely : Prop := wireReadsRow.holds Try.pinned (OpenSpec.ofChange wireReadsWrong)

/-- 'corncriblaw14.WireBack': WHATEVER THE INPUT: true; the input reads as it did. -/
def wireBackSpec : ChangeSpec := { name := "wireBack", fn := fun _ => fun
  | [d1, d2] => { results := [.lit (.bool true)], args := [d1, d2] }
  | _ => none }
def wireBackRow : OpenClaim := { program := "ytpkfjnhjcdcoaaa", sum := "ed707f00ed50f76c462803c1fc97e6d470ec33a8f836dcc5ba73419e4f84c6ec", func := "corncrib/corncriblaw14.WireBack", spec := "wireBack", inPlace := ["internal/reflectlite.TypeOf"], unfollowed := true, recurses := true, apart := false }
def WireBackSaid : Prop := wireBackRow.holds Try.pinned (OpenSpec.ofChange wireBackSpec)

/-- ITS FALSE NEIGHBOUR: 'it returns false'. Refute it at one input. -/
def wireBackWrong : ChangeSpec := { name := "wireBack", fn := fun _ => fun
  | [d1, d2] => { results := [.lit (.bool false)], args := [d1, d2] }
  | _ => none }
def WireBackWrongFalsely : Prop := wireBackRow.holds Try.pinned (OpenSpec.ofChange wireBackWrong)

/-- 'corncriblaw14.WireApart': WHATEVER THE INPUT: true; the input reads as it did. -/
def wireApartSpec : ChangeSpec := { name := "wireApart", fn := fun _ => fun
  | [d1, d2, d3] => { results := [.lit (.bool true)], args := [d1, d2, d3] }
  | _ => none }
def wireApartRow : OpenClaim := { program := "ytpkfjnhjcdcoaaa", sum := "ed707f00ed50f76c462803c1fc97e6d470ec33a8f836dcc5ba73419e4f84c6ec", func := "corncrib/corncriblaw14.WireApart", spec := "wireApart", inPlace := ["internal/reflectlite.TypeOf"], unfollowed := true, recurses := true, apart := false }
def WireApartSaid : Prop := wireApartRow.holds Try.pinned (OpenSpec.ofChange wireApartSpec)

/-- ITS FALSE NEIGHBOUR: 'it returns false'. Refute it at one input. -/
def wireApartWrong : ChangeSpec := { name := "wireApart", fn := fun _ => fun
  | [d1, d2, d3] => { results := [.lit (.bool false)], args := [d1, d2, d3] }
  | _ => none }
def WireApartWrongFalsely : Prop := wireApartRow.holds Try.pinned (OpenSpec.ofChange wireApartWrong)

/-- 'corncriblaw14.WireReplies': WHATEVER THE INPUT: true; the input reads as it did. -/
def wireRepliesSpec : ChangeSpec := { name := "wireReplies", fn := fun _ => fun
  | [d1, d2, d3, d4] => { results := [.lit (.bool true)], args := [d1, d2, d3, d4] }
  | _ => none }
def wireRepliesRow : OpenClaim := { program := "ytpkfjnhjcdcoaaa", sum := "ed707f00ed50f76c462803c1fc97e6d470ec33a8f836dcc5ba73419e4f84c6ec", func := "corncrib/corncriblaw14.WireReplies", spec := "wireReplies", inPlace := ["internal/reflectlite.TypeOf"], unfollowed := true, recurses := true, apart := false }
def WireRepliesSaid : Prop := wireRepliesRow.holds Try.pinned (OpenSpec.ofChange wireRepliesSpec)

/-- ITS FALSE NEIGHBOUR: 'it returns false'. Refute it at one input. -/
def wireRepliesWrong : ChangeSpec := { name := "wireReplies", fn := fun _ => fun
  | [d1, d2, d3, d4] => { results := [.lit (.bool false)], args := [d1, d2, d3, d4] }
  | _ => none }
def WireRepliesWrongFalsely : Prop := wireRepliesRow.holds Try.pinned (OpenSpec.ofChange wireRepliesWrong)

/-- 'corncriblaw15.NetCuts': WHATEVER THE INPUT: true; the input reads as it did. -/
def netCutsSpec : ChangeSpec := { name := "netCuts", fn := fun _ => fun
  | [d1, d2, d3] => { results := [.lit (.bool true)], args := [d1, d2, d3] }
  | _ => none }
def netCutsRow : OpenClaim := { program := "ytpkfjnhjcdcoaaa", sum := "ed707f00ed50f76c462803c1fc97e6d470ec33a8f836dcc5ba73419e4f84c6ec", func := "corncrib/corncriblaw15.NetCuts", spec := "netCuts", inPlace := ["internal/reflectlite.TypeOf"], unfollowed := true, recurses := true, apart := false }
def NetCutsSaid : Prop := netCutsRow.holds Try.pinned (OpenSpec.ofChange netCutsSpec)

/-- ITS FALSE NEIGHBOUR: 'it returns false'. Refute it at one input. -/
def netCutsWrong : ChangeSpec := { name := "netCuts", fn := fun _ => fun
  | [d1, d2, d3] => { results := [.lit (.bool false)], args := [d1, d2, d3] }
  | _ => none }
def NetCutsWrongFalsely : Prop := netCutsRow.holds Try.pinned (OpenSpec.ofChange netCutsWrong)

/-- 'corncriblaw15.NetCounts': WHATEVER THE INPUT: true; the input reads as it did. -/
def netCountsSpec : ChangeSpec := { name := "netCounts", fn := fun _ => fun
  | [d] => { results := [.lit (.bool true)], args := [d] }
  | _ => none }
def netCountsRow : OpenClaim := { program := "ytpkfjnhjcdcoaaa", sum := "ed707f00ed50f76c462803c1fc97e6d470ec33a8f836dcc5ba73419e4f84c6ec", func := "corncrib/corncriblaw15.NetCounts", spec := "netCounts", inPlace := ["internal/reflectlite.TypeOf"], unfollowed := true, recurses := true, apart := false }
def NetCountsSaid : Prop := netCountsRow.holds Try.pinned (OpenSpec.ofChange netCountsSpec)

/-- ITS FALSE NEIGHBOUR: 'it returns false'. Refute it at one input. -/
def netCountsWrong : ChangeSpec := { name := "netCounts", fn := fun _ => fun
  | [d] => { results := [.lit (.bool false)], args := [d] }
  | _ => none }
def NetCountsWrongFalsely : Prop := netCountsRow.holds Try.pinned (OpenSpec.ofChange netCountsWrong)

/-- 'corncriblaw15.NetPlays': WHATEVER THE INPUT: true; the input reads as it did. -/
def netPlaysSpec : ChangeSpec := { name := "netPlays", fn := fun _ => fun
  | [d] => { results := [.lit (.bool true)], args := [d] }
  | _ => none }
def netPlaysRow : OpenClaim := { program := "ytpkfjnhjcdcoaaa", sum := "ed707f00ed50f76c462803c1fc97e6d470ec33a8f836dcc5ba73419e4f84c6ec", func := "corncrib/corncriblaw15.NetPlays", spec := "netPlays", inPlace := ["internal/reflectlite.TypeOf"], unfollowed := true, recurses := true, apart := false }
def NetPlaysSaid : Prop := netPlaysRow.holds Try.pinned (OpenSpec.ofChange netPlaysSpec)

/-- ITS FALSE NEIGHBOUR: 'it returns false'. Refute it at one input. -/
def netPlaysWrong : ChangeSpec := { name := "netPlays", fn := fun _ => fun
  | [d] => { results := [.lit (.bool false)], args := [d] }
  | _ => none }
def NetPlaysWrongFalsely : Prop := netPlaysRow.holds Try.pinned (OpenSpec.ofChange netPlaysWrong)

/-- 'corncriblaw15.NetOwn': WHATEVER THE INPUT: true; the input reads as it did. -/
def netOwnSpec : ChangeSpec := { name := "netOwn", fn := fun _ => fun
  | [d] => { results := [.lit (.bool true)], args := [d] }
  | _ => none }
def netOwnRow : OpenClaim := { program := "ytpkfjnhjcdcoaaa", sum := "ed707f00ed50f76c462803c1fc97e6d470ec33a8f836dcc5ba73419e4f84c6ec", func := "corncrib/corncriblaw15.NetOwn", spec := "netOwn", inPlace := ["internal/reflectlite.TypeOf"], unfollowed := true, recurses := true, apart := false }
def NetOwnSaid : Prop := netOwnRow.holds Try.pinned (OpenSpec.ofChange netOwnSpec)

/-- ITS FALSE NEIGHBOUR: 'it returns false'. Refute it at one input. -/
def netOwnWrong : ChangeSpec := { name := "netOwn", fn := fun _ => fun
  | [d] => { results := [.lit (.bool false)], args := [d] }
  | _ => none }
def NetOwnWrongFalsely : Prop := netOwnRow.holds Try.pinned (OpenSpec.ofChange netOwnWrong)

/- THE SECOND FORM. 'bulk': how many values and letters a reading holds, each counted each time it is reached (what is shared counts as often as it is met; a slice's spare places count too). A statement '..UptoSaid' is the law's where the arguments, and the package variables that the reading takes, are together of bulk at most 1048576: NARROWER than '..Said'. Prove '..Said' where nothing that the law and all that it calls make is longer than what came in: it says more and counts as full. Else prove '..UptoSaid'. A law counts once. -/
mutual
def uptoBulk {H : Type} : DataW H → Nat
  | .lit (.string bytes) => bytes.length + 1
  | .lit _ => 1
  | .nil => 1
  | .ptr d => uptoBulk d + 1
  | .slice elems spare => uptoBulkAll elems + uptoBulkAll spare + 1
  | .agg parts => uptoBulkAll parts + 1
  | .iface _ d => uptoBulk d + 1
  | .map entries => uptoBulkEntries entries + 1
  | .held _ => 1
def uptoBulkAll {H : Type} : List (DataW H) → Nat
  | [] => 0
  | d :: r => uptoBulk d + uptoBulkAll r
def uptoBulkEntries {H : Type} : List (Lit × DataW H) → Nat
  | [] => 0
  | x :: r => uptoBulkEntry x + uptoBulkEntries r
def uptoBulkEntry {H : Type} : Lit × DataW H → Nat
  | (.string bytes, d) => bytes.length + uptoBulk d + 1
  | (_, d) => uptoBulk d + 1
 end
def uptoSmall : (H : Type) → List (DataW H) → Bool := fun _ ds => decide (uptoBulkAll ds ≤ 1048576)
def OpenSpec.upto (s : _root_.Go.ChangeSpec) : _root_.Go.OpenSpec := { _root_.Go.OpenSpec.ofChange s with cond := some uptoSmall }

/-- 'corncriblaw14.WireReads', WHERE WHAT IT READS IS OF BULK AT MOST 1048576: true; the input reads as it did. -/
def wireReadsUptoRow : OpenClaim := { program := "ytpkfjnhjcdcoaaa", sum := "ed707f00ed50f76c462803c1fc97e6d470ec33a8f836dcc5ba73419e4f84c6ec", func := "corncrib/corncriblaw14.WireReads", spec := "wireReads", inPlace := ["internal/reflectlite.TypeOf"], unfollowed := true, recurses := true, apart := false, narrowed := true }
def WireReadsUptoSaid : Prop := wireReadsUptoRow.holds Try.pinned (OpenSpec.upto wireReadsSpec)

/-- 'corncriblaw14.WireBack', WHERE WHAT IT READS IS OF BULK AT MOST 1048576: true; the input reads as it did. -/
def wireBackUptoRow : OpenClaim := { program := "ytpkfjnhjcdcoaaa", sum := "ed707f00ed50f76c462803c1fc97e6d470ec33a8f836dcc5ba73419e4f84c6ec", func := "corncrib/corncriblaw14.WireBack", spec := "wireBack", inPlace := ["internal/reflectlite.TypeOf"], unfollowed := true, recurses := true, apart := false, narrowed := true }
def WireBackUptoSaid : Prop := wireBackUptoRow.holds Try.pinned (OpenSpec.upto wireBackSpec)

/-- 'corncriblaw14.WireApart', WHERE WHAT IT READS IS OF BULK AT MOST 1048576: true; the input reads as it did. -/
def wireApartUptoRow : OpenClaim := { program := "ytpkfjnhjcdcoaaa", sum := "ed707f00ed50f76c462803c1fc97e6d470ec33a8f836dcc5ba73419e4f84c6ec", func := "corncrib/corncriblaw14.WireApart", spec := "wireApart", inPlace := ["internal/reflectlite.TypeOf"], unfollowed := true, recurses := true, apart := false, narrowed := true }
def WireApartUptoSaid : Prop := wireApartUptoRow.holds Try.pinned (OpenSpec.upto wireApartSpec)

/-- 'corncriblaw14.WireReplies', WHERE WHAT IT READS IS OF BULK AT MOST 1048576: true; the input reads as it did. -/
def wireRepliesUptoRow : OpenClaim := { program := "ytpkfjnhjcdcoaaa", sum := "ed707f00ed50f76c462803c1fc97e6d470ec33a8f836dcc5ba73419e4f84c6ec", func := "corncrib/corncriblaw14.WireReplies", spec := "wireReplies", inPlace := ["internal/reflectlite.TypeOf"], unfollowed := true, recurses := true, apart := false, narrowed := true }
def WireRepliesUptoSaid : Prop := wireRepliesUptoRow.holds Try.pinned (OpenSpec.upto wireRepliesSpec)

/-- 'corncriblaw15.NetCuts', WHERE WHAT IT READS IS OF BULK AT MOST 1048576: true; the input reads as it did. -/
def netCutsUptoRow : OpenClaim := { program := "ytpkfjnhjcdcoaaa", sum := "ed707f00ed50f76c462803c1fc97e6d470ec33a8f836dcc5ba73419e4f84c6ec", func := "corncrib/corncriblaw15.NetCuts", spec := "netCuts", inPlace := ["internal/reflectlite.TypeOf"], unfollowed := true, recurses := true, apart := false, narrowed := true }
def NetCutsUptoSaid : Prop := netCutsUptoRow.holds Try.pinned (OpenSpec.upto netCutsSpec)

/-- 'corncriblaw15.NetCounts', WHERE WHAT IT READS IS OF BULK AT MOST 1048576: true; the input reads as it did. -/
def netCountsUptoRow : OpenClaim := { program := "ytpkfjnhjcdcoaaa", sum := "ed707f00ed50f76c462803c1fc97e6d470ec33a8f836dcc5ba73419e4f84c6ec", func := "corncrib/corncriblaw15.NetCounts", spec := "netCounts", inPlace := ["internal/reflectlite.TypeOf"], unfollowed := true, recurses := true, apart := false, narrowed := true }
def NetCountsUptoSaid : Prop := netCountsUptoRow.holds Try.pinned (OpenSpec.upto netCountsSpec)

/-- 'corncriblaw15.NetPlays', WHERE WHAT IT READS IS OF BULK AT MOST 1048576: true; the input reads as it did. -/
def netPlaysUptoRow : OpenClaim := { program := "ytpkfjnhjcdcoaaa", sum := "ed707f00ed50f76c462803c1fc97e6d470ec33a8f836dcc5ba73419e4f84c6ec", func := "corncrib/corncriblaw15.NetPlays", spec := "netPlays", inPlace := ["internal/reflectlite.TypeOf"], unfollowed := true, recurses := true, apart := false, narrowed := true }
def NetPlaysUptoSaid : Prop := netPlaysUptoRow.holds Try.pinned (OpenSpec.upto netPlaysSpec)

/-- 'corncriblaw15.NetOwn', WHERE WHAT IT READS IS OF BULK AT MOST 1048576: true; the input reads as it did. -/
def netOwnUptoRow : OpenClaim := { program := "ytpkfjnhjcdcoaaa", sum := "ed707f00ed50f76c462803c1fc97e6d470ec33a8f836dcc5ba73419e4f84c6ec", func := "corncrib/corncriblaw15.NetOwn", spec := "netOwn", inPlace := ["internal/reflectlite.TypeOf"], unfollowed := true, recurses := true, apart := false, narrowed := true }
def NetOwnUptoSaid : Prop := netOwnUptoRow.holds Try.pinned (OpenSpec.upto netOwnSpec)

end Rows
end Go.Proofs.Ytpkfjnhjcdcoaaa
