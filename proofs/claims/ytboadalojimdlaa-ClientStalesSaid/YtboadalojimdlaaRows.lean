/-
  No cell of these rows narrows 'for every input' (looked for: loops, veiled, ifaces, maps, wideKeys, modest, calm, conditions, laid).
  DERIVED. THE GIVEN ROWS OF THIS SEAT. 10 by the template 'for every input the law returns true; each argument reads behind the call as it read before'; 0 by the template 'total and deterministic' (their statements: YtboadalojimdlaaTotals.lean).
  GIVEN WITH THE SEED: the statements are not yours to turn. If you find one false, say at which input.
  Laid BY PROGRAM, IN A SANDBOX (cutbox-rows.mjs): the forced cells as the released guide's own fill.sh prints them over the translation bbb7ec67e8fda23a… (all of the seat's roots in one cut). By AI agents, Wed Nov 11 2026. No macro, syntax, notation, axiom, sorry.
-/
import Derived.Test.YtboadalojimdlaaChecked
import GoSem.Claim
import GoSem.ClaimJoined
import GoSem.ClaimMapViews
import Derived.JoinedTies
import Derived.KernelRfl
namespace Go.Proofs.Ytboadalojimdlaa
/- THE CELL 'sum', in the pinned program and in every row, IS THE sha256 OF THE DUMP (.gsa) THAT YtboadalojimdlaaProg.lean LOADS. Nothing in Lean hashes anything: it is a label: what it is worth is what the hold of that sum in a sandbox is worth. -/
noncomputable def Try.pinned : Pinned := { name := "ytboadalojimdlaa", sum := "bbb7ec67e8fda23a9cdf3696699fc69fe6d563a28965e8c6c14c0ee3aff53969", checked := Try.checked }
namespace Rows
def none {H : Type} : Left H := { results := [], args := [] }

/-- 'corncriblaw23.HistSteps': WHATEVER THE INPUT: true; the input reads as it did. -/
def histStepsSpec : ChangeSpec := { name := "histSteps", fn := fun _ => fun
  | [d1, d2, d3] => { results := [.lit (.bool true)], args := [d1, d2, d3] }
  | _ => none }
def histStepsRow : OpenClaim := { program := "ytboadalojimdlaa", sum := "bbb7ec67e8fda23a9cdf3696699fc69fe6d563a28965e8c6c14c0ee3aff53969", func := "corncrib/corncriblaw23.HistSteps", spec := "histSteps", unfollowed := true, recurses := true, plainKeys := false, apart := false }
def HistStepsSaid : Prop := histStepsRow.holds Try.pinned (OpenSpec.ofChange histStepsSpec)

/-- ITS FALSE NEIGHBOUR: 'it returns false'. Refute it at one input. -/
def histStepsWrong : ChangeSpec := { name := "histSteps", fn := fun _ => fun
  | [d1, d2, d3] => { results := [.lit (.bool false)], args := [d1, d2, d3] }
  | _ => none }
def HistStepsWrongFalsely : Prop := histStepsRow.holds Try.pinned (OpenSpec.ofChange histStepsWrong)

/-- 'corncriblaw23.HistMore': WHATEVER THE INPUT: true; the input reads as it did. -/
def histMoreSpec : ChangeSpec := { name := "histMore", fn := fun _ => fun
  | [d1, d2, d3, d4] => { results := [.lit (.bool true)], args := [d1, d2, d3, d4] }
  | _ => none }
def histMoreRow : OpenClaim := { program := "ytboadalojimdlaa", sum := "bbb7ec67e8fda23a9cdf3696699fc69fe6d563a28965e8c6c14c0ee3aff53969", func := "corncrib/corncriblaw23.HistMore", spec := "histMore", unfollowed := true, recurses := true, plainKeys := false, apart := false }
def HistMoreSaid : Prop := histMoreRow.holds Try.pinned (OpenSpec.ofChange histMoreSpec)

/-- ITS FALSE NEIGHBOUR: 'it returns false'. Refute it at one input. -/
def histMoreWrong : ChangeSpec := { name := "histMore", fn := fun _ => fun
  | [d1, d2, d3, d4] => { results := [.lit (.bool false)], args := [d1, d2, d3, d4] }
  | _ => none }
def HistMoreWrongFalsely : Prop := histMoreRow.holds Try.pinned (OpenSpec.ofChange histMoreWrong)

/-- 'corncriblaw23.HistEnds': WHATEVER THE INPUT: true; the input reads as it did. -/
def histEndsSpec : ChangeSpec := { name := "histEnds", fn := fun _ => fun
  | [d] => { results := [.lit (.bool true)], args := [d] }
  | _ => none }
def histEndsRow : OpenClaim := { program := "ytboadalojimdlaa", sum := "bbb7ec67e8fda23a9cdf3696699fc69fe6d563a28965e8c6c14c0ee3aff53969", func := "corncrib/corncriblaw23.HistEnds", spec := "histEnds", unfollowed := true, recurses := true, plainKeys := false, apart := false }
def HistEndsSaid : Prop := histEndsRow.holds Try.pinned (OpenSpec.ofChange histEndsSpec)

/-- ITS FALSE NEIGHBOUR: 'it returns false'. Refute it at one input. -/
def histEndsWrong : ChangeSpec := { name := "histEnds", fn := fun _ => fun
  | [d] => { results := [.lit (.bool false)], args := [d] }
  | _ => none }
def HistEndsWrongFalsely : Prop := histEndsRow.holds Try.pinned (OpenSpec.ofChange histEndsWrong)

/-- 'corncriblaw16.OnceKeys': WHATEVER THE INPUT: true; the input reads as it did. -/
def onceKeysSpec : ChangeSpec := { name := "onceKeys", fn := fun _ => fun
  | [d1, d2] => { results := [.lit (.bool true)], args := [d1, d2] }
  | _ => none }
def onceKeysRow : OpenClaim := { program := "ytboadalojimdlaa", sum := "bbb7ec67e8fda23a9cdf3696699fc69fe6d563a28965e8c6c14c0ee3aff53969", func := "corncrib/corncriblaw16.OnceKeys", spec := "onceKeys", inPlace := ["internal/reflectlite.TypeOf"], unfollowed := true, recurses := true, plainKeys := false, apart := false }
def OnceKeysSaid : Prop := onceKeysRow.holds Try.pinned (OpenSpec.ofChange onceKeysSpec)

/-- ITS FALSE NEIGHBOUR: 'it returns false'. Refute it at one input. -/
def onceKeysWrong : ChangeSpec := { name := "onceKeys", fn := fun _ => fun
  | [d1, d2] => { results := [.lit (.bool false)], args := [d1, d2] }
  | _ => none }
def OnceKeysWrongFalsely : Prop := onceKeysRow.holds Try.pinned (OpenSpec.ofChange onceKeysWrong)

/-- 'corncriblaw16.OnceOwn': WHATEVER THE INPUT: true; the input reads as it did. -/
def onceOwnSpec : ChangeSpec := { name := "onceOwn", fn := fun _ => fun
  | [d] => { results := [.lit (.bool true)], args := [d] }
  | _ => none }
def onceOwnRow : OpenClaim := { program := "ytboadalojimdlaa", sum := "bbb7ec67e8fda23a9cdf3696699fc69fe6d563a28965e8c6c14c0ee3aff53969", func := "corncrib/corncriblaw16.OnceOwn", spec := "onceOwn", inPlace := ["internal/reflectlite.TypeOf"], unfollowed := true, recurses := true, plainKeys := false, apart := false }
def OnceOwnSaid : Prop := onceOwnRow.holds Try.pinned (OpenSpec.ofChange onceOwnSpec)

/-- ITS FALSE NEIGHBOUR: 'it returns false'. Refute it at one input. -/
def onceOwnWrong : ChangeSpec := { name := "onceOwn", fn := fun _ => fun
  | [d] => { results := [.lit (.bool false)], args := [d] }
  | _ => none }
def OnceOwnWrongFalsely : Prop := onceOwnRow.holds Try.pinned (OpenSpec.ofChange onceOwnWrong)

/-- 'corncriblaw16.OnceClears': WHATEVER THE INPUT: true; the input reads as it did. -/
def onceClearsSpec : ChangeSpec := { name := "onceClears", fn := fun _ => fun
  | [d] => { results := [.lit (.bool true)], args := [d] }
  | _ => none }
def onceClearsRow : OpenClaim := { program := "ytboadalojimdlaa", sum := "bbb7ec67e8fda23a9cdf3696699fc69fe6d563a28965e8c6c14c0ee3aff53969", func := "corncrib/corncriblaw16.OnceClears", spec := "onceClears", inPlace := ["internal/reflectlite.TypeOf"], unfollowed := true, recurses := true, plainKeys := false, apart := false }
def OnceClearsSaid : Prop := onceClearsRow.holds Try.pinned (OpenSpec.ofChange onceClearsSpec)

/-- ITS FALSE NEIGHBOUR: 'it returns false'. Refute it at one input. -/
def onceClearsWrong : ChangeSpec := { name := "onceClears", fn := fun _ => fun
  | [d] => { results := [.lit (.bool false)], args := [d] }
  | _ => none }
def OnceClearsWrongFalsely : Prop := onceClearsRow.holds Try.pinned (OpenSpec.ofChange onceClearsWrong)

/-- 'corncriblaw16.OncePlays': WHATEVER THE INPUT: true; the input reads as it did. -/
def oncePlaysSpec : ChangeSpec := { name := "oncePlays", fn := fun _ => fun
  | [d1, d2, d3, d4, d5] => { results := [.lit (.bool true)], args := [d1, d2, d3, d4, d5] }
  | _ => none }
def oncePlaysRow : OpenClaim := { program := "ytboadalojimdlaa", sum := "bbb7ec67e8fda23a9cdf3696699fc69fe6d563a28965e8c6c14c0ee3aff53969", func := "corncrib/corncriblaw16.OncePlays", spec := "oncePlays", inPlace := ["internal/reflectlite.TypeOf"], unfollowed := true, recurses := true, plainKeys := false, apart := false }
def OncePlaysSaid : Prop := oncePlaysRow.holds Try.pinned (OpenSpec.ofChange oncePlaysSpec)

/-- ITS FALSE NEIGHBOUR: 'it returns false'. Refute it at one input. -/
def oncePlaysWrong : ChangeSpec := { name := "oncePlays", fn := fun _ => fun
  | [d1, d2, d3, d4, d5] => { results := [.lit (.bool false)], args := [d1, d2, d3, d4, d5] }
  | _ => none }
def OncePlaysWrongFalsely : Prop := oncePlaysRow.holds Try.pinned (OpenSpec.ofChange oncePlaysWrong)

/-- 'corncriblaw21.ClientCarries': WHATEVER THE INPUT: true; the input reads as it did. -/
def clientCarriesSpec : ChangeSpec := { name := "clientCarries", fn := fun _ => fun
  | [d1, d2, d3] => { results := [.lit (.bool true)], args := [d1, d2, d3] }
  | _ => none }
def clientCarriesRow : OpenClaim := { program := "ytboadalojimdlaa", sum := "bbb7ec67e8fda23a9cdf3696699fc69fe6d563a28965e8c6c14c0ee3aff53969", func := "corncrib/corncriblaw21.ClientCarries", spec := "clientCarries", inPlace := ["internal/reflectlite.TypeOf"], unfollowed := true, recurses := true, plainKeys := false, apart := false }
def ClientCarriesSaid : Prop := clientCarriesRow.holds Try.pinned (OpenSpec.ofChange clientCarriesSpec)

/-- ITS FALSE NEIGHBOUR: 'it returns false'. Refute it at one input. -/
def clientCarriesWrong : ChangeSpec := { name := "clientCarries", fn := fun _ => fun
  | [d1, d2, d3] => { results := [.lit (.bool false)], args := [d1, d2, d3] }
  | _ => none }
def ClientCarriesWrongFalsely : Prop := clientCarriesRow.holds Try.pinned (OpenSpec.ofChange clientCarriesWrong)

/-- 'corncriblaw21.ClientStales': WHATEVER THE INPUT: true; the input reads as it did. -/
def clientStalesSpec : ChangeSpec := { name := "clientStales", fn := fun _ => fun
  | [d1, d2, d3] => { results := [.lit (.bool true)], args := [d1, d2, d3] }
  | _ => none }
def clientStalesRow : OpenClaim := { program := "ytboadalojimdlaa", sum := "bbb7ec67e8fda23a9cdf3696699fc69fe6d563a28965e8c6c14c0ee3aff53969", func := "corncrib/corncriblaw21.ClientStales", spec := "clientStales", inPlace := ["internal/reflectlite.TypeOf"], unfollowed := true, recurses := true, plainKeys := false, apart := false }
def ClientStalesSaid : Prop := clientStalesRow.holds Try.pinned (OpenSpec.ofChange clientStalesSpec)

/-- ITS FALSE NEIGHBOUR: 'it returns false'. Refute it at one input. -/
def clientStalesWrong : ChangeSpec := { name := "clientStales", fn := fun _ => fun
  | [d1, d2, d3] => { results := [.lit (.bool false)], args := [d1, d2, d3] }
  | _ => none }
def ClientStalesWrongFalsely : Prop := clientStalesRow.holds Try.pinned (OpenSpec.ofChange clientStalesWrong)

/-- 'corncriblaw21.ClientOrder': WHATEVER THE INPUT: true; the input reads as it did. -/
def clientOrderSpec : ChangeSpec := { name := "clientOrder", fn := fun _ => fun
  | [d1, d2] => { results := [.lit (.bool true)], args := [d1, d2] }
  | _ => none }
def clientOrderRow : OpenClaim := { program := "ytboadalojimdlaa", sum := "bbb7ec67e8fda23a9cdf3696699fc69fe6d563a28965e8c6c14c0ee3aff53969", func := "corncrib/corncriblaw21.ClientOrder", spec := "clientOrder", inPlace := ["internal/reflectlite.TypeOf"], unfollowed := true, recurses := true, plainKeys := false, apart := false }
def ClientOrderSaid : Prop := clientOrderRow.holds Try.pinned (OpenSpec.ofChange clientOrderSpec)

/-- ITS FALSE NEIGHBOUR: 'it returns false'. Refute it at one input. -/
def clientOrderWrong : ChangeSpec := { name := "clientOrder", fn := fun _ => fun
  | [d1, d2] => { results := [.lit (.bool false)], args := [d1, d2] }
  | _ => none }
def ClientOrderWrongFalsely : Prop := clientOrderRow.holds Try.pinned (OpenSpec.ofChange clientOrderWrong)

/- THE SECOND FORM. 'bulk': how many values and letters a reading holds, each counted each time it is reached (what is shared counts as often as it is met; a slice's spare places count too). A statement '..UptoSaid' is the law's where the arguments, and the package variables that the reading takes, are together of bulk at most 1048576: NARROWER than '..Said'. Prove '..Said' where nothing that the law and all that it calls make is longer than what came in: it says more and counts as full. Else prove '..UptoSaid'. A law counts once. -/
mutual
def uptoBulk {H : Type} : DataW H → Nat
  | .lit (.string bytes) => bytes.length + 1
  | .lit _ => 1
  | .nil => 1
  | .ptr d => uptoBulk d + 1
  | .slice elems spare => uptoBulkAll elems + uptoBulkAll spare + 1
  | .agg parts => uptoBulkAll parts + 1
  | .iface _ d => uptoBulk d + 1
  | .map entries => uptoBulkEntries entries + 1
  | .held _ => 1
def uptoBulkAll {H : Type} : List (DataW H) → Nat
  | [] => 0
  | d :: r => uptoBulk d + uptoBulkAll r
def uptoBulkEntries {H : Type} : List (Lit × DataW H) → Nat
  | [] => 0
  | x :: r => uptoBulkEntry x + uptoBulkEntries r
def uptoBulkEntry {H : Type} : Lit × DataW H → Nat
  | (.string bytes, d) => bytes.length + uptoBulk d + 1
  | (_, d) => uptoBulk d + 1
 end
def uptoSmall : (H : Type) → List (DataW H) → Bool := fun _ ds => decide (uptoBulkAll ds ≤ 1048576)
def OpenSpec.upto (s : _root_.Go.ChangeSpec) : _root_.Go.OpenSpec := { _root_.Go.OpenSpec.ofChange s with cond := some uptoSmall }

/-- 'corncriblaw23.HistSteps', WHERE WHAT IT READS IS OF BULK AT MOST 1048576: true; the input reads as it did. -/
def histStepsUptoRow : OpenClaim := { program := "ytboadalojimdlaa", sum := "bbb7ec67e8fda23a9cdf3696699fc69fe6d563a28965e8c6c14c0ee3aff53969", func := "corncrib/corncriblaw23.HistSteps", spec := "histSteps", unfollowed := true, recurses := true, plainKeys := false, apart := false, narrowed := true }
def HistStepsUptoSaid : Prop := histStepsUptoRow.holds Try.pinned (OpenSpec.upto histStepsSpec)

/-- 'corncriblaw23.HistMore', WHERE WHAT IT READS IS OF BULK AT MOST 1048576: true; the input reads as it did. -/
def histMoreUptoRow : OpenClaim := { program := "ytboadalojimdlaa", sum := "bbb7ec67e8fda23a9cdf3696699fc69fe6d563a28965e8c6c14c0ee3aff53969", func := "corncrib/corncriblaw23.HistMore", spec := "histMore", unfollowed := true, recurses := true, plainKeys := false, apart := false, narrowed := true }
def HistMoreUptoSaid : Prop := histMoreUptoRow.holds Try.pinned (OpenSpec.upto histMoreSpec)

/-- 'corncriblaw23.HistEnds', WHERE WHAT IT READS IS OF BULK AT MOST 1048576: true; the input reads as it did. -/
def histEndsUptoRow : OpenClaim := { program := "ytboadalojimdlaa", sum := "bbb7ec67e8fda23a9cdf3696699fc69fe6d563a28965e8c6c14c0ee3aff53969", func := "corncrib/corncriblaw23.HistEnds", spec := "histEnds", unfollowed := true, recurses := true, plainKeys := false, apart := false, narrowed := true }
def HistEndsUptoSaid : Prop := histEndsUptoRow.holds Try.pinned (OpenSpec.upto histEndsSpec)

/-- 'corncriblaw16.OnceKeys', WHERE WHAT IT READS IS OF BULK AT MOST 1048576: true; the input reads as it did. -/
def onceKeysUptoRow : OpenClaim := { program := "ytboadalojimdlaa", sum := "bbb7ec67e8fda23a9cdf3696699fc69fe6d563a28965e8c6c14c0ee3aff53969", func := "corncrib/corncriblaw16.OnceKeys", spec := "onceKeys", inPlace := ["internal/reflectlite.TypeOf"], unfollowed := true, recurses := true, plainKeys := false, apart := false, narrowed := true }
def OnceKeysUptoSaid : Prop := onceKeysUptoRow.holds Try.pinned (OpenSpec.upto onceKeysSpec)

/-- 'corncriblaw16.OnceOwn', WHERE WHAT IT READS IS OF BULK AT MOST 1048576: true; the input reads as it did. -/
def onceOwnUptoRow : OpenClaim := { program := "ytboadalojimdlaa", sum := "bbb7ec67e8fda23a9cdf3696699fc69fe6d563a28965e8c6c14c0ee3aff53969", func := "corncrib/corncriblaw16.OnceOwn", spec := "onceOwn", inPlace := ["internal/reflectlite.TypeOf"], unfollowed := true, recurses := true, plainKeys := false, apart := false, narrowed := true }
def OnceOwnUptoSaid : Prop := onceOwnUptoRow.holds Try.pinned (OpenSpec.upto onceOwnSpec)

/-- 'corncriblaw16.OnceClears', WHERE WHAT IT READS IS OF BULK AT MOST 1048576: true; the input reads as it did. -/
def onceClearsUptoRow : OpenClaim := { program := "ytboadalojimdlaa", sum := "bbb7ec67e8fda23a9cdf3696699fc69fe6d563a28965e8c6c14c0ee3aff53969", func := "corncrib/corncriblaw16.OnceClears", spec := "onceClears", inPlace := ["internal/reflectlite.TypeOf"], unfollowed := true, recurses := true, plainKeys := false, apart := false, narrowed := true }
def OnceClearsUptoSaid : Prop := onceClearsUptoRow.holds Try.pinned (OpenSpec.upto onceClearsSpec)

/-- 'corncriblaw16.OncePlays', WHERE WHAT IT READS IS OF BULK AT MOST 1048576: true; the input reads as it did. -/
def oncePlaysUptoRow : OpenClaim := { program := "ytboadalojimdlaa", sum := "bbb7ec67e8fda23a9cdf3696699fc69fe6d563a28965e8c6c14c0ee3aff53969", func := "corncrib/corncriblaw16.OncePlays", spec := "oncePlays", inPlace := ["internal/reflectlite.TypeOf"], unfollowed := true, recurses := true, plainKeys := false, apart := false, narrowed := true }
def OncePlaysUptoSaid : Prop := oncePlaysUptoRow.holds Try.pinned (OpenSpec.upto oncePlaysSpec)

/-- 'corncriblaw21.ClientCarries', WHERE WHAT IT READS IS OF BULK AT MOST 1048576: true; the input reads as it did. -/
def clientCarriesUptoRow : OpenClaim := { program := "ytboadalojimdlaa", sum := "bbb7ec67e8fda23a9cdf3696699fc69fe6d563a28965e8c6c14c0ee3aff53969", func := "corncrib/corncriblaw21.ClientCarries", spec := "clientCarries", inPlace := ["internal/reflectlite.TypeOf"], unfollowed := true, recurses := true, plainKeys := false, apart := false, narrowed := true }
def ClientCarriesUptoSaid : Prop := clientCarriesUptoRow.holds Try.pinned (OpenSpec.upto clientCarriesSpec)

/-- 'corncriblaw21.ClientStales', WHERE WHAT IT READS IS OF BULK AT MOST 1048576: true; the input reads as it did. -/
def clientStalesUptoRow : OpenClaim := { program := "ytboadalojimdlaa", sum := "bbb7ec67e8fda23a9cdf3696699fc69fe6d563a28965e8c6c14c0ee3aff53969", func := "corncrib/corncriblaw21.ClientStales", spec := "clientStales", inPlace := ["internal/reflectlite.TypeOf"], unfollowed := true, recurses := true, plainKeys := false, apart := false, narrowed := true }
def ClientStalesUptoSaid : Prop := clientStalesUptoRow.holds Try.pinned (OpenSpec.upto clientStalesSpec)

/-- 'corncriblaw21.ClientOrder', WHERE WHAT IT READS IS OF BULK AT MOST 1048576: true; the input reads as it did. -/
def clientOrderUptoRow : OpenClaim := { program := "ytboadalojimdlaa", sum := "bbb7ec67e8fda23a9cdf3696699fc69fe6d563a28965e8c6c14c0ee3aff53969", func := "corncrib/corncriblaw21.ClientOrder", spec := "clientOrder", inPlace := ["internal/reflectlite.TypeOf"], unfollowed := true, recurses := true, plainKeys := false, apart := false, narrowed := true }
def ClientOrderUptoSaid : Prop := clientOrderUptoRow.holds Try.pinned (OpenSpec.upto clientOrderSpec)

end Rows
end Go.Proofs.Ytboadalojimdlaa
