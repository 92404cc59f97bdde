/-
  pack.Zero, pack.Pad, pack.Whole.
-/
import Derived.Test.YtcdlmpiihcopaaaDoorMore
namespace Go.Proofs.YtcdlmpiihcopaaaDoor
open Go.RowKit

attribute [local go_sem] Oper.semAt_some

/-- Is a byte other than nought? -/
def nz (l : List (BitVec 8)) : Bool := l.any (fun x => x != 0#8)
theorem nz_next (l : List (BitVec 8)) (i : Nat) (h : i < l.length) : nz (l.take (i + 1)) = (nz (l.take i) || l.getD i 0 != 0#8) := by
  unfold nz
  rw [List.take_succ_eq_append_getElem h, List.any_append]
  simp [List.getD, h]
theorem nz_true (l : List (BitVec 8)) (i : Nat) (h : i < l.length) (hx : l.getD i 0 ≠ 0#8) : nz l = true := by
  unfold nz
  rw [List.any_eq_true]
  refine ⟨l[i], List.getElem_mem h, ?_⟩
  simpa [List.getD, h] using hx

/-- How many bytes lack. -/
def padv (n : Int) : Int := if n < 0 then 0 else (8 - n % 8) % 8

end Go.Proofs.YtcdlmpiihcopaaaDoor
