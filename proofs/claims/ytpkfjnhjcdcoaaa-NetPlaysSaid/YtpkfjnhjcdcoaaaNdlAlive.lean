/-
  corncriblaw03.alive.
-/
import Derived.Test.YtpkfjnhjcdcoaaaNdlBack
namespace Go.Proofs.Ytpkfjnhjcdcoaaa
open Go.RowKit

theorem NdGot.is {L : List (BitVec 8)} {w w' : World} {e : Ending} (h : NdGot L w e w') {key ck : Nat} {g : Bool} {lx : List (BitVec 8)} {all cf : Nat} (hg : ndGet L = (key, ck, g, lx, all, cf)) :
    Below w.heap.size w w' ∧ ∃ av cv, e = .returned (.tuple #[.agg #[.int .u64 (key : Nat), .int .u32 (ck : Nat), .bool g, .slice av lx.length cv], .int .i64 (all : Nat), errc cf]) ∧ lx.length ≤ cv ∧ w'.ownsRow w.heap.size 5 1 (.slice av lx.length cv) lx.length (lx.map bv) := by
  obtain ⟨B, key', ck', g', lx', all', cf', he, av, cv, rfl, h1, h2⟩ := h
  rw [hg] at he
  simp only [Prod.mk.injEq] at he
  obtain ⟨rfl, rfl, rfl, rfl, rfl, rfl⟩ := he
  exact ⟨B, av, cv, rfl, h1, h2⟩

end Go.Proofs.Ytpkfjnhjcdcoaaa
