/-
  sum.Seal, sum.Open.
-/
import Derived.Test.YtmmmakfmpopniaaSum
import Derived.Test.YtmmmakfmpopniaaMore
namespace Go.Proofs.Ytmmmakfmpopniaa
open Go.RowKit

theorem own_cap {W : World} {base : Nat} {e : TypeId} {a : Option Addr} {k c : Nat} {xs : List Value} (h : W.ownsRow base e 1 (.slice a k c) k xs) : k ≤ c := by
  rcases h.2 with ⟨e1, e2⟩ | ⟨_, _, _, e1, _, _, e2, _⟩
  · omega
  · cases e1; exact e2
theorem own_more {W : World} {base base' : Nat} {e : TypeId} {v : Value} {k : Nat} {xs : List Value} (h : W.ownsRow base e 1 v k xs) (hb : base' ≤ base) : W.ownsRow base' e 1 v k xs := by
  refine ⟨h.1, ?_⟩
  rcases h.2 with h2 | ⟨g', cap', cur, e1, e2, e3⟩
  · exact .inl h2
  · exact .inr ⟨g', cap', cur, e1, Nat.le_trans hb e2, e3⟩

theorem of_fits (l : List (BitVec 8)) : (Crc.of l).toNat < 256 ^ 4 := (Crc.of l).isLt

end Go.Proofs.Ytmmmakfmpopniaa
