/-
  The chapter's example of layer 1.
-/
import Derived.Test.YtpkfjnhjcdcoaaaPutAll
import Derived.Test.YtpkfjnhjcdcoaaaRef01
namespace Go.Proofs.Ytpkfjnhjcdcoaaa
open Go.RowKit

/-- A block of bytes that is known whole, as a slice. -/
theorem blk_bytes {w : World} {b : Nat} {t : TypeId} (l : List (BitVec 8)) {cs : Array Value} (h : Blk w b t cs) (he : cs.toList = l.map bv) {B : Nat} (hB : b < B) {n : Nat} (hn : l.length = n) : BSl w B (some ⟨b, 0, none⟩) n l :=
  ⟨hn, fun _ => ⟨b, 0, rfl, hB, fun k hk => by
    rw [Nat.zero_add, h.cell, ← Array.getElem?_toList, he, List.getElem?_map, List.getElem?_eq_getElem (by omega)]
    simp [List.getD, show k < l.length by omega]⟩⟩

theorem own_below {w w' : World} {B base : Nat} {e : TypeId} {v : Value} {k : Nat} {xs : List Value} (h : w.ownsRow base e 1 v k xs) (hb : Below B w w') (hB : w.heap.size ≤ B) : w'.ownsRow base e 1 v k xs := by
  refine ⟨h.1, ?_⟩
  rcases h.2 with h2 | ⟨g, cap, cur, e1, e2, e3, e4⟩
  · exact .inl h2
  · exact .inr ⟨g, cap, cur, e1, e2, (hb.block g (Nat.lt_of_lt_of_le (Array.getElem?_eq_some_iff.1 e3).1 hB)).trans e3, e4⟩

end Go.Proofs.Ytpkfjnhjcdcoaaa
