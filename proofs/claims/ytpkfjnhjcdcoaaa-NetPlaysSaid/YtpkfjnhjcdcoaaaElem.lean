/-
  append of one element (of any number of cells) to a row of the call's own: the run.
-/
import Derived.Test.YtpkfjnhjcdcoaaaMem
import Derived.Deep.AppendLies
namespace Go.Proofs.Ytpkfjnhjcdcoaaa
open Go.RowKit

theorem append_elem {P : Program} {W : World} {base : Nat} {T e : TypeId} {i : TypeInfo} {z : Value} {size bytes : Nat} (hT : P.underlying T = some (.slice e)) (hi : P.info? e = some i) (hz0 : i.zero = some z) (hz1 : i.size = size) (hz2 : i.bytes = bytes)
    (hzs : z.cells.size = size) (hs0 : 0 < size) {v : Value} {k : Nat} {xs : List Value} (hown : W.ownsRow base e size v k xs) (us : List Value) (hus : us.length = size) (h1 : ∀ u ∈ us, u.oneCell' = true)
    (hk : (k + 1) * bytes ≤ 140737488355328) (hk2 : k + 1 ≤ maxLen) (hbase : base ≤ W.heap.size) :
    ∃ g cap W2, (Builtin.append_ #[T, T] T #[v, .slice (some ⟨W.heap.size, 0, none⟩) 1 1]).run P (W.alloc (.cells us.toArray e)) = .ok (.slice (some ⟨g, 0, none⟩) (k + 1) cap) W2 ∧
      W2.ownsRow base e size (.slice (some ⟨g, 0, none⟩) (k + 1) cap) (k + 1) (xs ++ us) ∧ W.grownBy W2 v.ownBlock ∧ (v.ownBlock = some g ∨ g = W.heap.size + 1) ∧ k + 1 ≤ cap := by
  have hb : Blk (W.alloc (.cells us.toArray e)) W.heap.size e us.toArray := Blk.made W _ _
  have hsz : (W.alloc (.cells us.toArray e)).heap.size = W.heap.size + 1 := by simp
  obtain ⟨g, cap, W2, hrun, hown2, hgrow, hat, hlt⟩ := run_append_lies (P := P) (W.alloc (.cells us.toArray e)) T T base e i z size bytes hT hi hz0 hz1 hz2 hzs hs0
    _ k xs (hown.alloc _) ⟨W.heap.size, 0, none⟩ 1 1 us (by omega) (by simpa using World.news_of_block hb) h1 (by decide) hk2 hk (by rw [hsz]; omega) (W.heap.size + 1) hsz
  refine ⟨g, cap, W2, hrun, hown2, grown_trans (World.grownBy_alloc W _ _) hgrow, hat, ?_⟩
  rcases hown2.2 with ⟨e1, _⟩ | ⟨_, _, _, e1, _, _, e2, _⟩
  · cases e1
  · cases e1; exact e2


end Go.Proofs.Ytpkfjnhjcdcoaaa
