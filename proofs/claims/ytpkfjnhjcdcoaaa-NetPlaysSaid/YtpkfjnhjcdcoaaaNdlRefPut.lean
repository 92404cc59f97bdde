/-
  The document's bytes of a needle.
-/
import Derived.Test.YtpkfjnhjcdcoaaaNdlAlive
import Derived.Test.YtpkfjnhjcdcoaaaElem
import Derived.Deep.RegionHeld3
namespace Go.Proofs.Ytpkfjnhjcdcoaaa
open Go.RowKit

/-- One byte laid and appended, as the loop does it. -/
theorem append_byte {W : World} {base g k cap : Nat} {l : List (BitVec 8)} (hown : W.ownsRow base 5 1 (.slice (some ⟨g, 0, none⟩) k cap) k (l.map bv)) (hk : k ≤ 1099511627776) (hbase : base ≤ W.heap.size) :
    ∃ g2 cap2 W2, (Builtin.append_ #[22, 22] 22 #[.slice (some ⟨g, 0, none⟩) k cap, .slice (some ⟨W.heap.size, 0, none⟩) 1 1]).run Try.prog (W.alloc (.cells #[.int .u8 0] 5)) = .ok (.slice (some ⟨g2, 0, none⟩) (k + 1) cap2) W2 ∧
      W2.ownsRow base 5 1 (.slice (some ⟨g2, 0, none⟩) (k + 1) cap2) (k + 1) ((l ++ zs 1).map bv) ∧ W.grownBy W2 (some g) := by
  obtain ⟨i0, hi, hz0, hz1, hz2⟩ := info_parts info_u8
  obtain ⟨g2, cap2, W2, h1, h2, h3, -, -⟩ := append_elem (P := Try.prog) Try.underlying22 hi hz0 hz1 hz2 rfl (by decide) hown [.int .u8 0] rfl (fun u hu => by obtain rfl := List.mem_singleton.1 hu; rfl) (by omega) (by unfold maxLen; omega) hbase
  refine ⟨g2, cap2, W2, h1, ?_, h3⟩
  rw [List.map_append]
  exact h2

end Go.Proofs.Ytpkfjnhjcdcoaaa
