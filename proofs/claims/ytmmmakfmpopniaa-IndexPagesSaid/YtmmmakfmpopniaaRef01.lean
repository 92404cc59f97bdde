/-
  The document's answer for layer 1 (corncribref01): Sized, Same, Bytes, Number.
-/
import Derived.Test.YtmmmakfmpopniaaPack
namespace Go.Proofs.Ytmmmakfmpopniaa
open Go.RowKit

attribute [local go_sem] Oper.semAt_some

/-- A row with its first bytes written. -/
theorem BSl.row {W : World} {base g k c : Nat} {xs : List Value} (h : W.ownsRow base 5 1 (.slice (some ⟨g, 0, none⟩) k c) k xs) (l : List (BitVec 8)) (hl : xs = l.map bv) : BSl W W.heap.size (some ⟨g, 0, none⟩) k l := by
  have hlen : l.length = k := by have := h.1; rw [hl, List.length_map] at this; omega
  refine ⟨hlen, fun hs => ⟨g, 0, rfl, (h.lt g rfl).2, fun j hj => ?_⟩⟩
  rw [Nat.zero_add, h.cellAt j (by omega), hl, List.getElem?_map, List.getElem?_eq_getElem (by omega)]
  simp [List.getD, show j < l.length by omega]

/-- i bytes of a number are written, the rest is nought. -/
def partly (n k i : Nat) : List (BitVec 8) := Num.le n i ++ List.replicate (k - i) 0

theorem le_snoc (n i : Nat) : Num.le n (i + 1) = Num.le n i ++ [BitVec.ofNat 8 (n / 256 ^ i)] := by
  induction i generalizing n with
  | zero => simp [Num.le]
  | succ i ih =>
    have h := ih (n / 256)
    have e : Num.le n (i + 1 + 1) = BitVec.ofNat 8 n :: Num.le (n / 256) (i + 1) := rfl
    rw [e, h, Nat.div_div_eq_div_mul, Nat.pow_succ, Nat.mul_comm 256]
    rfl

theorem partly_next (n k i : Nat) (h : i < k) : (partly n k i).set i (BitVec.ofNat 8 (n / 256 ^ i)) = partly n k (i + 1) := by
  unfold partly
  obtain ⟨r, hr⟩ : ∃ r, k - i = r + 1 := ⟨k - i - 1, by omega⟩
  rw [le_snoc, hr, show k - (i + 1) = r by omega, List.replicate_succ, List.set_append_right _ _ (by rw [Num.le_length]; exact Nat.le_refl _), Num.le_length, Nat.sub_self]
  simp

end Go.Proofs.Ytmmmakfmpopniaa
