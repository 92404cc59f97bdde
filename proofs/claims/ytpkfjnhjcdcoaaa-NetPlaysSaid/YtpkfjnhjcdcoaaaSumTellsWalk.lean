/-
  The walk of corncriblaw02.SumTells.
-/
import Derived.Test.YtpkfjnhjcdcoaaaOpen
import Derived.Test.YtpkfjnhjcdcoaaaSumBurstsWalk
import Derived.Deep.DeepCutAuto
namespace Go.Proofs.Ytpkfjnhjcdcoaaa
open Go.RowKit

/-- One bit of a byte turned. -/
theorem flip_ne (x : BitVec 8) (r : Nat) (h : r < 8) : x ^^^ BitVec.ofNat 8 (2 ^ r) ≠ x := by
  intro e
  have h1 : x ^^^ (x ^^^ BitVec.ofNat 8 (2 ^ r)) = x ^^^ x := by rw [e]
  rw [← BitVec.xor_assoc, BitVec.xor_self, BitVec.zero_xor] at h1
  have h' : r = 0 ∨ r = 1 ∨ r = 2 ∨ r = 3 ∨ r = 4 ∨ r = 5 ∨ r = 6 ∨ r = 7 := by omega
  rcases h' with rfl | rfl | rfl | rfl | rfl | rfl | rfl | rfl <;> exact absurd h1 (by decide)

/-- Sealed bytes with one byte other than it was are not right. -/
theorem sealed_turned (l : List (BitVec 8)) (j : Nat) (c : BitVec 8) (hj : j < l.length + 4) (hc : c ≠ (l ++ Num.le (Crc.of l).toNat 4).getD j 0) :
    Num.num (((l ++ Num.le (Crc.of l).toNat 4).set j c).drop l.length) ≠ (Crc.of (((l ++ Num.le (Crc.of l).toNat 4).set j c).take l.length)).toNat := by
  have hx : (Crc.of l).toNat < 256 ^ 4 := (Crc.of l).isLt
  by_cases h : j < l.length
  · rw [List.set_append_left _ _ (by simpa using h), List.drop_left' (by simp), List.take_left' (by simp), Num.num_le_of_lt hx]
    intro e
    have e := BitVec.eq_of_toNat_eq e
    have hl : l = l.take j ++ l[j] :: l.drop (j + 1) := by
      rw [List.getElem_cons_drop, List.take_append_drop]
    have hs : l.set j c = l.take j ++ c :: l.drop (j + 1) := List.set_eq_take_append_cons_drop ▸ (if_pos h)
    rw [hs] at e
    conv at e => lhs; rw [hl]
    refine Crc.of_ne_one (l.take j) (l.drop (j + 1)) (l[j]) c (fun e2 => hc ?_) e
    rw [← e2]
    simp [List.getD, List.getElem?_append_left h, h]
  · rw [List.set_append_right _ _ (by simpa using h), List.drop_left' rfl, List.take_left' rfl]
    intro e
    have hl4 : ((Num.le (Crc.of l).toNat 4).set (j - l.length) c).length = 4 := by rw [List.length_set, Num.le_length]
    have h1 := Num.le_num ((Num.le (Crc.of l).toNat 4).set (j - l.length) c)
    rw [hl4, e] at h1
    apply hc
    have h2 := congrArg (fun L => L.getD (j - l.length) 0) h1
    have h3 : j - l.length < 4 := by omega
    simp only [List.getD, List.getElem?_append_right (show l.length ≤ j by omega)] at h2 ⊢
    rw [h2]
    simp [Num.le_length, h3]

/-- The byte that is turned, as the code reckons it. -/
theorem flip_value (x : BitVec 8) (r : Nat) (h : r < 8) : bits .xor .u8 (x.toNat : Int) (2 ^ r % 256) = ((x ^^^ BitVec.ofNat 8 (2 ^ r)).toNat : Int) := by
  have e : ((2 : Int) ^ r % 256) = ((BitVec.ofNat 8 (2 ^ r)).toNat : Int) := by
    have h' : r = 0 ∨ r = 1 ∨ r = 2 ∨ r = 3 ∨ r = 4 ∨ r = 5 ∨ r = 6 ∨ r = 7 := by omega
    rcases h' with rfl | rfl | rfl | rfl | rfl | rfl | rfl | rfl <;> rfl
  rw [e]
  have hb := (x ^^^ BitVec.ofNat 8 (2 ^ r)).isLt
  show IntKind.u8.wrap ((BitVec.ofInt 8 (x.toNat : Int) ^^^ BitVec.ofInt 8 ((BitVec.ofNat 8 (2 ^ r)).toNat : Int)).toNat : Int) = _
  rw [BitVec.ofInt_natCast, BitVec.ofInt_natCast, BitVec.ofNat_toNat, BitVec.ofNat_toNat, BitVec.setWidth_eq, BitVec.setWidth_eq]
  show ((x ^^^ BitVec.ofNat 8 (2 ^ r)).toNat : Int) % 256 = _
  omega

end Go.Proofs.Ytpkfjnhjcdcoaaa
