/-
  The document's answer for layer 2 (corncribref02): Step, Of, Tail.
-/
import Derived.Test.YtmmmakfmpopniaaSeal
namespace Go.Proofs.Ytmmmakfmpopniaa
open Go.RowKit

theorem one_bit (r : BitVec 32) (b : Bool) : Crc.one (r ^^^ (if b then 1#32 else 0#32)) = (if (r.getLsbD 0 != b) then (r >>> 1) ^^^ 0x82F63B78#32 else r >>> 1) := by
  have hs : ((if b then 1#32 else 0#32 : BitVec 32)) >>> 1 = 0#32 := by cases b <;> decide
  unfold Crc.one
  rw [BitVec.ushiftRight_xor_distrib, hs, BitVec.xor_zero, BitVec.getLsbD_xor]
  cases h : r.getLsbD 0 <;> cases b <;> simp

/-- A byte's bits, k of them gone. -/
theorem bit_of (c : BitVec 8) (k : Nat) : ((c.toNat / 2 ^ k : Nat) : Int) % 2 = (if c.getLsbD k then 1 else 0) := by
  have h : c.getLsbD k = decide (c.toNat / 2 ^ k % 2 = 1) := by
    rw [BitVec.getLsbD, Nat.testBit_eq_decide_div_mod_eq]
  rw [h]
  by_cases h1 : c.toNat / 2 ^ k % 2 = 1
  · rw [if_pos (by simpa using h1)]; omega
  · rw [if_neg (by simpa using h1)]; omega

end Go.Proofs.Ytmmmakfmpopniaa
