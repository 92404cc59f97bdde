/-
  The walk of corncriblaw02.SumBursts.
-/
import Derived.Test.YtpkfjnhjcdcoaaaSum
namespace Go.Proofs.Ytpkfjnhjcdcoaaa
open Go.RowKit

attribute [local go_sem] Oper.semAt_some

/-- Four bytes in a row, turned one behind the other. -/
def turned (l : List (BitVec 8)) (k : Nat) (t : BitVec 32) : Nat → List (BitVec 8)
  | 0 => l
  | i + 1 => (turned l k t i).set (k + i) (l.getD (k + i) 0 ^^^ Crc.part t i)

theorem turned_length (l : List (BitVec 8)) (k : Nat) (t : BitVec 32) (i : Nat) : (turned l k t i).length = l.length := by
  induction i with
  | zero => rfl
  | succ i ih => simp [turned, ih]
theorem turned_far (l : List (BitVec 8)) (k : Nat) (t : BitVec 32) (i j : Nat) (h : k + i ≤ j) : (turned l k t i)[j]? = l[j]? := by
  induction i with
  | zero => rfl
  | succ i ih => rw [turned, List.getElem?_set_ne (by omega)]; exact ih (by omega)

/-- A text with four bytes in a row turned has another sum. -/
theorem turned_ne (l : List (BitVec 8)) (k : Nat) (t : BitVec 32) (h : k + 4 ≤ l.length) (ht : t ≠ 0#32) : Crc.of l ≠ Crc.of (turned l k t 4) := by
  have e : ∃ A c0 c1 c2 c3 Z, l = A ++ ([c0, c1, c2, c3] ++ Z) ∧ A.length = k := by
    refine ⟨l.take k, l[k], l[k + 1], l[k + 2], l[k + 3], l.drop (k + 4), ?_, by rw [List.length_take]; omega⟩
    have e1 := List.drop_eq_getElem_cons (i := k) (l := l) (by omega)
    have e2 := List.drop_eq_getElem_cons (i := k + 1) (l := l) (by omega)
    have e3 := List.drop_eq_getElem_cons (i := k + 2) (l := l) (by omega)
    have e4 := List.drop_eq_getElem_cons (i := k + 3) (l := l) (by omega)
    conv => lhs; rw [← List.take_append_drop k l, e1, e2, e3, e4]
    rfl
  obtain ⟨A, c0, c1, c2, c3, Z, rfl, rfl⟩ := e
  have := Crc.of_ne_four A Z c0 c1 c2 c3 t ht
  have e2 : turned (A ++ ([c0, c1, c2, c3] ++ Z)) A.length t 4 = A ++ ([c0 ^^^ Crc.part t 0, c1 ^^^ Crc.part t 1, c2 ^^^ Crc.part t 2, c3 ^^^ Crc.part t 3] ++ Z) := by
    simp [turned, List.getD]
  rw [e2]
  exact this

theorem turn_value (x : BitVec 8) (t : BitVec 32) (i : Nat) : bits .xor .u8 (x.toNat : Int) ((t.toNat : Int) / (256 ^ i : Nat) % 256) = ((x ^^^ Crc.part t i).toNat : Int) := by
  have e : ((t.toNat : Int) / (256 ^ i : Nat) % 256) = ((Crc.part t i).toNat : Int) := by
    unfold Crc.part
    rw [BitVec.toNat_setWidth, BitVec.toNat_ushiftRight, Nat.shiftRight_eq_div_pow, Nat.pow_mul]
    rw [Int.natCast_emod, Int.natCast_ediv]
    rfl
  rw [e]
  have hb := (x ^^^ Crc.part t i).isLt
  show IntKind.u8.wrap ((BitVec.ofInt 8 (x.toNat : Int) ^^^ BitVec.ofInt 8 ((Crc.part t i).toNat : Int)).toNat : Int) = _
  rw [BitVec.ofInt_natCast, BitVec.ofInt_natCast, BitVec.ofNat_toNat, BitVec.ofNat_toNat, BitVec.setWidth_eq, BitVec.setWidth_eq]
  show ((x ^^^ Crc.part t i).toNat : Int) % 256 = _
  omega

end Go.Proofs.Ytpkfjnhjcdcoaaa
