/-
  The contracts of the package sum: nibble, More, Of.
-/
import Derived.Test.YtmmmakfmpopniaaPack
import Derived.Test.YtmmmakfmpopniaaCrc
namespace Go.Proofs.Ytmmmakfmpopniaa
open Go.RowKit

theorem xor32 (a b : BitVec 32) : bits .xor .u32 (a.toNat : Int) (b.toNat : Int) = ((a ^^^ b).toNat : Int) := by
  have hb := (a ^^^ b).isLt
  show IntKind.u32.wrap ((BitVec.ofInt 32 (a.toNat : Int) ^^^ BitVec.ofInt 32 (b.toNat : Int)).toNat : Int) = _
  rw [BitVec.ofInt_natCast, BitVec.ofInt_natCast, BitVec.ofNat_toNat, BitVec.ofNat_toNat, BitVec.setWidth_eq, BitVec.setWidth_eq]
  show ((a ^^^ b).toNat : Int) % 4294967296 = _
  omega

theorem low4 (a : BitVec 32) : bits .and .u32 (a.toNat : Int) 15 = ((a.setWidth 4).toNat : Int) := by
  have ha := a.isLt
  show IntKind.u32.wrap ((BitVec.ofInt 32 (a.toNat : Int) &&& BitVec.ofInt 32 15).toNat : Int) = _
  rw [BitVec.ofInt_natCast, BitVec.toNat_and, BitVec.toNat_ofNat, Nat.mod_eq_of_lt (by omega)]
  show ((a.toNat &&& (2 ^ 4 - 1) : Nat) : Int) % 4294967296 = _
  rw [Nat.and_two_pow_sub_one_eq_mod, BitVec.toNat_setWidth]
  omega

/-- The table's cells. -/
theorem tab_cell (i : Nat) (h : i < 16) : ([Value.int IntKind.u32 0, Value.int IntKind.u32 274646895, Value.int IntKind.u32 549293790,
            Value.int IntKind.u32 820201905, Value.int IntKind.u32 1098587580, Value.int IntKind.u32 1361435347,
            Value.int IntKind.u32 1640403810, Value.int IntKind.u32 1905808397, Value.int IntKind.u32 2197175160,
            Value.int IntKind.u32 2460548119, Value.int IntKind.u32 2722870694, Value.int IntKind.u32 2987750089,
            Value.int IntKind.u32 3280807620, Value.int IntKind.u32 3553878443, Value.int IntKind.u32 3811616794,
            Value.int IntKind.u32 4084100981])[i]'h = Value.int .u32 ((Crc.tab (BitVec.ofNat 4 i)).toNat : Int) := by
  have h' : i = 0 ∨ i = 1 ∨ i = 2 ∨ i = 3 ∨ i = 4 ∨ i = 5 ∨ i = 6 ∨ i = 7 ∨ i = 8 ∨ i = 9 ∨ i = 10 ∨ i = 11 ∨ i = 12 ∨ i = 13 ∨ i = 14 ∨ i = 15 := by omega
  rcases h' with rfl | rfl | rfl | rfl | rfl | rfl | rfl | rfl | rfl | rfl | rfl | rfl | rfl | rfl | rfl | rfl <;> rfl


attribute [local go_sem] tab_cell

theorem nib_value (n : BitVec 32) : bits .xor .u32 ((Crc.tab (n.setWidth 4)).toNat : Int) ((n.toNat : Int) / 16) = ((Crc.nib n).toNat : Int) := by
  have e : ((n >>> 4).toNat : Int) = (n.toNat : Int) / 16 := by
    rw [BitVec.toNat_ushiftRight, Nat.shiftRight_eq_div_pow]
    omega
  rw [← e, xor32]
  rfl

theorem not_value (s : BitVec 32) : bits .xor .u32 IntKind.u32.max (s.toNat : Int) = ((~~~ s).toNat : Int) := by
  have e : IntKind.u32.max = ((BitVec.allOnes 32).toNat : Int) := by decide
  rw [e, xor32, BitVec.allOnes_xor]

/-- A byte goes into the register. -/
theorem byte_in (r : BitVec 32) (c : BitVec 8) : bits .xor .u32 (r.toNat : Int) (c.toNat : Int) = ((r ^^^ c.setWidth 32).toNat : Int) := by
  have e : (c.toNat : Int) = ((c.setWidth 32).toNat : Int) := by rw [BitVec.toNat_setWidth]; have := c.isLt; omega
  rw [e, xor32]

/-- A block of bytes that is known whole, as a slice. -/
theorem Blk.bytes {w : World} {b : Nat} {t : TypeId} (l : List (BitVec 8)) {cs : Array Value} (h : Blk w b t cs) (he : cs.toList = l.map bv) {B : Nat} (hB : b < B) {n : Nat} (hn : l.length = n) : BSl w B (some ⟨b, 0, none⟩) n l :=
  ⟨hn, fun _ => ⟨b, 0, rfl, hB, fun k hk => by
    rw [Nat.zero_add, h.cell, ← Array.getElem?_toList, he, List.getElem?_map, List.getElem?_eq_getElem (by omega)]
    simp [List.getD, show k < l.length by omega]⟩⟩

theorem blk_first (w : World) (o o' : Obj) {t : TypeId} {cs : Array Value} (h : o = .cells cs t) : Blk ((w.alloc o).alloc o') w.heap.size t cs := by
  subst h
  exact (Blk.made w t cs).alloc o'

end Go.Proofs.Ytmmmakfmpopniaa
