/-
  The contracts of the package sum: nibble, More, Of.
-/
import Derived.Test.YtpkfjnhjcdcoaaaPack
import Derived.Test.YtpkfjnhjcdcoaaaCrc
namespace Go.Proofs.Ytpkfjnhjcdcoaaa
open Go.RowKit

theorem xor32 (a b : BitVec 32) : bits .xor .u32 (a.toNat : Int) (b.toNat : Int) = ((a ^^^ b).toNat : Int) := by
  have hb := (a ^^^ b).isLt
  show IntKind.u32.wrap ((BitVec.ofInt 32 (a.toNat : Int) ^^^ BitVec.ofInt 32 (b.toNat : Int)).toNat : Int) = _
  rw [BitVec.ofInt_natCast, BitVec.ofInt_natCast, BitVec.ofNat_toNat, BitVec.ofNat_toNat, BitVec.setWidth_eq, BitVec.setWidth_eq]
  show ((a ^^^ b).toNat : Int) % 4294967296 = _
  omega

theorem low4 (a : BitVec 32) : bits .and .u32 (a.toNat : Int) 15 = ((a.setWidth 4).toNat : Int) := by
  have ha := a.isLt
  show IntKind.u32.wrap ((BitVec.ofInt 32 (a.toNat : Int) &&& BitVec.ofInt 32 15).toNat : Int) = _
  rw [BitVec.ofInt_natCast, BitVec.toNat_and, BitVec.toNat_ofNat, Nat.mod_eq_of_lt (by omega)]
  show ((a.toNat &&& (2 ^ 4 - 1) : Nat) : Int) % 4294967296 = _
  rw [Nat.and_two_pow_sub_one_eq_mod, BitVec.toNat_setWidth]
  omega

/-- The table's cells. -/
theorem tab_cell (i : Nat) (h : i < 16) : ([Value.int IntKind.u32 0, Value.int IntKind.u32 274646895, Value.int IntKind.u32 549293790,
            Value.int IntKind.u32 820201905, Value.int IntKind.u32 1098587580, Value.int IntKind.u32 1361435347,
            Value.int IntKind.u32 1640403810, Value.int IntKind.u32 1905808397, Value.int IntKind.u32 2197175160,
            Value.int IntKind.u32 2460548119, Value.int IntKind.u32 2722870694, Value.int IntKind.u32 2987750089,
            Value.int IntKind.u32 3280807620, Value.int IntKind.u32 3553878443, Value.int IntKind.u32 3811616794,
            Value.int IntKind.u32 4084100981])[i]'h = Value.int .u32 ((Crc.tab (BitVec.ofNat 4 i)).toNat : Int) := by
  have h' : i = 0 ∨ i = 1 ∨ i = 2 ∨ i = 3 ∨ i = 4 ∨ i = 5 ∨ i = 6 ∨ i = 7 ∨ i = 8 ∨ i = 9 ∨ i = 10 ∨ i = 11 ∨ i = 12 ∨ i = 13 ∨ i = 14 ∨ i = 15 := by omega
  rcases h' with rfl | rfl | rfl | rfl | rfl | rfl | rfl | rfl | rfl | rfl | rfl | rfl | rfl | rfl | rfl | rfl <;> rfl


attribute [local go_sem] tab_cell

theorem nib_value (n : BitVec 32) : bits .xor .u32 ((Crc.tab (n.setWidth 4)).toNat : Int) ((n.toNat : Int) / 16) = ((Crc.nib n).toNat : Int) := by
  have e : ((n >>> 4).toNat : Int) = (n.toNat : Int) / 16 := by
    rw [BitVec.toNat_ushiftRight, Nat.shiftRight_eq_div_pow]
    omega
  rw [← e, xor32]
  rfl

theorem not_value (s : BitVec 32) : bits .xor .u32 IntKind.u32.max (s.toNat : Int) = ((~~~ s).toNat : Int) := by
  have e : IntKind.u32.max = ((BitVec.allOnes 32).toNat : Int) := by decide
  rw [e, xor32, BitVec.allOnes_xor]

theorem nibble_any (n : BitVec 32) (w : World) :
    Calls Try.prog 81 #[.int .u32 (n.toNat : Int)] w fun e w' => e = .returned (.int .u32 ((Crc.nib n).toNat : Int)) ∧ Below w.heap.size w w' := by
  have hn := n.isLt
  have hlow := low4 n
  have h4 := (n.setWidth 4).isLt
  have hb : BitVec.ofNat 4 (n.setWidth 4).toNat = n.setWidth 4 := by rw [BitVec.ofNat_toNat, BitVec.setWidth_eq]
  have hv := Lib.hid (nib_value n)
  generalize n.setWidth 4 = k at hlow hb h4 hv
  go_enter Try.func81, Try.ntmps81
  go_wp2_with fail
  go_ret
  exact ⟨ret_int hv.out, (Below.refl _ w).alloc (Nat.le_refl _) _⟩

/-- A byte goes into the register. -/
theorem byte_in (r : BitVec 32) (c : BitVec 8) : bits .xor .u32 (r.toNat : Int) (c.toNat : Int) = ((r ^^^ c.setWidth 32).toNat : Int) := by
  have e : (c.toNat : Int) = ((c.setWidth 32).toNat : Int) := by rw [BitVec.toNat_setWidth]; have := c.isLt; omega
  rw [e, xor32]

set_option maxHeartbeats 1000000 in
theorem more_any (s : BitVec 32) (a : Option Addr) (n c : Nat) (l : List (BitVec 8)) (w : World) (hl : BSl w w.heap.size a n l) (hm : n ≤ 1099511627776) :
    Calls Try.prog 64 #[.int .u32 (s.toNat : Int), .slice a n c] w fun e w' => e = .returned (.int .u32 ((Crc.more s l).toNat : Int)) ∧ Below w.heap.size w w' := by
  have hn := s.isLt
  go_enter Try.func64, Try.ntmps64
  go_wp2_with fail
  go_loopw [5, 12] (fun nv iv wr => ∃ (i : Nat), i ≤ n ∧ iv = .int .i64 i ∧ nv = .int .u32 ((Crc.run (~~~ s) (l.take i)).toNat : Int) ∧ Below w.heap.size w wr)
      (fun _ iv _ => n - (intOf iv).toNat)
  case atStart => 
    exact ⟨0, Nat.zero_le _, rfl, vint (not_value s), Below.refl _ w⟩
  case round =>
    obtain ⟨i, hi, rfl, rfl, Br⟩ := hrel
    by_cases hlt : i < n
    · obtain ⟨ab, off, rfl, hab, hc⟩ := hl.at_ hlt
      have hc : wr.cell? ⟨ab, off + i, none⟩ = some (bv (l.getD i 0)) := (Br.cell hab).trans hc
      have hnext : l.take (i + 1) = l.take i ++ [l.getD i 0] := by
        have := hl.1
        rw [List.take_succ_eq_append_getElem (by omega)]
        simp [List.getD, show i < l.length by omega]
      have hrun := congrArg (Crc.run (~~~ s)) hnext
      rw [Crc.run_snoc] at hrun
      unfold bv at hc
      generalize l.getD i 0 = x at *
      generalize Crc.run (~~~ s) (l.take i) = r at *
      have hx := byte_in r x
      have hb : Crc.byte r x = Crc.nib (Crc.nib (r ^^^ x.setWidth 32)) := rfl
      rw [hb] at hrun
      clear hb
      generalize r ^^^ x.setWidth 32 = y at hx hrun
      have N1 := Lib.hid (nibble_any y wr)
      go_wp2_with fail
      refine N1.out.mono ?_
      rintro e w1 ⟨rfl, B1⟩
      have B1 := Br.trans (B1.mono Br.size)
      clear Br N1
      go_wp2_with fail
      refine (nibble_any _ w1).mono ?_
      rintro e w2 ⟨rfl, B2⟩
      have B2 := B1.trans (B2.mono B1.size)
      clear B1
      go_wp2_with fail
      go_roundw
      case rel => exact ⟨i + 1, by omega, by go_num, by rw [hrun], B2⟩
      case measure => simp [intOf]; omega
    · obtain rfl : i = n := by omega
      have hl1 := hl.1
      have hall : l.take i = l := List.take_of_length_le (by omega)
      rw [hall]
      go_wp2_with fail
      go_ret
      exact ⟨ret_int (not_value _), Br⟩

theorem of_any (a : Option Addr) (n c : Nat) (l : List (BitVec 8)) (w : World) (hl : BSl w w.heap.size a n l) (hm : n ≤ 1099511627776) :
    Calls Try.prog 58 #[.slice a n c] w fun e w' => e = .returned (.int .u32 ((Crc.of l).toNat : Int)) ∧ Below w.heap.size w w' := by
  have H := Lib.hid (more_any 0#32 a n c l w hl hm)
  go_enter Try.func58, Try.ntmps58
  go_wp2_with fail
  refine H.out.mono ?_
  rintro e w1 ⟨rfl, B1⟩
  go_wp2_with fail
  go_ret
  exact ⟨rfl, B1⟩

theorem open_short (a : Option Addr) (n c : Nat) (w : World) (hn : n < 4) :
    Calls Try.prog 36 #[.slice a n c] w fun e w' => e = .returned (.tuple #[.slice none 0 0, er 3]) ∧ w = w' := by
  go_enter Try.func36, Try.ntmps36
  go_wp2_with fail
  go_ret2
  exact ⟨rfl, rfl⟩

/-- A block of bytes that is known whole, as a slice. -/
theorem Blk.bytes {w : World} {b : Nat} {t : TypeId} (l : List (BitVec 8)) {cs : Array Value} (h : Blk w b t cs) (he : cs.toList = l.map bv) {B : Nat} (hB : b < B) {n : Nat} (hn : l.length = n) : BSl w B (some ⟨b, 0, none⟩) n l :=
  ⟨hn, fun _ => ⟨b, 0, rfl, hB, fun k hk => by
    rw [Nat.zero_add, h.cell, ← Array.getElem?_toList, he, List.getElem?_map, List.getElem?_eq_getElem (by omega)]
    simp [List.getD, show k < l.length by omega]⟩⟩

theorem blk_first (w : World) (o o' : Obj) {t : TypeId} {cs : Array Value} (h : o = .cells cs t) : Blk ((w.alloc o).alloc o') w.heap.size t cs := by
  subst h
  exact (Blk.made w t cs).alloc o'

end Go.Proofs.Ytpkfjnhjcdcoaaa
