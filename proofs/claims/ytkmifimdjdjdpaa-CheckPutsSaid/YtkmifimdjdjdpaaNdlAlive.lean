/-
  corncriblaw03.alive.
-/
import Derived.Test.YtkmifimdjdjdpaaNdlBack
namespace Go.Proofs.Ytkmifimdjdjdpaa
open Go.RowKit

theorem NdGot.is {L : List (BitVec 8)} {w w' : World} {e : Ending} (h : NdGot L w e w') {key ck : Nat} {g : Bool} {lx : List (BitVec 8)} {all cf : Nat} (hg : ndGet L = (key, ck, g, lx, all, cf)) :
    Below w.heap.size w w' ∧ ∃ av cv, e = .returned (.tuple #[.agg #[.int .u64 (key : Nat), .int .u32 (ck : Nat), .bool g, .slice av lx.length cv], .int .i64 (all : Nat), errc cf]) ∧ lx.length ≤ cv ∧ w'.ownsRow w.heap.size 5 1 (.slice av lx.length cv) lx.length (lx.map bv) := by
  obtain ⟨B, key', ck', g', lx', all', cf', he, av, cv, rfl, h1, h2⟩ := h
  rw [hg] at he
  simp only [Prod.mk.injEq] at he
  obtain ⟨rfl, rfl, rfl, rfl, rfl, rfl⟩ := he
  exact ⟨B, av, cv, rfl, h1, h2⟩

set_option maxRecDepth 100000 in
set_option maxHeartbeats 2000000 in
theorem needle_alive (w : World) :
    Calls Try.prog 13 #[] w fun e w' => e = .returned (.bool true) ∧ Below w.heap.size w w' := by
  have hK0 := Blk.made w 5 #[.int .u8 1, .int .u8 2, .int .u8 3, .int .u8 4, .int .u8 5]
  have BA := (Below.refl w.heap.size w).alloc (Nat.le_refl _) (.cells #[.int .u8 1, .int .u8 2, .int .u8 3, .int .u8 4, .int .u8 5] 5)
  have hb := blk_bytes [1#8, 2#8, 3#8, 4#8, 5#8] hK0 rfl hK0.lt rfl
  have P := nput_ok 7 9 false (some ⟨w.heap.size, 0, none⟩) 5 5 [1#8, 2#8, 3#8, 4#8, 5#8] _ hb (by decide) (by decide) rfl
  rw [show 32 + 5 + padn 5 = 40 from rfl] at P
  have HB := Lib.hid (ndGet_bytes 7 9 false [1#8, 2#8, 3#8, 4#8, 5#8] [] (by decide) (by decide) rfl)
  rw [List.append_nil, show 32 + ([1#8, 2#8, 3#8, 4#8, 5#8] : List (BitVec 8)).length + padn ([1#8, 2#8, 3#8, 4#8, 5#8] : List (BitVec 8)).length = 40 from rfl] at HB
  generalize ndBytes 7 9 false [1#8, 2#8, 3#8, 4#8, 5#8] = L at P HB
  have P := Lib.hid P
  have HBA := Lib.hid BA
  clear hb hK0 BA
  go_enter Try.func13, Try.ntmps13
  go_wp2_with fail
  refine P.out.mono ?_
  rintro e w1 ⟨b1, c1, rfl, ho1, B1⟩
  have B1 := HBA.out.trans (B1.mono HBA.out.size)
  go_wp2_with fail
  refine (nget_any (some ⟨b1, 0, none⟩) 40 c1 L w1 (bsl_own ho1) (own_cap ho1) (by decide)).mono ?_
  intro e w2 hgot
  obtain ⟨B2, av, cv, rfl, hcv, ho2⟩ := hgot.is HB.out
  have B2 := B1.trans (B2.mono B1.size)
  clear B1 ho1 hgot ho2 hcv
  simp only [List.length_cons, List.length_nil, Nat.zero_add, Nat.reduceAdd]
  have hK2 := Lib.hid (Blk.made w2 27 #[.int .u64 ((7 : Nat) : Int), .int .u32 ((9 : Nat) : Int), .bool false, .slice av 5 cv])
  have B2 := Lib.hid (B2.alloc B2.size (.cells #[.int .u64 ((7 : Nat) : Int), .int .u32 ((9 : Nat) : Int), .bool false, .slice av 5 cv] 27))
  go_wp2_with fail
  refine (nget_short none 0 0 _ (by decide)).mono ?_
  rintro e w3 ⟨rfl, B3⟩
  have hK3 := Lib.hid (hK2.out.below B3 hK2.out.lt)
  have B3 := Lib.hid (B2.out.trans (B3.mono B2.out.size))
  clear hK2 B2
  go_wp2_with fail
  have hK4 := hK3.out.alloc (.cells #[.int .u64 0, .int .u32 0, .bool false, .slice none 0 0] 27)
  obtain ⟨k0, k1, k2, k3⟩ := hK4.four
  have B4 := B3.out.alloc B3.out.size (.cells #[.int .u64 0, .int .u32 0, .bool false, .slice none 0 0] 27)
  refine (size_any 5 _ (by decide) (by decide)).mono ?_
  rintro e w5 ⟨rfl, rfl⟩
  rw [show sizev 5 = 40 from rfl]
  go_wp2_with fail
  refine (code_c 0 _ (by decide)).mono ?_
  rintro e w5 ⟨rfl, rfl⟩
  go_wp2_with fail
  refine (code_c 0 _ (by decide)).mono ?_
  rintro e w5 ⟨rfl, rfl⟩
  go_wp2_with fail
  refine (code_c 3 _ (by decide)).mono ?_
  rintro e w5 ⟨rfl, rfl⟩
  go_wp2_with fail
  go_ret
  exact ⟨rfl, B4⟩

end Go.Proofs.Ytkmifimdjdjdpaa
