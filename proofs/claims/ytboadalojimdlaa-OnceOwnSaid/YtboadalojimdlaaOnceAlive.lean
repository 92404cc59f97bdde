/-
  The chapter's example (once).
-/
import Derived.Test.YtboadalojimdlaaOnceKeep
namespace Go.Proofs.Ytboadalojimdlaa
open Go.RowKit

def exM (a : Option Addr) (c : Nat) : MsgR := ⟨0, 3, 5, 1, 0, 4, 0, false, 0, 0, false, a, 0, c, []⟩
theorem exM_code (a : Option Addr) (c : Nat) : kpCode [] 1 (exM a c) = 0 := by rfl
theorem exM_find (a : Option Addr) (c : Nat) : mFind [exM a c] 3 4 = some (exM a c) := by rfl
set_option maxRecDepth 100000 in
set_option maxHeartbeats 1000000 in
theorem once_alive (w : World) : Calls Try.prog 20 #[] w fun e w' => e = .returned (.bool true) ∧ Below w.heap.size w w' := by
  go_enter Try.func20, Try.ntmps20
  go_wp2_with fail
  refine (new_ok 1 w (by decide) (by decide)).mono ?_
  rintro e w1 ⟨rfl, hT1, B1⟩
  have HT1 := Lib.hid hT1
  have HB1 := Lib.hid B1
  have E := Lib.hid (keep_any w1 (exM none 0) hT1 (BSl.nil _ _ _) (by decide) (by decide))
  clear hT1 B1
  go_wp2_with fail
  refine E.out.mono ?_
  rintro e w2 (⟨hne, _⟩ | ⟨_, rfl, hg2, av, cv, _, ho, hT2⟩)
  · exact absurd (exM_code none 0) hne
  have HB2 := Lib.hid (HB1.out.grown hg2 HB1.out.size (fun k e => by injection e with e; omega))
  have HT2 := Lib.hid (show TBl w2 (w.heap.size + 1) w.heap.size 1 [exM av cv] from hT2)
  have E2 := Lib.hid (show Calls Try.prog 24 #[.pointer (some ⟨w.heap.size + 1, 0, none⟩), .int .i64 3, .int .u64 4] w2 fun e w' => ∃ av cv, e = .returned (.tuple #[(exM av cv).vals, errc 0]) ∧ Below w2.heap.size w2 w' from
    (find_yes w2 3 4 HT2.out (exM_find av cv) (BSl.nil _ _ _) (Nat.zero_le _) (Nat.zero_le _)).mono (by rintro e w3 ⟨av, cv, rfl, _, _, B⟩; exact ⟨av, cv, rfl, B⟩))
  clear hT2 hg2 ho
  go_wp2_with fail
  refine E2.out.mono ?_
  rintro e w3 ⟨av3, cv3, rfl, B3⟩
  have HB3 := Lib.hid (HB2.out.trans (B3.mono HB2.out.size))
  have HT3 := Lib.hid (HT2.out.on B3)
  unfold exM MsgR.vals
  dsimp only
  clear B3 E E2 HT1 HB1 HT2 HB2
  go_upto_region 4 with fail
  obtain ⟨w4, hw4, hB4, hk4⟩ : ∃ X, w3.alloc (.cells #[.int .i64 0, .int .i64 3, .int .i64 5, .int .i64 1, .int .i64 0, .int .u64 4, .int .i64 0, .bool false, .int .u64 0, .int .u32 0, .bool false, .slice av3 0 cv3] 53) = X ∧ Below w3.heap.size w3 X ∧ Blk X w3.heap.size 53 #[.int .i64 0, .int .i64 3, .int .i64 5, .int .i64 1, .int .i64 0, .int .u64 4, .int .i64 0, .bool false, .int .u64 0, .int .u32 0, .bool false, .slice av3 0 cv3] := ⟨_, rfl, (Below.refl _ _).alloc (Nat.le_refl _) _, Blk.made _ _ _⟩
  have k5 : w4.cell? ⟨w3.heap.size, 5, none⟩ = some (.int .u64 4) := hk4.cell 5
  have HB4 := Lib.hid (HB3.out.trans (hB4.mono HB3.out.size))
  have HT4 := Lib.hid (HT3.out.on hB4)
  rw [hw4]
  clear hw4 hB4 hk4
  go_wp2_with fail
  refine (new_bad 0 w4 (by decide)).mono ?_
  rintro e w5 ⟨rfl, rfl⟩
  go_wp2_with fail
  refine (code_c 0 _ (by decide)).mono ?_
  rintro e w5 ⟨rfl, rfl⟩
  go_wp2_with fail
  refine (code_c 0 _ (by decide)).mono ?_
  rintro e w5 ⟨rfl, rfl⟩
  go_wp2_with fail
  refine (code_c 0 _ (by decide)).mono ?_
  rintro e w5 ⟨rfl, rfl⟩
  go_wp2_with fail
  refine (room_any _ HT4.out).mono ?_
  rintro e w5 ⟨rfl, B5⟩
  have HB5 := Lib.hid (HB4.out.trans (B5.mono HB4.out.size))
  clear B5
  go_wp2_with fail
  refine (code_c 1 _ (by decide)).mono ?_
  rintro e w6 ⟨rfl, rfl⟩
  go_wp2_with fail
  go_ret
  exact ⟨rfl, HB5.out⟩
end Go.Proofs.Ytboadalojimdlaa
