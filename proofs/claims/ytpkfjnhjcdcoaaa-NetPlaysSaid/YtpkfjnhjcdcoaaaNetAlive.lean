/-
  The chapter's example of layer 15.
-/
import Derived.Test.YtpkfjnhjcdcoaaaNetAll
namespace Go.Proofs.Ytpkfjnhjcdcoaaa
open Go.RowKit
set_option linter.unusedVariables false

set_option maxRecDepth 100000 in
set_option maxHeartbeats 4000000 in
theorem net_alive (w : World) : Calls Try.prog 24 #[] w fun e w' => e = .returned (.bool true) ∧ Below w.heap.size w w' := by
  have hn0 := new_net w
  have B0 := (Below.refl w.heap.size w).alloc (Nat.le_refl _) (.cells #[.slice none 0 0, .slice none 0 0] 99)
  have BA := (Below.refl _ (w.alloc (.cells #[.slice none 0 0, .slice none 0 0] 99))).alloc (Nat.le_refl _) (.cells #[.int .i64 0, .int .i64 1, .int .i64 3, .int .i64 1, .int .i64 0, .int .u64 9, .int .i64 0, .bool false, .int .u64 0, .int .u32 0, .bool false, .slice none 0 0] 29)
  obtain ⟨-, hK⟩ := made_two w 99 29 #[.slice none 0 0, .slice none 0 0] #[.int .i64 0, .int .i64 1, .int .i64 3, .int .i64 1, .int .i64 0, .int .u64 9, .int .i64 0, .bool false, .int .u64 0, .int .u32 0, .bool false, .slice none 0 0]
  have HK := Lib.hid hK
  clear hK
  have HR := Lib.hid (hn0.below BA)
  have HB := Lib.hid (B0.trans (BA.mono B0.size))
  clear hn0 B0 BA
  go_enter Try.func24, Try.ntmps24
  go_wp2_with fail
  refine (new_any w).mono ?_
  rintro e w1 ⟨rfl, rfl⟩
  go_upto_region 3 with fail
  generalize ((w.alloc (.cells #[.slice none 0 0, .slice none 0 0] 99)).alloc (.cells #[.int .i64 0, .int .i64 1, .int .i64 3, .int .i64 1, .int .i64 0, .int .u64 9, .int .i64 0, .bool false, .int .u64 0, .int .u32 0, .bool false, .slice none 0 0] 29)) = W1 at *
  obtain ⟨k0, k1, k2, k3, k4, k5, k6, k7, k8, k9, k10, k11⟩ := HK.out.twelve
  have ES := Lib.hid (show Calls Try.prog 26 #[.pointer (some ⟨w.heap.size, 0, none⟩), .agg #[.int .i64 0, .int .i64 1, .int .i64 3, .int .i64 1, .int .i64 0, .int .u64 9, .int .i64 0, .bool false, .int .u64 0, .int .u32 0, .bool false, .slice none 0 0]] W1 fun e w' => ∃ P' cf, e = .returned (errc cf) ∧ NDid W1 w.heap.size w.heap.size P' [] w' ∧ SentAs [] ⟨0, 1, 3, 1, 0, 9, 0, false, 0, 0, false, none, 0, 0, []⟩ P' cf from
    send_any ⟨0, 1, 3, 1, 0, 9, 0, false, 0, 0, false, none, 0, 0, []⟩ W1 HR.out (BSl.nil _ _ none) (by decide) (by decide) (by decide) (by decide))
  go_wp2_with fail
  refine ES.out.mono ?_
  rintro e w2 ⟨P1, cf, rfl, hd2, hs⟩
  obtain ⟨p, rfl, hp⟩ : ∃ p : Pk, P1 = [p] ∧ p.m = ⟨0, 1, 3, 1, 0, 9, 0, false, 0, 0, false, none, 0, 0, []⟩ := by
    rcases hs with ⟨h, -⟩ | ⟨-, h, -⟩ | ⟨-, -, -, p, h1, h2⟩
    · exact absurd rfl h
    · exact absurd h (by decide)
    · exact ⟨p, h1, h2⟩
  obtain rfl : cf = 0 := by
    rcases hs with ⟨h, -⟩ | ⟨-, h, -⟩ | ⟨-, -, h, -⟩
    · exact absurd rfl h
    · exact absurd h (by decide)
    · exact h
  have HB2 := Lib.hid (HB.out.trans hd2.2.2)
  have ET := Lib.hid (twice_any 0 w2 hd2.1)
  rw [show netTwice [p] 0 = ([p, p], 0) from rfl] at ET
  clear hs hd2 ES k0 k1 k2 k3 k4 k5 k6 k7 k8 k9 k10 k11
  go_wp2_with fail
  refine ET.out.mono ?_
  rintro e w3 ⟨rfl, hd3⟩
  have HB3 := Lib.hid (HB2.out.trans hd3.2.2)
  have EL := Lib.hid (lose_any 0 w3 hd3.1)
  rw [show netLose [p, p] 0 = ([p], 0) from rfl] at EL
  clear hd3 ET
  go_wp2_with fail
  refine EL.out.mono ?_
  rintro e w4 ⟨rfl, hd4⟩
  have HB4 := Lib.hid (HB3.out.trans hd4.2.2)
  have EA := Lib.hid (take_any 0 w4 hd4.1 (Nat.zero_le _))
  have hbare : p.m.bare = ⟨0, 1, 3, 1, 0, 9, 0, false, 0, 0, false, none, 0, 0, []⟩ := by rw [hp]; rfl
  rw [show netTake [p] [] 0 = ((p.m.bare, 0), []) from rfl, hbare] at EA
  have HBW4 := Lib.hid hd4.1.low
  clear hd4 EL hbare hp
  go_wp2_with fail
  refine EA.out.mono ?_
  rintro e w5 ⟨hd5, a1, c1, rfl, -, -, -⟩
  rw [show MsgR.vals { (((⟨0, 1, 3, 1, 0, 9, 0, false, 0, 0, false, none, 0, 0, []⟩ : MsgR), 0) : MsgR × Nat).1 with a := a1, c := c1 } = .agg #[.int .i64 0, .int .i64 1, .int .i64 3, .int .i64 1, .int .i64 0, .int .u64 9, .int .i64 0, .bool false, .int .u64 0, .int .u32 0, .bool false, .slice a1 0 c1] from rfl, show errc (((⟨0, 1, 3, 1, 0, 9, 0, false, 0, 0, false, none, 0, 0, []⟩ : MsgR), 0) : MsgR × Nat).2 = errc 0 from rfl]
  have BA := (Below.refl w5.heap.size w5).alloc (Nat.le_refl _) (.cells #[.int .i64 0, .int .i64 1, .int .i64 3, .int .i64 1, .int .i64 0, .int .u64 9, .int .i64 0, .bool false, .int .u64 0, .int .u32 0, .bool false, .slice a1 0 c1] 29)
  have HB5 := Lib.hid ((HB4.out.trans hd5.2.2).trans (BA.mono hd5.1.low))
  have HX5 := Lib.hid (Blk.made w5 29 #[.int .i64 0, .int .i64 1, .int .i64 3, .int .i64 1, .int .i64 0, .int .u64 9, .int .i64 0, .bool false, .int .u64 0, .int .u32 0, .bool false, .slice a1 0 c1])
  have EB := Lib.hid (take_any 0 _ (hd5.1.below BA) (Nat.zero_le _))
  rw [show netTake [] [] 0 = ((mNone, 6), []) from rfl] at EB
  have HR5 := Lib.hid (hd5.1.below BA)
  clear hd5 BA EA
  go_upto_region 7 with fail
  generalize (w5.alloc (.cells #[.int .i64 0, .int .i64 1, .int .i64 3, .int .i64 1, .int .i64 0, .int .u64 9, .int .i64 0, .bool false, .int .u64 0, .int .u32 0, .bool false, .slice a1 0 c1] 29)) = W5 at *
  go_wp2_with fail
  refine EB.out.mono ?_
  rintro e w6 ⟨hd6, a2, c2, rfl, -, -, -⟩
  rw [show MsgR.vals { ((mNone, 6) : MsgR × Nat).1 with a := a2, c := c2 } = .agg #[.int .i64 0, .int .i64 0, .int .i64 0, .int .i64 0, .int .i64 0, .int .u64 0, .int .i64 0, .bool false, .int .u64 0, .int .u32 0, .bool false, .slice a2 0 c2] from rfl, show errc ((mNone, 6) : MsgR × Nat).2 = errc 6 from rfl]
  have BA := (Below.refl w6.heap.size w6).alloc (Nat.le_refl _) (.cells #[.int .i64 0, .int .i64 0, .int .i64 0, .int .i64 0, .int .i64 0, .int .u64 0, .int .i64 0, .bool false, .int .u64 0, .int .u32 0, .bool false, .slice a2 0 c2] 29)
  have HB6 := Lib.hid ((HB5.out.trans hd6.2.2).trans (BA.mono hd6.1.low))
  have HX6 := Lib.hid ((HX5.out.nkeep hd6.2.1 (by decide) (by decide) (by decide)).below BA (HX5.out.nkeep hd6.2.1 (by decide) (by decide) (by decide)).lt)
  clear hd6 BA EB
  go_upto_region 8 with fail
  generalize (w6.alloc (.cells #[.int .i64 0, .int .i64 0, .int .i64 0, .int .i64 0, .int .i64 0, .int .u64 0, .int .i64 0, .bool false, .int .u64 0, .int .u32 0, .bool false, .slice a2 0 c2] 29)) = W6 at *
  have x5 := HX6.out.cell 5
  go_wp2_with fail
  refine (code_c 0 _ (by decide)).mono ?_
  rintro e wa ⟨rfl, rfl⟩
  go_wp2_with fail
  refine (code_c 0 _ (by decide)).mono ?_
  rintro e wa ⟨rfl, rfl⟩
  go_wp2_with fail
  refine (code_c 0 _ (by decide)).mono ?_
  rintro e wa ⟨rfl, rfl⟩
  go_wp2_with fail
  refine (code_c 0 _ (by decide)).mono ?_
  rintro e wa ⟨rfl, rfl⟩
  go_wp2_with fail
  refine (code_c 6 _ (by decide)).mono ?_
  rintro e wa ⟨rfl, rfl⟩
  go_wp2_with fail
  go_ret
  exact ⟨rfl, HB6.out⟩
end Go.Proofs.Ytpkfjnhjcdcoaaa
