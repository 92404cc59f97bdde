/-
  The chapter's example of layer 14.
-/
import Derived.Test.YtpkfjnhjcdcoaaaWirRead
import Derived.Test.YtpkfjnhjcdcoaaaWirBytes
namespace Go.Proofs.Ytpkfjnhjcdcoaaa
open Go.RowKit
set_option linter.unusedVariables false

set_option maxRecDepth 100000 in
theorem wire_alive (w : World) : Calls Try.prog 11 #[] w fun e w' => e = .returned (.bool true) ∧ Below w.heap.size w w' := by
  have P := Lib.hid (show Calls Try.prog 18 #[.agg #[.int .i64 0, .int .i64 0, .int .i64 3, .int .i64 1, .int .i64 0, .int .u64 0, .int .i64 0, .bool true, .int .u64 7, .int .u32 0, .bool false, .slice none 0 0]] w fun e w' => ∃ b cap, e = .returned (.tuple #[.slice (some ⟨b, 0, none⟩) 60 cap, .nilIface]) ∧ Below w.heap.size w w' from
    (wbytes_ok ⟨0, 0, 3, 1, 0, 0, 0, true, 7, 0, false, none, 0, 0, []⟩ w (BSl.nil _ _ none) (Nat.zero_le _) (by decide) (by decide) (by decide) rfl).mono (by
      rintro e w' ⟨b, cap, rfl, -, -, B⟩
      exact ⟨b, cap, rfl, B⟩))
  have R := Lib.hid fun (W : World) => (wread_any none 0 0 [] W (BSl.nil _ _ none) (Nat.le_refl _) (Nat.zero_le _))
  go_enter Try.func11, Try.ntmps11
  go_wp2_with fail
  refine P.out.mono ?_
  rintro e w1 ⟨b, cap, rfl, B1⟩
  go_wp2_with fail
  refine (R.out w1).mono ?_
  rintro e w2 ⟨B2, m, cf, hm, rfl, -, -, -⟩
  obtain rfl : cf = 3 := (Prod.mk.inj hm).2.symm
  have hb : m.bare = mNone := (Prod.mk.inj hm).1.symm
  have B2 := B1.trans (B2.mono B1.size)
  clear P R B1 hm hb
  unfold MsgR.vals
  have HB := Lib.hid (B2.alloc B2.size (.cells #[.int .i64 m.fr, .int .i64 m.tt, .int .i64 m.kd, .int .i64 m.vol, .int .i64 m.life, .int .u64 m.id, .int .i64 m.cd, .bool m.has, .int .u64 m.key, .int .u32 m.ck, .bool m.g, .slice m.a m.n m.c] 29))
  clear B2
  go_upto_region 3 with fail
  generalize (w2.alloc (.cells #[.int .i64 m.fr, .int .i64 m.tt, .int .i64 m.kd, .int .i64 m.vol, .int .i64 m.life, .int .u64 m.id, .int .i64 m.cd, .bool m.has, .int .u64 m.key, .int .u32 m.ck, .bool m.g, .slice m.a m.n m.c] 29)) = w3 at *
  go_wp2_with fail
  refine (code_c 0 w3 (by decide)).mono ?_
  rintro e w4 ⟨rfl, rfl⟩
  go_wp2_with fail
  refine (code_c 3 w3 (by decide)).mono ?_
  rintro e w4 ⟨rfl, rfl⟩
  go_wp2_with fail
  go_ret
  exact ⟨rfl, HB.out⟩
end Go.Proofs.Ytpkfjnhjcdcoaaa
