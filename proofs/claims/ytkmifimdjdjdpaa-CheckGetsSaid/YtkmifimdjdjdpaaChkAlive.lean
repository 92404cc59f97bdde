/-
  corncriblaw05.alive.
-/
import Derived.Test.YtkmifimdjdjdpaaChkGet
import Derived.Test.YtkmifimdjdjdpaaChkOf
namespace Go.Proofs.Ytkmifimdjdjdpaa
open Go.RowKit

theorem psl_nil (w : World) (B : Nat) : PSl w B none 0 [] := ⟨rfl, fun p hp => absurd hp (by simp), fun h => absurd h (by omega)⟩

set_option maxRecDepth 100000 in
set_option maxHeartbeats 2000000 in
theorem chk_alive (w : World) :
    Calls Try.prog 18 #[] w fun e w' => e = .returned (.bool true) ∧ Below w.heap.size w w' := by
  have P := pput_ok 1 1 0 none 0 0 [] w (psl_nil w _) (by decide)
  rw [show 24 + 24 * 0 = 24 from rfl] at P
  generalize ckBytes 1 1 0 [] = L at P
  have P := Lib.hid P
  go_enter Try.func18, Try.ntmps18
  go_wp2_with fail
  refine P.out.mono ?_
  rintro e w1 ⟨b1, c1, rfl, -, B1⟩
  go_wp2_with fail
  refine (cget_short none 0 0 w1 (by decide)).mono ?_
  rintro e w2 ⟨rfl, B2⟩
  have B3 := Lib.hid ((B1.trans (B2.mono B1.size)).alloc (B1.trans (B2.mono B1.size)).size (.cells #[.int .i64 0, .int .i64 0, .int .i64 0, .slice none 0 0] 46))
  clear B1 B2
  go_wp2_with fail
  refine (code_c 0 _ (by decide)).mono ?_
  rintro e w5 ⟨rfl, rfl⟩
  go_wp2_with fail
  refine (code_c 3 _ (by decide)).mono ?_
  rintro e w5 ⟨rfl, rfl⟩
  go_wp2_with fail
  go_ret
  exact ⟨rfl, B3.out⟩

end Go.Proofs.Ytkmifimdjdjdpaa
