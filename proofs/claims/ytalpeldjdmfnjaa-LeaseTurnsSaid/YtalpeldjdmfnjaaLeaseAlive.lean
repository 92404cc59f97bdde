/-
  The chapter's example of layer 18.
-/
import Derived.Test.YtalpeldjdmfnjaaLease
namespace Go.Proofs.Ytalpeldjdmfnjaa
open Go.RowKit

theorem lease_alive (w : World) :
    Calls Try.prog 15 #[] w fun e w' => e = .returned (.bool true) ∧ Below w.heap.size w w' := by
  go_enter Try.func15, Try.ntmps15
  go_wp2_with fail
  refine (new_ok 5 _ (by decide) (by decide)).mono ?_
  rintro e w1 ⟨b, rfl, hb, g1, B1⟩
  go_wp2_with fail
  refine (take_ok b (LS.fresh 5) 1 10 _ g1 (by simp [LS.Ok, LS.fresh]) (by decide) (by decide) (.inl rfl)).mono ?_
  rintro e w2 ⟨rfl, g2, b2⟩
  have B2 := below_on B1 g1 hb b2
  have g2 : LB w2 b ⟨5, 10, true, 1, 1, 15⟩ := g2
  go_wp2_with fail
  refine (take_busy b ⟨5, 10, true, 1, 1, 15⟩ 2 14 _ g2 (by decide) (by decide) rfl (by decide)).mono ?_
  rintro e w3 ⟨rfl, g3, b3⟩
  have B3 := below_on B2 g2 hb b3
  have g3 : LB w3 b ⟨5, 14, true, 1, 1, 15⟩ := g3
  go_wp2_with fail
  refine (take_ok b ⟨5, 14, true, 1, 1, 15⟩ 2 15 _ g3 (by simp [LS.Ok]) (by decide) (by decide) (.inl rfl)).mono ?_
  rintro e w4 ⟨rfl, g4, b4⟩
  have B4 := below_on B3 g3 hb b4
  go_wp2_with fail
  refine (new_arg 0 _ (.inl (by decide))).mono ?_
  rintro e w5 ⟨rfl, rfl⟩
  go_wp2_with fail
  refine (code_nil _).mono ?_
  rintro e w5 ⟨rfl, rfl⟩
  go_wp2_with fail
  refine (code_nil _).mono ?_
  rintro e w5 ⟨rfl, rfl⟩
  go_wp2_with fail
  refine (code_nil _).mono ?_
  rintro e w5 ⟨rfl, rfl⟩
  go_wp2_with fail
  refine (code_er 14 _ (by decide) (by decide)).mono ?_
  rintro e w5 ⟨rfl, rfl⟩
  go_wp2_with fail
  refine (code_er 1 _ (by decide) (by decide)).mono ?_
  rintro e w5 ⟨rfl, rfl⟩
  go_wp2_with fail
  go_ret
  exact ⟨rfl, B4⟩

end Go.Proofs.Ytalpeldjdmfnjaa
