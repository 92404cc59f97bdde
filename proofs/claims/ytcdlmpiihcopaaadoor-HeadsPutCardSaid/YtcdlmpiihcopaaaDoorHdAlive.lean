/-
  corncriblaw04.alive.
-/
import Derived.Test.YtcdlmpiihcopaaaDoorHdPut
import Derived.Test.YtcdlmpiihcopaaaDoorHdMan
import Derived.Test.YtcdlmpiihcopaaaDoorHdNames
namespace Go.Proofs.YtcdlmpiihcopaaaDoor
open Go.RowKit
set_option linter.unusedVariables false

theorem dec3 : Lib.decDigits 3 = [51] := by rw [Lib.decDigits]; rfl
theorem dec12 : Lib.decDigits 12 = [49, 50] := by rw [Lib.decDigits, Lib.decDigits]; rfl
theorem hdMan_nil : hdMan [] = (0, 0, 0, false, 3) := by
  unfold hdMan
  rw [if_neg (by simp)]
  have h : hdCode [] 5 1296125513 = 3 := by unfold hdCode; rw [if_pos (by simp)]
  rw [h]
  rfl
theorem GmP.is {L : List (BitVec 8)} {w w' : World} {e : Ending} (h : GmP L w e w') {v g u : Nat} {s : Bool} {cf : Nat} (hs : hdMan L = (v, g, u, s, cf)) :
    Below w.heap.size w w' ∧ e = .returned (.tuple #[.agg #[.int .i64 (v : Int), .int .i64 (g : Int), .int .i64 (u : Int), .bool s], errc cf]) := by
  obtain ⟨B, v', g', u', s', cf', h1, h2⟩ := h
  rw [hs] at h1
  simp only [Prod.mk.injEq] at h1
  obtain ⟨rfl, rfl, rfl, rfl, rfl⟩ := h1
  exact ⟨B, h2⟩
theorem GsP.is {L : List (BitVec 8)} {w w' : World} {e : Ending} (h : GsP L w e w') {v g cf : Nat} (hs : hdSuper L = (v, g, cf)) :
    Below w.heap.size w w' ∧ e = .returned (.tuple #[.agg #[.int .i64 (v : Int), .int .i64 (g : Int)], errc cf]) := by
  obtain ⟨B, v', g', cf', h1, h2⟩ := h
  rw [hs] at h1
  simp only [Prod.mk.injEq] at h1
  obtain ⟨rfl, rfl, rfl⟩ := h1
  exact ⟨B, h2⟩
set_option maxRecDepth 100000 in
set_option maxHeartbeats 4000000 in
theorem hd_alive (w : World) : Calls Tryd.prog 8 #[] w fun e w' => e = .returned (.bool true) ∧ Below w.heap.size w w' := by
  have E1 := Lib.hid (show Calls Tryd.prog 9 #[.int .i64 3, .int .i64 12] w fun e w' => e = .returned (.tuple #[.string ⟨#[118, 51, 46, 49, 50]⟩, .string ⟨#[99, 51, 46, 49, 50]⟩, .string ⟨#[109, 51]⟩, .string ⟨#[109, 51, 46, 116]⟩]) ∧ w = w' from by
    have := names_small 3 12 (by decide) (by decide) w
    rw [dec3, dec12] at this
    exact this)
  have E2 := Lib.hid fun (W : World) => (show Calls Tryd.prog 10 #[.agg #[.int .i64 3, .int .i64 12]] W (PhP [1129466178, 3, 12] W) from psuper_ok 3 12 W (by decide))
  go_enter Tryd.func8, Tryd.ntmps8
  go_wp2_with fail
  refine E1.out.mono ?_
  rintro e w1 ⟨rfl, rfl⟩
  go_wp2_with fail
  refine (E2.out _).mono ?_
  rintro e w2 ⟨B2, g, cap, he, -, -⟩
  have he : e = .returned (.tuple #[.slice (some ⟨g, 0, none⟩) 16 cap, .nilIface]) := he
  subst he
  have HB2 := Lib.hid B2
  have E3 := Lib.hid (gman_any none 0 0 [] w2 (BSl.nil _ _ _) (Nat.le_refl _) (by omega))
  clear B2 E1 E2
  go_wp2_with fail
  refine E3.out.mono ?_
  intro e w3 h3
  obtain ⟨B3, rfl⟩ := h3.is hdMan_nil
  have HB3 := Lib.hid (HB2.out.trans (B3.mono HB2.out.size))
  have HB4 := Lib.hid (HB3.out.alloc HB3.out.size (.cells #[.int .i64 0, .int .i64 0, .int .i64 0, .bool false] 36))
  clear h3 B3 E3 HB2
  rw [show errc 3 = er 3 from rfl]
  go_wp2_with fail
  refine (code_nil _).mono ?_
  rintro e w4 ⟨rfl, rfl⟩
  go_wp2_with fail
  refine (code_er 3 _ (by decide) (by decide)).mono ?_
  rintro e w4 ⟨rfl, rfl⟩
  go_wp2_with fail
  go_ret
  exact ⟨rfl, HB4.out⟩
end Go.Proofs.YtcdlmpiihcopaaaDoor
