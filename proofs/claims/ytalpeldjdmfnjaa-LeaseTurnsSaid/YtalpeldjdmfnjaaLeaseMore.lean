/-
  The contracts of the package lease at a lease that is held: what the walks of the laws meet.
-/
import Derived.Test.YtalpeldjdmfnjaaLeaseAlive
namespace Go.Proofs.Ytalpeldjdmfnjaa
open Go.RowKit

theorem held_tick (n c W E tl U : Int) (h0 : 0 ≤ c) (h1 : c ≤ U) (h2 : U ≤ 1073741824) (h3 : U < tl) : LS.tick ⟨n, c, true, W, E, tl⟩ U = ⟨n, U, true, W, E, tl⟩ := by
  have e1 : LS.nowAt ⟨n, c, true, W, E, tl⟩ U = U := by simp only [LS.nowAt, mx, mn]; omega
  have e2 : LS.heldAt ⟨n, c, true, W, E, tl⟩ U = true := by simp only [LS.heldAt, e1, Bool.true_and, decide_eq_true_eq]; exact h3
  simp only [LS.tick, e1, e2]
theorem held_at (n c W E tl U : Int) (h0 : 0 ≤ c) (h1 : c ≤ U) (h2 : U ≤ 1073741824) (h3 : U < tl) : LS.heldAt ⟨n, c, true, W, E, tl⟩ U = true :=
  congrArg LS.held (held_tick n c W E tl U h0 h1 h2 h3)
theorem now_at (L : LS) (U : Int) (h0 : 0 ≤ L.now) (h1 : L.now ≤ U) (h2 : U ≤ 1073741824) : L.nowAt U = U := by
  simp only [LS.nowAt, mx, mn]; omega
theorem off_tick (n c W E tl U : Int) (h0 : 0 ≤ c) (h1 : c ≤ U) (h2 : U ≤ 1073741824) : LS.tick ⟨n, c, false, W, E, tl⟩ U = ⟨n, U, false, W, E, tl⟩ := by
  have e1 : LS.nowAt ⟨n, c, false, W, E, tl⟩ U = U := by simp only [LS.nowAt, mx, mn]; omega
  simp only [LS.tick, e1, LS.heldAt, Bool.false_and]
theorem out_tick (n c W E tl U : Int) (h0 : 0 ≤ c) (h1 : c ≤ U) (h2 : U ≤ 1073741824) (h3 : tl ≤ U) : LS.tick ⟨n, c, true, W, E, tl⟩ U = ⟨n, U, false, W, E, tl⟩ := by
  have e1 : LS.nowAt ⟨n, c, true, W, E, tl⟩ U = U := by simp only [LS.nowAt, mx, mn]; omega
  have e2 : LS.heldAt ⟨n, c, true, W, E, tl⟩ U = false := by simp only [LS.heldAt, e1, Bool.true_and, decide_eq_false_iff_not]; omega
  simp only [LS.tick, e1, e2]

theorem ok_of (n c W E tl : Int) (h : Bool) (h0 : 1 ≤ n) (h0' : n ≤ 256) (h1 : 0 ≤ c) (h2 : c ≤ 65536) (h3 : 0 ≤ E) (h3' : E ≤ 65536) (h4 : 0 ≤ tl) (h5 : tl ≤ 65536) : LS.Ok ⟨n, c, h, W, E, tl⟩ := by
  simp only [LS.Ok]; omega

section
variable (b : Nat) (n c W E tl U : Int) (w : World) (g : LB w b ⟨n, c, true, W, E, tl⟩) (h0 : 0 ≤ c) (h1 : c ≤ U) (h2 : U ≤ 1073741824) (h3 : U < tl)
include g h0 h1 h2 h3

theorem s_holder : Calls Try.prog 21 #[.pointer (some ⟨b, 0, none⟩), .int .i64 U] w fun e w' => e = .returned (.tuple #[.int .i64 W, .int .i64 E, .bool true]) ∧ LB w' b ⟨n, U, true, W, E, tl⟩ ∧ w.grownBy w' (some b) := by
  have h := holder_any b _ U w g
  rw [held_tick n c W E tl U h0 h1 h2 h3, held_at n c W E tl U h0 h1 h2 h3, if_pos rfl] at h
  exact h

theorem s_left (k1 : 1 ≤ n) (k2 : n ≤ 256) (k3 : tl ≤ 65536) (k4 : 0 ≤ E) (k5 : E ≤ 65536) : Calls Try.prog 19 #[.pointer (some ⟨b, 0, none⟩), .int .i64 U] w fun e w' => e = .returned (.int .i64 (tl - U)) ∧ LB w' b ⟨n, U, true, W, E, tl⟩ ∧ w.grownBy w' (some b) := by
  have h := left_any b _ U w g (ok_of n c W E tl true k1 k2 h0 (by omega) k4 k5 (by omega) k3)
  rw [held_tick n c W E tl U h0 h1 h2 h3, held_at n c W E tl U h0 h1 h2 h3, if_pos rfl, now_at _ U h0 h1 h2] at h
  exact h

theorem s_keep (k1 : 1 ≤ n) (k2 : n ≤ 256) (k3 : tl ≤ 65536) (k4 : 0 ≤ E) (k5 : E ≤ 65536) : Calls Try.prog 20 #[.pointer (some ⟨b, 0, none⟩), .int .i64 W, .int .i64 E, .int .i64 U] w fun e w' => e = .returned .nilIface ∧ LB w' b ⟨n, U, true, W, E, U + n⟩ ∧ w.grownBy w' (some b) := by
  have h := keep_yes b _ W E U w g (ok_of n c W E tl true k1 k2 h0 (by omega) k4 k5 (by omega) k3) (by simp only [LS.mine, held_at n c W E tl U h0 h1 h2 h3, beq_self_eq_true]; rfl)
  rw [held_tick n c W E tl U h0 h1 h2 h3] at h
  exact h

theorem s_drop : Calls Try.prog 24 #[.pointer (some ⟨b, 0, none⟩), .int .i64 W, .int .i64 E, .int .i64 U] w fun e w' => e = .returned .nilIface ∧ LB w' b ⟨n, U, false, W, E, tl⟩ ∧ w.grownBy w' (some b) := by
  have h := drop_yes b _ W E U w g (by simp only [LS.mine, held_at n c W E tl U h0 h1 h2 h3, beq_self_eq_true]; rfl)
  rw [held_tick n c W E tl U h0 h1 h2 h3] at h
  exact h

theorem s_keep_no (V F : Int) (hne : W ≠ V) : Calls Try.prog 20 #[.pointer (some ⟨b, 0, none⟩), .int .i64 V, .int .i64 F, .int .i64 U] w fun e w' => e = .returned (er 13) ∧ LB w' b ⟨n, U, true, W, E, tl⟩ ∧ w.grownBy w' (some b) := by
  have h := keep_no b _ V F U w g (by simp [LS.mine, hne])
  rw [held_tick n c W E tl U h0 h1 h2 h3] at h
  exact h

theorem s_take_busy (V : Int) (hne : W ≠ V) (k1 : 0 ≤ V) (k2 : V ≤ 255) : Calls Try.prog 17 #[.pointer (some ⟨b, 0, none⟩), .int .i64 V, .int .i64 U] w fun e w' => e = .returned (.tuple #[.int .i64 0, er 14]) ∧ LB w' b ⟨n, U, true, W, E, tl⟩ ∧ w.grownBy w' (some b) := by
  have h := take_busy b _ V U w g k1 k2 (held_at n c W E tl U h0 h1 h2 h3) hne
  rw [held_tick n c W E tl U h0 h1 h2 h3] at h
  exact h
end

theorem s_take (b : Nat) (L : LS) (n E V U : Int) (w : World) (g : LB w b L) (e1 : L.ticks = n) (e2 : L.epoch = E) (hk : L.Ok) (h1 : L.now ≤ U) (h2 : U ≤ 1073741824) (k1 : 0 ≤ V) (k2 : V ≤ 255) (hf : L.heldAt U = false ∨ L.who = V) :
    Calls Try.prog 17 #[.pointer (some ⟨b, 0, none⟩), .int .i64 V, .int .i64 U] w fun e w' => e = .returned (.tuple #[.int .i64 (E + 1), .nilIface]) ∧ LB w' b ⟨n, U, true, V, E + 1, U + n⟩ ∧ w.grownBy w' (some b) := by
  have h := take_ok b L V U w g hk k1 k2 hf
  have en : L.nowAt U = U := now_at L U hk.2.2.1 h1 h2
  have e3 : (L.tick U).taken V = ⟨n, U, true, V, E + 1, U + n⟩ := by
    simp only [LS.taken, LS.tick, en, e1, e2]
  rw [e3, e2] at h
  exact h

section
variable (b : Nat) (n c W E tl U : Int) (w : World) (g : LB w b ⟨n, c, false, W, E, tl⟩) (h0 : 0 ≤ c) (h1 : c ≤ U) (h2 : U ≤ 1073741824)
include g h0 h1 h2

theorem o_holder : Calls Try.prog 21 #[.pointer (some ⟨b, 0, none⟩), .int .i64 U] w fun e w' => e = .returned (.tuple #[.int .i64 0, .int .i64 E, .bool false]) ∧ LB w' b ⟨n, U, false, W, E, tl⟩ ∧ w.grownBy w' (some b) := by
  have h := holder_any b _ U w g
  rw [off_tick n c W E tl U h0 h1 h2] at h
  exact h

theorem o_left (k1 : 1 ≤ n) (k2 : n ≤ 256) (k3 : c ≤ 65536) (k4 : 0 ≤ E) (k5 : E ≤ 65536) (k6 : 0 ≤ tl) (k7 : tl ≤ 65536) : Calls Try.prog 19 #[.pointer (some ⟨b, 0, none⟩), .int .i64 U] w fun e w' => e = .returned (.int .i64 0) ∧ LB w' b ⟨n, U, false, W, E, tl⟩ ∧ w.grownBy w' (some b) := by
  have h := left_any b _ U w g (ok_of n c W E tl false k1 k2 h0 k3 k4 k5 k6 k7)
  rw [off_tick n c W E tl U h0 h1 h2] at h
  exact h

theorem o_keep (V F : Int) : Calls Try.prog 20 #[.pointer (some ⟨b, 0, none⟩), .int .i64 V, .int .i64 F, .int .i64 U] w fun e w' => e = .returned (er 13) ∧ LB w' b ⟨n, U, false, W, E, tl⟩ ∧ w.grownBy w' (some b) := by
  have h := keep_no b _ V F U w g (by simp only [LS.mine, LS.heldAt, Bool.false_and])
  rw [off_tick n c W E tl U h0 h1 h2] at h
  exact h

theorem o_drop (V F : Int) : Calls Try.prog 24 #[.pointer (some ⟨b, 0, none⟩), .int .i64 V, .int .i64 F, .int .i64 U] w fun e w' => e = .returned (er 13) ∧ LB w' b ⟨n, U, false, W, E, tl⟩ ∧ w.grownBy w' (some b) := by
  have h := drop_no b _ V F U w g (by simp only [LS.mine, LS.heldAt, Bool.false_and])
  rw [off_tick n c W E tl U h0 h1 h2] at h
  exact h
end

end Go.Proofs.Ytalpeldjdmfnjaa
