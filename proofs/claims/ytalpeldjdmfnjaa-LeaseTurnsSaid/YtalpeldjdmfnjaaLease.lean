/-
  The contracts of the package lease.
-/
import Derived.Test.YtalpeldjdmfnjaaIs
import Derived.Test.YtalpeldjdmfnjaaMem
import Derived.BigRegion
import Derived.BigQuiet
import Derived.Deep.QuietTactic
import Derived.WalkLawsBesides
import Derived.Lib.Hide
namespace Go.Proofs.Ytalpeldjdmfnjaa
open Go.RowKit

/-- A lease. -/
structure LS where
  ticks : Int
  now : Int
  held : Bool
  who : Int
  epoch : Int
  till : Int

/-- The greater of two, the lesser of two: words that the walk does not open. -/
def mx (x y : Int) : Int := max x y
def mn (x y : Int) : Int := min x y
theorem run_mx (ts : Array TypeId) (t : TypeId) (k k' : IntKind) (x y : Int) (w : World) : (Builtin.max_ ts t #[.int k x, .int k' y]).run Try.prog w = .ok (.int k (mx x y)) w := by
  rw [run_max_int2]; simp only [mx]; congr 2; omega
theorem run_mn (ts : Array TypeId) (t : TypeId) (k k' : IntKind) (x y : Int) (w : World) : (Builtin.min_ ts t #[.int k x, .int k' y]).run Try.prog w = .ok (.int k (mn x y)) w := by
  rw [run_min_int2]; simp only [mn]; congr 2; omega

namespace LS
/-- Time goes on. -/
def nowAt (L : LS) (t : Int) : Int := mx L.now (mn (mx t 0) 1073741824)
def heldAt (L : LS) (t : Int) : Bool := L.held && decide (L.nowAt t < L.till)
def tick (L : LS) (t : Int) : LS := { L with now := L.nowAt t, held := L.heldAt t }
/-- It is who's from now on. -/
def taken (M : LS) (who : Int) : LS := { M with held := true, who := who, epoch := M.epoch + 1, till := M.now + M.ticks }
def kept (M : LS) : LS := { M with till := M.now + M.ticks }
def dropped (M : LS) : LS := { M with held := false }
/-- Is it who's, of that epoch? -/
def mine (L : LS) (who epoch t : Int) : Bool := L.heldAt t && (L.who == who) && (L.epoch == epoch)
/-- What the walks need of the numbers: none wraps. -/
def Ok (L : LS) : Prop := 1 ≤ L.ticks ∧ L.ticks ≤ 1073741824 ∧ 0 ≤ L.now ∧ L.now ≤ 1073741824 ∧ 0 ≤ L.epoch ∧ L.epoch ≤ 4294967296 ∧ 0 ≤ L.till ∧ L.till ≤ 4294967296
theorem Ok.tick {L : LS} (h : L.Ok) (t : Int) : (L.tick t).Ok := by
  obtain ⟨a, b, h1, h2, c, d, e, f⟩ := h
  refine ⟨a, b, ?_, ?_, c, d, e, f⟩ <;> (simp only [LS.tick, nowAt, mx, mn]; omega)
def cells (L : LS) : Array Value := #[.int .i64 L.ticks, .int .i64 L.now, .bool L.held, .int .i64 L.who, .int .i64 L.epoch, .int .i64 L.till]
end LS

abbrev LB (w : World) (b : Nat) (L : LS) : Prop := Blk w b 76 L.cells

theorem at_any (b : Nat) (L : LS) (t : Int) (w : World) (h : LB w b L) :
    Calls Try.prog 41 #[.pointer (some ⟨b, 0, none⟩), .int .i64 t] w fun e w' => e = .returned (.tuple #[]) ∧ LB w' b (L.tick t) ∧ w.grownBy w' (some b) := by
  obtain ⟨k, n, hd, wh, ep, ti⟩ := L
  have c1 := h.cell 1
  have c2 := h.cell 2
  have c5 := h.cell 5
  have f1 := h.frozen 1
  have f2 := h.frozen 2
  simp [LS.cells] at c1 c2 c5
  have hx := run_mx
  have hn := run_mn
  cases hd
  · go_enter Try.func41, Try.ntmps41
    go_wp2
    go_region
    all_goals (go_end0)
    all_goals exact ⟨rfl, ((h.put 1 _).put 2 _).drew, grown_drew (grown_put (grown_put (grown_refl _ _) 1 _) 2 _)⟩
  · go_enter Try.func41, Try.ntmps41
    go_wp2
    go_region
    all_goals (go_end0)
    all_goals exact ⟨rfl, ((h.put 1 _).put 2 _).drew, grown_drew (grown_put (grown_put (grown_refl _ _) 1 _) 2 _)⟩

theorem take_nil (who t : Int) (w : World) :
    Calls Try.prog 17 #[.pointer none, .int .i64 who, .int .i64 t] w fun e w' => e = .returned (.tuple #[.int .i64 0, er 15]) ∧ w = w' := by
  go_enter Try.func17, Try.ntmps17
  go_wp2
  go_ret2
  exact ⟨rfl, rfl⟩

theorem take_arg (b : Nat) (who t : Int) (w : World) (h : who < 0 ∨ 255 < who) :
    Calls Try.prog 17 #[.pointer (some ⟨b, 0, none⟩), .int .i64 who, .int .i64 t] w fun e w' => e = .returned (.tuple #[.int .i64 0, er 1]) ∧ w = w' := by
  by_cases h0 : who < 0
  · clear h
    go_enter Try.func17, Try.ntmps17
    go_wp2
    go_ret2
    exact ⟨rfl, rfl⟩
  · have h1 : 0 ≤ who := by omega
    have h2 : 255 < who := by omega
    clear h h0
    go_enter Try.func17, Try.ntmps17
    go_wp2
    go_ret2
    exact ⟨rfl, rfl⟩

theorem take_busy (b : Nat) (L : LS) (who t : Int) (w : World) (h : LB w b L) (h1 : 0 ≤ who) (h2 : who ≤ 255) (hh : L.heldAt t = true) (hne : L.who ≠ who) :
    Calls Try.prog 17 #[.pointer (some ⟨b, 0, none⟩), .int .i64 who, .int .i64 t] w fun e w' => e = .returned (.tuple #[.int .i64 0, er 14]) ∧ LB w' b (L.tick t) ∧ w.grownBy w' (some b) := by
  have ht := at_any b L t
  obtain ⟨M, hM⟩ : ∃ M, M = L.tick t := ⟨_, rfl⟩
  have hmh : M.held = true := by rw [hM]; exact hh
  have hmw : (M.who != who) = true := by rw [hM, bne_iff_ne]; exact hne
  rw [← hM] at ht ⊢
  have HT := Lib.hid ht
  clear ht hh hne hM
  obtain ⟨k, n, hd, wh, ep, ti⟩ := M
  dsimp only at hmh hmw
  subst hmh
  go_enter Try.func17, Try.ntmps17
  go_wp2_with (go_at_call 41; refine (HT.out _ h).mono ?_; rintro e w1 ⟨rfl, g1, hg⟩; have c2 := g1.cell 2; have c3 := g1.cell 3; simp [LS.cells] at c2 c3)
  go_ret2
  exact ⟨rfl, g1, hg⟩

theorem take_ok (b : Nat) (L : LS) (who t : Int) (w : World) (h : LB w b L) (hk : L.Ok) (h1 : 0 ≤ who) (h2 : who ≤ 255) (hh : L.heldAt t = false ∨ L.who = who) :
    Calls Try.prog 17 #[.pointer (some ⟨b, 0, none⟩), .int .i64 who, .int .i64 t] w fun e w' => e = .returned (.tuple #[.int .i64 (L.epoch + 1), .nilIface]) ∧ LB w' b ((L.tick t).taken who) ∧ w.grownBy w' (some b) := by
  have ht := at_any b L t
  have hk' := hk.tick t
  have he : L.epoch = (L.tick t).epoch := rfl
  have hh' : (L.tick t).held = false ∨ (L.tick t).who = who := hh
  rw [he]
  generalize L.tick t = M at *
  have HT := Lib.hid ht
  clear ht hk he hh
  obtain ⟨k, n, hd, wh, ep, ti⟩ := M
  obtain ⟨k1, k2, k3, k4, k5, k6, _, _⟩ := hk'
  dsimp only at k1 k2 k3 k4 k5 k6 hh'
  cases hd
  · clear hh'
    go_enter Try.func17, Try.ntmps17
    go_wp2_with (go_at_call 41; refine (HT.out _ h).mono ?_; rintro e w1 ⟨rfl, g1, hg⟩; have c0 := g1.cell 0; have c1 := g1.cell 1; have c2 := g1.cell 2; have c3 := g1.cell 3; have c4 := g1.cell 4; have c5 := g1.cell 5; have f2 := g1.frozen 2; have f3 := g1.frozen 3; have f4 := g1.frozen 4; have f5 := g1.frozen 5; simp [LS.cells] at c0 c1 c2 c3 c4 c5)
    go_region
    all_goals go_wp2
    all_goals go_ret2
    all_goals exact ⟨rfl, ((((g1.put 2 _).put 3 _).put 5 _).put 4 _).drew, grown_drew (grown_put (grown_put (grown_put (grown_put hg 2 _) 3 _) 5 _) 4 _)⟩
  · obtain rfl : wh = who := by simpa using hh'
    have hne : (wh != wh) = false := by simp
    clear hh'
    go_enter Try.func17, Try.ntmps17
    go_wp2_with (go_at_call 41; refine (HT.out _ h).mono ?_; rintro e w1 ⟨rfl, g1, hg⟩; have c0 := g1.cell 0; have c1 := g1.cell 1; have c2 := g1.cell 2; have c3 := g1.cell 3; have c4 := g1.cell 4; have c5 := g1.cell 5; have f2 := g1.frozen 2; have f3 := g1.frozen 3; have f4 := g1.frozen 4; have f5 := g1.frozen 5; simp [LS.cells] at c0 c1 c2 c3 c4 c5)
    go_region
    all_goals go_wp2
    all_goals go_ret2
    all_goals exact ⟨rfl, ((((g1.put 2 _).put 3 _).put 5 _).put 4 _).drew, grown_drew (grown_put (grown_put (grown_put (grown_put hg 2 _) 3 _) 5 _) 4 _)⟩

theorem own_nil (who epoch t : Int) (w : World) :
    Calls Try.prog 43 #[.pointer none, .int .i64 who, .int .i64 epoch, .int .i64 t] w fun e w' => e = .returned (er 15) ∧ w = w' := by
  go_enter Try.func43, Try.ntmps43
  go_wp2
  go_ret
  exact ⟨rfl, rfl⟩

theorem own_yes (b : Nat) (L : LS) (who epoch t : Int) (w : World) (h : LB w b L) (hm : L.mine who epoch t = true) :
    Calls Try.prog 43 #[.pointer (some ⟨b, 0, none⟩), .int .i64 who, .int .i64 epoch, .int .i64 t] w fun e w' => e = .returned .nilIface ∧ LB w' b (L.tick t) ∧ w.grownBy w' (some b) := by
  have ht := at_any b L t
  simp only [LS.mine, Bool.and_eq_true, beq_iff_eq] at hm
  have hh : (L.tick t).held = true := hm.1.1
  have hw : (L.tick t).who = who := hm.1.2
  have he : (L.tick t).epoch = epoch := hm.2
  generalize L.tick t = M at *
  have HT := Lib.hid ht
  clear ht hm
  obtain ⟨k, n, hd, wh, ep, ti⟩ := M
  dsimp only at hh hw he
  subst hh hw he
  have e1 : (wh != wh) = false := by simp
  have e2 : (ep != ep) = false := by simp
  go_enter Try.func43, Try.ntmps43
  go_wp2_with (go_at_call 41; refine (HT.out _ h).mono ?_; rintro e w1 ⟨rfl, g1, hg⟩; have c0 := g1.cell 0; have c1 := g1.cell 1; have c2 := g1.cell 2; have c3 := g1.cell 3; have c4 := g1.cell 4; have c5 := g1.cell 5; have f2 := g1.frozen 2; have f3 := g1.frozen 3; have f4 := g1.frozen 4; have f5 := g1.frozen 5; simp [LS.cells] at c0 c1 c2 c3 c4 c5)
  go_ret
  exact ⟨rfl, g1, hg⟩

theorem own_no (b : Nat) (L : LS) (who epoch t : Int) (w : World) (h : LB w b L) (hm : L.mine who epoch t = false) :
    Calls Try.prog 43 #[.pointer (some ⟨b, 0, none⟩), .int .i64 who, .int .i64 epoch, .int .i64 t] w fun e w' => e = .returned (er 13) ∧ LB w' b (L.tick t) ∧ w.grownBy w' (some b) := by
  have ht := at_any b L t
  have hm' : ((L.tick t).held && ((L.tick t).who == who) && ((L.tick t).epoch == epoch)) = false := hm
  generalize L.tick t = M at *
  have HT := Lib.hid ht
  clear ht hm
  obtain ⟨k, n, hd, wh, ep, ti⟩ := M
  dsimp only at hm'
  cases hd
  · clear hm'
    go_enter Try.func43, Try.ntmps43
    go_wp2_with (go_at_call 41; refine (HT.out _ h).mono ?_; rintro e w1 ⟨rfl, g1, hg⟩; have c0 := g1.cell 0; have c1 := g1.cell 1; have c2 := g1.cell 2; have c3 := g1.cell 3; have c4 := g1.cell 4; have c5 := g1.cell 5; have f2 := g1.frozen 2; have f3 := g1.frozen 3; have f4 := g1.frozen 4; have f5 := g1.frozen 5; simp [LS.cells] at c0 c1 c2 c3 c4 c5)
    go_ret
    exact ⟨rfl, g1, hg⟩
  · by_cases hw : wh = who
    · subst hw
      have e1 : (wh != wh) = false := by simp
      have e2 : (ep != epoch) = true := by simpa using hm'
      clear hm'
      go_enter Try.func43, Try.ntmps43
      go_wp2_with (go_at_call 41; refine (HT.out _ h).mono ?_; rintro e w1 ⟨rfl, g1, hg⟩; have c0 := g1.cell 0; have c1 := g1.cell 1; have c2 := g1.cell 2; have c3 := g1.cell 3; have c4 := g1.cell 4; have c5 := g1.cell 5; have f2 := g1.frozen 2; have f3 := g1.frozen 3; have f4 := g1.frozen 4; have f5 := g1.frozen 5; simp [LS.cells] at c0 c1 c2 c3 c4 c5)
      go_ret
      exact ⟨rfl, g1, hg⟩
    · have e1 : (wh != who) = true := by simpa using hw
      clear hm' hw
      go_enter Try.func43, Try.ntmps43
      go_wp2_with (go_at_call 41; refine (HT.out _ h).mono ?_; rintro e w1 ⟨rfl, g1, hg⟩; have c0 := g1.cell 0; have c1 := g1.cell 1; have c2 := g1.cell 2; have c3 := g1.cell 3; have c4 := g1.cell 4; have c5 := g1.cell 5; have f2 := g1.frozen 2; have f3 := g1.frozen 3; have f4 := g1.frozen 4; have f5 := g1.frozen 5; simp [LS.cells] at c0 c1 c2 c3 c4 c5)
      go_ret
      exact ⟨rfl, g1, hg⟩

theorem keep_nil (who epoch t : Int) (w : World) :
    Calls Try.prog 20 #[.pointer none, .int .i64 who, .int .i64 epoch, .int .i64 t] w fun e w' => e = .returned (er 15) ∧ w = w' := by
  go_enter Try.func20, Try.ntmps20
  go_wp2_with (go_at_call 43; refine (own_nil _ _ _ _).mono ?_; rintro e w' ⟨rfl, rfl⟩)
  go_ret
  exact ⟨rfl, rfl⟩

theorem keep_no (b : Nat) (L : LS) (who epoch t : Int) (w : World) (h : LB w b L) (hm : L.mine who epoch t = false) :
    Calls Try.prog 20 #[.pointer (some ⟨b, 0, none⟩), .int .i64 who, .int .i64 epoch, .int .i64 t] w fun e w' => e = .returned (er 13) ∧ LB w' b (L.tick t) ∧ w.grownBy w' (some b) := by
  have HO := Lib.hid (own_no b L who epoch t w h hm)
  clear hm
  go_enter Try.func20, Try.ntmps20
  go_wp2_with (go_at_call 43; refine HO.out.mono ?_; rintro e w1 ⟨rfl, g1, hg⟩)
  go_ret
  exact ⟨rfl, g1, hg⟩

theorem drop_nil (who epoch t : Int) (w : World) :
    Calls Try.prog 24 #[.pointer none, .int .i64 who, .int .i64 epoch, .int .i64 t] w fun e w' => e = .returned (er 15) ∧ w = w' := by
  go_enter Try.func24, Try.ntmps24
  go_wp2_with (go_at_call 43; refine (own_nil _ _ _ _).mono ?_; rintro e w' ⟨rfl, rfl⟩)
  go_ret
  exact ⟨rfl, rfl⟩

theorem drop_no (b : Nat) (L : LS) (who epoch t : Int) (w : World) (h : LB w b L) (hm : L.mine who epoch t = false) :
    Calls Try.prog 24 #[.pointer (some ⟨b, 0, none⟩), .int .i64 who, .int .i64 epoch, .int .i64 t] w fun e w' => e = .returned (er 13) ∧ LB w' b (L.tick t) ∧ w.grownBy w' (some b) := by
  have HO := Lib.hid (own_no b L who epoch t w h hm)
  clear hm
  go_enter Try.func24, Try.ntmps24
  go_wp2_with (go_at_call 43; refine HO.out.mono ?_; rintro e w1 ⟨rfl, g1, hg⟩)
  go_ret
  exact ⟨rfl, g1, hg⟩

theorem keep_yes (b : Nat) (L : LS) (who epoch t : Int) (w : World) (h : LB w b L) (hk : L.Ok) (hm : L.mine who epoch t = true) :
    Calls Try.prog 20 #[.pointer (some ⟨b, 0, none⟩), .int .i64 who, .int .i64 epoch, .int .i64 t] w fun e w' => e = .returned .nilIface ∧ LB w' b (L.tick t).kept ∧ w.grownBy w' (some b) := by
  have ho := own_yes b L who epoch t w h hm
  have hk' := hk.tick t
  generalize L.tick t = M at *
  have HO := Lib.hid ho
  clear ho hm hk
  obtain ⟨k, n, hd, wh, ep, ti⟩ := M
  obtain ⟨k1, k2, k3, k4, k5, k6, _, _⟩ := hk'
  dsimp only at k1 k2 k3 k4 k5 k6
  go_enter Try.func20, Try.ntmps20
  go_wp2_with (go_at_call 43; refine HO.out.mono ?_; rintro e w1 ⟨rfl, g1, hg⟩; have c0 := g1.cell 0; have c1 := g1.cell 1; have c2 := g1.cell 2; have c3 := g1.cell 3; have c4 := g1.cell 4; have c5 := g1.cell 5; have f2 := g1.frozen 2; have f3 := g1.frozen 3; have f4 := g1.frozen 4; have f5 := g1.frozen 5; simp [LS.cells] at c0 c1 c2 c3 c4 c5)
  go_region
  all_goals go_wp2
  all_goals go_ret
  all_goals exact ⟨rfl, (g1.put 5 _).drew, grown_drew (grown_put hg 5 _)⟩

theorem drop_yes (b : Nat) (L : LS) (who epoch t : Int) (w : World) (h : LB w b L) (hm : L.mine who epoch t = true) :
    Calls Try.prog 24 #[.pointer (some ⟨b, 0, none⟩), .int .i64 who, .int .i64 epoch, .int .i64 t] w fun e w' => e = .returned .nilIface ∧ LB w' b (L.tick t).dropped ∧ w.grownBy w' (some b) := by
  have ho := own_yes b L who epoch t w h hm
  generalize L.tick t = M at *
  have HO := Lib.hid ho
  clear ho hm
  obtain ⟨k, n, hd, wh, ep, ti⟩ := M
  go_enter Try.func24, Try.ntmps24
  go_wp2_with (go_at_call 43; refine HO.out.mono ?_; rintro e w1 ⟨rfl, g1, hg⟩; have c0 := g1.cell 0; have c1 := g1.cell 1; have c2 := g1.cell 2; have c3 := g1.cell 3; have c4 := g1.cell 4; have c5 := g1.cell 5; have f2 := g1.frozen 2; have f3 := g1.frozen 3; have f4 := g1.frozen 4; have f5 := g1.frozen 5; simp [LS.cells] at c0 c1 c2 c3 c4 c5)
  go_ret
  exact ⟨rfl, g1.put 2 _, grown_put hg 2 _⟩

theorem holder_nil (t : Int) (w : World) :
    Calls Try.prog 21 #[.pointer none, .int .i64 t] w fun e w' => e = .returned (.tuple #[.int .i64 0, .int .i64 0, .bool false]) ∧ w = w' := by
  go_enter Try.func21, Try.ntmps21
  go_wp2
  go_ret3
  exact ⟨rfl, rfl⟩

theorem holder_any (b : Nat) (L : LS) (t : Int) (w : World) (h : LB w b L) :
    Calls Try.prog 21 #[.pointer (some ⟨b, 0, none⟩), .int .i64 t] w fun e w' => e = .returned (.tuple #[.int .i64 (if L.heldAt t then L.who else 0), .int .i64 L.epoch, .bool (L.heldAt t)]) ∧ LB w' b (L.tick t) ∧ w.grownBy w' (some b) := by
  have ht := at_any b L t
  have e1 : L.heldAt t = (L.tick t).held := rfl
  have e2 : L.who = (L.tick t).who := rfl
  have e3 : L.epoch = (L.tick t).epoch := rfl
  rw [e1, e2, e3]
  generalize L.tick t = M at *
  have HT := Lib.hid ht
  clear ht e1 e2 e3
  obtain ⟨k, n, hd, wh, ep, ti⟩ := M
  cases hd
  · go_enter Try.func21, Try.ntmps21
    go_wp2_with (go_at_call 41; refine (HT.out _ h).mono ?_; rintro e w1 ⟨rfl, g1, hg⟩; have c0 := g1.cell 0; have c1 := g1.cell 1; have c2 := g1.cell 2; have c3 := g1.cell 3; have c4 := g1.cell 4; have c5 := g1.cell 5; have f2 := g1.frozen 2; have f3 := g1.frozen 3; have f4 := g1.frozen 4; have f5 := g1.frozen 5; simp [LS.cells] at c0 c1 c2 c3 c4 c5)
    go_region
    all_goals go_wp2
    all_goals go_ret3
    all_goals exact ⟨rfl, g1.drew, grown_drew hg⟩
  · go_enter Try.func21, Try.ntmps21
    go_wp2_with (go_at_call 41; refine (HT.out _ h).mono ?_; rintro e w1 ⟨rfl, g1, hg⟩; have c0 := g1.cell 0; have c1 := g1.cell 1; have c2 := g1.cell 2; have c3 := g1.cell 3; have c4 := g1.cell 4; have c5 := g1.cell 5; have f2 := g1.frozen 2; have f3 := g1.frozen 3; have f4 := g1.frozen 4; have f5 := g1.frozen 5; simp [LS.cells] at c0 c1 c2 c3 c4 c5)
    go_region
    all_goals go_wp2
    all_goals go_ret3
    all_goals exact ⟨rfl, g1.drew, grown_drew hg⟩

theorem left_nil (t : Int) (w : World) :
    Calls Try.prog 19 #[.pointer none, .int .i64 t] w fun e w' => e = .returned (.int .i64 0) ∧ w = w' := by
  go_enter Try.func19, Try.ntmps19
  go_wp2_with (go_at_call 21; refine (holder_nil _ _).mono ?_; rintro e w' ⟨rfl, rfl⟩)
  go_ret
  exact ⟨rfl, rfl⟩

theorem left_any (b : Nat) (L : LS) (t : Int) (w : World) (h : LB w b L) (hk : L.Ok) :
    Calls Try.prog 19 #[.pointer (some ⟨b, 0, none⟩), .int .i64 t] w fun e w' => e = .returned (.int .i64 (if L.heldAt t then L.till - L.nowAt t else 0)) ∧ LB w' b (L.tick t) ∧ w.grownBy w' (some b) := by
  have ho := holder_any b L t w h
  have hk' := hk.tick t
  have e1 : L.heldAt t = (L.tick t).held := rfl
  have e2 : L.nowAt t = (L.tick t).now := rfl
  have e3 : L.till = (L.tick t).till := rfl
  rw [e1, e2, e3]
  rw [e1] at ho
  generalize L.tick t = M at *
  clear e1 e2 e3 hk
  obtain ⟨k, n, hd, wh, ep, ti⟩ := M
  obtain ⟨k1, k2, k3, k4, k5, k6, k7, k8⟩ := hk'
  dsimp only at k1 k2 k3 k4 k5 k6 k7 k8
  cases hd
  · simp only [Bool.false_eq_true, if_false] at ho ⊢
    have HO := Lib.hid ho
    clear ho
    go_enter Try.func19, Try.ntmps19
    go_wp2_with (go_at_call 21; refine HO.out.mono ?_; rintro e w1 ⟨rfl, g1, hg⟩; have c0 := g1.cell 0; have c1 := g1.cell 1; have c2 := g1.cell 2; have c3 := g1.cell 3; have c4 := g1.cell 4; have c5 := g1.cell 5; have f2 := g1.frozen 2; have f3 := g1.frozen 3; have f4 := g1.frozen 4; have f5 := g1.frozen 5; simp [LS.cells] at c0 c1 c2 c3 c4 c5)
    go_ret
    exact ⟨rfl, g1, hg⟩
  · simp only [if_true] at ho ⊢
    have HO := Lib.hid ho
    clear ho
    go_enter Try.func19, Try.ntmps19
    go_wp2_with (go_at_call 21; refine HO.out.mono ?_; rintro e w1 ⟨rfl, g1, hg⟩; have c0 := g1.cell 0; have c1 := g1.cell 1; have c2 := g1.cell 2; have c3 := g1.cell 3; have c4 := g1.cell 4; have c5 := g1.cell 5; have f2 := g1.frozen 2; have f3 := g1.frozen 3; have f4 := g1.frozen 4; have f5 := g1.frozen 5; simp [LS.cells] at c0 c1 c2 c3 c4 c5)
    go_region
    all_goals go_wp2
    all_goals go_ret
    all_goals exact ⟨rfl, g1.drew, grown_drew hg⟩

theorem new_arg (n : Int) (w : World) (h : n < 1 ∨ 1073741824 < n) :
    Calls Try.prog 16 #[.int .i64 n] w fun e w' => e = .returned (.tuple #[.pointer none, er 1]) ∧ w = w' := by
  by_cases h0 : n < 1
  · clear h
    go_enter Try.func16, Try.ntmps16
    go_wp2
    go_ret2
    exact ⟨rfl, rfl⟩
  · have h1 : 1 ≤ n := by omega
    have h2 : 1073741824 < n := by omega
    clear h h0
    go_enter Try.func16, Try.ntmps16
    go_wp2
    go_ret2
    exact ⟨rfl, rfl⟩

/-- A new lease is nobody's. -/
def LS.fresh (n : Int) : LS := ⟨n, 0, false, 0, 0, 0⟩

theorem new_ok (n : Int) (w : World) (h1 : 1 ≤ n) (h2 : n ≤ 1073741824) :
    Calls Try.prog 16 #[.int .i64 n] w fun e w' => ∃ b, e = .returned (.tuple #[.pointer (some ⟨b, 0, none⟩), .nilIface]) ∧ w.heap.size ≤ b ∧ LB w' b (LS.fresh n) ∧ Below w.heap.size w w' := by
  go_enter Try.func16, Try.ntmps16
  go_wp2
  go_ret2
  exact ⟨_, rfl, Nat.le_refl _, Blk.made _ _ _, (Below.refl _ _).alloc (Nat.le_refl _) _⟩

end Go.Proofs.Ytalpeldjdmfnjaa
