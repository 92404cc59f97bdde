/-
  The walk of corncriblaw18.LeaseTwo.
-/
import Derived.Test.YtalpeldjdmfnjaaLeaseMore
import Derived.Laws.BitsAllLaws
import Derived.Laws.BitsLemmas
namespace Go.Proofs.Ytalpeldjdmfnjaa
open Go.RowKit

/-- A list of records of four numbers that came in. -/
def Quads (w : World) (B : Nat) (a : Option Addr) (n : Nat) : Prop :=
  0 < n → ∃ b off, a = some ⟨b, off, none⟩ ∧ b < B ∧ ∀ i j, i < n → j < 4 → ∃ x : Int, w.cell? ⟨b, off + i * 4 + j, none⟩ = some (.int .i64 x)

theorem and_bound (x : Int) (m : Nat) (hm : m < 64) : 0 ≤ bits .and .i64 x (m : Int) ∧ bits .and .i64 x (m : Int) ≤ m := by
  have e : bits .and .i64 x (m : Int) = IntKind.i64.wrap (((BitVec.ofInt 64 x &&& BitVec.ofInt 64 (m : Int)).toNat : Nat) : Int) := rfl
  have h1 : (BitVec.ofInt 64 (m : Int)).toNat = m := by
    rw [BitVec.ofInt_natCast, BitVec.toNat_ofNat]; exact Nat.mod_eq_of_lt (by omega)
  have h2 : (BitVec.ofInt 64 x &&& BitVec.ofInt 64 (m : Int)).toNat ≤ m := by
    rw [BitVec.toNat_and, h1]; exact Nat.and_le_right
  rw [e, IntKind.wrap_i64]
  omega

theorem and_63 (x : Int) : 0 ≤ bits .and .i64 x 63 ∧ bits .and .i64 x 63 ≤ 63 := and_bound x 63 (by omega)
theorem and_1 (x : Int) : 0 ≤ bits .and .i64 x 1 ∧ bits .and .i64 x 1 ≤ 1 := and_bound x 1 (by omega)

/-- What stands between two rounds. -/
structure TwoInv (L : LS) (n T E : Int) : Prop where
  ticks : L.ticks = n
  epoch : L.epoch = E
  now0 : 0 ≤ L.now
  now1 : L.now ≤ T
  till0 : 0 ≤ L.till
  hold : L.held = true → (L.who = 0 ∨ L.who = 1)
  till : L.till ≤ L.now + n

set_option maxRecDepth 100000 in
set_option maxHeartbeats 1000000 in
theorem two_walk (k : Int) (a : Option Addr) (n c : Nat) (w : World) (hk0 : 0 ≤ k) (hk1 : k ≤ 255) (hl : Quads w w.heap.size a n) :
    Calls Try.prog 5 #[.int .u8 k, .slice a n c] w fun e w' => e = .returned (.bool true) ∧ Below w.heap.size w w' := by
  by_cases hbig : 100 < n
  · go_enter Try.func5, Try.ntmps5
    go_wp2_with fail
    refine (lease_alive _).mono ?_
    rintro e w1 ⟨rfl, B1⟩
    go_wp2_with fail
    go_ret
    exact ⟨rfl, B1⟩
  · have hn : n ≤ 100 := by omega
    clear hbig
    go_enter Try.func5, Try.ntmps5
    go_wp2_with fail
    refine (lease_alive _).mono ?_
    rintro e w1 ⟨rfl, B1⟩
    go_wp2_with fail
    refine (new_ok _ _ (by omega) (by omega)).mono ?_
    rintro e w2 ⟨b, rfl, hb, g2, B2⟩
    have hbB : w.heap.size ≤ b := Nat.le_trans B1.size hb
    have B2 : Below w.heap.size w w2 := B1.trans (B2.mono B1.size)
    go_wp2_with fail
    go_loopw [8, 9, 10] (fun lv nv iv wr => ∃ (i : Nat) (T E : Int) (L : LS), i ≤ n ∧ iv = .int .i64 i ∧ nv = .int .i64 T ∧ lv = .int .i64 E ∧ 0 ≤ T ∧ T ≤ 318 * i ∧ 0 ≤ E ∧ E ≤ i ∧ TwoInv L (1 + k) T E ∧ LB wr b L ∧ Below w.heap.size w wr)
      (fun _ _ iv _ => n - (intOf iv).toNat)
    case atStart => exact ⟨0, 0, 0, LS.fresh (1 + k), by omega, rfl, rfl, rfl, by omega, by omega, by omega, by omega, ⟨rfl, rfl, by simp [LS.fresh], by simp [LS.fresh], by simp [LS.fresh], by simp [LS.fresh], by simp [LS.fresh]; omega⟩, g2, B2⟩
    case round =>
      obtain ⟨i, T, E, L, hi, rfl, rfl, rfl, hT0, hT1, hE0, hE1, hI, gr, Br⟩ := hrel
      clear g2 B2
      by_cases hlt : i < n
      · obtain ⟨ab, off, rfl, hab, hc⟩ := hl (by omega)
        obtain ⟨x, hx⟩ := hc i 3 hlt (by omega)
        obtain ⟨y, hy⟩ := hc i 1 hlt (by omega)
        have hx := (Br.cell hab).trans hx
        have hy := (Br.cell hab).trans hy
        clear hc hl
        have hX := and_63 x
        have hY := and_1 y
        generalize eX : bits .and .i64 x 63 = d at hX
        generalize eY : bits .and .i64 y 1 = who at hY
        go_wp2_with fail
        generalize eU : T + d % 64 = U
        have hU0 : T ≤ U := by omega
        have hU1 : U ≤ T + 63 := by omega
        clear eU eX eY hx hy hX hab
        obtain ⟨n', cc, hd, W, E', tl⟩ := L
        obtain ⟨q1, q2, q3, q4, q5, q6, q7⟩ := hI
        dsimp only at q1 q2 q3 q4 q5 q6 q7
        subst q1 q2
        by_cases hbz : LS.heldAt ⟨1 + k, cc, hd, W, E', tl⟩ U = true ∧ W ≠ who
        · obtain ⟨hz1, hz2⟩ := hbz
          have eN := now_at ⟨1 + k, cc, hd, W, E', tl⟩ U q3 (by dsimp only; omega) (by omega)
          simp only [LS.heldAt, eN, Bool.and_eq_true, decide_eq_true_eq] at hz1
          obtain ⟨hz1, hz3⟩ := hz1
          subst hz1
          have hW := q6 rfl
          have hbq : (W != 1 - who) = false := by rw [bne_eq_false_iff_eq]; omega
          clear q6 eN
          refine (s_take_busy b (1 + k) cc W E' tl U _ gr q3 (by omega) (by omega) hz3 who hz2 (by omega) (by omega)).mono ?_
          rintro e w4 ⟨rfl, g4, b4⟩
          have B4 := below_on Br gr hbB b4
          clear gr Br b4
          go_wp2_with fail
          refine (code_er 14 _ (by decide) (by decide)).mono ?_
          rintro e w5 ⟨rfl, rfl⟩
          go_wp2_with fail
          refine (s_holder b (1 + k) U W E' tl U _ g4 (by omega) (by omega) (by omega) hz3).mono ?_
          rintro e w5 ⟨rfl, g5, b5⟩
          have B5 := below_on B4 g4 hbB b5
          clear g4 B4 b5
          go_wp2_with fail
          refine (code_er 14 _ (by decide) (by decide)).mono ?_
          rintro e w6 ⟨rfl, rfl⟩
          go_wp2_with fail
          refine (s_left b (1 + k) U W E' tl U _ g5 (by omega) (by omega) (by omega) hz3 (by omega) (by omega) (by omega) (by omega) (by omega)).mono ?_
          rintro e w6 ⟨rfl, g6, b6⟩
          have B6 := below_on B5 g5 hbB b6
          clear g5 B5 b6
          go_wp2_with fail
          refine (s_left b (1 + k) U W E' tl U _ g6 (by omega) (by omega) (by omega) hz3 (by omega) (by omega) (by omega) (by omega) (by omega)).mono ?_
          rintro e w7 ⟨rfl, g7, b7⟩
          have B7 := below_on B6 g6 hbB b7
          clear g6 B6 b7
          go_wp2_with fail
          go_roundw
          case rel => exact ⟨i + 1, U, E', ⟨1 + k, U, true, W, E', tl⟩, by omega, by go_num, rfl, rfl, by omega, by omega, by omega, by omega, ⟨rfl, rfl, by dsimp only; omega, by dsimp only; omega, by dsimp only; omega, fun _ => hW, by dsimp only; omega⟩, g7, B7⟩
          case measure => simp [intOf]; omega
        · have hf : LS.heldAt ⟨1 + k, cc, hd, W, E', tl⟩ U = false ∨ W = who := by
            by_cases hw : W = who
            · exact .inr hw
            · exact .inl (by rw [Bool.eq_false_iff]; exact fun h => hbz ⟨h, hw⟩)
          clear hbz q6
          refine (s_take b ⟨1 + k, cc, hd, W, E', tl⟩ (1 + k) E' who U _ gr rfl rfl (ok_of _ _ _ _ _ _ (by omega) (by omega) q3 (by omega) hE0 (by omega) q5 (by omega)) (by dsimp only; omega) (by omega) (by omega) (by omega) hf).mono ?_
          rintro e w4 ⟨rfl, g4, b4⟩
          have B4 := below_on Br gr hbB b4
          clear gr Br b4 hf
          go_wp2_with fail
          refine (code_nil _).mono ?_
          rintro e w5 ⟨rfl, rfl⟩
          go_wp2_with fail
          refine (s_keep b (1 + k) U who (E' + 1) (U + (1 + k)) (U + (1 + k) - 1) _ g4 (by omega) (by omega) (by omega) (by omega) (by omega) (by omega) (by omega) (by omega) (by omega)).mono ?_
          rintro e w5 ⟨rfl, g5, b5⟩
          have B5 := below_on B4 g4 hbB b5
          clear g4 B4 b5
          go_wp2_with fail
          refine (s_keep_no b (1 + k) (U + (1 + k) - 1) who (E' + 1) (U + (1 + k) - 1 + (1 + k)) (U + (1 + k) - 1) _ g5 (by omega) (by omega) (by omega) (by omega) (1 - who) (E' + 1) (by omega)).mono ?_
          rintro e w6 ⟨rfl, g6, b6⟩
          have B6 := below_on B5 g5 hbB b6
          clear g5 B5 b6
          go_wp2_with fail
          refine (code_nil _).mono ?_
          rintro e w7 ⟨rfl, rfl⟩
          go_wp2_with fail
          refine (code_er 13 _ (by decide) (by decide)).mono ?_
          rintro e w7 ⟨rfl, rfl⟩
          go_wp2_with fail
          refine (s_left b (1 + k) (U + (1 + k) - 1) who (E' + 1) (U + (1 + k) - 1 + (1 + k)) (U + (1 + k) - 1) _ g6 (by omega) (by omega) (by omega) (by omega) (by omega) (by omega) (by omega) (by omega) (by omega)).mono ?_
          rintro e w7 ⟨rfl, g7, b7⟩
          have B7 := below_on B6 g6 hbB b7
          clear g6 B6 b7
          go_wp2_with fail
          go_roundw
          case rel => exact ⟨i + 1, U + (1 + k) - 1, E' + 1, _, by omega, by go_num, rfl, rfl, by omega, by omega, by omega, by omega, ⟨rfl, rfl, by dsimp only; omega, by dsimp only; omega, by dsimp only; omega, fun _ => by dsimp only; omega, by dsimp only; omega⟩, g7, B7⟩
          case measure => simp [intOf]; omega
      · obtain rfl : i = n := by omega
        clear hl hI
        go_wp2_with fail
        refine (take_nil _ _ _).mono ?_
        rintro e w3 ⟨rfl, rfl⟩
        go_wp2_with fail
        refine (holder_nil _ _).mono ?_
        rintro e w3 ⟨rfl, rfl⟩
        go_wp2_with fail
        refine (code_er 15 _ (by decide) (by decide)).mono ?_
        rintro e w3 ⟨rfl, rfl⟩
        go_wp2_with fail
        refine (keep_nil _ _ _ _).mono ?_
        rintro e w3 ⟨rfl, rfl⟩
        go_wp2_with fail
        refine (code_er 15 _ (by decide) (by decide)).mono ?_
        rintro e w3 ⟨rfl, rfl⟩
        go_wp2_with fail
        refine (drop_nil _ _ _ _).mono ?_
        rintro e w3 ⟨rfl, rfl⟩
        go_wp2_with fail
        refine (code_er 15 _ (by decide) (by decide)).mono ?_
        rintro e w3 ⟨rfl, rfl⟩
        go_wp2_with fail
        refine (left_nil _ _).mono ?_
        rintro e w3 ⟨rfl, rfl⟩
        go_wp2_with fail
        go_ret
        exact ⟨rfl, Br⟩

end Go.Proofs.Ytalpeldjdmfnjaa
