/-
  The walk of corncriblaw18.LeaseTurns.
-/
import Derived.Test.YtalpeldjdmfnjaaLeaseMore
namespace Go.Proofs.Ytalpeldjdmfnjaa
open Go.RowKit

/-- A list of bools that came in. -/
def Flags (w : World) (B : Nat) (a : Option Addr) (n : Nat) : Prop :=
  0 < n → ∃ b off, a = some ⟨b, off, none⟩ ∧ b < B ∧ ∀ i, i < n → ∃ x : Bool, w.cell? ⟨b, off + i, none⟩ = some (.bool x)

/-- What stands between two rounds: it is nobody's. -/
structure TurnInv (L : LS) (n T E : Int) : Prop where
  ticks : L.ticks = n
  epoch : L.epoch = E
  now0 : 0 ≤ L.now
  now1 : L.now ≤ T
  till0 : 0 ≤ L.till
  till : L.till ≤ 65536
  free : L.held = false

set_option maxRecDepth 100000 in
set_option maxHeartbeats 1000000 in
theorem turns_walk (k : Int) (a : Option Addr) (n c : Nat) (w : World) (hk0 : 0 ≤ k) (hk1 : k ≤ 255) (hl : Flags w w.heap.size a n) :
    Calls Try.prog 6 #[.int .u8 k, .slice a n c] w fun e w' => e = .returned (.bool true) ∧ Below w.heap.size w w' := by
  by_cases hbig : 60 < n
  · go_enter Try.func6, Try.ntmps6
    go_wp2_with fail
    refine (lease_alive _).mono ?_
    rintro e w1 ⟨rfl, B1⟩
    go_wp2_with fail
    go_ret
    exact ⟨rfl, B1⟩
  · have hn : n ≤ 60 := by omega
    clear hbig
    go_enter Try.func6, Try.ntmps6
    go_wp2_with fail
    refine (lease_alive _).mono ?_
    rintro e w1 ⟨rfl, B1⟩
    go_wp2_with fail
    refine (new_ok _ _ (by omega) (by omega)).mono ?_
    rintro e w2 ⟨b, rfl, hb, g2, B2⟩
    have hbB : w.heap.size ≤ b := Nat.le_trans B1.size hb
    have B2 : Below w.heap.size w w2 := B1.trans (B2.mono B1.size)
    go_wp2_with fail
    go_loopw [8, 9] (fun nv iv wr => ∃ (i : Nat) (T : Int) (L : LS), i ≤ n ∧ iv = .int .i64 i ∧ nv = .int .i64 T ∧ 0 ≤ T ∧ T ≤ 256 * i ∧ TurnInv L (1 + k) T i ∧ LB wr b L ∧ Below w.heap.size w wr)
      (fun _ iv _ => n - (intOf iv).toNat)
    case atStart => exact ⟨0, 0, LS.fresh (1 + k), by omega, rfl, rfl, by omega, by omega, ⟨rfl, rfl, by simp [LS.fresh], by simp [LS.fresh], by simp [LS.fresh], by simp [LS.fresh], rfl⟩, g2, B2⟩
    case round =>
      obtain ⟨i, T, L, hi, rfl, rfl, hT0, hT1, hI, gr, Br⟩ := hrel
      clear g2 B2
      obtain ⟨n', cc, hd, W, E, tl⟩ := L
      obtain ⟨q1, q2, q3, q4, q5, q6, q7⟩ := hI
      dsimp only at q1 q2 q3 q4 q5 q6 q7
      subst q1 q2 q7
      by_cases hlt : i < n
      · obtain ⟨ab, off, rfl, hab, hc⟩ := hl (by omega)
        obtain ⟨x, hx⟩ := hc i hlt
        have hx := fun {w'} (B : Below w.heap.size w w') => (B.cell hab).trans hx
        clear hc hl
        have hw0 : 0 ≤ (i : Int) % 3 := by omega
        have hw1 : (i : Int) % 3 ≤ 2 := by omega
        go_wp2_with fail
        refine (s_take b ⟨1 + k, cc, false, W, i, tl⟩ (1 + k) i (i % 3) T _ gr rfl rfl (ok_of _ _ _ _ _ _ (by omega) (by omega) q3 (by omega) (by omega) (by omega) q5 q6) (by dsimp only; omega) (by omega) (by omega) (by omega) (.inl (by simp only [LS.heldAt, Bool.false_and]))).mono ?_
        rintro e w4 ⟨rfl, g4, b4⟩
        have B4 := below_on Br gr hbB b4
        clear gr Br b4
        have hx := hx B4
        cases x
        · go_wp2_with fail
          refine (code_nil _).mono ?_
          rintro e w9 ⟨rfl, rfl⟩
          go_wp2_with fail
          refine (s_take_busy b (1 + k) T (i % 3) (i + 1) (T + (1 + k)) (T + (1 + k) - 1) _ g4 (by omega) (by omega) (by omega) (by omega) (((i : Int) + 1) % 3) (by omega) (by omega) (by omega)).mono ?_
          rintro e w5 ⟨rfl, g5, b5⟩
          have B5 := below_on B4 g4 hbB b5
          clear g4 B4 b5
          go_wp2_with fail
          refine (code_er 14 _ (by decide) (by decide)).mono ?_
          rintro e w9 ⟨rfl, rfl⟩
          go_wp2_with fail
          have h6 := keep_no b _ (i % 3) (i + 1) (T + (1 + k)) _ g5 (by simp only [LS.mine, show LS.heldAt ⟨1 + k, T + (1 + k) - 1, true, (i : Int) % 3, i + 1, T + (1 + k)⟩ (T + (1 + k)) = false from congrArg LS.held (out_tick _ _ _ _ _ _ (by omega) (by omega) (by omega) (by omega)), Bool.false_and])
          rw [out_tick _ _ _ _ _ _ (by omega) (by omega) (by omega) (by omega)] at h6
          refine h6.mono ?_
          clear h6
          rintro e w6 ⟨rfl, g6, b6⟩
          have B6 := below_on B5 g5 hbB b6
          clear g5 B5 b6
          go_wp2_with fail
          refine (code_er 13 _ (by decide) (by decide)).mono ?_
          rintro e w9 ⟨rfl, rfl⟩
          go_wp2_with fail
          refine (o_left b (1 + k) (T + (1 + k)) (i % 3) (i + 1) (T + (1 + k)) (T + (1 + k)) _ g6 (by omega) (by omega) (by omega) (by omega) (by omega) (by omega) (by omega) (by omega) (by omega) (by omega)).mono ?_
          rintro e w7 ⟨rfl, g7, b7⟩
          have B7 := below_on B6 g6 hbB b7
          clear g6 B6 b7
          go_wp2_with fail
          go_roundw
          case rel => exact ⟨i + 1, T + (1 + k), _, by omega, by go_num, rfl, by omega, by omega, ⟨rfl, by dsimp only; omega, by dsimp only; omega, by dsimp only; omega, by dsimp only; omega, by dsimp only; omega, rfl⟩, g7, B7⟩
          case measure => simp [intOf]; omega
        · go_wp2_with fail
          refine (code_nil _).mono ?_
          rintro e w9 ⟨rfl, rfl⟩
          go_wp2_with fail
          refine (s_drop b (1 + k) T (i % 3) (i + 1) (T + (1 + k)) T _ g4 (by omega) (by omega) (by omega) (by omega)).mono ?_
          rintro e w5 ⟨rfl, g5, b5⟩
          have B5 := below_on B4 g4 hbB b5
          clear g4 B4 b5
          go_wp2_with fail
          refine (o_drop b (1 + k) T (i % 3) (i + 1) (T + (1 + k)) T _ g5 (by omega) (by omega) (by omega) (i % 3) (i + 1)).mono ?_
          rintro e w6 ⟨rfl, g6, b6⟩
          have B6 := below_on B5 g5 hbB b6
          clear g5 B5 b6
          go_wp2_with fail
          refine (code_nil _).mono ?_
          rintro e w9 ⟨rfl, rfl⟩
          go_wp2_with fail
          refine (code_er 13 _ (by decide) (by decide)).mono ?_
          rintro e w9 ⟨rfl, rfl⟩
          go_wp2_with fail
          refine (o_keep b (1 + k) T (i % 3) (i + 1) (T + (1 + k)) T _ g6 (by omega) (by omega) (by omega) (i % 3) (i + 1)).mono ?_
          rintro e w7 ⟨rfl, g7, b7⟩
          have B7 := below_on B6 g6 hbB b7
          clear g6 B6 b7
          go_wp2_with fail
          refine (code_er 13 _ (by decide) (by decide)).mono ?_
          rintro e w9 ⟨rfl, rfl⟩
          go_wp2_with fail
          refine (o_left b (1 + k) T (i % 3) (i + 1) (T + (1 + k)) T _ g7 (by omega) (by omega) (by omega) (by omega) (by omega) (by omega) (by omega) (by omega) (by omega) (by omega)).mono ?_
          rintro e w8 ⟨rfl, g8, b8⟩
          have B8 := below_on B7 g7 hbB b8
          clear g7 B7 b8
          go_wp2_with fail
          go_roundw
          case rel => exact ⟨i + 1, T, _, by omega, by go_num, rfl, by omega, by omega, ⟨rfl, by dsimp only; omega, by dsimp only; omega, by dsimp only; omega, by dsimp only; omega, by dsimp only; omega, rfl⟩, g8, B8⟩
          case measure => simp [intOf]; omega
      · obtain rfl : i = n := by omega
        clear hl
        go_wp2_with fail
        refine (o_holder b (1 + k) cc W i tl T _ gr (by omega) (by omega) (by omega)).mono ?_
        rintro e w4 ⟨rfl, g4, b4⟩
        have B4 := below_on Br gr hbB b4
        clear gr Br b4
        go_wp2_with fail
        go_ret
        exact ⟨rfl, B4⟩

end Go.Proofs.Ytalpeldjdmfnjaa
