/-
  The walk of corncriblaw03.NeedleApart.
-/
import Derived.Test.YtkmifimdjdjdpaaNdlAlive
namespace Go.Proofs.Ytkmifimdjdjdpaa
open Go.RowKit

theorem ndBytes_inj {key ck : Nat} {g : Bool} {l : List (BitVec 8)} {key' ck' : Nat} {g' : Bool} {l' : List (BitVec 8)} (hk : key < 18446744073709551616) (hck : ck < 4294967296) (hok : chk g l.length = 0)
    (hk' : key' < 18446744073709551616) (hck' : ck' < 4294967296) (hok' : chk g' l'.length = 0) : (ndBytes key ck g l = ndBytes key' ck' g' l') ↔ (key = key' ∧ ck = ck' ∧ g = g' ∧ l = l') := by
  constructor
  · intro h
    have h1 := ndGet_bytes key ck g l [] hk hck hok
    have h2 := ndGet_bytes key' ck' g' l' [] hk' hck' hok'
    rw [h, h2] at h1
    simp only [Prod.mk.injEq] at h1
    obtain ⟨rfl, rfl, rfl, rfl, -, -⟩ := h1
    exact ⟨rfl, rfl, rfl, rfl⟩
  · rintro ⟨rfl, rfl, rfl, rfl⟩; rfl

theorem ndSame_comm (key ck : Nat) (g : Bool) (l : List (BitVec 8)) (key' ck' : Nat) (g' : Bool) (l' : List (BitVec 8)) : ndSame key' ck' g' l' key ck g l = ndSame key ck g l key' ck' g' l' := by
  unfold ndSame
  rw [Bool.eq_iff_iff, decide_eq_true_eq, decide_eq_true_eq]
  constructor <;> (rintro ⟨rfl, rfl, rfl, rfl⟩; exact ⟨rfl, rfl, rfl, rfl⟩)

set_option maxRecDepth 100000 in
set_option maxHeartbeats 4000000 in
theorem apart_walk (key ck : Nat) (g : Bool) (a : Option Addr) (n c : Nat) (l : List (BitVec 8)) (key' ck' : Nat) (g' : Bool) (a' : Option Addr) (n' c' : Nat) (l' : List (BitVec 8)) (w : World) (h : BSl w w.heap.size a n l) (h' : BSl w w.heap.size a' n' l')
    (hk : key < 18446744073709551616) (hck : ck < 4294967296) (hk' : key' < 18446744073709551616) (hck' : ck' < 4294967296) (hn : n ≤ 9223372036854775807) (hn' : n' ≤ 9223372036854775807) :
    Calls Try.prog 12 #[.agg #[.int .u64 key, .int .u32 ck, .bool g, .slice a n c], .agg #[.int .u64 key', .int .u32 ck', .bool g', .slice a' n' c']] w fun e w' => e = .returned (.bool true) ∧ Below w.heap.size w w' := by
  obtain ⟨W0, hW0⟩ : ∃ W0, (w.alloc (.cells #[.int .u64 key, .int .u32 ck, .bool g, .slice a n c] 32)).alloc (.cells #[.int .u64 key', .int .u32 ck', .bool g', .slice a' n' c'] 32) = W0 := ⟨_, rfl⟩
  have hK1 : Blk W0 w.heap.size 32 #[.int .u64 key, .int .u32 ck, .bool g, .slice a n c] := by rw [← hW0]; exact (Blk.made w _ _).alloc _
  have hK2 : Blk W0 (w.heap.size + 1) 32 #[.int .u64 key', .int .u32 ck', .bool g', .slice a' n' c'] := by
    rw [← hW0]
    have := Blk.made (w.alloc (.cells #[.int .u64 key, .int .u32 ck, .bool g, .slice a n c] 32)) 32 #[.int .u64 key', .int .u32 ck', .bool g', .slice a' n' c']
    simpa using this
  have BA : Below w.heap.size w W0 := by rw [← hW0]; exact ((Below.refl _ _).alloc (Nat.le_refl _) _).alloc (by simp) _
  have C1 := Lib.hid fun (W : World) (B : Below W0.heap.size W0 W) => (hK1.below B hK1.lt).four
  have C2 := Lib.hid fun (W : World) (B : Below W0.heap.size W0 W) => (hK2.below B hK2.lt).four
  have H1 := Lib.hid fun (W : World) (B : Below W0.heap.size W0 W) => (h.below (BA.trans (B.mono BA.size))).more (BA.trans (B.mono BA.size)).size
  have H2 := Lib.hid fun (W : World) (B : Below W0.heap.size W0 W) => (h'.below (BA.trans (B.mono BA.size))).more (BA.trans (B.mono BA.size)).size
  have HL := Lib.hid h.1
  have HL' := Lib.hid h'.1
  have BW := Lib.hid fun (W : World) (B : Below W0.heap.size W0 W) => BA.trans (B.mono BA.size)
  clear hK1 hK2 BA h h'
  go_enter Try.func12, Try.ntmps12
  go_wp2_with fail
  clear hW0
  refine (needle_alive _).mono ?_
  rintro e W1 ⟨rfl, B1⟩
  obtain ⟨p0, p1, p2, p3⟩ := C1.out W1 B1
  go_wp2_with fail
  refine (ref3_check key ck g a n c W1 hn).mono ?_
  rintro e W2 ⟨rfl, B2⟩
  clear p0 p1 p2 p3
  have B2 := B1.trans (B2.mono B1.size)
  by_cases hok : chk g n = 0
  · rw [hok]
    obtain ⟨q0, q1, q2, q3⟩ := C2.out W2 B2
    go_wp2_with fail
    refine (ref3_check key' ck' g' a' n' c' W2 hn').mono ?_
    rintro e W3 ⟨rfl, B3⟩
    clear q0 q1 q2 q3
    have B3 := B2.trans (B3.mono B2.size)
    by_cases hok' : chk g' n' = 0
    · rw [hok']
      have P1 := Lib.hid fun (W : World) (B : Below W0.heap.size W0 W) => nput_ok key ck g a n c l W (H1.out W B) hk hck hok
      have P2 := Lib.hid fun (W : World) (B : Below W0.heap.size W0 W) => nput_ok key' ck' g' a' n' c' l' W (H2.out W B) hk' hck' hok'
      have HI := Lib.hid (show (decide (ndBytes key ck g l = ndBytes key' ck' g' l')) = ndSame key ck g l key' ck' g' l' from by unfold ndSame; rw [decide_eq_decide]; exact ndBytes_inj hk hck (by rw [HL.out]; exact hok) hk' hck' (by rw [HL'.out]; exact hok'))
      have hlong : ¬ (n' < n) → 32 + n + padn n ≤ 32 + n' + padn n' := by intro h; unfold padn; omega
      have HOK := Lib.hid hok
      have hn4 := (chk_ok hok).1
      have hn4' := (chk_ok hok').1
      have hp : padn n < 8 := by unfold padn; omega
      have hp' : padn n' < 8 := by unfold padn; omega
      have HC := Lib.hid (ndSame_comm key ck g l key' ck' g' l')
      generalize padn n = pn at *
      generalize padn n' = pn' at *
      generalize ndBytes key ck g l = L1 at *
      generalize ndBytes key' ck' g' l' = L2 at *
      obtain ⟨p0, p1, p2, p3⟩ := C1.out W3 B3
      clear hok hok'
      go_wp2_with fail
      refine (P1.out W3 B3).mono ?_
      rintro e W4 ⟨b4, c4, rfl, ho4, B4⟩
      have B4 := B3.trans (B4.mono B3.size)
      clear p0 p1 p2 p3
      obtain ⟨q0, q1, q2, q3⟩ := C2.out W4 B4
      go_wp2_with fail
      refine (P2.out W4 B4).mono ?_
      rintro e W5 ⟨b5, c5, rfl, ho5, B5⟩
      have ho4 := own_below ho4 B5 (Nat.le_refl _)
      have B5 := B4.trans (B5.mono B4.size)
      clear q0 q1 q2 q3
      obtain ⟨p0, p1, p2, p3⟩ := C1.out W5 B5
      obtain ⟨q0, q1, q2, q3⟩ := C2.out W5 B5
      go_wp2_with fail
      refine (needle_same key ck g a n c l key' ck' g' a' n' c' l' W5 (H1.out W5 B5) (H2.out W5 B5)).mono ?_
      rintro e W6 ⟨rfl, B6⟩
      have ho4 := own_below ho4 B6 (Nat.le_refl _)
      have ho5 := own_below ho5 B6 (Nat.le_refl _)
      have B6 := B5.trans (B6.mono B5.size)
      clear p0 p1 p2 p3 q0 q1 q2 q3
      go_wp2_with fail
      refine (code_c 0 _ (by decide)).mono ?_
      rintro e w6 ⟨rfl, rfl⟩
      go_wp2_with fail
      refine (code_c 0 _ (by decide)).mono ?_
      rintro e w6 ⟨rfl, rfl⟩
      go_wp2_with fail
      refine (same_any _ _ _ _ _ _ _ _ _ (bsl_own ho4) (bsl_own ho5) (by omega)).mono ?_
      rintro e w6 ⟨rfl, q, rfl⟩
      rw [HI.out]
      have B7 := below_drewN B6 q
      have S2 := Lib.hid (needle_same key' ck' g' a' n' c' l' key ck g a n c l (W6.drewN q) (H2.out _ B7) (H1.out _ B7))
      rw [HC.out] at S2
      generalize ndSame key ck g l key' ck' g' l' = sm at *
      obtain ⟨p0, p1, p2, p3⟩ := C1.out _ B7
      obtain ⟨q0, q1, q2, q3⟩ := C2.out _ B7
      by_cases hgt : n' < n
      · have hgt' : decide ((n' : Int) < n) = true := by rw [decide_eq_true_eq]; omega
        cases sm
        all_goals
          go_wp2_with fail
          refine S2.out.mono ?_
          rintro e W8 ⟨rfl, B8⟩
          go_wp2_with fail
          go_ret
          exact ⟨rfl, BW.out _ (B7.trans (B8.mono B7.size))⟩
      · have hgt' : decide ((n' : Int) < n) = false := by rw [decide_eq_false_iff_not]; omega
        have hle := hlong hgt
        cases sm
        all_goals
          go_wp2_with fail
          refine S2.out.mono ?_
          rintro e W8 ⟨rfl, B8⟩
          go_wp2_with fail
          go_ret
          exact ⟨rfl, BW.out _ (B7.trans (B8.mono B7.size))⟩
    · have h12 : chk g' n' = 1 ∨ chk g' n' = 2 := by unfold chk at hok' ⊢; split <;> (try split) <;> simp_all
      rcases h12 with h12 | h12
      all_goals
        rw [h12]
        clear h12 hok'
        go_wp2_with fail
        go_ret
        exact ⟨rfl, BW.out _ B3⟩
  · have h12 : chk g n = 1 ∨ chk g n = 2 := by unfold chk at hok ⊢; split <;> (try split) <;> simp_all
    rcases h12 with h12 | h12
    all_goals
      rw [h12]
      clear h12 hok
      go_wp2_with fail
      go_ret
      exact ⟨rfl, BW.out _ B2⟩

end Go.Proofs.Ytkmifimdjdjdpaa
