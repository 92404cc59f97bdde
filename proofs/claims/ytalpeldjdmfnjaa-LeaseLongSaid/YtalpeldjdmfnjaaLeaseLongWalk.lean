/-
  The walk of corncriblaw18.LeaseLong.
-/
import Derived.Test.YtalpeldjdmfnjaaLeaseAlive
namespace Go.Proofs.Ytalpeldjdmfnjaa
open Go.RowKit

/-- Who keeps it in time has it: the state between two rounds. -/
def LL (n T : Int) : LS := ⟨n, T, true, 9, 1, T + n⟩

theorem ll_tick (n c T x : Int) (h1 : 0 ≤ c) (h2 : c ≤ T + x) (h3 : T + x ≤ 1073741824) (h4 : x < n) (h5 : 0 ≤ T + x) :
    LS.tick ⟨n, c, true, 9, 1, T + n⟩ (T + x) = ⟨n, T + x, true, 9, 1, T + n⟩ := by
  have e1 : LS.nowAt ⟨n, c, true, 9, 1, T + n⟩ (T + x) = T + x := by simp only [LS.nowAt, mx, mn]; omega
  have e2 : LS.heldAt ⟨n, c, true, 9, 1, T + n⟩ (T + x) = true := by
    simp only [LS.heldAt, e1, Bool.true_and, decide_eq_true_eq]; omega
  simp only [LS.tick, e1, e2]

theorem ll_ok (n c T : Int) (h0 : 1 ≤ n) (h0' : n ≤ 256) (h1 : 0 ≤ c) (h2 : c ≤ 65536) (h3 : 0 ≤ T) (h4 : T ≤ 65536) : LS.Ok ⟨n, c, true, 9, 1, T + n⟩ := by
  simp only [LS.Ok]; omega

theorem ll_left (b : Nat) (n c T x : Int) (w : World) (g : LB w b ⟨n, c, true, 9, 1, T + n⟩) (h0 : n ≤ 256) (h1 : 0 ≤ c) (h2 : c ≤ T + x) (h3 : 0 ≤ T) (h4 : T ≤ 30000) (h5 : 0 ≤ x) (h6 : x < n) :
    Calls Try.prog 19 #[.pointer (some ⟨b, 0, none⟩), .int .i64 (T + x)] w fun e w' => e = .returned (.int .i64 (n - x)) ∧ LB w' b ⟨n, T + x, true, 9, 1, T + n⟩ ∧ w.grownBy w' (some b) := by
  have et := ll_tick n c T x h1 h2 (by omega) h6 (by omega)
  have hl := left_any b ⟨n, c, true, 9, 1, T + n⟩ (T + x) w g (ll_ok n c T (by omega) h0 h1 (by omega) h3 (by omega))
  rw [et] at hl
  have hh : LS.heldAt ⟨n, c, true, 9, 1, T + n⟩ (T + x) = true := congrArg LS.held et
  have hn : LS.nowAt ⟨n, c, true, 9, 1, T + n⟩ (T + x) = T + x := congrArg LS.now et
  rw [hh, hn, if_pos rfl, show (T + n - (T + x)) = n - x from by omega] at hl
  exact hl

theorem ll_keep (b : Nat) (n c T x : Int) (w : World) (g : LB w b ⟨n, c, true, 9, 1, T + n⟩) (h0 : n ≤ 256) (h1 : 0 ≤ c) (h2 : c ≤ T + x) (h3 : 0 ≤ T) (h4 : T ≤ 30000) (h5 : 0 ≤ x) (h6 : x < n) :
    Calls Try.prog 20 #[.pointer (some ⟨b, 0, none⟩), .int .i64 9, .int .i64 1, .int .i64 (T + x)] w fun e w' => e = .returned .nilIface ∧ LB w' b (LL n (T + x)) ∧ w.grownBy w' (some b) := by
  have et := ll_tick n c T x h1 h2 (by omega) h6 (by omega)
  have hh : LS.heldAt ⟨n, c, true, 9, 1, T + n⟩ (T + x) = true := congrArg LS.held et
  have hl := keep_yes b ⟨n, c, true, 9, 1, T + n⟩ 9 1 (T + x) w g (ll_ok n c T (by omega) h0 h1 (by omega) h3 (by omega)) (by simp only [LS.mine, hh]; rfl)
  rw [et] at hl
  exact hl

theorem ll_out (n T : Int) (h0 : 1 ≤ n) (h1 : n ≤ 256) (h3 : 0 ≤ T) (h4 : T ≤ 30000) : (LL n T).tick (T + n) = ⟨n, T + n, false, 9, 1, T + n⟩ := by
  have e1 : LS.nowAt (LL n T) (T + n) = T + n := by simp only [LL, LS.nowAt, mx, mn]; omega
  have e2 : LS.heldAt (LL n T) (T + n) = false := by
    simp only [LS.heldAt, e1]; simp [LL]
  simp only [LS.tick, e1, e2]
  rfl

theorem ll_same (n T : Int) (h0 : 1 ≤ n) (h1 : n ≤ 256) (h3 : 0 ≤ T) (h4 : T ≤ 30000) : (LL n T).tick T = LL n T := by
  have := ll_tick n T T 0 h3 (by omega) (by omega) (by omega) (by omega)
  rw [Int.add_zero] at this
  exact this

theorem long_walk (k : Int) (a : Option Addr) (n c : Nat) (l : List (BitVec 8)) (w : World) (hk0 : 0 ≤ k) (hk1 : k ≤ 255) (hl : BSl w w.heap.size a n l) :
    Calls Try.prog 3 #[.int .u8 k, .slice a n c] w fun e w' => e = .returned (.bool true) ∧ Below w.heap.size w w' := by
  by_cases hbig : 100 < n
  · go_enter Try.func3, Try.ntmps3
    go_wp2_with fail
    refine (lease_alive _).mono ?_
    rintro e w1 ⟨rfl, B1⟩
    go_wp2_with fail
    go_ret
    exact ⟨rfl, B1⟩
  · have hn : n ≤ 100 := by omega
    clear hbig
    go_enter Try.func3, Try.ntmps3
    go_wp2_with fail
    refine (lease_alive _).mono ?_
    rintro e w1 ⟨rfl, B1⟩
    go_wp2_with fail
    refine (new_ok _ _ (by omega) (by omega)).mono ?_
    rintro e w2 ⟨b, rfl, hb, g2, B2⟩
    have hbB : w.heap.size ≤ b := Nat.le_trans B1.size hb
    have B2 : Below w.heap.size w w2 := B1.trans (B2.mono B1.size)
    go_wp2_with fail
    have T := take_ok b (LS.fresh (1 + k)) 9 0 w2 g2 (by simp [LS.Ok, LS.fresh]; omega) (by decide) (by decide) (.inl rfl)
    rw [show (LS.fresh (1 + k)).epoch + 1 = 1 from rfl, show ((LS.fresh (1 + k)).tick 0).taken 9 = LL (1 + k) 0 from rfl] at T
    refine T.mono ?_
    rintro e w3 ⟨rfl, g3, b3⟩
    have B3 := below_on B2 g2 hbB b3
    clear T g2 b3 B1 B2 hb
    go_wp2_with fail
    refine (code_nil _).mono ?_
    rintro e w5 ⟨rfl, rfl⟩
    go_wp2_with fail
    go_loopw [10, 11] (fun nv iv wr => ∃ (i : Nat) (T : Int), i ≤ n ∧ iv = .int .i64 i ∧ nv = .int .i64 T ∧ 0 ≤ T ∧ T ≤ 255 * i ∧ LB wr b (LL (1 + k) T) ∧ Below w.heap.size w wr)
      (fun _ iv _ => n - (intOf iv).toNat)
    case atStart => exact ⟨0, 0, Nat.zero_le _, rfl, rfl, by omega, by omega, g3, B3⟩
    case round =>
      obtain ⟨i, T, hi, rfl, rfl, hT0, hT1, gr, Br⟩ := hrel
      clear g3 B3
      by_cases hlt : i < n
      · obtain ⟨ab, off, rfl, hab, hc⟩ := hl.at_ hlt
        have hc : wr.cell? ⟨ab, off + i, none⟩ = some (bv (l.getD i 0)) := (Br.cell hab).trans hc
        unfold bv at hc
        have hz0 : 0 ≤ ((l.getD i 0).toNat : Int) := by omega
        have hz1 : ((l.getD i 0).toNat : Int) ≤ 255 := by have := (l.getD i 0).isLt; omega
        generalize ((l.getD i 0).toNat : Int) = z at *
        have hs0 : 0 ≤ z % (1 + k) := Int.emod_nonneg _ (by omega)
        have hs1 : z % (1 + k) < 1 + k := Int.emod_lt_of_pos _ (by omega)
        go_wp2_with fail
        obtain ⟨wo, hwo⟩ : ∃ wo : World, wo = wr := ⟨_, rfl⟩
        go_loopw [13] (fun kv wq => ∃ (j : Nat) (cc : Int), (j : Int) ≤ z % (1 + k) + 1 ∧ kv = .int .i64 j ∧ T ≤ cc ∧ cc ≤ T + j ∧ cc ≤ T + z % (1 + k) ∧ LB wq b ⟨1 + k, cc, true, 9, 1, T + (1 + k)⟩ ∧ Below w.heap.size w wq)
          (fun kv _ => (z % (1 + k) + 1 - intOf kv).toNat)
        case atStart => exact ⟨0, T, by omega, rfl, by omega, by omega, by omega, gr, Br⟩
        case round =>
          clear gr Br
          obtain ⟨j, cc, hj, rfl, hc0, hc1, hc2, gq, Bq⟩ := hrel
          by_cases hjl : (j : Int) ≤ z % (1 + k)
          · go_wp2_with fail
            refine (ll_left b (1 + k) cc T j wr gq (by omega) (by omega) (by omega) hT0 (by omega) (by omega) (by omega)).mono ?_
            rintro e w4 ⟨rfl, g4, b4⟩
            have B4 := below_on Bq gq hbB b4
            clear gq Bq b4
            go_wp2_with fail
            go_roundw
            case rel => exact ⟨j + 1, T + j, by omega, by go_num, by omega, by omega, by omega, g4, B4⟩
            case measure => simp [intOf]; omega
          · go_wp2_with fail
            refine (ll_keep b (1 + k) cc T (z % (1 + k)) wr gq (by omega) (by omega) (by omega) hT0 (by omega) (by omega) (by omega)).mono ?_
            rintro e w4 ⟨rfl, g4, b4⟩
            have B4 := below_on Bq gq hbB b4
            clear gq Bq b4
            go_wp2_with fail
            refine (code_nil _).mono ?_
            rintro e w5 ⟨rfl, rfl⟩
            go_wp2_with fail
            go_roundw
            case rel => exact ⟨i + 1, T + z % (1 + k), by omega, by go_num, rfl, by omega, by omega, g4, B4⟩
            case measure => simp [intOf]; omega
      · obtain rfl : i = n := by omega
        have H1 := holder_any b (LL (1 + k) T) T wr gr
        rw [ll_same (1 + k) T (by omega) (by omega) hT0 (by omega)] at H1
        have hh : LS.heldAt (LL (1 + k) T) T = true := congrArg LS.held (ll_same (1 + k) T (by omega) (by omega) hT0 (by omega))
        rw [hh, if_pos rfl, show (LL (1 + k) T).who = 9 from rfl, show (LL (1 + k) T).epoch = 1 from rfl] at H1
        have H1 := Lib.hid H1
        clear hh
        go_wp2_with fail
        refine H1.out.mono ?_
        rintro e w4 ⟨rfl, g4, b4⟩
        have B4 := below_on Br gr hbB b4
        clear H1 gr Br b4
        have ho := ll_out (1 + k) T (by omega) (by omega) hT0 (by omega)
        have H2 := keep_no b (LL (1 + k) T) 9 1 (T + (1 + k)) w4 g4 (by simp only [LS.mine, show LS.heldAt (LL (1 + k) T) (T + (1 + k)) = false from congrArg LS.held ho]; rfl)
        rw [ho] at H2
        have H2 := Lib.hid H2
        clear ho
        go_wp2_with fail
        refine H2.out.mono ?_
        rintro e w5 ⟨rfl, g5, b5⟩
        have B5 := below_on B4 g4 hbB b5
        clear H2 g4 B4 b5
        go_wp2_with fail
        refine (code_er 13 _ (by decide) (by decide)).mono ?_
        rintro e w5 ⟨rfl, rfl⟩
        have H3 := left_any b ⟨1 + k, T + (1 + k), false, 9, 1, T + (1 + k)⟩ (T + (1 + k)) w5 g5 (by simp only [LS.Ok]; omega)
        rw [show LS.heldAt ⟨1 + k, T + (1 + k), false, 9, 1, T + (1 + k)⟩ (T + (1 + k)) = false from rfl] at H3
        have H3 := Lib.hid H3
        go_wp2_with fail
        refine H3.out.mono ?_
        rintro e w6 ⟨rfl, g6, b6⟩
        have B6 := below_on B5 g5 hbB b6
        go_wp2_with fail
        go_ret
        exact ⟨rfl, B6⟩

end Go.Proofs.Ytalpeldjdmfnjaa
