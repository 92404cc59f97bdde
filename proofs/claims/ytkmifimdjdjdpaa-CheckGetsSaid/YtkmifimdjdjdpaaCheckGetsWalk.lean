/-
  The walk of corncriblaw05.CheckGets.
-/
import Derived.Test.YtkmifimdjdjdpaaChkRefGet
import Derived.Test.YtkmifimdjdjdpaaChkAlive
namespace Go.Proofs.Ytkmifimdjdjdpaa
open Go.RowKit

set_option maxRecDepth 100000 in
set_option maxHeartbeats 4000000 in
theorem cgets_walk (a : Option Addr) (n c : Nat) (l : List (BitVec 8)) (w : World) (h : BSl w w.heap.size a n l) (hc : n ≤ c) :
    Calls Try.prog 5 #[.slice a n c] w fun e w' => e = .returned (.bool true) ∧ Below w.heap.size w w' := by
  by_cases hbig : 3000 < n
  · go_enter Try.func5, Try.ntmps5
    go_wp2_with fail
    refine (chk_alive _).mono ?_
    rintro e W1 ⟨rfl, B1⟩
    go_wp2_with fail
    go_ret
    exact ⟨rfl, B1⟩
  have hn : n ≤ 3000 := by omega
  clear hbig
  have G := Lib.hid fun (W : World) (B : Below w.heap.size w W) => cget_any a n c l W ((h.below B).more B.size) hc (by omega)
  have R := Lib.hid fun (W : World) (B : Below w.heap.size w W) => rcget_any a n c l W ((h.below B).more B.size) hc (by omega)
  have hcn : ckGet l = 0 → nums l 16 4 ≤ 4096 := by
    intro h0
    unfold ckGet at h0
    split at h0
    · omega
    · split at h0
      · omega
      · split at h0
        · omega
        · omega
  have HCN := Lib.hid hcn
  clear h hcn
  go_enter Try.func5, Try.ntmps5
  go_wp2_with fail
  refine (chk_alive _).mono ?_
  rintro e W1 ⟨rfl, B1⟩
  go_wp2_with fail
  refine (G.out W1 B1).mono ?_
  rintro e W2 ⟨B2, v2, rfl, hv2⟩
  have B2' := B1.trans (B2.mono B1.size)
  by_cases h0 : ckGet l = 0
  · have hn16 := HCN.out h0
    obtain ⟨-, a2, c2, rfl, hc2, ho2⟩ := hv2.resolve_left (fun h => h.1 h0)
    have hpl := posL_length l (nums l 16 4)
    have hpb := posL_bounds l (nums l 16 4)
    have hR := fun (W : World) (B : Below w.heap.size w W) => R.out W B
    unfold RcGot at hR
    rw [h0] at hR ⊢
    generalize nums l 4 4 = v at *
    generalize nums l 8 4 = g at *
    generalize nums l 12 4 = u at *
    generalize nums l 16 4 = cn at *
    generalize posL l cn = ps at *
    have HR := Lib.hid hR
    have HPB := Lib.hid hpb
    have hp3 := psl_own ho2 hpb
    have hK3 := Blk.made W2 46 #[.int .i64 v, .int .i64 g, .int .i64 u, .slice a2 cn c2]
    have B3 := B2'.alloc B2'.size (.cells #[.int .i64 v, .int .i64 g, .int .i64 u, .slice a2 cn c2] 46)
    have hq3 := (hp3.below ((Below.refl W2.heap.size W2).alloc (Nat.le_refl _) (.cells #[.int .i64 v, .int .i64 g, .int .i64 u, .slice a2 cn c2] 46))).more ((Below.refl W2.heap.size W2).alloc (Nat.le_refl _) (.cells #[.int .i64 v, .int .i64 g, .int .i64 u, .slice a2 cn c2] 46)).size
    clear hv2 ho2 hR hpb G R HCN B1 B2 B2' hp3
    unfold errc
    go_upto_region 6 with fail
    generalize W2.alloc (.cells #[.int .i64 v, .int .i64 g, .int .i64 u, .slice a2 cn c2] 46) = W3 at *
    generalize W2.heap.size = gx at *
    have HK3 := Lib.hid fun (W : World) (B : Below W3.heap.size W3 W) => (⟨(hK3.below B hK3.lt).four, (hq3.below B).more B.size⟩ : _ ∧ _)
    have HB3 := Lib.hid fun (W : World) (B : Below W3.heap.size W3 W) => B3.trans (B.mono B3.size)
    have hgx := hK3.lt
    clear hK3 hq3
    go_wp2_with fail
    refine (HR.out W3 B3).mono ?_
    rintro e W4 ⟨B4, v4, rfl, hv4⟩
    obtain ⟨-, a4, c4, rfl, hc4, hp4⟩ := hv4.resolve_left (fun h => h.1 rfl)
    have B4 : Below W3.heap.size W3 W4 := B4
    have hK5 := Blk.made W4 40 #[.int .i64 v, .int .i64 g, .int .i64 u, .slice a4 cn c4]
    have BX := (Below.refl W4.heap.size W4).alloc (Nat.le_refl _) (.cells #[.int .i64 v, .int .i64 g, .int .i64 u, .slice a4 cn c4] 40)
    have hp5 := (hp4.below BX).more BX.size
    have B5 := B4.alloc B4.size (.cells #[.int .i64 v, .int .i64 g, .int .i64 u, .slice a4 cn c4] 40)
    have hgx4 := B4.size
    clear hv4 hp4 B4 BX B3
    go_upto_region 7 with fail
    generalize W4.alloc (.cells #[.int .i64 v, .int .i64 g, .int .i64 u, .slice a4 cn c4] 40) = W5 at *
    generalize W4.heap.size = gy at *
    obtain ⟨⟨c0, c1, c2', c3⟩, hp3⟩ := HK3.out _ B5
    obtain ⟨d0, d1, d2, d3⟩ := hK5.four
    have SM := csame_any v g u v g u a2 a4 cn c2 cn c4 ps ps W5 hp3 hp5 (by omega)
    rw [decide_eq_true (by exact ⟨rfl, rfl, rfl, rfl⟩)] at SM
    have SM := Lib.hid SM
    have BE := HB3.out _ B5
    clear hp3 hp5 hK5 B5 hpl
    go_wp2_with fail
    refine (code_c 0 _ (by decide)).mono ?_
    rintro e w5 ⟨rfl, rfl⟩
    go_wp2_with fail
    refine SM.out.mono ?_
    rintro e W6 ⟨rfl, B6⟩
    have BE := Lib.hid (BE.trans (B6.mono BE.size))
    clear SM B6 c0 c1 c2' c3 d0 d1 d2 d3
    go_wp2_with fail
    go_ret
    exact ⟨rfl, BE.out⟩
  · obtain ⟨-, rfl⟩ := hv2.resolve_right (fun h => h0 h.1)
    have hR := fun (W : World) (B : Below w.heap.size w W) => R.out W B
    unfold RcGot at hR
    have hk := (ckGet_vals l).resolve_left h0
    generalize ckGet l = k at *
    have HR := Lib.hid hR
    have B3 := B2'.alloc B2'.size (.cells #[.int .i64 0, .int .i64 0, .int .i64 0, .slice none 0 0] 46)
    have hK3 := Blk.made W2 46 #[.int .i64 0, .int .i64 0, .int .i64 0, .slice none 0 0]
    clear hv2 hR G R HCN B1 B2 B2'
    go_upto_region 6 with fail
    generalize W2.alloc (.cells #[.int .i64 0, .int .i64 0, .int .i64 0, .slice none 0 0] 46) = W3 at *
    generalize W2.heap.size = gx at *
    go_wp2_with fail
    refine (HR.out W3 B3).mono ?_
    rintro e W4 ⟨B4, v4, rfl, hv4⟩
    obtain ⟨-, rfl⟩ := hv4.resolve_right (fun h => h0 h.1)
    have hK4 := hK3.below B4 hK3.lt
    have B4' := B3.trans (B4.mono B3.size)
    have hK5 := Blk.made W4 40 #[.int .i64 0, .int .i64 0, .int .i64 0, .slice none 0 0]
    have hK6 := hK4.alloc (.cells #[.int .i64 0, .int .i64 0, .int .i64 0, .slice none 0 0] 40)
    have B5 := B4'.alloc B4'.size (.cells #[.int .i64 0, .int .i64 0, .int .i64 0, .slice none 0 0] 40)
    clear hv4 B4 B4' hK3 B3 hK4
    go_upto_region 7 with fail
    generalize W4.alloc (.cells #[.int .i64 0, .int .i64 0, .int .i64 0, .slice none 0 0] 40) = W5 at *
    generalize W4.heap.size = gy at *
    obtain ⟨c0, c1, c2', c3⟩ := hK6.four
    obtain ⟨d0, d1, d2, d3⟩ := hK5.four
    have SM := csame_any 0 0 0 0 0 0 none none 0 0 0 0 [] [] W5 (psl_nil _ _) (psl_nil _ _) (by decide)
    rw [decide_eq_true (by exact ⟨rfl, rfl, rfl, rfl⟩)] at SM
    have SM := Lib.hid SM
    have HB5 := Lib.hid B5
    clear hK5 hK6 B5 h0
    have HK := Lib.hid (show k ≤ 17 by omega)
    clear hk
    all_goals
      go_wp2_with fail
      refine (code_c k _ HK.out).mono ?_
      rintro e w5 ⟨rfl, rfl⟩
      go_wp2_with fail
      refine SM.out.mono ?_
      rintro e W6 ⟨rfl, B6⟩
      have BE := Lib.hid (HB5.out.trans (B6.mono HB5.out.size))
      go_wp2_with fail
      go_ret
      exact ⟨rfl, BE.out⟩

end Go.Proofs.Ytkmifimdjdjdpaa
