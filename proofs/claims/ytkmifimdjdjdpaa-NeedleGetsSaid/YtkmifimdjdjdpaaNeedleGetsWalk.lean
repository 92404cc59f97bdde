/-
  The walk of corncriblaw03.NeedleGets.
-/
import Derived.Test.YtkmifimdjdjdpaaNdlRefGet
namespace Go.Proofs.Ytkmifimdjdjdpaa
open Go.RowKit

theorem RefGot.is {L : List (BitVec 8)} {w w' : World} {e : Ending} (h : RefGot L w e w') {key ck : Nat} {g : Bool} {lx : List (BitVec 8)} {all cf : Nat} (hg : ndGet L = (key, ck, g, lx, all, cf)) :
    Below w.heap.size w w' ∧ ∃ av cv, e = .returned (.tuple #[.agg #[.int .u64 (key : Nat), .int .u32 (ck : Nat), .bool g, .slice av lx.length cv], .int .i64 (all : Nat), .int .i64 (cf : Nat)]) ∧ lx.length ≤ cv ∧ BSl w' w'.heap.size av lx.length lx := by
  obtain ⟨B, key', ck', g', lx', all', cf', he, av, cv, rfl, h1, h2⟩ := h
  rw [hg] at he
  simp only [Prod.mk.injEq] at he
  obtain ⟨rfl, rfl, rfl, rfl, rfl, rfl⟩ := he
  exact ⟨B, av, cv, rfl, h1, h2⟩

theorem ndGet_code (L : List (BitVec 8)) {key ck : Nat} {g : Bool} {lx : List (BitVec 8)} {all cf : Nat} (hg : ndGet L = (key, ck, g, lx, all, cf)) : cf ≤ 17 ∧ lx.length ≤ L.length := by
  unfold ndGet ndBad at hg
  repeat' split at hg
  all_goals
    simp only [Prod.mk.injEq] at hg
    obtain ⟨-, -, -, rfl, -, rfl⟩ := hg
    refine ⟨by omega, ?_⟩
    first
      | (simp only [List.length_nil]; omega)
      | (rw [List.length_take, List.length_drop]; omega)

set_option maxRecDepth 100000 in
set_option maxHeartbeats 2000000 in
theorem ngets_walk (a : Option Addr) (n c : Nat) (l : List (BitVec 8)) (w : World) (h : BSl w w.heap.size a n l) (hc : n ≤ c) :
    Calls Try.prog 3 #[.slice a n c] w fun e w' => e = .returned (.bool true) ∧ Below w.heap.size w w' := by
  by_cases hbig : 6000 < n
  · go_enter Try.func3, Try.ntmps3
    go_wp2_with fail
    refine (needle_alive _).mono ?_
    rintro e w1 ⟨rfl, B1⟩
    go_wp2_with fail
    go_ret
    exact ⟨rfl, B1⟩
  have hn : n ≤ 6000 := by omega
  clear hbig
  obtain ⟨⟨key, ck, g, lx, all, cf⟩, hg⟩ : ∃ r, ndGet l = r := ⟨_, rfl⟩
  obtain ⟨hcf, hlx⟩ := ndGet_code l hg
  rw [h.1] at hlx
  have HG := Lib.hid hg
  clear hg
  go_enter Try.func3, Try.ntmps3
  go_wp2_with fail
  refine (needle_alive _).mono ?_
  rintro e W1 ⟨rfl, B1⟩
  go_wp2_with fail
  refine (nget_any a n c l W1 ((h.below B1).more B1.size) hc (by omega)).mono ?_
  intro e W2 hgot
  obtain ⟨B2, av, cv, rfl, hcv, ho2⟩ := hgot.is HG.out
  have B2 := B1.trans (B2.mono B1.size)
  clear hgot B1
  have hK2 := Lib.hid (Blk.made W2 27 #[.int .u64 key, .int .u32 ck, .bool g, .slice av lx.length cv])
  have B3 := B2.alloc B2.size (.cells #[.int .u64 key, .int .u32 ck, .bool g, .slice av lx.length cv] 27)
  have HO3 := Lib.hid (ho2.alloc (.cells #[.int .u64 key, .int .u32 ck, .bool g, .slice av lx.length cv] 27))
  have HB3 := Lib.hid B3
  clear ho2 B2 B3
  go_wp2_with fail
  refine (rget_any a n c l _ ((h.below HB3.out).more HB3.out.size) hc (by omega)).mono ?_
  intro e W4 hgot
  obtain ⟨B4, av4, cv4, rfl, hcv4, hb4⟩ := hgot.is HG.out
  have hK4 := Lib.hid (hK2.out.below B4 hK2.out.lt)
  have HO4 := Lib.hid (own_below HO3.out B4 (Nat.le_refl _))
  have B4 := Lib.hid (HB3.out.trans (B4.mono HB3.out.size))
  have HB4 := Lib.hid hb4
  clear hgot HB3 HO3 hK2 hb4
  have B5 := B4.out.alloc B4.out.size (.cells #[.int .u64 key, .int .u32 ck, .bool g, .slice av4 lx.length cv4] 32)
  obtain ⟨p0, p1, p2, p3⟩ := (hK4.out.alloc (.cells #[.int .u64 key, .int .u32 ck, .bool g, .slice av4 lx.length cv4] 32)).four
  obtain ⟨q0, q1, q2, q3⟩ := (Blk.made W4 32 #[.int .u64 key, .int .u32 ck, .bool g, .slice av4 lx.length cv4]).four
  have BAL : Below W4.heap.size W4 (W4.alloc (.cells #[.int .u64 key, .int .u32 ck, .bool g, .slice av4 lx.length cv4] 32)) := (Below.refl _ W4).alloc (Nat.le_refl _) _
  have SM := Lib.hid (ref3_same key ck g av lx.length cv lx key ck g av4 lx.length cv4 lx (W4.alloc (.cells #[.int .u64 key, .int .u32 ck, .bool g, .slice av4 lx.length cv4] 32)) (bsl_own (HO4.out.alloc (.cells #[.int .u64 key, .int .u32 ck, .bool g, .slice av4 lx.length cv4] 32))) ((HB4.out.below BAL).more BAL.size) (by omega))
  rw [show ndSame key ck g lx key ck g lx = true from by unfold ndSame; simp] at SM
  have HB5 := Lib.hid B5
  clear B5 BAL
  go_wp2_with fail
  refine (code_c cf _ hcf).mono ?_
  rintro e w6 ⟨rfl, rfl⟩
  go_wp2_with fail
  refine SM.out.mono ?_
  rintro e W7 ⟨rfl, B7⟩
  go_wp2_with fail
  go_ret
  exact ⟨rfl, HB5.out.trans (B7.mono HB5.out.size)⟩

end Go.Proofs.Ytkmifimdjdjdpaa
