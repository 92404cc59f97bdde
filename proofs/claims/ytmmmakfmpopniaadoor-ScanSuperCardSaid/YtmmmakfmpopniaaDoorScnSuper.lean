/-
  scan.Super.
-/
import Derived.Test.YtmmmakfmpopniaaDoorHdRefRead
import Derived.Test.YtmmmakfmpopniaaDoorScanAllWalk
namespace Go.Proofs.YtmmmakfmpopniaaDoor
open Go.RowKit
set_option linter.unusedVariables false

theorem ss_results {W : World} {B : Nat} {v0 v1 : Value} {a : Act} {e : Value} (h : Blk W B 51 #[v0, v1]) (h2 : a.tmps[4]?.getD undef = .pointer (some ⟨B, 0, none⟩)) (h3 : a.tmps[5]?.getD undef = e) :
    (results Tryd.f15 a.tmps).run Tryd.prog W = .ok (.tuple #[.agg #[v0, v1], e]) W := by
  obtain ⟨⟨k0, k1⟩, -, -⟩ := h.two
  simp [results, Tryd.results15, go_sem, h2, h3, k0, k1]
/-- What scan.Super hands back. -/
def SsP (nm : ByteArray) (L : List (BitVec 8)) (w : World) (e : Ending) (w' : World) : Prop :=
  Below w.heap.size w w' ∧ ∃ (v g cf : Nat) (ev : Value), hdSuper L = (v, g, cf) ∧ e = .returned (.tuple #[.agg #[.int .i64 (v : Int), .int .i64 (g : Int)], ev]) ∧ AtE w' nm 0 cf ev
theorem hdSuper_zero {L : List (BitVec 8)} {v g cf : Nat} (h : hdSuper L = (v, g, cf)) (h0 : cf ≠ 0) : v = 0 ∧ g = 0 := by
  unfold hdSuper at h
  split at h
  · simp only [Prod.mk.injEq] at h; omega
  · split at h
    · simp only [Prod.mk.injEq] at h; omega
    · simp only [Prod.mk.injEq] at h; omega
set_option maxRecDepth 100000 in
set_option maxHeartbeats 4000000 in
theorem ssuper_any (nm : ByteArray) (a : Option Addr) (n c : Nat) (l : List (BitVec 8)) (w : World) (h : BSl w w.heap.size a n l) (hc : n ≤ c) (hn : n ≤ 1099511627776) :
    Calls Tryd.prog 15 #[.string nm, .slice a n c] w (SsP nm l w) := by
  have B0 := (Below.refl w.heap.size w).alloc (Nat.le_refl _) (.cells #[.int .i64 0, .int .i64 0] 51)
  have HK := Lib.hid (Blk.made w 51 #[.int .i64 0, .int .i64 0])
  have E := Lib.hid (gsuper_any a n c l _ ((h.below B0).more B0.size) hc hn)
  have HB0 := Lib.hid B0
  clear h hc hn B0
  go_enter Tryd.func15, Tryd.ntmps15
  go_wp2_with fail
  refine E.out.mono ?_
  rintro e W1 ⟨B1, v, g, cf, hs, rfl⟩
  have HS := Lib.hid hs
  have HB1 := Lib.hid (HB0.out.trans (B1.mono HB0.out.size))
  have hK1 := HK.out.below B1 HK.out.lt
  obtain ⟨W2, hW2⟩ : ∃ W2, W1.alloc (.cells #[.int .i64 (v : Int), .int .i64 (g : Int)] 51) = W2 := ⟨_, rfl⟩
  have hK2 : Blk W2 w.heap.size 51 #[.int .i64 0, .int .i64 0] := by rw [← hW2]; exact hK1.alloc _
  have hP2 : Blk W2 W1.heap.size 51 #[.int .i64 (v : Int), .int .i64 (g : Int)] := by rw [← hW2]; exact Blk.made _ _ _
  have HB2 := Lib.hid (show Below w.heap.size w W2 from by rw [← hW2]; exact HB1.out.alloc HB1.out.size _)
  have HK2 := Lib.hid hK2
  have hz := HB1.out.size
  clear hs B1 E HB0 HK hK1
  by_cases h0 : cf = 0
  · subst h0
    rw [show errc 0 = Value.nilIface from rfl]
    obtain ⟨⟨q0, q1⟩, r0, r1⟩ := hK2.two
    obtain ⟨⟨p0, p1⟩, -, -⟩ := hP2.two
    clear hK2 hP2
    go_upto_region 2 with fail
    clear hW2
    go_wp2_with fail
    exact bodyPost_ret (ss_results (HK2.out.put2 _ _) rfl rfl) rfl ⟨below_put2 HB2.out (Nat.le_refl _) _ _, v, g, 0, .nilIface, HS.out, rfl, .inl ⟨rfl, rfl⟩⟩
  · have he : errc cf = er cf := by unfold errc; rw [if_neg h0]
    rw [he]
    have H0 := Lib.hid h0
    have HV := Lib.hid (hdSuper_zero HS.out h0)
    clear h0 he hP2 hK2
    go_upto_region 2 with fail
    clear hW2
    obtain ⟨W3, hW3⟩ : ∃ W3, W2.alloc (.cells #[.string nm, .int .i64 0, er cf] 61) = W3 := ⟨_, rfl⟩
    have hK3 : Blk W3 w.heap.size 51 #[.int .i64 0, .int .i64 0] := by rw [← hW3]; exact HK2.out.alloc _
    have hA3 : Blk W3 W2.heap.size 61 #[.string nm, .int .i64 0, er cf] := by rw [← hW3]; exact Blk.made _ _ _
    have HB3 := Lib.hid (show Below w.heap.size w W3 from by rw [← hW3]; exact HB2.out.alloc HB2.out.size _)
    have HK3 := Lib.hid hK3
    have HA3 := Lib.hid hA3
    have hz2 := Lib.hid (HK2.out.lt)
    obtain ⟨⟨q0, q1⟩, r0, r1⟩ := hK3.two
    clear hK3 hA3
    go_wp2_with fail
    have hA4 := (HA3.out.far (p := ⟨w.heap.size, 0, none⟩) (by have := hz2.out; show W2.heap.size ≠ w.heap.size; omega) (.int .i64 0)).far (p := ⟨w.heap.size, 1, none⟩) (by have := hz2.out; show W2.heap.size ≠ w.heap.size; omega) (.int .i64 0)
    exact bodyPost_ret (ss_results (HK3.out.put2 _ _) rfl rfl) rfl ⟨below_put2 HB3.out (Nat.le_refl _) _ _, 0, 0, cf, _, by rw [HS.out, HV.out.1, HV.out.2], rfl, .inr ⟨H0.out, _, rfl, hA4⟩⟩
end Go.Proofs.YtmmmakfmpopniaaDoor
