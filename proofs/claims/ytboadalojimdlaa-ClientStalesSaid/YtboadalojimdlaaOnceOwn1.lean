/-
  A whole message written into a block; once.own.
-/
import Derived.Test.YtboadalojimdlaaMsg
import Derived.Test.YtboadalojimdlaaNdlGet
namespace Go.Proofs.Ytboadalojimdlaa
open Go.RowKit

theorem Blk.twelve_frozen {w : World} {B : Nat} {T : TypeId} {cs : Array Value} (h : Blk w B T cs) :
    w.frozen? ⟨B, 0, none⟩ = false ∧ w.frozen? ⟨B, 1, none⟩ = false ∧ w.frozen? ⟨B, 2, none⟩ = false ∧ w.frozen? ⟨B, 3, none⟩ = false ∧ w.frozen? ⟨B, 4, none⟩ = false ∧ w.frozen? ⟨B, 5, none⟩ = false ∧ w.frozen? ⟨B, 6, none⟩ = false ∧ w.frozen? ⟨B, 7, none⟩ = false ∧ w.frozen? ⟨B, 8, none⟩ = false ∧ w.frozen? ⟨B, 9, none⟩ = false ∧ w.frozen? ⟨B, 10, none⟩ = false ∧ w.frozen? ⟨B, 11, none⟩ = false :=
  ⟨h.frozen 0, h.frozen 1, h.frozen 2, h.frozen 3, h.frozen 4, h.frozen 5, h.frozen 6, h.frozen 7, h.frozen 8, h.frozen 9, h.frozen 10, h.frozen 11⟩
theorem Blk.put12 {w : World} {B : Nat} {T : TypeId} {v0 v1 v2 v3 v4 v5 v6 v7 v8 v9 v10 v11 : Value} (h : Blk w B T #[v0, v1, v2, v3, v4, v5, v6, v7, v8, v9, v10, v11]) (u0 u1 u2 u3 u4 u5 u6 u7 u8 u9 u10 u11 : Value) :
    Blk ((((((((((((w.setCell ⟨B, 0, none⟩ u0).setCell ⟨B, 1, none⟩ u1).setCell ⟨B, 2, none⟩ u2).setCell ⟨B, 3, none⟩ u3).setCell ⟨B, 4, none⟩ u4).setCell ⟨B, 5, none⟩ u5).setCell ⟨B, 6, none⟩ u6).setCell ⟨B, 7, none⟩ u7).setCell ⟨B, 8, none⟩ u8).setCell ⟨B, 9, none⟩ u9).setCell ⟨B, 10, none⟩ u10).setCell ⟨B, 11, none⟩ u11) B T #[u0, u1, u2, u3, u4, u5, u6, u7, u8, u9, u10, u11] :=
  by
  have h1 : Blk (w.setCell ⟨B, 0, none⟩ u0) B T #[u0, v1, v2, v3, v4, v5, v6, v7, v8, v9, v10, v11] := h.put 0 u0
  have h2 : Blk ((w.setCell ⟨B, 0, none⟩ u0).setCell ⟨B, 1, none⟩ u1) B T #[u0, u1, v2, v3, v4, v5, v6, v7, v8, v9, v10, v11] := h1.put 1 u1
  have h3 : Blk (((w.setCell ⟨B, 0, none⟩ u0).setCell ⟨B, 1, none⟩ u1).setCell ⟨B, 2, none⟩ u2) B T #[u0, u1, u2, v3, v4, v5, v6, v7, v8, v9, v10, v11] := h2.put 2 u2
  have h4 : Blk ((((w.setCell ⟨B, 0, none⟩ u0).setCell ⟨B, 1, none⟩ u1).setCell ⟨B, 2, none⟩ u2).setCell ⟨B, 3, none⟩ u3) B T #[u0, u1, u2, u3, v4, v5, v6, v7, v8, v9, v10, v11] := h3.put 3 u3
  have h5 : Blk (((((w.setCell ⟨B, 0, none⟩ u0).setCell ⟨B, 1, none⟩ u1).setCell ⟨B, 2, none⟩ u2).setCell ⟨B, 3, none⟩ u3).setCell ⟨B, 4, none⟩ u4) B T #[u0, u1, u2, u3, u4, v5, v6, v7, v8, v9, v10, v11] := h4.put 4 u4
  have h6 : Blk ((((((w.setCell ⟨B, 0, none⟩ u0).setCell ⟨B, 1, none⟩ u1).setCell ⟨B, 2, none⟩ u2).setCell ⟨B, 3, none⟩ u3).setCell ⟨B, 4, none⟩ u4).setCell ⟨B, 5, none⟩ u5) B T #[u0, u1, u2, u3, u4, u5, v6, v7, v8, v9, v10, v11] := h5.put 5 u5
  have h7 : Blk (((((((w.setCell ⟨B, 0, none⟩ u0).setCell ⟨B, 1, none⟩ u1).setCell ⟨B, 2, none⟩ u2).setCell ⟨B, 3, none⟩ u3).setCell ⟨B, 4, none⟩ u4).setCell ⟨B, 5, none⟩ u5).setCell ⟨B, 6, none⟩ u6) B T #[u0, u1, u2, u3, u4, u5, u6, v7, v8, v9, v10, v11] := h6.put 6 u6
  have h8 : Blk ((((((((w.setCell ⟨B, 0, none⟩ u0).setCell ⟨B, 1, none⟩ u1).setCell ⟨B, 2, none⟩ u2).setCell ⟨B, 3, none⟩ u3).setCell ⟨B, 4, none⟩ u4).setCell ⟨B, 5, none⟩ u5).setCell ⟨B, 6, none⟩ u6).setCell ⟨B, 7, none⟩ u7) B T #[u0, u1, u2, u3, u4, u5, u6, u7, v8, v9, v10, v11] := h7.put 7 u7
  have h9 : Blk (((((((((w.setCell ⟨B, 0, none⟩ u0).setCell ⟨B, 1, none⟩ u1).setCell ⟨B, 2, none⟩ u2).setCell ⟨B, 3, none⟩ u3).setCell ⟨B, 4, none⟩ u4).setCell ⟨B, 5, none⟩ u5).setCell ⟨B, 6, none⟩ u6).setCell ⟨B, 7, none⟩ u7).setCell ⟨B, 8, none⟩ u8) B T #[u0, u1, u2, u3, u4, u5, u6, u7, u8, v9, v10, v11] := h8.put 8 u8
  have h10 : Blk ((((((((((w.setCell ⟨B, 0, none⟩ u0).setCell ⟨B, 1, none⟩ u1).setCell ⟨B, 2, none⟩ u2).setCell ⟨B, 3, none⟩ u3).setCell ⟨B, 4, none⟩ u4).setCell ⟨B, 5, none⟩ u5).setCell ⟨B, 6, none⟩ u6).setCell ⟨B, 7, none⟩ u7).setCell ⟨B, 8, none⟩ u8).setCell ⟨B, 9, none⟩ u9) B T #[u0, u1, u2, u3, u4, u5, u6, u7, u8, u9, v10, v11] := h9.put 9 u9
  have h11 : Blk (((((((((((w.setCell ⟨B, 0, none⟩ u0).setCell ⟨B, 1, none⟩ u1).setCell ⟨B, 2, none⟩ u2).setCell ⟨B, 3, none⟩ u3).setCell ⟨B, 4, none⟩ u4).setCell ⟨B, 5, none⟩ u5).setCell ⟨B, 6, none⟩ u6).setCell ⟨B, 7, none⟩ u7).setCell ⟨B, 8, none⟩ u8).setCell ⟨B, 9, none⟩ u9).setCell ⟨B, 10, none⟩ u10) B T #[u0, u1, u2, u3, u4, u5, u6, u7, u8, u9, u10, v11] := h10.put 10 u10
  have h12 : Blk ((((((((((((w.setCell ⟨B, 0, none⟩ u0).setCell ⟨B, 1, none⟩ u1).setCell ⟨B, 2, none⟩ u2).setCell ⟨B, 3, none⟩ u3).setCell ⟨B, 4, none⟩ u4).setCell ⟨B, 5, none⟩ u5).setCell ⟨B, 6, none⟩ u6).setCell ⟨B, 7, none⟩ u7).setCell ⟨B, 8, none⟩ u8).setCell ⟨B, 9, none⟩ u9).setCell ⟨B, 10, none⟩ u10).setCell ⟨B, 11, none⟩ u11) B T #[u0, u1, u2, u3, u4, u5, u6, u7, u8, u9, u10, u11] := h11.put 11 u11
  exact h12
theorem below_put12 {w : World} {X : World} {B0 B : Nat} (h : Below B0 X w) (hB : B0 ≤ B) (u0 u1 u2 u3 u4 u5 u6 u7 u8 u9 u10 u11 : Value) :
    Below B0 X ((((((((((((w.setCell ⟨B, 0, none⟩ u0).setCell ⟨B, 1, none⟩ u1).setCell ⟨B, 2, none⟩ u2).setCell ⟨B, 3, none⟩ u3).setCell ⟨B, 4, none⟩ u4).setCell ⟨B, 5, none⟩ u5).setCell ⟨B, 6, none⟩ u6).setCell ⟨B, 7, none⟩ u7).setCell ⟨B, 8, none⟩ u8).setCell ⟨B, 9, none⟩ u9).setCell ⟨B, 10, none⟩ u10).setCell ⟨B, 11, none⟩ u11) :=
  (((((((((((h.setCell (p := ⟨B, 0, none⟩) hB u0).setCell (p := ⟨B, 1, none⟩) hB u1).setCell (p := ⟨B, 2, none⟩) hB u2).setCell (p := ⟨B, 3, none⟩) hB u3).setCell (p := ⟨B, 4, none⟩) hB u4).setCell (p := ⟨B, 5, none⟩) hB u5).setCell (p := ⟨B, 6, none⟩) hB u6).setCell (p := ⟨B, 7, none⟩) hB u7).setCell (p := ⟨B, 8, none⟩) hB u8).setCell (p := ⟨B, 9, none⟩) hB u9).setCell (p := ⟨B, 10, none⟩) hB u10).setCell (p := ⟨B, 11, none⟩) hB u11
theorem grown_put12 {w : World} {X : World} {B : Nat} (h : X.grownBy w (some B)) (u0 u1 u2 u3 u4 u5 u6 u7 u8 u9 u10 u11 : Value) :
    X.grownBy ((((((((((((w.setCell ⟨B, 0, none⟩ u0).setCell ⟨B, 1, none⟩ u1).setCell ⟨B, 2, none⟩ u2).setCell ⟨B, 3, none⟩ u3).setCell ⟨B, 4, none⟩ u4).setCell ⟨B, 5, none⟩ u5).setCell ⟨B, 6, none⟩ u6).setCell ⟨B, 7, none⟩ u7).setCell ⟨B, 8, none⟩ u8).setCell ⟨B, 9, none⟩ u9).setCell ⟨B, 10, none⟩ u10).setCell ⟨B, 11, none⟩ u11) (some B) :=
  grown_put (grown_put (grown_put (grown_put (grown_put (grown_put (grown_put (grown_put (grown_put (grown_put (grown_put (grown_put h 0 u0) 1 u1) 2 u2) 3 u3) 4 u4) 5 u5) 6 u6) 7 u7) 8 u8) 9 u9) 10 u10) 11 u11
/-- Its cells, written. -/
def putMsg (w : World) (B : Nat) (m : MsgR) : World := ((((((((((((w.setCell ⟨B, 0, none⟩ (.int .i64 m.fr)).setCell ⟨B, 1, none⟩ (.int .i64 m.tt)).setCell ⟨B, 2, none⟩ (.int .i64 m.kd)).setCell ⟨B, 3, none⟩ (.int .i64 m.vol)).setCell ⟨B, 4, none⟩ (.int .i64 m.life)).setCell ⟨B, 5, none⟩ (.int .u64 m.id)).setCell ⟨B, 6, none⟩ (.int .i64 m.cd)).setCell ⟨B, 7, none⟩ (.bool m.has)).setCell ⟨B, 8, none⟩ (.int .u64 m.key)).setCell ⟨B, 9, none⟩ (.int .u32 m.ck)).setCell ⟨B, 10, none⟩ (.bool m.g)).setCell ⟨B, 11, none⟩ (.slice m.a m.n m.c))
theorem Blk.putMsg {w : World} {B : Nat} {T : TypeId} {v0 v1 v2 v3 v4 v5 v6 v7 v8 v9 v10 v11 : Value} (h : Blk w B T #[v0, v1, v2, v3, v4, v5, v6, v7, v8, v9, v10, v11]) (m : MsgR) : Blk (putMsg w B m) B T m.cells.toArray := Blk.put12 h _ _ _ _ _ _ _ _ _ _ _ _
theorem below_putMsg {w : World} {X : World} {B0 B : Nat} (h : Below B0 X w) (hB : B0 ≤ B) (m : MsgR) : Below B0 X (putMsg w B m) := below_put12 h hB _ _ _ _ _ _ _ _ _ _ _ _
theorem row_base {W : World} {base base' size k : Nat} {e : TypeId} {v : Value} {xs : List Value} (h : W.ownsRow base e size v k xs) (hb : base' ≤ base) : W.ownsRow base' e size v k xs :=
  ⟨h.1, h.2.imp id fun ⟨g, cap, cur, e1, e2, e3⟩ => ⟨g, cap, cur, e1, Nat.le_trans hb e2, e3⟩⟩
theorem row_far {W W' : World} {base b size k : Nat} {e : TypeId} {v : Value} {xs : List Value} (h : W.ownsRow base e size v k xs) (hg : W.grownBy W' (some b)) (hb : b < base) : W'.ownsRow base e size v k xs :=
  h.kept hg (by
    rcases h.2 with ⟨e1, _⟩ | ⟨g, cap, cur, e1, e2, _⟩
    · left; rw [e1]; rfl
    · right; rw [e1]; intro q; injection q with q; exact absurd q (by show g ≠ b; omega))
theorem own_results {W : World} {B : Nat} {v0 v1 v2 v3 v4 v5 v6 v7 v8 v9 v10 v11 : Value} {a : Act} (h : Blk W B 53 #[v0, v1, v2, v3, v4, v5, v6, v7, v8, v9, v10, v11]) (h2 : a.tmps[2]?.getD undef = .pointer (some ⟨B, 0, none⟩)) :
    (results Try.f54 a.tmps).run Try.prog W = .ok (.agg #[v0, v1, v2, v3, v4, v5, v6, v7, v8, v9, v10, v11]) W := by
  obtain ⟨k0, k1, k2, k3, k4, k5, k6, k7, k8, k9, k10, k11⟩ := h.twelve
  simp [results, Try.results54, go_sem, h2, k0, k1, k2, k3, k4, k5, k6, k7, k8, k9, k10, k11]

set_option maxRecDepth 100000 in
set_option maxHeartbeats 1000000 in
theorem own_any (m : MsgR) (w : World) (h : BSl w w.heap.size m.a m.n m.l) (hc : m.n ≤ m.c) (hn : m.n ≤ 1099511627776) :
    Calls Try.prog 54 #[m.vals] w fun e w' => ∃ av cv, e = .returned ({ m with a := av, c := cv } : MsgR).vals ∧ m.n ≤ cv ∧ w'.ownsRow w.heap.size 5 1 (.slice av m.n cv) m.n (m.l.map bv) ∧ Below w.heap.size w w' := by
  obtain ⟨fr, tt, kd, vol, life, id, cd, has, key, ck, g, a, n, c, l⟩ := m
  unfold MsgR.vals
  dsimp only at *
  have BA := ((Below.refl w.heap.size w).alloc (Nat.le_refl _) (.cells #[.int .i64 fr, .int .i64 tt, .int .i64 kd, .int .i64 vol, .int .i64 life, .int .u64 id, .int .i64 cd, .bool has, .int .u64 key, .int .u32 ck, .bool g, .slice a n c] 53)).alloc (by simp) (.cells #[.int .i64 0, .int .i64 0, .int .i64 0, .int .i64 0, .int .i64 0, .int .u64 0, .int .i64 0, .bool false, .int .u64 0, .int .u32 0, .bool false, .slice none 0 0] 53)
  obtain ⟨hK, hK'⟩ := made_two w 53 53 #[.int .i64 fr, .int .i64 tt, .int .i64 kd, .int .i64 vol, .int .i64 life, .int .u64 id, .int .i64 cd, .bool has, .int .u64 key, .int .u32 ck, .bool g, .slice a n c] #[.int .i64 0, .int .i64 0, .int .i64 0, .int .i64 0, .int .i64 0, .int .u64 0, .int .i64 0, .bool false, .int .u64 0, .int .u32 0, .bool false, .slice none 0 0]
  have E := Lib.hid (bclone_any a n c l _ ((h.below BA).more BA.size) hc hn)
  have HK := Lib.hid hK
  have HK' := Lib.hid hK'
  have HB := Lib.hid BA
  clear hK hK' BA h
  go_enter Try.func54, Try.ntmps54
  go_wp2_with fail
  refine E.out.mono ?_
  rintro e w1 ⟨av, cv, rfl, hcv, ho, B1⟩
  have hk := HK.out.below B1 HK.out.lt
  have hk' := HK'.out.below B1 HK'.out.lt
  have HB1 := Lib.hid (HB.out.trans (B1.mono HB.out.size))
  have HO := Lib.hid ho
  have hlt : w.heap.size < ((w.alloc (.cells #[.int .i64 fr, .int .i64 tt, .int .i64 kd, .int .i64 vol, .int .i64 life, .int .u64 id, .int .i64 cd, .bool has, .int .u64 key, .int .u32 ck, .bool g, .slice a n c] 53)).alloc (.cells #[.int .i64 0, .int .i64 0, .int .i64 0, .int .i64 0, .int .i64 0, .int .u64 0, .int .i64 0, .bool false, .int .u64 0, .int .u32 0, .bool false, .slice none 0 0] 53)).heap.size := by simp; omega
  have HK1 := Lib.hid hk
  have HK1' := Lib.hid hk'
  have f11 := hk.frozen 11
  have c11 : w1.cell? ⟨w.heap.size, 11, none⟩ = some (.slice a n c) := hk.cell 11
  clear hk hk' ho B1 E HK HK' HB
  go_upto_region 2 with fail
  have hW : ∃ W, w1.setCell ⟨w.heap.size, 11, none⟩ (.slice av n cv) = W := ⟨_, rfl⟩
  obtain ⟨W, hW⟩ := hW
  have hw1 : Blk W w.heap.size 53 #[.int .i64 fr, .int .i64 tt, .int .i64 kd, .int .i64 vol, .int .i64 life, .int .u64 id, .int .i64 cd, .bool has, .int .u64 key, .int .u32 ck, .bool g, .slice av n cv] := by rw [← hW]; exact HK1.out.put 11 _
  have hw2 : Blk W (w.heap.size + 1) 53 #[.int .i64 0, .int .i64 0, .int .i64 0, .int .i64 0, .int .i64 0, .int .u64 0, .int .i64 0, .bool false, .int .u64 0, .int .u32 0, .bool false, .slice none 0 0] := by rw [← hW]; exact HK1'.out.far (by simp) _
  have hw3 : Below w.heap.size w W := by rw [← hW]; exact HB1.out.setCell (p := ⟨w.heap.size, 11, none⟩) (Nat.le_refl _) _
  have hw4 : W.ownsRow (w.heap.size + 1 + 1) 5 1 (.slice av n cv) n (l.map bv) := by rw [← hW]; exact row_base (row_far HO.out (grown_put (grown_refl _ _) 11 _) hlt) (by simp)
  clear HO HB1 hlt HK1 HK1'
  rw [hW]
  obtain ⟨k0, k1, k2, k3, k4, k5, k6, k7, k8, k9, k10, k11⟩ := hw1.twelve
  obtain ⟨f0, f1, f2, f3, f4, f5, f6, f7, f8, f9, f10, f11'⟩ := hw2.twelve_frozen
  obtain ⟨g0, g1, g2, g3, g4, g5, g6, g7, g8, g9, g10, g11⟩ := hw2.twelve
  have HW2 := Lib.hid hw2
  have HW3 := Lib.hid hw3
  have HW4 := Lib.hid hw4
  clear hw1 hw2 hw3 hw4 hW f11 c11
  go_wp2_with fail
  have hz := HW2.out.put12 (.int .i64 fr) (.int .i64 tt) (.int .i64 kd) (.int .i64 vol) (.int .i64 life) (.int .u64 id) (.int .i64 cd) (.bool has) (.int .u64 key) (.int .u32 ck) (.bool g) (.slice av n cv)
  refine bodyPost_ret (v := .agg #[.int .i64 fr, .int .i64 tt, .int .i64 kd, .int .i64 vol, .int .i64 life, .int .u64 id, .int .i64 cd, .bool has, .int .u64 key, .int .u32 ck, .bool g, .slice av n cv]) (own_results hz rfl) rfl ⟨av, cv, rfl, hcv, ?_, below_put12 HW3.out (by simp) _ _ _ _ _ _ _ _ _ _ _ _⟩
  exact row_base (row_far HW4.out (grown_put12 (grown_refl _ _) _ _ _ _ _ _ _ _ _ _ _ _) (by omega)) (by omega)


end Go.Proofs.Ytboadalojimdlaa
