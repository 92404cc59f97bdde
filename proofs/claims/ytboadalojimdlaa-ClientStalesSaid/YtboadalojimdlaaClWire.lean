/-
  The law's Of; wire.Reply.
-/
import Derived.Test.YtboadalojimdlaaClNew
namespace Go.Proofs.Ytboadalojimdlaa
open Go.RowKit

set_option maxRecDepth 100000 in
theorem ofop_any (o : OpR) (w : World) : Calls Try.prog 39 #[o.vals] w fun e w' => e = .returned o.vals ∧ Below w.heap.size w w' := by
  unfold OpR.vals
  have HB := Lib.hid (((Below.refl w.heap.size w).alloc (Nat.le_refl _) (.cells #[.int .i64 o.kd, .int .i64 o.fr, .int .i64 o.vol, .int .i64 o.a0, .int .i64 o.a1, .int .i64 o.a2, .int .u64 o.id, .int .i64 o.l0, .int .i64 o.l1, .int .i64 o.l2, .int .u64 o.key, .int .u32 o.ck, .bool o.g, .slice o.a o.n o.c] 75)).alloc (by simp) (.cells #[.int .i64 o.kd, .int .i64 o.fr, .int .i64 o.vol, .int .i64 o.a0, .int .i64 o.a1, .int .i64 o.a2, .int .u64 o.id, .int .i64 o.l0, .int .i64 o.l1, .int .i64 o.l2, .int .u64 o.key, .int .u32 o.ck, .bool o.g, .slice o.a o.n o.c] 82))
  obtain ⟨hK, hK'⟩ := made_two w 75 82 #[.int .i64 o.kd, .int .i64 o.fr, .int .i64 o.vol, .int .i64 o.a0, .int .i64 o.a1, .int .i64 o.a2, .int .u64 o.id, .int .i64 o.l0, .int .i64 o.l1, .int .i64 o.l2, .int .u64 o.key, .int .u32 o.ck, .bool o.g, .slice o.a o.n o.c] #[.int .i64 o.kd, .int .i64 o.fr, .int .i64 o.vol, .int .i64 o.a0, .int .i64 o.a1, .int .i64 o.a2, .int .u64 o.id, .int .i64 o.l0, .int .i64 o.l1, .int .i64 o.l2, .int .u64 o.key, .int .u32 o.ck, .bool o.g, .slice o.a o.n o.c]
  obtain ⟨y0, y1, y2, y3, y4, y5, y6, y7, y8, y9, y10, y11, y12, y13⟩ := op_cells (o := o) hK'
  clear hK hK'
  go_enter Try.func39, Try.ntmps39
  go_wp2_with fail
  exact bodyPost_ret (v := .agg #[.int .i64 o.kd, .int .i64 o.fr, .int .i64 o.vol, .int .i64 o.a0, .int .i64 o.a1, .int .i64 o.a2, .int .u64 o.id, .int .i64 o.l0, .int .i64 o.l1, .int .i64 o.l2, .int .u64 o.key, .int .u32 o.ck, .bool o.g, .slice o.a o.n o.c]) (by simp [results, Try.results39, go_sem, y0, y1, y2, y3, y4, y5, y6, y7, y8, y9, y10, y11, y12, y13]) rfl ⟨rfl, HB.out⟩

theorem reply_results {W : World} {B : Nat} {v0 v1 v2 v3 v4 v5 v6 v7 v8 v9 v10 v11 : Value} {a : Act} (h : Blk W B 53 #[v0, v1, v2, v3, v4, v5, v6, v7, v8, v9, v10, v11]) (h2 : a.tmps[8]?.getD undef = .pointer (some ⟨B, 0, none⟩)) :
    (results Try.f42 a.tmps).run Try.prog W = .ok (.agg #[v0, v1, v2, v3, v4, v5, v6, v7, v8, v9, v10, v11]) W := by
  obtain ⟨k0, k1, k2, k3, k4, k5, k6, k7, k8, k9, k10, k11⟩ := h.twelve
  simp [results, Try.results42, go_sem, h2, k0, k1, k2, k3, k4, k5, k6, k7, k8, k9, k10, k11]
set_option maxRecDepth 100000 in
set_option maxHeartbeats 1000000 in
theorem reply_any (m : MsgR) (c : Int) (has : Bool) (n : NdC) (w : World) : Calls Try.prog 42 #[m.vals, .int .i64 c, .bool has, n.vals] w fun e w' =>
    e = .returned (.agg #[.int .i64 m.tt, .int .i64 m.fr, .int .i64 5, .int .i64 m.vol, .int .i64 m.life, .int .u64 m.id, .int .i64 c, .bool has, .int .u64 n.key, .int .u32 n.ck, .bool n.g, .slice n.a n.n n.c]) ∧ Below w.heap.size w w' := by
  unfold MsgR.vals NdC.vals
  obtain ⟨W1, hW1⟩ : ∃ W, w.alloc (.cells #[.int .i64 m.fr, .int .i64 m.tt, .int .i64 m.kd, .int .i64 m.vol, .int .i64 m.life, .int .u64 m.id, .int .i64 m.cd, .bool m.has, .int .u64 m.key, .int .u32 m.ck, .bool m.g, .slice m.a m.n m.c] 53) = W := ⟨_, rfl⟩
  have hM : Blk W1 w.heap.size 53 #[.int .i64 m.fr, .int .i64 m.tt, .int .i64 m.kd, .int .i64 m.vol, .int .i64 m.life, .int .u64 m.id, .int .i64 m.cd, .bool m.has, .int .u64 m.key, .int .u32 m.ck, .bool m.g, .slice m.a m.n m.c] := by rw [← hW1]; exact Blk.made w _ _
  have hs1 : W1.heap.size = w.heap.size + 1 := by rw [← hW1]; simp
  have hB1 : Below w.heap.size w W1 := by rw [← hW1]; exact (Below.refl _ _).alloc (Nat.le_refl _) _
  obtain ⟨hN, hR⟩ := made_two W1 51 53 #[.int .u64 n.key, .int .u32 n.ck, .bool n.g, .slice n.a n.n n.c] #[.int .i64 0, .int .i64 0, .int .i64 0, .int .i64 0, .int .i64 0, .int .u64 0, .int .i64 0, .bool false, .int .u64 0, .int .u32 0, .bool false, .slice none 0 0]
  have hB2 := ((Below.refl W1.heap.size W1).alloc (Nat.le_refl _) (.cells #[.int .u64 n.key, .int .u32 n.ck, .bool n.g, .slice n.a n.n n.c] 51)).alloc (by simp) (.cells #[.int .i64 0, .int .i64 0, .int .i64 0, .int .i64 0, .int .i64 0, .int .u64 0, .int .i64 0, .bool false, .int .u64 0, .int .u32 0, .bool false, .slice none 0 0] 53)
  obtain ⟨W3, hW3⟩ : ∃ W, (W1.alloc (.cells #[.int .u64 n.key, .int .u32 n.ck, .bool n.g, .slice n.a n.n n.c] 51)).alloc (.cells #[.int .i64 0, .int .i64 0, .int .i64 0, .int .i64 0, .int .i64 0, .int .u64 0, .int .i64 0, .bool false, .int .u64 0, .int .u32 0, .bool false, .slice none 0 0] 53) = W := ⟨_, rfl⟩
  rw [hW3] at hN hR hB2
  have hM3 := hM.below hB2 hM.lt
  have HB3 := Lib.hid (hB1.trans (hB2.mono hB1.size))
  have HR := Lib.hid hR
  have HM3 := Lib.hid hM3
  have HN := Lib.hid hN
  have HS1 := Lib.hid hs1
  clear hM hB1 hB2 hR hM3 hN
  go_enter Try.func42, Try.ntmps42
  go_upto_region 1 with fail
  try rw [hW3]
  clear hW1 hW3 hs1
  obtain ⟨m0, m1, m2, m3, m4, m5, m6, m7, m8, m9, m10, m11⟩ := HM3.out.twelve
  have hR := HR.out
  have hN := HN.out
  rw [HS1.out] at hR hN
  obtain ⟨r0, r1, r2, r3, r4, r5, r6, r7, r8, r9, r10, r11⟩ := hR.twelve
  obtain ⟨f0, f1, f2, f3, f4, f5, f6, f7, f8, f9, f10, f11⟩ := hR.twelve_frozen
  obtain ⟨n0, n1, n2, n3⟩ := hN.four
  have HR' := Lib.hid hR
  clear hR hN
  go_wp2_with fail
  have hz := HR'.out.put12 (.int .i64 m.tt) (.int .i64 m.fr) (.int .i64 5) (.int .i64 m.vol) (.int .i64 m.life) (.int .u64 m.id) (.int .i64 c) (.bool has) (.int .u64 n.key) (.int .u32 n.ck) (.bool n.g) (.slice n.a n.n n.c)
  exact bodyPost_ret (v := .agg #[.int .i64 m.tt, .int .i64 m.fr, .int .i64 5, .int .i64 m.vol, .int .i64 m.life, .int .u64 m.id, .int .i64 c, .bool has, .int .u64 n.key, .int .u32 n.ck, .bool n.g, .slice n.a n.n n.c]) (reply_results hz rfl) rfl ⟨rfl, below_put12 HB3.out (by omega) _ _ _ _ _ _ _ _ _ _ _ _⟩
end Go.Proofs.Ytboadalojimdlaa
