/-
  wire.Reply.
-/
import Derived.Test.YtpkfjnhjcdcoaaaOnceOwn1
namespace Go.Proofs.Ytpkfjnhjcdcoaaa
open Go.RowKit
set_option linter.unusedVariables false

theorem wreply_results {W : World} {B : Nat} {v0 v1 v2 v3 v4 v5 v6 v7 v8 v9 v10 v11 : Value} {a : Act} (h : Blk W B 29 #[v0, v1, v2, v3, v4, v5, v6, v7, v8, v9, v10, v11]) (h2 : a.tmps[8]?.getD undef = .pointer (some ⟨B, 0, none⟩)) :
    (results Try.f23 a.tmps).run Try.prog W = .ok (.agg #[v0, v1, v2, v3, v4, v5, v6, v7, v8, v9, v10, v11]) W := by
  obtain ⟨k0, k1, k2, k3, k4, k5, k6, k7, k8, k9, k10, k11⟩ := h.twelve
  simp [results, Try.results23, go_sem, h2, k0, k1, k2, k3, k4, k5, k6, k7, k8, k9, k10, k11]
set_option maxRecDepth 100000 in
set_option maxHeartbeats 1000000 in
theorem wreply_any (m : MsgR) (cd : Int) (has : Bool) (key ck : Nat) (g : Bool) (a : Option Addr) (n c : Nat) (w : World) : Calls Try.prog 23 #[.agg #[.int .i64 m.fr, .int .i64 m.tt, .int .i64 m.kd, .int .i64 m.vol, .int .i64 m.life, .int .u64 m.id, .int .i64 m.cd, .bool m.has, .int .u64 m.key, .int .u32 m.ck, .bool m.g, .slice m.a m.n m.c], .int .i64 cd, .bool has, .agg #[.int .u64 key, .int .u32 ck, .bool g, .slice a n c]] w fun e w' =>
    e = .returned (.agg #[.int .i64 m.tt, .int .i64 m.fr, .int .i64 5, .int .i64 m.vol, .int .i64 m.life, .int .u64 m.id, .int .i64 cd, .bool has, .int .u64 key, .int .u32 ck, .bool g, .slice a n c]) ∧ Below w.heap.size w w' := by
  obtain ⟨W1, hW1⟩ : ∃ W, w.alloc (.cells #[.int .i64 m.fr, .int .i64 m.tt, .int .i64 m.kd, .int .i64 m.vol, .int .i64 m.life, .int .u64 m.id, .int .i64 m.cd, .bool m.has, .int .u64 m.key, .int .u32 m.ck, .bool m.g, .slice m.a m.n m.c] 29) = W := ⟨_, rfl⟩
  have hM : Blk W1 w.heap.size 29 #[.int .i64 m.fr, .int .i64 m.tt, .int .i64 m.kd, .int .i64 m.vol, .int .i64 m.life, .int .u64 m.id, .int .i64 m.cd, .bool m.has, .int .u64 m.key, .int .u32 m.ck, .bool m.g, .slice m.a m.n m.c] := by rw [← hW1]; exact Blk.made w _ _
  have hs1 : W1.heap.size = w.heap.size + 1 := by rw [← hW1]; simp
  have hB1 : Below w.heap.size w W1 := by rw [← hW1]; exact (Below.refl _ _).alloc (Nat.le_refl _) _
  obtain ⟨hN, hR⟩ := made_two W1 27 29 #[.int .u64 key, .int .u32 ck, .bool g, .slice a n c] #[.int .i64 0, .int .i64 0, .int .i64 0, .int .i64 0, .int .i64 0, .int .u64 0, .int .i64 0, .bool false, .int .u64 0, .int .u32 0, .bool false, .slice none 0 0]
  have hB2 := ((Below.refl W1.heap.size W1).alloc (Nat.le_refl _) (.cells #[.int .u64 key, .int .u32 ck, .bool g, .slice a n c] 27)).alloc (by simp) (.cells #[.int .i64 0, .int .i64 0, .int .i64 0, .int .i64 0, .int .i64 0, .int .u64 0, .int .i64 0, .bool false, .int .u64 0, .int .u32 0, .bool false, .slice none 0 0] 29)
  obtain ⟨W3, hW3⟩ : ∃ W, (W1.alloc (.cells #[.int .u64 key, .int .u32 ck, .bool g, .slice a n c] 27)).alloc (.cells #[.int .i64 0, .int .i64 0, .int .i64 0, .int .i64 0, .int .i64 0, .int .u64 0, .int .i64 0, .bool false, .int .u64 0, .int .u32 0, .bool false, .slice none 0 0] 29) = W := ⟨_, rfl⟩
  rw [hW3] at hN hR hB2
  have hM3 := hM.below hB2 hM.lt
  have HB3 := Lib.hid (hB1.trans (hB2.mono hB1.size))
  have HR := Lib.hid hR
  have HM3 := Lib.hid hM3
  have HN := Lib.hid hN
  have HS1 := Lib.hid hs1
  clear hM hB1 hB2 hR hM3 hN
  go_enter Try.func23, Try.ntmps23
  go_upto_region 1 with fail
  try rw [hW3]
  clear hW1 hW3 hs1
  obtain ⟨m0, m1, m2, m3, m4, m5, m6, m7, m8, m9, m10, m11⟩ := HM3.out.twelve
  have hR := HR.out
  have hN := HN.out
  rw [HS1.out] at hR hN
  obtain ⟨r0, r1, r2, r3, r4, r5, r6, r7, r8, r9, r10, r11⟩ := hR.twelve
  obtain ⟨f0, f1, f2, f3, f4, f5, f6, f7, f8, f9, f10, f11⟩ := hR.twelve_frozen
  obtain ⟨n0, n1, n2, n3⟩ := hN.four
  have HR' := Lib.hid hR
  clear hR hN
  go_wp2_with fail
  exact bodyPost_ret (wreply_results (HR'.out.put12 _ _ _ _ _ _ _ _ _ _ _ _) rfl) rfl ⟨rfl, below_put12 HB3.out (by omega) _ _ _ _ _ _ _ _ _ _ _ _⟩
end Go.Proofs.Ytpkfjnhjcdcoaaa
