/-
  client.Run.request.
-/
import Derived.Test.YtboadalojimdlaaCl
namespace Go.Proofs.Ytboadalojimdlaa
open Go.RowKit

theorem req_results {W : World} {B : Nat} {v0 v1 v2 v3 v4 v5 v6 v7 v8 v9 v10 v11 : Value} {a : Act} (h : Blk W B 53 #[v0, v1, v2, v3, v4, v5, v6, v7, v8, v9, v10, v11]) (h2 : a.tmps[2]?.getD undef = .pointer (some ⟨B, 0, none⟩)) :
    (results Try.f58 a.tmps).run Try.prog W = .ok (.agg #[v0, v1, v2, v3, v4, v5, v6, v7, v8, v9, v10, v11]) W := by
  obtain ⟨k0, k1, k2, k3, k4, k5, k6, k7, k8, k9, k10, k11⟩ := h.twelve
  simp [results, Try.results58, go_sem, h2, k0, k1, k2, k3, k4, k5, k6, k7, k8, k9, k10, k11]
set_option maxRecDepth 100000 in
set_option maxHeartbeats 4000000 in
theorem req_0_0 {B : Nat} {r : RunR} (w : World) (h : RBl w B r) (hkd : r.o.kd ≠ 3) (hst : r.st = 0) :
    Calls Try.prog 58 #[.pointer (some ⟨B, 0, none⟩)] w fun e w' => ∃ av cv, e = .returned (.agg #[.int .i64 r.o.fr, .int .i64 r.o.a0, .int .i64 r.o.kd, .int .i64 r.o.vol, .int .i64 r.o.l0, .int .u64 r.o.id, .int .i64 0, .bool true, .int .u64 r.o.key, .int .u32 r.o.ck, .bool r.o.g, .slice av r.o.n cv]) ∧ r.o.n ≤ cv ∧ w'.ownsRow w.heap.size 5 1 (.slice av r.o.n cv) r.o.n (r.o.l.map bv) ∧ Below w.heap.size w w' := by
  obtain ⟨W1, hW1⟩ : ∃ W, w.alloc (.cells #[.int .i64 0, .int .i64 0, .int .i64 0, .int .i64 0, .int .i64 0, .int .u64 0, .int .i64 0, .bool false, .int .u64 0, .int .u32 0, .bool false, .slice none 0 0] 53) = W := ⟨_, rfl⟩
  have HB1 := Lib.hid (show Below w.heap.size w W1 from by rw [← hW1]; exact (Below.refl _ _).alloc (Nat.le_refl _) _)
  have HR1 := Lib.hid (show Blk W1 w.heap.size 53 #[.int .i64 0, .int .i64 0, .int .i64 0, .int .i64 0, .int .i64 0, .int .u64 0, .int .i64 0, .bool false, .int .u64 0, .int .u32 0, .bool false, .slice none 0 0] from by rw [← hW1]; exact Blk.made w _ _)
  have HS1 := Lib.hid (show W1.heap.size = w.heap.size + 1 from by rw [← hW1]; simp)
  have H1 := Lib.hid (h.on HB1.out)
  have HLB := Lib.hid h.k.lt
  have EP := Lib.hid (place_any W1 H1.out.k)
  rw [plc_n hkd, hst] at EP
  have HC := Lib.hid fun (W : World) (B0 : Below W1.heap.size W1 W) => run_cells (H1.out.k.below B0 H1.out.k.lt)
  have HF := Lib.hid fun (W : World) (B0 : Below W1.heap.size W1 W) => run_frozen (H1.out.k.below B0 H1.out.k.lt)
  clear h
  go_enter Try.func58, Try.ntmps58
  go_wp2_with fail
  refine EP.out.mono ?_
  rintro e w2 ⟨rfl, rfl⟩
  clear EP
  have b14 := hst
  have HST := Lib.hid b14
  clear hst b14
  clear hkd
  go_upto_region 2 with fail
  try rw [hW1]
  clear hW1
  refine wp_region_held_drew (S := fun W => Below W1.heap.size W1 W) (by kernel_rfl) ((Below.refl _ _).drew) (fun hS => ?_)
  refine wpAnyH_take (i := 0) (v := ?_) rfl (by kernel_rfl) (by kernel_rfl) (by kernel_rfl) (fun _ _ _ h => h) (Or.inl ⟨by kernel_rfl, ?_⟩) hS ?_
  rotate_left
  · intro W hW; go_simp; try with_reducible rfl
  refine wpAnyH_take (i := 1) (v := ?_) rfl (by kernel_rfl) (by kernel_rfl) (by kernel_rfl) (fun _ _ _ h => h) (Or.inl ⟨by kernel_rfl, ?_⟩) hS ?_
  rotate_left
  · intro W hW; go_simp; try with_reducible rfl
  refine wpAnyH_take (i := 2) (v := ?_) rfl (by kernel_rfl) (by kernel_rfl) (by kernel_rfl) (fun _ _ _ h => h) (Or.inl ⟨by kernel_rfl, ?_⟩) hS ?_
  rotate_left
  · intro W hW; go_simp; try with_reducible rfl
  refine wpAnyH_take (i := 3) (v := ?_) rfl (by kernel_rfl) (by kernel_rfl) (by kernel_rfl) (fun _ _ _ h => h) (Or.inl ⟨by kernel_rfl, ?_⟩) hS ?_
  rotate_left
  · intro W hW; go_simp; try with_reducible rfl
  refine wpAnyH_take (i := 4) (v := ?_) rfl (by kernel_rfl) (by kernel_rfl) (by kernel_rfl) (fun _ _ _ h => h) (Or.inl ⟨by kernel_rfl, ?_⟩) hS ?_
  rotate_left
  · intro W hW; obtain ⟨k0, k1, k2, k3, k4, k5, k6, k7, k8, k9, k10, k11, k12, k13, k14, k15, k16, k17, k18, k19, k20, k21, k22, k23, k24, k25⟩ := HC.out W hW; go_simp; try with_reducible rfl
  refine wpAnyH_take (i := 5) (v := ?_) rfl (by kernel_rfl) (by kernel_rfl) (by kernel_rfl) (fun _ _ _ h => h) (Or.inl ⟨by kernel_rfl, ?_⟩) hS ?_
  rotate_left
  · intro W hW; go_simp; try with_reducible rfl
  refine wpAnyH_take (i := 6) (v := ?_) rfl (by kernel_rfl) (by kernel_rfl) (by kernel_rfl) (fun _ _ _ h => h) (Or.inl ⟨by kernel_rfl, ?_⟩) hS ?_
  rotate_left
  · intro W hW; go_simp; try with_reducible rfl
  refine wpAnyH_take (i := 7) (v := ?_) rfl (by kernel_rfl) (by kernel_rfl) (by kernel_rfl) (fun _ _ _ h => h) (Or.inl ⟨by kernel_rfl, ?_⟩) hS ?_
  rotate_left
  · intro W hW; go_simp; try with_reducible rfl
  refine wpAnyH_take (i := 8) (v := ?_) rfl (by kernel_rfl) (by kernel_rfl) (by kernel_rfl) (fun _ _ _ h => h) (Or.inl ⟨by kernel_rfl, ?_⟩) hS ?_
  rotate_left
  · intro W hW; go_simp; try with_reducible rfl
  refine wpAnyH_take (i := 9) (v := ?_) rfl (by kernel_rfl) (by kernel_rfl) (by kernel_rfl) (fun _ _ _ h => h) (Or.inl ⟨by kernel_rfl, ?_⟩) hS ?_
  rotate_left
  · intro W hW; go_simp; try with_reducible rfl
  refine wpAnyH_take (i := 10) (v := ?_) rfl (by kernel_rfl) (by kernel_rfl) (by kernel_rfl) (fun _ _ _ h => h) (Or.inl ⟨by kernel_rfl, ?_⟩) hS ?_
  rotate_left
  · intro W hW; go_simp; try with_reducible rfl
  refine wpAnyH_take (i := 11) (v := ?_) rfl (by kernel_rfl) (by kernel_rfl) (by kernel_rfl) (fun _ _ _ h => h) (Or.inl ⟨by kernel_rfl, ?_⟩) hS ?_
  rotate_left
  · intro W hW; obtain ⟨k0, k1, k2, k3, k4, k5, k6, k7, k8, k9, k10, k11, k12, k13, k14, k15, k16, k17, k18, k19, k20, k21, k22, k23, k24, k25⟩ := HC.out W hW; go_simp; try with_reducible rfl
  refine wpAnyH_take (i := 12) (v := ?_) rfl (by kernel_rfl) (by kernel_rfl) (by kernel_rfl) (fun _ _ _ h => h) (Or.inl ⟨by kernel_rfl, ?_⟩) hS ?_
  rotate_left
  · intro W hW; go_simp; try with_reducible rfl
  refine wpAnyH_take (i := 13) (v := ?_) rfl (by kernel_rfl) (by kernel_rfl) (by kernel_rfl) (fun _ _ _ h => h) (Or.inl ⟨by kernel_rfl, ?_⟩) hS ?_
  rotate_left
  · intro W hW; go_simp; try with_reducible rfl
  refine wpAnyH_take (i := 14) (v := ?_) rfl (by kernel_rfl) (by kernel_rfl) (by kernel_rfl) (fun _ _ _ h => h) (Or.inl ⟨by kernel_rfl, ?_⟩) hS ?_
  rotate_left
  · intro W hW; go_simp; try with_reducible rfl
  refine wpAnyH_take (i := 15) (v := ?_) rfl (by kernel_rfl) (by kernel_rfl) (by kernel_rfl) (fun _ _ _ h => h) (Or.inl ⟨by kernel_rfl, ?_⟩) hS ?_
  rotate_left
  · intro W hW; go_simp; try with_reducible rfl
  refine wpAnyH_take (i := 16) (v := ?_) rfl (by kernel_rfl) (by kernel_rfl) (by kernel_rfl) (fun _ _ _ h => h) (Or.inl ⟨by kernel_rfl, ?_⟩) hS ?_
  rotate_left
  · intro W hW; obtain ⟨k0, k1, k2, k3, k4, k5, k6, k7, k8, k9, k10, k11, k12, k13, k14, k15, k16, k17, k18, k19, k20, k21, k22, k23, k24, k25⟩ := HC.out W hW; go_simp; try with_reducible rfl
  refine wpAnyH_take (i := 17) (v := ?_) rfl (by kernel_rfl) (by kernel_rfl) (by kernel_rfl) (fun _ _ _ h => h) (Or.inl ⟨by kernel_rfl, ?_⟩) hS ?_
  rotate_left
  · intro W hW; go_simp; try with_reducible rfl
  refine wpAnyH_take (i := 18) (v := ?_) rfl (by kernel_rfl) (by kernel_rfl) (by kernel_rfl) (fun _ _ _ h => h) (Or.inl ⟨by kernel_rfl, ?_⟩) hS ?_
  rotate_left
  · intro W hW; go_simp; try with_reducible rfl
  refine wpAnyH_take (i := 19) (v := ?_) rfl (by kernel_rfl) (by kernel_rfl) (by kernel_rfl) (fun _ _ _ h => h) (Or.inl ⟨by kernel_rfl, ?_⟩) hS ?_
  rotate_left
  · intro W hW; go_simp; try with_reducible rfl
  refine wpAnyH_take (i := 20) (v := ?_) rfl (by kernel_rfl) (by kernel_rfl) (by kernel_rfl) (fun _ _ _ h => h) (Or.inl ⟨by kernel_rfl, ?_⟩) hS ?_
  rotate_left
  · intro W hW; go_simp; try with_reducible rfl
  refine wpAnyH_take (i := 21) (v := ?_) rfl (by kernel_rfl) (by kernel_rfl) (by kernel_rfl) (fun _ _ _ h => h) (Or.inl ⟨by kernel_rfl, ?_⟩) hS ?_
  rotate_left
  · intro W hW; obtain ⟨k0, k1, k2, k3, k4, k5, k6, k7, k8, k9, k10, k11, k12, k13, k14, k15, k16, k17, k18, k19, k20, k21, k22, k23, k24, k25⟩ := HC.out W hW; go_simp; try with_reducible rfl
  refine wpAnyH_take (i := 22) (v := ?_) rfl (by kernel_rfl) (by kernel_rfl) (by kernel_rfl) (fun _ _ _ h => h) (Or.inl ⟨by kernel_rfl, ?_⟩) hS ?_
  rotate_left
  · intro W hW; go_simp; try with_reducible rfl
  refine wpAnyH_take (i := 23) (v := ?_) rfl (by kernel_rfl) (by kernel_rfl) (by kernel_rfl) (fun _ _ _ h => h) (Or.inl ⟨by kernel_rfl, ?_⟩) hS ?_
  rotate_left
  · intro W hW; go_simp; try with_reducible rfl
  refine wpAnyH_take (i := 24) (v := ?_) rfl (by kernel_rfl) (by kernel_rfl) (by kernel_rfl) (fun _ _ _ h => h) (Or.inl ⟨by kernel_rfl, ?_⟩) hS ?_
  rotate_left
  · intro W hW; go_simp; try with_reducible rfl
  refine wpAnyH_take (i := 25) (v := ?_) rfl (by kernel_rfl) (by kernel_rfl) (by kernel_rfl) (fun _ _ _ h => h) (Or.inl ⟨by kernel_rfl, ?_⟩) hS ?_
  rotate_left
  · intro W hW; go_simp; try with_reducible rfl
  refine wpAnyH_take (i := 26) (v := ?_) rfl (by kernel_rfl) (by kernel_rfl) (by kernel_rfl) (fun _ _ _ h => h) (Or.inl ⟨by kernel_rfl, ?_⟩) hS ?_
  rotate_left
  · intro W hW; go_simp; try with_reducible rfl
  refine wpAnyH_take (i := 27) (v := ?_) rfl (by kernel_rfl) (by kernel_rfl) (by kernel_rfl) (fun _ _ _ h => h) (Or.inl ⟨by kernel_rfl, ?_⟩) hS ?_
  rotate_left
  · intro W hW; go_simp; try with_reducible rfl
  refine wpAnyH_take (i := 28) (v := ?_) rfl (by kernel_rfl) (by kernel_rfl) (by kernel_rfl) (fun _ _ _ h => h) (Or.inl ⟨by kernel_rfl, ?_⟩) hS ?_
  rotate_left
  · intro W hW; obtain ⟨k0, k1, k2, k3, k4, k5, k6, k7, k8, k9, k10, k11, k12, k13, k14, k15, k16, k17, k18, k19, k20, k21, k22, k23, k24, k25⟩ := HC.out W hW; go_simp; try with_reducible rfl
  refine wpAnyH_take (i := 29) (v := ?_) rfl (by kernel_rfl) (by kernel_rfl) (by kernel_rfl) (fun _ _ _ h => h) (Or.inl ⟨by kernel_rfl, ?_⟩) hS ?_
  rotate_left
  · intro W hW; go_simp; try with_reducible rfl
  refine wpAnyH_take (i := 30) (v := ?_) rfl (by kernel_rfl) (by kernel_rfl) (by kernel_rfl) (fun _ _ _ h => h) (Or.inl ⟨by kernel_rfl, ?_⟩) hS ?_
  rotate_left
  · intro W hW; go_simp; try with_reducible rfl
  refine wpAnyH_take (i := 31) (v := ?_) rfl (by kernel_rfl) (by kernel_rfl) (by kernel_rfl) (fun _ _ _ h => h) (Or.inl ⟨by kernel_rfl, ?_⟩) hS ?_
  rotate_left
  · intro W hW; go_simp; try with_reducible rfl
  refine wpAnyH_take (i := 32) (v := ?_) rfl (by kernel_rfl) (by kernel_rfl) (by kernel_rfl) (fun _ _ _ h => h) (Or.inl ⟨by kernel_rfl, ?_⟩) hS ?_
  rotate_left
  · intro W hW; go_simp; try with_reducible rfl
  refine wpAnyH_take (i := 33) (v := ?_) rfl (by kernel_rfl) (by kernel_rfl) (by kernel_rfl) (fun _ _ _ h => h) (Or.inl ⟨by kernel_rfl, ?_⟩) hS ?_
  rotate_left
  · intro W hW; obtain ⟨k0, k1, k2, k3, k4, k5, k6, k7, k8, k9, k10, k11, k12, k13, k14, k15, k16, k17, k18, k19, k20, k21, k22, k23, k24, k25⟩ := HC.out W hW; go_simp; try with_reducible rfl
  refine wpAnyH_take (i := 34) (v := ?_) rfl (by kernel_rfl) (by kernel_rfl) (by kernel_rfl) (fun _ _ _ h => h) (Or.inl ⟨by kernel_rfl, ?_⟩) hS ?_
  rotate_left
  · intro W hW; go_simp; try with_reducible rfl
  refine wpAnyH_take (i := 35) (v := ?_) rfl (by kernel_rfl) (by kernel_rfl) (by kernel_rfl) (fun _ _ _ h => h) (Or.inl ⟨by kernel_rfl, ?_⟩) hS ?_
  rotate_left
  · intro W hW; go_simp; try with_reducible rfl
  refine wpAnyH_take (i := 36) (v := ?_) rfl (by kernel_rfl) (by kernel_rfl) (by kernel_rfl) (fun _ _ _ h => h) (Or.inl ⟨by kernel_rfl, ?_⟩) hS ?_
  rotate_left
  · intro W hW; go_simp; try with_reducible rfl
  refine wpAnyH_take (i := 37) (v := ?_) rfl (by kernel_rfl) (by kernel_rfl) (by kernel_rfl) (fun _ _ _ h => h) (Or.inl ⟨by kernel_rfl, ?_⟩) hS ?_
  rotate_left
  · intro W hW; go_simp; try with_reducible rfl
  refine wpAnyH_take (i := 38) (v := ?_) rfl (by kernel_rfl) (by kernel_rfl) (by kernel_rfl) (fun _ _ _ h => h) (Or.inl ⟨by kernel_rfl, ?_⟩) hS ?_
  rotate_left
  · intro W hW; obtain ⟨k0, k1, k2, k3, k4, k5, k6, k7, k8, k9, k10, k11, k12, k13, k14, k15, k16, k17, k18, k19, k20, k21, k22, k23, k24, k25⟩ := HC.out W hW; go_simp; try with_reducible rfl
  refine wpAnyH_take (i := 39) (v := ?_) rfl (by kernel_rfl) (by kernel_rfl) (by kernel_rfl) (fun _ _ _ h => h) (Or.inl ⟨by kernel_rfl, ?_⟩) hS ?_
  rotate_left
  · intro W hW; go_simp; try with_reducible rfl
  refine wpAnyH_ready (rs := [40]) (by kernel_rfl) (by simp) ?_
  refine AllReadyH.cons (i := 40) rfl ?_ AllReadyH.nil
  intro K hK
  go_simp
  obtain ⟨w10, hw10, hbk, hT⟩ := alloc_name W1 53 #[.int .i64 0, .int .i64 0, .int .i64 0, .int .i64 0, .int .i64 0, .int .u64 0, .int .i64 0, .bool false, .int .u64 0, .int .u32 0, .bool false, .slice none 0 0]
  rw [hw10]
  clear hw10
  go_simp
  refine hK.out _ _ ?_ (fun hN => ?_)
  · first | exact hT | exact hS | exact hS.alloc hS.size _ | exact hS.drew
  clear hK K
  try clear hT
  clear hS
  have hS := hN
  clear hN
  refine wpAnyH_ready (rs := [41]) (by kernel_rfl) (by simp) ?_
  refine AllReadyH.cons (i := 41) rfl ?_ AllReadyH.nil
  intro K hK
  obtain ⟨k0, k1, k2, k3, k4, k5, k6, k7, k8, k9, k10, k11⟩ := hbk.twelve
  obtain ⟨f0, f1, f2, f3, f4, f5, f6, f7, f8, f9, f10, f11⟩ := hbk.twelve_frozen
  have hb12 := hbk.put12 (.int .i64 r.o.fr) (.int .i64 r.o.a0) (.int .i64 r.o.kd) (.int .i64 r.o.vol) (.int .i64 r.o.l0) (.int .u64 r.o.id) (.int .i64 0) (.bool true) (.int .u64 r.o.key) (.int .u32 r.o.ck) (.bool r.o.g) (.slice r.o.a r.o.n r.o.c)
  obtain ⟨w11, hw11, hT⟩ := put_name hS (Nat.le_refl W1.heap.size) (.int .i64 r.o.fr) (.int .i64 r.o.a0) (.int .i64 r.o.kd) (.int .i64 r.o.vol) (.int .i64 r.o.l0) (.int .u64 r.o.id) (.int .i64 0) (.bool true) (.int .u64 r.o.key) (.int .u32 r.o.ck) (.bool r.o.g) (.slice r.o.a r.o.n r.o.c)
  rw [hw11] at hb12
  go_simp
  try rw [hw11]
  clear k0 k1 k2 k3 k4 k5 k6 k7 k8 k9 k10 k11 f0 f1 f2 f3 f4 f5 f6 f7 f8 f9 f10 f11 hbk hw11
  refine hK.out _ _ ?_ (fun hN => ?_)
  · first | exact hT | exact hS | exact hS.alloc hS.size _ | exact hS.drew
  clear hK K
  try clear hT
  clear hS
  have hS := hN
  clear hN
  refine wpAnyH_done (by kernel_rfl) ?_ _
  go_simp
  have HS0 := Lib.hid hS
  clear hS
  obtain ⟨k0, k1, k2, k3, k4, k5, k6, k7, k8, k9, k10, k11, k12, k13, k14, k15, k16, k17, k18, k19, k20, k21, k22, k23, k24, k25⟩ := HC.out _ HS0.out
  rw [HST.out] at k14
  clear k0 k1 k2 k3 k4 k5 k6 k7 k8 k9 k10 k11 k12 k13 k15 k16 k17 k18 k19 k20 k21 k22 k23 k24 k25
  go_upto_region 5 with fail
  obtain ⟨w13, hw13, hb14, HS1'⟩ : ∃ X, w11 = X ∧ Blk X W1.heap.size 53 #[.int .i64 r.o.fr, .int .i64 r.o.a0, .int .i64 r.o.kd, .int .i64 r.o.vol, .int .i64 r.o.l0, .int .u64 r.o.id, .int .i64 0, .bool true, .int .u64 r.o.key, .int .u32 r.o.ck, .bool r.o.g, .slice r.o.a r.o.n r.o.c] ∧ Hid (Below W1.heap.size W1 X) := ⟨_, rfl, hb12, HS0⟩
  subst hw13
  clear k14
  have HM := Lib.hid hb14
  have m11 : w11.cell? ⟨W1.heap.size, 11, none⟩ = some (.slice r.o.a r.o.n r.o.c) := hb14.cell 11
  have EB := Lib.hid (bclone_any r.o.a r.o.n r.o.c r.o.l w11 (H1.out.on HS1'.out).o.b (H1.out.on HS1'.out).o.nc (H1.out.on HS1'.out).o.le)
  clear hb14
  go_wp2_with fail
  refine EB.out.mono ?_
  rintro e w15 ⟨av, cv, rfl, hcv, ho, B15⟩
  have HM15 := Lib.hid (HM.out.below B15 HM.out.lt)
  have HS15 := Lib.hid (HS1'.out.trans (B15.mono HS1'.out.size))
  have HLT := Lib.hid HM.out.lt
  have HO := Lib.hid ho
  have HCV := Lib.hid hcv
  have f11 := HM15.out.frozen 11
  have c11 : w15.cell? ⟨W1.heap.size, 11, none⟩ = some (.slice r.o.a r.o.n r.o.c) := HM15.out.cell 11
  clear m11 ho hcv B15 EB HM HS1'
  go_upto_region 6 with fail
  obtain ⟨W, hW⟩ : ∃ W, w15.setCell ⟨W1.heap.size, 11, none⟩ (.slice av r.o.n cv) = W := ⟨_, rfl⟩
  have hm : Blk W W1.heap.size 53 #[.int .i64 r.o.fr, .int .i64 r.o.a0, .int .i64 r.o.kd, .int .i64 r.o.vol, .int .i64 r.o.l0, .int .u64 r.o.id, .int .i64 0, .bool true, .int .u64 r.o.key, .int .u32 r.o.ck, .bool r.o.g, .slice av r.o.n cv] := by rw [← hW]; exact HM15.out.put 11 _
  have HSW := Lib.hid (show Below W1.heap.size W1 W from by rw [← hW]; exact HS15.out.setCell (p := ⟨W1.heap.size, 11, none⟩) (Nat.le_refl _) _)
  have HOW := Lib.hid (show W.ownsRow (W1.heap.size + 1) 5 1 (.slice av r.o.n cv) r.o.n (r.o.l.map bv) from by rw [← hW]; exact row_base (row_far HO.out (grown_put (grown_refl _ _) 11 _) HLT.out) HLT.out)
  have hr : Blk W w.heap.size 53 #[.int .i64 0, .int .i64 0, .int .i64 0, .int .i64 0, .int .i64 0, .int .u64 0, .int .i64 0, .bool false, .int .u64 0, .int .u32 0, .bool false, .slice none 0 0] := HR1.out.below HSW.out HR1.out.lt
  clear HO HM15 HS15 HLT f11 c11
  rw [hW]
  clear hW
  obtain ⟨k0, k1, k2, k3, k4, k5, k6, k7, k8, k9, k10, k11⟩ := hm.twelve
  obtain ⟨f0, f1, f2, f3, f4, f5, f6, f7, f8, f9, f10, f11⟩ := hr.twelve_frozen
  obtain ⟨g0, g1, g2, g3, g4, g5, g6, g7, g8, g9, g10, g11⟩ := hr.twelve
  have HR := Lib.hid hr
  clear hm hr
  go_wp2_with fail
  have hz := HR.out.put12 (.int .i64 r.o.fr) (.int .i64 r.o.a0) (.int .i64 r.o.kd) (.int .i64 r.o.vol) (.int .i64 r.o.l0) (.int .u64 r.o.id) (.int .i64 0) (.bool true) (.int .u64 r.o.key) (.int .u32 r.o.ck) (.bool r.o.g) (.slice av r.o.n cv)
  refine bodyPost_ret (v := .agg #[.int .i64 r.o.fr, .int .i64 r.o.a0, .int .i64 r.o.kd, .int .i64 r.o.vol, .int .i64 r.o.l0, .int .u64 r.o.id, .int .i64 0, .bool true, .int .u64 r.o.key, .int .u32 r.o.ck, .bool r.o.g, .slice av r.o.n cv]) (req_results hz rfl) rfl ⟨av, cv, rfl, HCV.out, ?_, below_put12 (HB1.out.trans (HSW.out.mono HB1.out.size)) (Nat.le_refl _) _ _ _ _ _ _ _ _ _ _ _ _⟩
  exact row_base (row_far HOW.out (grown_put12 (grown_refl _ _) _ _ _ _ _ _ _ _ _ _ _ _) (by have := HS1.out; omega)) (by have := HS1.out; omega)
set_option maxRecDepth 100000 in
set_option maxHeartbeats 4000000 in
theorem req_2_0 {B : Nat} {r : RunR} (w : World) (h : RBl w B r) (hkd : r.o.kd = 3) (hst : r.st = 0) :
    Calls Try.prog 58 #[.pointer (some ⟨B, 0, none⟩)] w fun e w' => ∃ av cv, e = .returned (.agg #[.int .i64 r.o.fr, .int .i64 r.o.a2, .int .i64 r.o.kd, .int .i64 r.o.vol, .int .i64 r.o.l2, .int .u64 r.o.id, .int .i64 0, .bool true, .int .u64 r.o.key, .int .u32 r.o.ck, .bool r.o.g, .slice av r.o.n cv]) ∧ r.o.n ≤ cv ∧ w'.ownsRow w.heap.size 5 1 (.slice av r.o.n cv) r.o.n (r.o.l.map bv) ∧ Below w.heap.size w w' := by
  obtain ⟨W1, hW1⟩ : ∃ W, w.alloc (.cells #[.int .i64 0, .int .i64 0, .int .i64 0, .int .i64 0, .int .i64 0, .int .u64 0, .int .i64 0, .bool false, .int .u64 0, .int .u32 0, .bool false, .slice none 0 0] 53) = W := ⟨_, rfl⟩
  have HB1 := Lib.hid (show Below w.heap.size w W1 from by rw [← hW1]; exact (Below.refl _ _).alloc (Nat.le_refl _) _)
  have HR1 := Lib.hid (show Blk W1 w.heap.size 53 #[.int .i64 0, .int .i64 0, .int .i64 0, .int .i64 0, .int .i64 0, .int .u64 0, .int .i64 0, .bool false, .int .u64 0, .int .u32 0, .bool false, .slice none 0 0] from by rw [← hW1]; exact Blk.made w _ _)
  have HS1 := Lib.hid (show W1.heap.size = w.heap.size + 1 from by rw [← hW1]; simp)
  have H1 := Lib.hid (h.on HB1.out)
  have HLB := Lib.hid h.k.lt
  have EP := Lib.hid (place_any W1 H1.out.k)
  rw [plc_3 hkd hst] at EP
  have HC := Lib.hid fun (W : World) (B0 : Below W1.heap.size W1 W) => run_cells (H1.out.k.below B0 H1.out.k.lt)
  have HF := Lib.hid fun (W : World) (B0 : Below W1.heap.size W1 W) => run_frozen (H1.out.k.below B0 H1.out.k.lt)
  clear h
  go_enter Try.func58, Try.ntmps58
  go_wp2_with fail
  refine EP.out.mono ?_
  rintro e w2 ⟨rfl, rfl⟩
  clear EP
  have b14 := hst
  have HST := Lib.hid b14
  clear hst b14
  clear hkd
  go_upto_region 2 with fail
  try rw [hW1]
  clear hW1
  refine wp_region_held_drew (S := fun W => Below W1.heap.size W1 W) (by kernel_rfl) ((Below.refl _ _).drew) (fun hS => ?_)
  refine wpAnyH_take (i := 0) (v := ?_) rfl (by kernel_rfl) (by kernel_rfl) (by kernel_rfl) (fun _ _ _ h => h) (Or.inl ⟨by kernel_rfl, ?_⟩) hS ?_
  rotate_left
  · intro W hW; go_simp; try with_reducible rfl
  refine wpAnyH_take (i := 1) (v := ?_) rfl (by kernel_rfl) (by kernel_rfl) (by kernel_rfl) (fun _ _ _ h => h) (Or.inl ⟨by kernel_rfl, ?_⟩) hS ?_
  rotate_left
  · intro W hW; go_simp; try with_reducible rfl
  refine wpAnyH_take (i := 2) (v := ?_) rfl (by kernel_rfl) (by kernel_rfl) (by kernel_rfl) (fun _ _ _ h => h) (Or.inl ⟨by kernel_rfl, ?_⟩) hS ?_
  rotate_left
  · intro W hW; go_simp; try with_reducible rfl
  refine wpAnyH_take (i := 3) (v := ?_) rfl (by kernel_rfl) (by kernel_rfl) (by kernel_rfl) (fun _ _ _ h => h) (Or.inl ⟨by kernel_rfl, ?_⟩) hS ?_
  rotate_left
  · intro W hW; go_simp; try with_reducible rfl
  refine wpAnyH_take (i := 4) (v := ?_) rfl (by kernel_rfl) (by kernel_rfl) (by kernel_rfl) (fun _ _ _ h => h) (Or.inl ⟨by kernel_rfl, ?_⟩) hS ?_
  rotate_left
  · intro W hW; obtain ⟨k0, k1, k2, k3, k4, k5, k6, k7, k8, k9, k10, k11, k12, k13, k14, k15, k16, k17, k18, k19, k20, k21, k22, k23, k24, k25⟩ := HC.out W hW; go_simp; try with_reducible rfl
  refine wpAnyH_take (i := 5) (v := ?_) rfl (by kernel_rfl) (by kernel_rfl) (by kernel_rfl) (fun _ _ _ h => h) (Or.inl ⟨by kernel_rfl, ?_⟩) hS ?_
  rotate_left
  · intro W hW; go_simp; try with_reducible rfl
  refine wpAnyH_take (i := 6) (v := ?_) rfl (by kernel_rfl) (by kernel_rfl) (by kernel_rfl) (fun _ _ _ h => h) (Or.inl ⟨by kernel_rfl, ?_⟩) hS ?_
  rotate_left
  · intro W hW; go_simp; try with_reducible rfl
  refine wpAnyH_take (i := 7) (v := ?_) rfl (by kernel_rfl) (by kernel_rfl) (by kernel_rfl) (fun _ _ _ h => h) (Or.inl ⟨by kernel_rfl, ?_⟩) hS ?_
  rotate_left
  · intro W hW; go_simp; try with_reducible rfl
  refine wpAnyH_take (i := 8) (v := ?_) rfl (by kernel_rfl) (by kernel_rfl) (by kernel_rfl) (fun _ _ _ h => h) (Or.inl ⟨by kernel_rfl, ?_⟩) hS ?_
  rotate_left
  · intro W hW; go_simp; try with_reducible rfl
  refine wpAnyH_take (i := 9) (v := ?_) rfl (by kernel_rfl) (by kernel_rfl) (by kernel_rfl) (fun _ _ _ h => h) (Or.inl ⟨by kernel_rfl, ?_⟩) hS ?_
  rotate_left
  · intro W hW; go_simp; try with_reducible rfl
  refine wpAnyH_take (i := 10) (v := ?_) rfl (by kernel_rfl) (by kernel_rfl) (by kernel_rfl) (fun _ _ _ h => h) (Or.inl ⟨by kernel_rfl, ?_⟩) hS ?_
  rotate_left
  · intro W hW; go_simp; try with_reducible rfl
  refine wpAnyH_take (i := 11) (v := ?_) rfl (by kernel_rfl) (by kernel_rfl) (by kernel_rfl) (fun _ _ _ h => h) (Or.inl ⟨by kernel_rfl, ?_⟩) hS ?_
  rotate_left
  · intro W hW; obtain ⟨k0, k1, k2, k3, k4, k5, k6, k7, k8, k9, k10, k11, k12, k13, k14, k15, k16, k17, k18, k19, k20, k21, k22, k23, k24, k25⟩ := HC.out W hW; go_simp; try with_reducible rfl
  refine wpAnyH_take (i := 12) (v := ?_) rfl (by kernel_rfl) (by kernel_rfl) (by kernel_rfl) (fun _ _ _ h => h) (Or.inl ⟨by kernel_rfl, ?_⟩) hS ?_
  rotate_left
  · intro W hW; go_simp; try with_reducible rfl
  refine wpAnyH_take (i := 13) (v := ?_) rfl (by kernel_rfl) (by kernel_rfl) (by kernel_rfl) (fun _ _ _ h => h) (Or.inl ⟨by kernel_rfl, ?_⟩) hS ?_
  rotate_left
  · intro W hW; go_simp; try with_reducible rfl
  refine wpAnyH_take (i := 14) (v := ?_) rfl (by kernel_rfl) (by kernel_rfl) (by kernel_rfl) (fun _ _ _ h => h) (Or.inl ⟨by kernel_rfl, ?_⟩) hS ?_
  rotate_left
  · intro W hW; go_simp; try with_reducible rfl
  refine wpAnyH_take (i := 15) (v := ?_) rfl (by kernel_rfl) (by kernel_rfl) (by kernel_rfl) (fun _ _ _ h => h) (Or.inl ⟨by kernel_rfl, ?_⟩) hS ?_
  rotate_left
  · intro W hW; go_simp; try with_reducible rfl
  refine wpAnyH_take (i := 16) (v := ?_) rfl (by kernel_rfl) (by kernel_rfl) (by kernel_rfl) (fun _ _ _ h => h) (Or.inl ⟨by kernel_rfl, ?_⟩) hS ?_
  rotate_left
  · intro W hW; obtain ⟨k0, k1, k2, k3, k4, k5, k6, k7, k8, k9, k10, k11, k12, k13, k14, k15, k16, k17, k18, k19, k20, k21, k22, k23, k24, k25⟩ := HC.out W hW; go_simp; try with_reducible rfl
  refine wpAnyH_take (i := 17) (v := ?_) rfl (by kernel_rfl) (by kernel_rfl) (by kernel_rfl) (fun _ _ _ h => h) (Or.inl ⟨by kernel_rfl, ?_⟩) hS ?_
  rotate_left
  · intro W hW; go_simp; try with_reducible rfl
  refine wpAnyH_take (i := 18) (v := ?_) rfl (by kernel_rfl) (by kernel_rfl) (by kernel_rfl) (fun _ _ _ h => h) (Or.inl ⟨by kernel_rfl, ?_⟩) hS ?_
  rotate_left
  · intro W hW; go_simp; try with_reducible rfl
  refine wpAnyH_take (i := 19) (v := ?_) rfl (by kernel_rfl) (by kernel_rfl) (by kernel_rfl) (fun _ _ _ h => h) (Or.inl ⟨by kernel_rfl, ?_⟩) hS ?_
  rotate_left
  · intro W hW; go_simp; try with_reducible rfl
  refine wpAnyH_take (i := 20) (v := ?_) rfl (by kernel_rfl) (by kernel_rfl) (by kernel_rfl) (fun _ _ _ h => h) (Or.inl ⟨by kernel_rfl, ?_⟩) hS ?_
  rotate_left
  · intro W hW; go_simp; try with_reducible rfl
  refine wpAnyH_take (i := 21) (v := ?_) rfl (by kernel_rfl) (by kernel_rfl) (by kernel_rfl) (fun _ _ _ h => h) (Or.inl ⟨by kernel_rfl, ?_⟩) hS ?_
  rotate_left
  · intro W hW; obtain ⟨k0, k1, k2, k3, k4, k5, k6, k7, k8, k9, k10, k11, k12, k13, k14, k15, k16, k17, k18, k19, k20, k21, k22, k23, k24, k25⟩ := HC.out W hW; go_simp; try with_reducible rfl
  refine wpAnyH_take (i := 22) (v := ?_) rfl (by kernel_rfl) (by kernel_rfl) (by kernel_rfl) (fun _ _ _ h => h) (Or.inl ⟨by kernel_rfl, ?_⟩) hS ?_
  rotate_left
  · intro W hW; go_simp; try with_reducible rfl
  refine wpAnyH_take (i := 23) (v := ?_) rfl (by kernel_rfl) (by kernel_rfl) (by kernel_rfl) (fun _ _ _ h => h) (Or.inl ⟨by kernel_rfl, ?_⟩) hS ?_
  rotate_left
  · intro W hW; go_simp; try with_reducible rfl
  refine wpAnyH_take (i := 24) (v := ?_) rfl (by kernel_rfl) (by kernel_rfl) (by kernel_rfl) (fun _ _ _ h => h) (Or.inl ⟨by kernel_rfl, ?_⟩) hS ?_
  rotate_left
  · intro W hW; go_simp; try with_reducible rfl
  refine wpAnyH_take (i := 25) (v := ?_) rfl (by kernel_rfl) (by kernel_rfl) (by kernel_rfl) (fun _ _ _ h => h) (Or.inl ⟨by kernel_rfl, ?_⟩) hS ?_
  rotate_left
  · intro W hW; go_simp; try with_reducible rfl
  refine wpAnyH_take (i := 26) (v := ?_) rfl (by kernel_rfl) (by kernel_rfl) (by kernel_rfl) (fun _ _ _ h => h) (Or.inl ⟨by kernel_rfl, ?_⟩) hS ?_
  rotate_left
  · intro W hW; go_simp; try with_reducible rfl
  refine wpAnyH_take (i := 27) (v := ?_) rfl (by kernel_rfl) (by kernel_rfl) (by kernel_rfl) (fun _ _ _ h => h) (Or.inl ⟨by kernel_rfl, ?_⟩) hS ?_
  rotate_left
  · intro W hW; go_simp; try with_reducible rfl
  refine wpAnyH_take (i := 28) (v := ?_) rfl (by kernel_rfl) (by kernel_rfl) (by kernel_rfl) (fun _ _ _ h => h) (Or.inl ⟨by kernel_rfl, ?_⟩) hS ?_
  rotate_left
  · intro W hW; obtain ⟨k0, k1, k2, k3, k4, k5, k6, k7, k8, k9, k10, k11, k12, k13, k14, k15, k16, k17, k18, k19, k20, k21, k22, k23, k24, k25⟩ := HC.out W hW; go_simp; try with_reducible rfl
  refine wpAnyH_take (i := 29) (v := ?_) rfl (by kernel_rfl) (by kernel_rfl) (by kernel_rfl) (fun _ _ _ h => h) (Or.inl ⟨by kernel_rfl, ?_⟩) hS ?_
  rotate_left
  · intro W hW; go_simp; try with_reducible rfl
  refine wpAnyH_take (i := 30) (v := ?_) rfl (by kernel_rfl) (by kernel_rfl) (by kernel_rfl) (fun _ _ _ h => h) (Or.inl ⟨by kernel_rfl, ?_⟩) hS ?_
  rotate_left
  · intro W hW; go_simp; try with_reducible rfl
  refine wpAnyH_take (i := 31) (v := ?_) rfl (by kernel_rfl) (by kernel_rfl) (by kernel_rfl) (fun _ _ _ h => h) (Or.inl ⟨by kernel_rfl, ?_⟩) hS ?_
  rotate_left
  · intro W hW; go_simp; try with_reducible rfl
  refine wpAnyH_take (i := 32) (v := ?_) rfl (by kernel_rfl) (by kernel_rfl) (by kernel_rfl) (fun _ _ _ h => h) (Or.inl ⟨by kernel_rfl, ?_⟩) hS ?_
  rotate_left
  · intro W hW; go_simp; try with_reducible rfl
  refine wpAnyH_take (i := 33) (v := ?_) rfl (by kernel_rfl) (by kernel_rfl) (by kernel_rfl) (fun _ _ _ h => h) (Or.inl ⟨by kernel_rfl, ?_⟩) hS ?_
  rotate_left
  · intro W hW; obtain ⟨k0, k1, k2, k3, k4, k5, k6, k7, k8, k9, k10, k11, k12, k13, k14, k15, k16, k17, k18, k19, k20, k21, k22, k23, k24, k25⟩ := HC.out W hW; go_simp; try with_reducible rfl
  refine wpAnyH_take (i := 34) (v := ?_) rfl (by kernel_rfl) (by kernel_rfl) (by kernel_rfl) (fun _ _ _ h => h) (Or.inl ⟨by kernel_rfl, ?_⟩) hS ?_
  rotate_left
  · intro W hW; go_simp; try with_reducible rfl
  refine wpAnyH_take (i := 35) (v := ?_) rfl (by kernel_rfl) (by kernel_rfl) (by kernel_rfl) (fun _ _ _ h => h) (Or.inl ⟨by kernel_rfl, ?_⟩) hS ?_
  rotate_left
  · intro W hW; go_simp; try with_reducible rfl
  refine wpAnyH_take (i := 36) (v := ?_) rfl (by kernel_rfl) (by kernel_rfl) (by kernel_rfl) (fun _ _ _ h => h) (Or.inl ⟨by kernel_rfl, ?_⟩) hS ?_
  rotate_left
  · intro W hW; go_simp; try with_reducible rfl
  refine wpAnyH_take (i := 37) (v := ?_) rfl (by kernel_rfl) (by kernel_rfl) (by kernel_rfl) (fun _ _ _ h => h) (Or.inl ⟨by kernel_rfl, ?_⟩) hS ?_
  rotate_left
  · intro W hW; go_simp; try with_reducible rfl
  refine wpAnyH_take (i := 38) (v := ?_) rfl (by kernel_rfl) (by kernel_rfl) (by kernel_rfl) (fun _ _ _ h => h) (Or.inl ⟨by kernel_rfl, ?_⟩) hS ?_
  rotate_left
  · intro W hW; obtain ⟨k0, k1, k2, k3, k4, k5, k6, k7, k8, k9, k10, k11, k12, k13, k14, k15, k16, k17, k18, k19, k20, k21, k22, k23, k24, k25⟩ := HC.out W hW; go_simp; try with_reducible rfl
  refine wpAnyH_take (i := 39) (v := ?_) rfl (by kernel_rfl) (by kernel_rfl) (by kernel_rfl) (fun _ _ _ h => h) (Or.inl ⟨by kernel_rfl, ?_⟩) hS ?_
  rotate_left
  · intro W hW; go_simp; try with_reducible rfl
  refine wpAnyH_ready (rs := [40]) (by kernel_rfl) (by simp) ?_
  refine AllReadyH.cons (i := 40) rfl ?_ AllReadyH.nil
  intro K hK
  go_simp
  obtain ⟨w10, hw10, hbk, hT⟩ := alloc_name W1 53 #[.int .i64 0, .int .i64 0, .int .i64 0, .int .i64 0, .int .i64 0, .int .u64 0, .int .i64 0, .bool false, .int .u64 0, .int .u32 0, .bool false, .slice none 0 0]
  rw [hw10]
  clear hw10
  go_simp
  refine hK.out _ _ ?_ (fun hN => ?_)
  · first | exact hT | exact hS | exact hS.alloc hS.size _ | exact hS.drew
  clear hK K
  try clear hT
  clear hS
  have hS := hN
  clear hN
  refine wpAnyH_ready (rs := [41]) (by kernel_rfl) (by simp) ?_
  refine AllReadyH.cons (i := 41) rfl ?_ AllReadyH.nil
  intro K hK
  obtain ⟨k0, k1, k2, k3, k4, k5, k6, k7, k8, k9, k10, k11⟩ := hbk.twelve
  obtain ⟨f0, f1, f2, f3, f4, f5, f6, f7, f8, f9, f10, f11⟩ := hbk.twelve_frozen
  have hb12 := hbk.put12 (.int .i64 r.o.fr) (.int .i64 r.o.a2) (.int .i64 r.o.kd) (.int .i64 r.o.vol) (.int .i64 r.o.l2) (.int .u64 r.o.id) (.int .i64 0) (.bool true) (.int .u64 r.o.key) (.int .u32 r.o.ck) (.bool r.o.g) (.slice r.o.a r.o.n r.o.c)
  obtain ⟨w11, hw11, hT⟩ := put_name hS (Nat.le_refl W1.heap.size) (.int .i64 r.o.fr) (.int .i64 r.o.a2) (.int .i64 r.o.kd) (.int .i64 r.o.vol) (.int .i64 r.o.l2) (.int .u64 r.o.id) (.int .i64 0) (.bool true) (.int .u64 r.o.key) (.int .u32 r.o.ck) (.bool r.o.g) (.slice r.o.a r.o.n r.o.c)
  rw [hw11] at hb12
  go_simp
  try rw [hw11]
  clear k0 k1 k2 k3 k4 k5 k6 k7 k8 k9 k10 k11 f0 f1 f2 f3 f4 f5 f6 f7 f8 f9 f10 f11 hbk hw11
  refine hK.out _ _ ?_ (fun hN => ?_)
  · first | exact hT | exact hS | exact hS.alloc hS.size _ | exact hS.drew
  clear hK K
  try clear hT
  clear hS
  have hS := hN
  clear hN
  refine wpAnyH_done (by kernel_rfl) ?_ _
  go_simp
  have HS0 := Lib.hid hS
  clear hS
  obtain ⟨k0, k1, k2, k3, k4, k5, k6, k7, k8, k9, k10, k11, k12, k13, k14, k15, k16, k17, k18, k19, k20, k21, k22, k23, k24, k25⟩ := HC.out _ HS0.out
  rw [HST.out] at k14
  clear k0 k1 k2 k3 k4 k5 k6 k7 k8 k9 k10 k11 k12 k13 k15 k16 k17 k18 k19 k20 k21 k22 k23 k24 k25
  go_upto_region 5 with fail
  obtain ⟨w13, hw13, hb14, HS1'⟩ : ∃ X, w11 = X ∧ Blk X W1.heap.size 53 #[.int .i64 r.o.fr, .int .i64 r.o.a2, .int .i64 r.o.kd, .int .i64 r.o.vol, .int .i64 r.o.l2, .int .u64 r.o.id, .int .i64 0, .bool true, .int .u64 r.o.key, .int .u32 r.o.ck, .bool r.o.g, .slice r.o.a r.o.n r.o.c] ∧ Hid (Below W1.heap.size W1 X) := ⟨_, rfl, hb12, HS0⟩
  subst hw13
  clear k14
  have HM := Lib.hid hb14
  have m11 : w11.cell? ⟨W1.heap.size, 11, none⟩ = some (.slice r.o.a r.o.n r.o.c) := hb14.cell 11
  have EB := Lib.hid (bclone_any r.o.a r.o.n r.o.c r.o.l w11 (H1.out.on HS1'.out).o.b (H1.out.on HS1'.out).o.nc (H1.out.on HS1'.out).o.le)
  clear hb14
  go_wp2_with fail
  refine EB.out.mono ?_
  rintro e w15 ⟨av, cv, rfl, hcv, ho, B15⟩
  have HM15 := Lib.hid (HM.out.below B15 HM.out.lt)
  have HS15 := Lib.hid (HS1'.out.trans (B15.mono HS1'.out.size))
  have HLT := Lib.hid HM.out.lt
  have HO := Lib.hid ho
  have HCV := Lib.hid hcv
  have f11 := HM15.out.frozen 11
  have c11 : w15.cell? ⟨W1.heap.size, 11, none⟩ = some (.slice r.o.a r.o.n r.o.c) := HM15.out.cell 11
  clear m11 ho hcv B15 EB HM HS1'
  go_upto_region 6 with fail
  obtain ⟨W, hW⟩ : ∃ W, w15.setCell ⟨W1.heap.size, 11, none⟩ (.slice av r.o.n cv) = W := ⟨_, rfl⟩
  have hm : Blk W W1.heap.size 53 #[.int .i64 r.o.fr, .int .i64 r.o.a2, .int .i64 r.o.kd, .int .i64 r.o.vol, .int .i64 r.o.l2, .int .u64 r.o.id, .int .i64 0, .bool true, .int .u64 r.o.key, .int .u32 r.o.ck, .bool r.o.g, .slice av r.o.n cv] := by rw [← hW]; exact HM15.out.put 11 _
  have HSW := Lib.hid (show Below W1.heap.size W1 W from by rw [← hW]; exact HS15.out.setCell (p := ⟨W1.heap.size, 11, none⟩) (Nat.le_refl _) _)
  have HOW := Lib.hid (show W.ownsRow (W1.heap.size + 1) 5 1 (.slice av r.o.n cv) r.o.n (r.o.l.map bv) from by rw [← hW]; exact row_base (row_far HO.out (grown_put (grown_refl _ _) 11 _) HLT.out) HLT.out)
  have hr : Blk W w.heap.size 53 #[.int .i64 0, .int .i64 0, .int .i64 0, .int .i64 0, .int .i64 0, .int .u64 0, .int .i64 0, .bool false, .int .u64 0, .int .u32 0, .bool false, .slice none 0 0] := HR1.out.below HSW.out HR1.out.lt
  clear HO HM15 HS15 HLT f11 c11
  rw [hW]
  clear hW
  obtain ⟨k0, k1, k2, k3, k4, k5, k6, k7, k8, k9, k10, k11⟩ := hm.twelve
  obtain ⟨f0, f1, f2, f3, f4, f5, f6, f7, f8, f9, f10, f11⟩ := hr.twelve_frozen
  obtain ⟨g0, g1, g2, g3, g4, g5, g6, g7, g8, g9, g10, g11⟩ := hr.twelve
  have HR := Lib.hid hr
  clear hm hr
  go_wp2_with fail
  have hz := HR.out.put12 (.int .i64 r.o.fr) (.int .i64 r.o.a2) (.int .i64 r.o.kd) (.int .i64 r.o.vol) (.int .i64 r.o.l2) (.int .u64 r.o.id) (.int .i64 0) (.bool true) (.int .u64 r.o.key) (.int .u32 r.o.ck) (.bool r.o.g) (.slice av r.o.n cv)
  refine bodyPost_ret (v := .agg #[.int .i64 r.o.fr, .int .i64 r.o.a2, .int .i64 r.o.kd, .int .i64 r.o.vol, .int .i64 r.o.l2, .int .u64 r.o.id, .int .i64 0, .bool true, .int .u64 r.o.key, .int .u32 r.o.ck, .bool r.o.g, .slice av r.o.n cv]) (req_results hz rfl) rfl ⟨av, cv, rfl, HCV.out, ?_, below_put12 (HB1.out.trans (HSW.out.mono HB1.out.size)) (Nat.le_refl _) _ _ _ _ _ _ _ _ _ _ _ _⟩
  exact row_base (row_far HOW.out (grown_put12 (grown_refl _ _) _ _ _ _ _ _ _ _ _ _ _ _) (by have := HS1.out; omega)) (by have := HS1.out; omega)
set_option maxRecDepth 100000 in
set_option maxHeartbeats 4000000 in
theorem req_1_1 {B : Nat} {r : RunR} (w : World) (h : RBl w B r) (hst : r.st = 1) :
    Calls Try.prog 58 #[.pointer (some ⟨B, 0, none⟩)] w fun e w' => ∃ av cv, e = .returned (.agg #[.int .i64 r.o.fr, .int .i64 r.o.a1, .int .i64 2, .int .i64 r.o.vol, .int .i64 r.o.l1, .int .u64 r.o.id, .int .i64 0, .bool true, .int .u64 r.y.key, .int .u32 r.y.ck, .bool r.y.g, .slice av r.y.n cv]) ∧ r.y.n ≤ cv ∧ w'.ownsRow w.heap.size 5 1 (.slice av r.y.n cv) r.y.n (r.y.l.map bv) ∧ Below w.heap.size w w' := by
  obtain ⟨W1, hW1⟩ : ∃ W, w.alloc (.cells #[.int .i64 0, .int .i64 0, .int .i64 0, .int .i64 0, .int .i64 0, .int .u64 0, .int .i64 0, .bool false, .int .u64 0, .int .u32 0, .bool false, .slice none 0 0] 53) = W := ⟨_, rfl⟩
  have HB1 := Lib.hid (show Below w.heap.size w W1 from by rw [← hW1]; exact (Below.refl _ _).alloc (Nat.le_refl _) _)
  have HR1 := Lib.hid (show Blk W1 w.heap.size 53 #[.int .i64 0, .int .i64 0, .int .i64 0, .int .i64 0, .int .i64 0, .int .u64 0, .int .i64 0, .bool false, .int .u64 0, .int .u32 0, .bool false, .slice none 0 0] from by rw [← hW1]; exact Blk.made w _ _)
  have HS1 := Lib.hid (show W1.heap.size = w.heap.size + 1 from by rw [← hW1]; simp)
  have H1 := Lib.hid (h.on HB1.out)
  have HLB := Lib.hid h.k.lt
  have EP := Lib.hid (place_any W1 H1.out.k)
  rw [plc_s (by omega), hst] at EP
  have HC := Lib.hid fun (W : World) (B0 : Below W1.heap.size W1 W) => run_cells (H1.out.k.below B0 H1.out.k.lt)
  have HF := Lib.hid fun (W : World) (B0 : Below W1.heap.size W1 W) => run_frozen (H1.out.k.below B0 H1.out.k.lt)
  clear h
  go_enter Try.func58, Try.ntmps58
  go_wp2_with fail
  refine EP.out.mono ?_
  rintro e w2 ⟨rfl, rfl⟩
  clear EP
  have b14 : r.st = 1 := hst
  have HST := Lib.hid b14
  clear hst b14
  go_upto_region 2 with fail
  try rw [hW1]
  clear hW1
  refine wp_region_held_drew (S := fun W => Below W1.heap.size W1 W) (by kernel_rfl) ((Below.refl _ _).drew) (fun hS => ?_)
  refine wpAnyH_take (i := 0) (v := ?_) rfl (by kernel_rfl) (by kernel_rfl) (by kernel_rfl) (fun _ _ _ h => h) (Or.inl ⟨by kernel_rfl, ?_⟩) hS ?_
  rotate_left
  · intro W hW; go_simp; try with_reducible rfl
  refine wpAnyH_take (i := 1) (v := ?_) rfl (by kernel_rfl) (by kernel_rfl) (by kernel_rfl) (fun _ _ _ h => h) (Or.inl ⟨by kernel_rfl, ?_⟩) hS ?_
  rotate_left
  · intro W hW; go_simp; try with_reducible rfl
  refine wpAnyH_take (i := 2) (v := ?_) rfl (by kernel_rfl) (by kernel_rfl) (by kernel_rfl) (fun _ _ _ h => h) (Or.inl ⟨by kernel_rfl, ?_⟩) hS ?_
  rotate_left
  · intro W hW; go_simp; try with_reducible rfl
  refine wpAnyH_take (i := 3) (v := ?_) rfl (by kernel_rfl) (by kernel_rfl) (by kernel_rfl) (fun _ _ _ h => h) (Or.inl ⟨by kernel_rfl, ?_⟩) hS ?_
  rotate_left
  · intro W hW; go_simp; try with_reducible rfl
  refine wpAnyH_take (i := 4) (v := ?_) rfl (by kernel_rfl) (by kernel_rfl) (by kernel_rfl) (fun _ _ _ h => h) (Or.inl ⟨by kernel_rfl, ?_⟩) hS ?_
  rotate_left
  · intro W hW; obtain ⟨k0, k1, k2, k3, k4, k5, k6, k7, k8, k9, k10, k11, k12, k13, k14, k15, k16, k17, k18, k19, k20, k21, k22, k23, k24, k25⟩ := HC.out W hW; go_simp; try with_reducible rfl
  refine wpAnyH_take (i := 5) (v := ?_) rfl (by kernel_rfl) (by kernel_rfl) (by kernel_rfl) (fun _ _ _ h => h) (Or.inl ⟨by kernel_rfl, ?_⟩) hS ?_
  rotate_left
  · intro W hW; go_simp; try with_reducible rfl
  refine wpAnyH_take (i := 6) (v := ?_) rfl (by kernel_rfl) (by kernel_rfl) (by kernel_rfl) (fun _ _ _ h => h) (Or.inl ⟨by kernel_rfl, ?_⟩) hS ?_
  rotate_left
  · intro W hW; go_simp; try with_reducible rfl
  refine wpAnyH_take (i := 7) (v := ?_) rfl (by kernel_rfl) (by kernel_rfl) (by kernel_rfl) (fun _ _ _ h => h) (Or.inl ⟨by kernel_rfl, ?_⟩) hS ?_
  rotate_left
  · intro W hW; go_simp; try with_reducible rfl
  refine wpAnyH_take (i := 8) (v := ?_) rfl (by kernel_rfl) (by kernel_rfl) (by kernel_rfl) (fun _ _ _ h => h) (Or.inl ⟨by kernel_rfl, ?_⟩) hS ?_
  rotate_left
  · intro W hW; go_simp; try with_reducible rfl
  refine wpAnyH_take (i := 9) (v := ?_) rfl (by kernel_rfl) (by kernel_rfl) (by kernel_rfl) (fun _ _ _ h => h) (Or.inl ⟨by kernel_rfl, ?_⟩) hS ?_
  rotate_left
  · intro W hW; go_simp; try with_reducible rfl
  refine wpAnyH_take (i := 10) (v := ?_) rfl (by kernel_rfl) (by kernel_rfl) (by kernel_rfl) (fun _ _ _ h => h) (Or.inl ⟨by kernel_rfl, ?_⟩) hS ?_
  rotate_left
  · intro W hW; go_simp; try with_reducible rfl
  refine wpAnyH_take (i := 11) (v := ?_) rfl (by kernel_rfl) (by kernel_rfl) (by kernel_rfl) (fun _ _ _ h => h) (Or.inl ⟨by kernel_rfl, ?_⟩) hS ?_
  rotate_left
  · intro W hW; obtain ⟨k0, k1, k2, k3, k4, k5, k6, k7, k8, k9, k10, k11, k12, k13, k14, k15, k16, k17, k18, k19, k20, k21, k22, k23, k24, k25⟩ := HC.out W hW; go_simp; try with_reducible rfl
  refine wpAnyH_take (i := 12) (v := ?_) rfl (by kernel_rfl) (by kernel_rfl) (by kernel_rfl) (fun _ _ _ h => h) (Or.inl ⟨by kernel_rfl, ?_⟩) hS ?_
  rotate_left
  · intro W hW; go_simp; try with_reducible rfl
  refine wpAnyH_take (i := 13) (v := ?_) rfl (by kernel_rfl) (by kernel_rfl) (by kernel_rfl) (fun _ _ _ h => h) (Or.inl ⟨by kernel_rfl, ?_⟩) hS ?_
  rotate_left
  · intro W hW; go_simp; try with_reducible rfl
  refine wpAnyH_take (i := 14) (v := ?_) rfl (by kernel_rfl) (by kernel_rfl) (by kernel_rfl) (fun _ _ _ h => h) (Or.inl ⟨by kernel_rfl, ?_⟩) hS ?_
  rotate_left
  · intro W hW; go_simp; try with_reducible rfl
  refine wpAnyH_take (i := 15) (v := ?_) rfl (by kernel_rfl) (by kernel_rfl) (by kernel_rfl) (fun _ _ _ h => h) (Or.inl ⟨by kernel_rfl, ?_⟩) hS ?_
  rotate_left
  · intro W hW; go_simp; try with_reducible rfl
  refine wpAnyH_take (i := 16) (v := ?_) rfl (by kernel_rfl) (by kernel_rfl) (by kernel_rfl) (fun _ _ _ h => h) (Or.inl ⟨by kernel_rfl, ?_⟩) hS ?_
  rotate_left
  · intro W hW; obtain ⟨k0, k1, k2, k3, k4, k5, k6, k7, k8, k9, k10, k11, k12, k13, k14, k15, k16, k17, k18, k19, k20, k21, k22, k23, k24, k25⟩ := HC.out W hW; go_simp; try with_reducible rfl
  refine wpAnyH_take (i := 17) (v := ?_) rfl (by kernel_rfl) (by kernel_rfl) (by kernel_rfl) (fun _ _ _ h => h) (Or.inl ⟨by kernel_rfl, ?_⟩) hS ?_
  rotate_left
  · intro W hW; go_simp; try with_reducible rfl
  refine wpAnyH_take (i := 18) (v := ?_) rfl (by kernel_rfl) (by kernel_rfl) (by kernel_rfl) (fun _ _ _ h => h) (Or.inl ⟨by kernel_rfl, ?_⟩) hS ?_
  rotate_left
  · intro W hW; go_simp; try with_reducible rfl
  refine wpAnyH_take (i := 19) (v := ?_) rfl (by kernel_rfl) (by kernel_rfl) (by kernel_rfl) (fun _ _ _ h => h) (Or.inl ⟨by kernel_rfl, ?_⟩) hS ?_
  rotate_left
  · intro W hW; go_simp; try with_reducible rfl
  refine wpAnyH_take (i := 20) (v := ?_) rfl (by kernel_rfl) (by kernel_rfl) (by kernel_rfl) (fun _ _ _ h => h) (Or.inl ⟨by kernel_rfl, ?_⟩) hS ?_
  rotate_left
  · intro W hW; go_simp; try with_reducible rfl
  refine wpAnyH_take (i := 21) (v := ?_) rfl (by kernel_rfl) (by kernel_rfl) (by kernel_rfl) (fun _ _ _ h => h) (Or.inl ⟨by kernel_rfl, ?_⟩) hS ?_
  rotate_left
  · intro W hW; obtain ⟨k0, k1, k2, k3, k4, k5, k6, k7, k8, k9, k10, k11, k12, k13, k14, k15, k16, k17, k18, k19, k20, k21, k22, k23, k24, k25⟩ := HC.out W hW; go_simp; try with_reducible rfl
  refine wpAnyH_take (i := 22) (v := ?_) rfl (by kernel_rfl) (by kernel_rfl) (by kernel_rfl) (fun _ _ _ h => h) (Or.inl ⟨by kernel_rfl, ?_⟩) hS ?_
  rotate_left
  · intro W hW; go_simp; try with_reducible rfl
  refine wpAnyH_take (i := 23) (v := ?_) rfl (by kernel_rfl) (by kernel_rfl) (by kernel_rfl) (fun _ _ _ h => h) (Or.inl ⟨by kernel_rfl, ?_⟩) hS ?_
  rotate_left
  · intro W hW; go_simp; try with_reducible rfl
  refine wpAnyH_take (i := 24) (v := ?_) rfl (by kernel_rfl) (by kernel_rfl) (by kernel_rfl) (fun _ _ _ h => h) (Or.inl ⟨by kernel_rfl, ?_⟩) hS ?_
  rotate_left
  · intro W hW; go_simp; try with_reducible rfl
  refine wpAnyH_take (i := 25) (v := ?_) rfl (by kernel_rfl) (by kernel_rfl) (by kernel_rfl) (fun _ _ _ h => h) (Or.inl ⟨by kernel_rfl, ?_⟩) hS ?_
  rotate_left
  · intro W hW; go_simp; try with_reducible rfl
  refine wpAnyH_take (i := 26) (v := ?_) rfl (by kernel_rfl) (by kernel_rfl) (by kernel_rfl) (fun _ _ _ h => h) (Or.inl ⟨by kernel_rfl, ?_⟩) hS ?_
  rotate_left
  · intro W hW; go_simp; try with_reducible rfl
  refine wpAnyH_take (i := 27) (v := ?_) rfl (by kernel_rfl) (by kernel_rfl) (by kernel_rfl) (fun _ _ _ h => h) (Or.inl ⟨by kernel_rfl, ?_⟩) hS ?_
  rotate_left
  · intro W hW; go_simp; try with_reducible rfl
  refine wpAnyH_take (i := 28) (v := ?_) rfl (by kernel_rfl) (by kernel_rfl) (by kernel_rfl) (fun _ _ _ h => h) (Or.inl ⟨by kernel_rfl, ?_⟩) hS ?_
  rotate_left
  · intro W hW; obtain ⟨k0, k1, k2, k3, k4, k5, k6, k7, k8, k9, k10, k11, k12, k13, k14, k15, k16, k17, k18, k19, k20, k21, k22, k23, k24, k25⟩ := HC.out W hW; go_simp; try with_reducible rfl
  refine wpAnyH_take (i := 29) (v := ?_) rfl (by kernel_rfl) (by kernel_rfl) (by kernel_rfl) (fun _ _ _ h => h) (Or.inl ⟨by kernel_rfl, ?_⟩) hS ?_
  rotate_left
  · intro W hW; go_simp; try with_reducible rfl
  refine wpAnyH_take (i := 30) (v := ?_) rfl (by kernel_rfl) (by kernel_rfl) (by kernel_rfl) (fun _ _ _ h => h) (Or.inl ⟨by kernel_rfl, ?_⟩) hS ?_
  rotate_left
  · intro W hW; go_simp; try with_reducible rfl
  refine wpAnyH_take (i := 31) (v := ?_) rfl (by kernel_rfl) (by kernel_rfl) (by kernel_rfl) (fun _ _ _ h => h) (Or.inl ⟨by kernel_rfl, ?_⟩) hS ?_
  rotate_left
  · intro W hW; go_simp; try with_reducible rfl
  refine wpAnyH_take (i := 32) (v := ?_) rfl (by kernel_rfl) (by kernel_rfl) (by kernel_rfl) (fun _ _ _ h => h) (Or.inl ⟨by kernel_rfl, ?_⟩) hS ?_
  rotate_left
  · intro W hW; go_simp; try with_reducible rfl
  refine wpAnyH_take (i := 33) (v := ?_) rfl (by kernel_rfl) (by kernel_rfl) (by kernel_rfl) (fun _ _ _ h => h) (Or.inl ⟨by kernel_rfl, ?_⟩) hS ?_
  rotate_left
  · intro W hW; obtain ⟨k0, k1, k2, k3, k4, k5, k6, k7, k8, k9, k10, k11, k12, k13, k14, k15, k16, k17, k18, k19, k20, k21, k22, k23, k24, k25⟩ := HC.out W hW; go_simp; try with_reducible rfl
  refine wpAnyH_take (i := 34) (v := ?_) rfl (by kernel_rfl) (by kernel_rfl) (by kernel_rfl) (fun _ _ _ h => h) (Or.inl ⟨by kernel_rfl, ?_⟩) hS ?_
  rotate_left
  · intro W hW; go_simp; try with_reducible rfl
  refine wpAnyH_take (i := 35) (v := ?_) rfl (by kernel_rfl) (by kernel_rfl) (by kernel_rfl) (fun _ _ _ h => h) (Or.inl ⟨by kernel_rfl, ?_⟩) hS ?_
  rotate_left
  · intro W hW; go_simp; try with_reducible rfl
  refine wpAnyH_take (i := 36) (v := ?_) rfl (by kernel_rfl) (by kernel_rfl) (by kernel_rfl) (fun _ _ _ h => h) (Or.inl ⟨by kernel_rfl, ?_⟩) hS ?_
  rotate_left
  · intro W hW; go_simp; try with_reducible rfl
  refine wpAnyH_take (i := 37) (v := ?_) rfl (by kernel_rfl) (by kernel_rfl) (by kernel_rfl) (fun _ _ _ h => h) (Or.inl ⟨by kernel_rfl, ?_⟩) hS ?_
  rotate_left
  · intro W hW; go_simp; try with_reducible rfl
  refine wpAnyH_take (i := 38) (v := ?_) rfl (by kernel_rfl) (by kernel_rfl) (by kernel_rfl) (fun _ _ _ h => h) (Or.inl ⟨by kernel_rfl, ?_⟩) hS ?_
  rotate_left
  · intro W hW; obtain ⟨k0, k1, k2, k3, k4, k5, k6, k7, k8, k9, k10, k11, k12, k13, k14, k15, k16, k17, k18, k19, k20, k21, k22, k23, k24, k25⟩ := HC.out W hW; go_simp; try with_reducible rfl
  refine wpAnyH_take (i := 39) (v := ?_) rfl (by kernel_rfl) (by kernel_rfl) (by kernel_rfl) (fun _ _ _ h => h) (Or.inl ⟨by kernel_rfl, ?_⟩) hS ?_
  rotate_left
  · intro W hW; go_simp; try with_reducible rfl
  refine wpAnyH_ready (rs := [40]) (by kernel_rfl) (by simp) ?_
  refine AllReadyH.cons (i := 40) rfl ?_ AllReadyH.nil
  intro K hK
  go_simp
  obtain ⟨w10, hw10, hbk, hT⟩ := alloc_name W1 53 #[.int .i64 0, .int .i64 0, .int .i64 0, .int .i64 0, .int .i64 0, .int .u64 0, .int .i64 0, .bool false, .int .u64 0, .int .u32 0, .bool false, .slice none 0 0]
  rw [hw10]
  clear hw10
  go_simp
  refine hK.out _ _ ?_ (fun hN => ?_)
  · first | exact hT | exact hS | exact hS.alloc hS.size _ | exact hS.drew
  clear hK K
  try clear hT
  clear hS
  have hS := hN
  clear hN
  refine wpAnyH_ready (rs := [41]) (by kernel_rfl) (by simp) ?_
  refine AllReadyH.cons (i := 41) rfl ?_ AllReadyH.nil
  intro K hK
  obtain ⟨k0, k1, k2, k3, k4, k5, k6, k7, k8, k9, k10, k11⟩ := hbk.twelve
  obtain ⟨f0, f1, f2, f3, f4, f5, f6, f7, f8, f9, f10, f11⟩ := hbk.twelve_frozen
  have hb12 := hbk.put12 (.int .i64 r.o.fr) (.int .i64 r.o.a1) (.int .i64 r.o.kd) (.int .i64 r.o.vol) (.int .i64 r.o.l1) (.int .u64 r.o.id) (.int .i64 0) (.bool true) (.int .u64 r.o.key) (.int .u32 r.o.ck) (.bool r.o.g) (.slice r.o.a r.o.n r.o.c)
  obtain ⟨w11, hw11, hT⟩ := put_name hS (Nat.le_refl W1.heap.size) (.int .i64 r.o.fr) (.int .i64 r.o.a1) (.int .i64 r.o.kd) (.int .i64 r.o.vol) (.int .i64 r.o.l1) (.int .u64 r.o.id) (.int .i64 0) (.bool true) (.int .u64 r.o.key) (.int .u32 r.o.ck) (.bool r.o.g) (.slice r.o.a r.o.n r.o.c)
  rw [hw11] at hb12
  go_simp
  try rw [hw11]
  clear k0 k1 k2 k3 k4 k5 k6 k7 k8 k9 k10 k11 f0 f1 f2 f3 f4 f5 f6 f7 f8 f9 f10 f11 hbk hw11
  refine hK.out _ _ ?_ (fun hN => ?_)
  · first | exact hT | exact hS | exact hS.alloc hS.size _ | exact hS.drew
  clear hK K
  try clear hT
  clear hS
  have hS := hN
  clear hN
  refine wpAnyH_done (by kernel_rfl) ?_ _
  go_simp
  have HS0 := Lib.hid hS
  clear hS
  obtain ⟨k0, k1, k2, k3, k4, k5, k6, k7, k8, k9, k10, k11, k12, k13, k14, k15, k16, k17, k18, k19, k20, k21, k22, k23, k24, k25⟩ := HC.out _ HS0.out
  rw [HST.out] at k14
  clear k0 k1 k2 k3 k4 k5 k6 k7 k8 k9 k10 k11 k12 k13 k15 k16 k17 k18 k19 k20 k21 k22 k23 k24 k25
  go_upto_region 4 with fail
  clear k14
  refine wp_region_held_drew (S := fun W => Below W1.heap.size W1 W) (by kernel_rfl) (by exact HS0.out.drew) (fun hS => ?_)
  refine wpAnyH_take (i := 0) (v := ?_) rfl (by kernel_rfl) (by kernel_rfl) (by kernel_rfl) (fun _ _ _ h => h) (Or.inl ⟨by kernel_rfl, ?_⟩) hS ?_
  rotate_left
  · intro W hW; go_simp; try with_reducible rfl
  refine wpAnyH_take (i := 1) (v := ?_) rfl (by kernel_rfl) (by kernel_rfl) (by kernel_rfl) (fun _ _ _ h => h) (Or.inl ⟨by kernel_rfl, ?_⟩) hS ?_
  rotate_left
  · intro W hW; go_simp; try with_reducible rfl
  refine wpAnyH_take (i := 2) (v := ?_) rfl (by kernel_rfl) (by kernel_rfl) (by kernel_rfl) (fun _ _ _ h => h) (Or.inl ⟨by kernel_rfl, ?_⟩) hS ?_
  rotate_left
  · intro W hW; go_simp; try with_reducible rfl
  refine wpAnyH_take (i := 3) (v := ?_) rfl (by kernel_rfl) (by kernel_rfl) (by kernel_rfl) (fun _ _ _ h => h) (Or.inl ⟨by kernel_rfl, ?_⟩) hS ?_
  rotate_left
  · intro W hW; obtain ⟨k0, k1, k2, k3, k4, k5, k6, k7, k8, k9, k10, k11, k12, k13, k14, k15, k16, k17, k18, k19, k20, k21, k22, k23, k24, k25⟩ := HC.out W hW; go_simp; try with_reducible rfl
  refine wpAnyH_take (i := 4) (v := ?_) rfl (by kernel_rfl) (by kernel_rfl) (by kernel_rfl) (fun _ _ _ h => h) (Or.inl ⟨by kernel_rfl, ?_⟩) hS ?_
  rotate_left
  · intro W hW; go_simp; try with_reducible rfl
  refine wpAnyH_ready (rs := [5]) (by kernel_rfl) (by simp) ?_
  go_simp
  refine AllReadyH.cons (i := 5) rfl ?_ AllReadyH.nil
  intro K hK
  obtain ⟨q0, q1, q2, q3, q4, q5, q6, q7, q8, q9, q10, q11⟩ := hb12.drew.twelve
  obtain ⟨f0, f1, f2, f3, f4, f5, f6, f7, f8, f9, f10, f11⟩ := hb12.drew.twelve_frozen
  obtain ⟨w12, hw12, hb13, hT⟩ : ∃ X, w11.drew.setCell ⟨W1.heap.size, 2, none⟩ (.int .i64 2) = X ∧ Blk X W1.heap.size 53 #[.int .i64 r.o.fr, .int .i64 r.o.a1, .int .i64 2, .int .i64 r.o.vol, .int .i64 r.o.l1, .int .u64 r.o.id, .int .i64 0, .bool true, .int .u64 r.o.key, .int .u32 r.o.ck, .bool r.o.g, .slice r.o.a r.o.n r.o.c] ∧ Below W1.heap.size W1 X := ⟨_, rfl, hb12.drew.put 2 _, hS.setCell (p := ⟨W1.heap.size, 2, none⟩) (Nat.le_refl _) _⟩
  go_simp
  try rw [hw12]
  clear hw12 q0 q1 q2 q3 q4 q5 q6 q7 q8 q9 q10 q11 f0 f1 f2 f3 f4 f5 f6 f7 f8 f9 f10 f11
  refine hK.out _ _ ?_ (fun hN => ?_)
  · first | exact hT | exact hS | exact hS.alloc hS.size _ | exact hS.drew
  clear hK K
  try clear hT
  clear hS
  have hS := hN
  clear hN
  refine wpAnyH_take (i := 6) (v := ?_) rfl (by kernel_rfl) (by kernel_rfl) (by kernel_rfl) (fun _ _ _ h => h) (Or.inl ⟨by kernel_rfl, ?_⟩) hS ?_
  rotate_left
  · intro W hW; go_simp; try with_reducible rfl
  refine wpAnyH_ready (rs := [7]) (by kernel_rfl) (by simp) ?_
  go_simp
  refine AllReadyH.cons (i := 7) rfl ?_ AllReadyH.nil
  intro K hK
  obtain ⟨q0, q1, q2, q3, q4, q5, q6, q7, q8, q9, q10, q11⟩ := hb13.twelve
  obtain ⟨f0, f1, f2, f3, f4, f5, f6, f7, f8, f9, f10, f11⟩ := hb13.twelve_frozen
  obtain ⟨w13, hw13, hb14, hT⟩ : ∃ X, (((w12.setCell ⟨W1.heap.size, 8, none⟩ (.int .u64 r.y.key)).setCell ⟨W1.heap.size, 9, none⟩ (.int .u32 r.y.ck)).setCell ⟨W1.heap.size, 10, none⟩ (.bool r.y.g)).setCell ⟨W1.heap.size, 11, none⟩ (.slice r.y.a r.y.n r.y.c) = X ∧ Blk X W1.heap.size 53 #[.int .i64 r.o.fr, .int .i64 r.o.a1, .int .i64 2, .int .i64 r.o.vol, .int .i64 r.o.l1, .int .u64 r.o.id, .int .i64 0, .bool true, .int .u64 r.y.key, .int .u32 r.y.ck, .bool r.y.g, .slice r.y.a r.y.n r.y.c] ∧ Below W1.heap.size W1 X := ⟨_, rfl, (((hb13.put 8 _).put 9 _).put 10 _).put 11 _, (((hS.setCell (p := ⟨W1.heap.size, 8, none⟩) (Nat.le_refl _) _).setCell (p := ⟨W1.heap.size, 9, none⟩) (Nat.le_refl _) _).setCell (p := ⟨W1.heap.size, 10, none⟩) (Nat.le_refl _) _).setCell (p := ⟨W1.heap.size, 11, none⟩) (Nat.le_refl _) _⟩
  go_simp
  try rw [hw13]
  clear hw13 q0 q1 q2 q3 q4 q5 q6 q7 q8 q9 q10 q11 f0 f1 f2 f3 f4 f5 f6 f7 f8 f9 f10 f11
  refine hK.out _ _ ?_ (fun hN => ?_)
  · first | exact hT | exact hS | exact hS.alloc hS.size _ | exact hS.drew
  clear hK K
  try clear hT
  clear hS
  have hS := hN
  clear hN
  refine wpAnyH_done (by kernel_rfl) ?_ _
  go_simp
  have HS1' := Lib.hid hS
  clear hS
  have HM := Lib.hid hb14
  have m11 : w13.cell? ⟨W1.heap.size, 11, none⟩ = some (.slice r.y.a r.y.n r.y.c) := hb14.cell 11
  have EB := Lib.hid (bclone_any r.y.a r.y.n r.y.c r.y.l w13 (H1.out.on HS1'.out).y.b (H1.out.on HS1'.out).y.nc (H1.out.on HS1'.out).y.le)
  clear hb14
  go_wp2_with fail
  refine EB.out.mono ?_
  rintro e w15 ⟨av, cv, rfl, hcv, ho, B15⟩
  have HM15 := Lib.hid (HM.out.below B15 HM.out.lt)
  have HS15 := Lib.hid (HS1'.out.trans (B15.mono HS1'.out.size))
  have HLT := Lib.hid HM.out.lt
  have HO := Lib.hid ho
  have HCV := Lib.hid hcv
  have f11 := HM15.out.frozen 11
  have c11 : w15.cell? ⟨W1.heap.size, 11, none⟩ = some (.slice r.y.a r.y.n r.y.c) := HM15.out.cell 11
  clear m11 ho hcv B15 EB HM HS1'
  go_upto_region 6 with fail
  obtain ⟨W, hW⟩ : ∃ W, w15.setCell ⟨W1.heap.size, 11, none⟩ (.slice av r.y.n cv) = W := ⟨_, rfl⟩
  have hm : Blk W W1.heap.size 53 #[.int .i64 r.o.fr, .int .i64 r.o.a1, .int .i64 2, .int .i64 r.o.vol, .int .i64 r.o.l1, .int .u64 r.o.id, .int .i64 0, .bool true, .int .u64 r.y.key, .int .u32 r.y.ck, .bool r.y.g, .slice av r.y.n cv] := by rw [← hW]; exact HM15.out.put 11 _
  have HSW := Lib.hid (show Below W1.heap.size W1 W from by rw [← hW]; exact HS15.out.setCell (p := ⟨W1.heap.size, 11, none⟩) (Nat.le_refl _) _)
  have HOW := Lib.hid (show W.ownsRow (W1.heap.size + 1) 5 1 (.slice av r.y.n cv) r.y.n (r.y.l.map bv) from by rw [← hW]; exact row_base (row_far HO.out (grown_put (grown_refl _ _) 11 _) HLT.out) HLT.out)
  have hr : Blk W w.heap.size 53 #[.int .i64 0, .int .i64 0, .int .i64 0, .int .i64 0, .int .i64 0, .int .u64 0, .int .i64 0, .bool false, .int .u64 0, .int .u32 0, .bool false, .slice none 0 0] := HR1.out.below HSW.out HR1.out.lt
  clear HO HM15 HS15 HLT f11 c11
  rw [hW]
  clear hW
  obtain ⟨k0, k1, k2, k3, k4, k5, k6, k7, k8, k9, k10, k11⟩ := hm.twelve
  obtain ⟨f0, f1, f2, f3, f4, f5, f6, f7, f8, f9, f10, f11⟩ := hr.twelve_frozen
  obtain ⟨g0, g1, g2, g3, g4, g5, g6, g7, g8, g9, g10, g11⟩ := hr.twelve
  have HR := Lib.hid hr
  clear hm hr
  go_wp2_with fail
  have hz := HR.out.put12 (.int .i64 r.o.fr) (.int .i64 r.o.a1) (.int .i64 2) (.int .i64 r.o.vol) (.int .i64 r.o.l1) (.int .u64 r.o.id) (.int .i64 0) (.bool true) (.int .u64 r.y.key) (.int .u32 r.y.ck) (.bool r.y.g) (.slice av r.y.n cv)
  refine bodyPost_ret (v := .agg #[.int .i64 r.o.fr, .int .i64 r.o.a1, .int .i64 2, .int .i64 r.o.vol, .int .i64 r.o.l1, .int .u64 r.o.id, .int .i64 0, .bool true, .int .u64 r.y.key, .int .u32 r.y.ck, .bool r.y.g, .slice av r.y.n cv]) (req_results hz rfl) rfl ⟨av, cv, rfl, HCV.out, ?_, below_put12 (HB1.out.trans (HSW.out.mono HB1.out.size)) (Nat.le_refl _) _ _ _ _ _ _ _ _ _ _ _ _⟩
  exact row_base (row_far HOW.out (grown_put12 (grown_refl _ _) _ _ _ _ _ _ _ _ _ _ _ _) (by have := HS1.out; omega)) (by have := HS1.out; omega)
set_option maxRecDepth 100000 in
set_option maxHeartbeats 4000000 in
theorem req_2_2 {B : Nat} {r : RunR} (w : World) (h : RBl w B r) (hst : r.st = 2) :
    Calls Try.prog 58 #[.pointer (some ⟨B, 0, none⟩)] w fun e w' => ∃ av cv, e = .returned (.agg #[.int .i64 r.o.fr, .int .i64 r.o.a2, .int .i64 2, .int .i64 r.o.vol, .int .i64 r.o.l2, .int .u64 r.o.id, .int .i64 0, .bool true, .int .u64 r.y.key, .int .u32 r.y.ck, .bool r.y.g, .slice av r.y.n cv]) ∧ r.y.n ≤ cv ∧ w'.ownsRow w.heap.size 5 1 (.slice av r.y.n cv) r.y.n (r.y.l.map bv) ∧ Below w.heap.size w w' := by
  obtain ⟨W1, hW1⟩ : ∃ W, w.alloc (.cells #[.int .i64 0, .int .i64 0, .int .i64 0, .int .i64 0, .int .i64 0, .int .u64 0, .int .i64 0, .bool false, .int .u64 0, .int .u32 0, .bool false, .slice none 0 0] 53) = W := ⟨_, rfl⟩
  have HB1 := Lib.hid (show Below w.heap.size w W1 from by rw [← hW1]; exact (Below.refl _ _).alloc (Nat.le_refl _) _)
  have HR1 := Lib.hid (show Blk W1 w.heap.size 53 #[.int .i64 0, .int .i64 0, .int .i64 0, .int .i64 0, .int .i64 0, .int .u64 0, .int .i64 0, .bool false, .int .u64 0, .int .u32 0, .bool false, .slice none 0 0] from by rw [← hW1]; exact Blk.made w _ _)
  have HS1 := Lib.hid (show W1.heap.size = w.heap.size + 1 from by rw [← hW1]; simp)
  have H1 := Lib.hid (h.on HB1.out)
  have HLB := Lib.hid h.k.lt
  have EP := Lib.hid (place_any W1 H1.out.k)
  rw [plc_s (by omega), hst] at EP
  have HC := Lib.hid fun (W : World) (B0 : Below W1.heap.size W1 W) => run_cells (H1.out.k.below B0 H1.out.k.lt)
  have HF := Lib.hid fun (W : World) (B0 : Below W1.heap.size W1 W) => run_frozen (H1.out.k.below B0 H1.out.k.lt)
  clear h
  go_enter Try.func58, Try.ntmps58
  go_wp2_with fail
  refine EP.out.mono ?_
  rintro e w2 ⟨rfl, rfl⟩
  clear EP
  have b14 : r.st = 2 := hst
  have HST := Lib.hid b14
  clear hst b14
  go_upto_region 2 with fail
  try rw [hW1]
  clear hW1
  refine wp_region_held_drew (S := fun W => Below W1.heap.size W1 W) (by kernel_rfl) ((Below.refl _ _).drew) (fun hS => ?_)
  refine wpAnyH_take (i := 0) (v := ?_) rfl (by kernel_rfl) (by kernel_rfl) (by kernel_rfl) (fun _ _ _ h => h) (Or.inl ⟨by kernel_rfl, ?_⟩) hS ?_
  rotate_left
  · intro W hW; go_simp; try with_reducible rfl
  refine wpAnyH_take (i := 1) (v := ?_) rfl (by kernel_rfl) (by kernel_rfl) (by kernel_rfl) (fun _ _ _ h => h) (Or.inl ⟨by kernel_rfl, ?_⟩) hS ?_
  rotate_left
  · intro W hW; go_simp; try with_reducible rfl
  refine wpAnyH_take (i := 2) (v := ?_) rfl (by kernel_rfl) (by kernel_rfl) (by kernel_rfl) (fun _ _ _ h => h) (Or.inl ⟨by kernel_rfl, ?_⟩) hS ?_
  rotate_left
  · intro W hW; go_simp; try with_reducible rfl
  refine wpAnyH_take (i := 3) (v := ?_) rfl (by kernel_rfl) (by kernel_rfl) (by kernel_rfl) (fun _ _ _ h => h) (Or.inl ⟨by kernel_rfl, ?_⟩) hS ?_
  rotate_left
  · intro W hW; go_simp; try with_reducible rfl
  refine wpAnyH_take (i := 4) (v := ?_) rfl (by kernel_rfl) (by kernel_rfl) (by kernel_rfl) (fun _ _ _ h => h) (Or.inl ⟨by kernel_rfl, ?_⟩) hS ?_
  rotate_left
  · intro W hW; obtain ⟨k0, k1, k2, k3, k4, k5, k6, k7, k8, k9, k10, k11, k12, k13, k14, k15, k16, k17, k18, k19, k20, k21, k22, k23, k24, k25⟩ := HC.out W hW; go_simp; try with_reducible rfl
  refine wpAnyH_take (i := 5) (v := ?_) rfl (by kernel_rfl) (by kernel_rfl) (by kernel_rfl) (fun _ _ _ h => h) (Or.inl ⟨by kernel_rfl, ?_⟩) hS ?_
  rotate_left
  · intro W hW; go_simp; try with_reducible rfl
  refine wpAnyH_take (i := 6) (v := ?_) rfl (by kernel_rfl) (by kernel_rfl) (by kernel_rfl) (fun _ _ _ h => h) (Or.inl ⟨by kernel_rfl, ?_⟩) hS ?_
  rotate_left
  · intro W hW; go_simp; try with_reducible rfl
  refine wpAnyH_take (i := 7) (v := ?_) rfl (by kernel_rfl) (by kernel_rfl) (by kernel_rfl) (fun _ _ _ h => h) (Or.inl ⟨by kernel_rfl, ?_⟩) hS ?_
  rotate_left
  · intro W hW; go_simp; try with_reducible rfl
  refine wpAnyH_take (i := 8) (v := ?_) rfl (by kernel_rfl) (by kernel_rfl) (by kernel_rfl) (fun _ _ _ h => h) (Or.inl ⟨by kernel_rfl, ?_⟩) hS ?_
  rotate_left
  · intro W hW; go_simp; try with_reducible rfl
  refine wpAnyH_take (i := 9) (v := ?_) rfl (by kernel_rfl) (by kernel_rfl) (by kernel_rfl) (fun _ _ _ h => h) (Or.inl ⟨by kernel_rfl, ?_⟩) hS ?_
  rotate_left
  · intro W hW; go_simp; try with_reducible rfl
  refine wpAnyH_take (i := 10) (v := ?_) rfl (by kernel_rfl) (by kernel_rfl) (by kernel_rfl) (fun _ _ _ h => h) (Or.inl ⟨by kernel_rfl, ?_⟩) hS ?_
  rotate_left
  · intro W hW; go_simp; try with_reducible rfl
  refine wpAnyH_take (i := 11) (v := ?_) rfl (by kernel_rfl) (by kernel_rfl) (by kernel_rfl) (fun _ _ _ h => h) (Or.inl ⟨by kernel_rfl, ?_⟩) hS ?_
  rotate_left
  · intro W hW; obtain ⟨k0, k1, k2, k3, k4, k5, k6, k7, k8, k9, k10, k11, k12, k13, k14, k15, k16, k17, k18, k19, k20, k21, k22, k23, k24, k25⟩ := HC.out W hW; go_simp; try with_reducible rfl
  refine wpAnyH_take (i := 12) (v := ?_) rfl (by kernel_rfl) (by kernel_rfl) (by kernel_rfl) (fun _ _ _ h => h) (Or.inl ⟨by kernel_rfl, ?_⟩) hS ?_
  rotate_left
  · intro W hW; go_simp; try with_reducible rfl
  refine wpAnyH_take (i := 13) (v := ?_) rfl (by kernel_rfl) (by kernel_rfl) (by kernel_rfl) (fun _ _ _ h => h) (Or.inl ⟨by kernel_rfl, ?_⟩) hS ?_
  rotate_left
  · intro W hW; go_simp; try with_reducible rfl
  refine wpAnyH_take (i := 14) (v := ?_) rfl (by kernel_rfl) (by kernel_rfl) (by kernel_rfl) (fun _ _ _ h => h) (Or.inl ⟨by kernel_rfl, ?_⟩) hS ?_
  rotate_left
  · intro W hW; go_simp; try with_reducible rfl
  refine wpAnyH_take (i := 15) (v := ?_) rfl (by kernel_rfl) (by kernel_rfl) (by kernel_rfl) (fun _ _ _ h => h) (Or.inl ⟨by kernel_rfl, ?_⟩) hS ?_
  rotate_left
  · intro W hW; go_simp; try with_reducible rfl
  refine wpAnyH_take (i := 16) (v := ?_) rfl (by kernel_rfl) (by kernel_rfl) (by kernel_rfl) (fun _ _ _ h => h) (Or.inl ⟨by kernel_rfl, ?_⟩) hS ?_
  rotate_left
  · intro W hW; obtain ⟨k0, k1, k2, k3, k4, k5, k6, k7, k8, k9, k10, k11, k12, k13, k14, k15, k16, k17, k18, k19, k20, k21, k22, k23, k24, k25⟩ := HC.out W hW; go_simp; try with_reducible rfl
  refine wpAnyH_take (i := 17) (v := ?_) rfl (by kernel_rfl) (by kernel_rfl) (by kernel_rfl) (fun _ _ _ h => h) (Or.inl ⟨by kernel_rfl, ?_⟩) hS ?_
  rotate_left
  · intro W hW; go_simp; try with_reducible rfl
  refine wpAnyH_take (i := 18) (v := ?_) rfl (by kernel_rfl) (by kernel_rfl) (by kernel_rfl) (fun _ _ _ h => h) (Or.inl ⟨by kernel_rfl, ?_⟩) hS ?_
  rotate_left
  · intro W hW; go_simp; try with_reducible rfl
  refine wpAnyH_take (i := 19) (v := ?_) rfl (by kernel_rfl) (by kernel_rfl) (by kernel_rfl) (fun _ _ _ h => h) (Or.inl ⟨by kernel_rfl, ?_⟩) hS ?_
  rotate_left
  · intro W hW; go_simp; try with_reducible rfl
  refine wpAnyH_take (i := 20) (v := ?_) rfl (by kernel_rfl) (by kernel_rfl) (by kernel_rfl) (fun _ _ _ h => h) (Or.inl ⟨by kernel_rfl, ?_⟩) hS ?_
  rotate_left
  · intro W hW; go_simp; try with_reducible rfl
  refine wpAnyH_take (i := 21) (v := ?_) rfl (by kernel_rfl) (by kernel_rfl) (by kernel_rfl) (fun _ _ _ h => h) (Or.inl ⟨by kernel_rfl, ?_⟩) hS ?_
  rotate_left
  · intro W hW; obtain ⟨k0, k1, k2, k3, k4, k5, k6, k7, k8, k9, k10, k11, k12, k13, k14, k15, k16, k17, k18, k19, k20, k21, k22, k23, k24, k25⟩ := HC.out W hW; go_simp; try with_reducible rfl
  refine wpAnyH_take (i := 22) (v := ?_) rfl (by kernel_rfl) (by kernel_rfl) (by kernel_rfl) (fun _ _ _ h => h) (Or.inl ⟨by kernel_rfl, ?_⟩) hS ?_
  rotate_left
  · intro W hW; go_simp; try with_reducible rfl
  refine wpAnyH_take (i := 23) (v := ?_) rfl (by kernel_rfl) (by kernel_rfl) (by kernel_rfl) (fun _ _ _ h => h) (Or.inl ⟨by kernel_rfl, ?_⟩) hS ?_
  rotate_left
  · intro W hW; go_simp; try with_reducible rfl
  refine wpAnyH_take (i := 24) (v := ?_) rfl (by kernel_rfl) (by kernel_rfl) (by kernel_rfl) (fun _ _ _ h => h) (Or.inl ⟨by kernel_rfl, ?_⟩) hS ?_
  rotate_left
  · intro W hW; go_simp; try with_reducible rfl
  refine wpAnyH_take (i := 25) (v := ?_) rfl (by kernel_rfl) (by kernel_rfl) (by kernel_rfl) (fun _ _ _ h => h) (Or.inl ⟨by kernel_rfl, ?_⟩) hS ?_
  rotate_left
  · intro W hW; go_simp; try with_reducible rfl
  refine wpAnyH_take (i := 26) (v := ?_) rfl (by kernel_rfl) (by kernel_rfl) (by kernel_rfl) (fun _ _ _ h => h) (Or.inl ⟨by kernel_rfl, ?_⟩) hS ?_
  rotate_left
  · intro W hW; go_simp; try with_reducible rfl
  refine wpAnyH_take (i := 27) (v := ?_) rfl (by kernel_rfl) (by kernel_rfl) (by kernel_rfl) (fun _ _ _ h => h) (Or.inl ⟨by kernel_rfl, ?_⟩) hS ?_
  rotate_left
  · intro W hW; go_simp; try with_reducible rfl
  refine wpAnyH_take (i := 28) (v := ?_) rfl (by kernel_rfl) (by kernel_rfl) (by kernel_rfl) (fun _ _ _ h => h) (Or.inl ⟨by kernel_rfl, ?_⟩) hS ?_
  rotate_left
  · intro W hW; obtain ⟨k0, k1, k2, k3, k4, k5, k6, k7, k8, k9, k10, k11, k12, k13, k14, k15, k16, k17, k18, k19, k20, k21, k22, k23, k24, k25⟩ := HC.out W hW; go_simp; try with_reducible rfl
  refine wpAnyH_take (i := 29) (v := ?_) rfl (by kernel_rfl) (by kernel_rfl) (by kernel_rfl) (fun _ _ _ h => h) (Or.inl ⟨by kernel_rfl, ?_⟩) hS ?_
  rotate_left
  · intro W hW; go_simp; try with_reducible rfl
  refine wpAnyH_take (i := 30) (v := ?_) rfl (by kernel_rfl) (by kernel_rfl) (by kernel_rfl) (fun _ _ _ h => h) (Or.inl ⟨by kernel_rfl, ?_⟩) hS ?_
  rotate_left
  · intro W hW; go_simp; try with_reducible rfl
  refine wpAnyH_take (i := 31) (v := ?_) rfl (by kernel_rfl) (by kernel_rfl) (by kernel_rfl) (fun _ _ _ h => h) (Or.inl ⟨by kernel_rfl, ?_⟩) hS ?_
  rotate_left
  · intro W hW; go_simp; try with_reducible rfl
  refine wpAnyH_take (i := 32) (v := ?_) rfl (by kernel_rfl) (by kernel_rfl) (by kernel_rfl) (fun _ _ _ h => h) (Or.inl ⟨by kernel_rfl, ?_⟩) hS ?_
  rotate_left
  · intro W hW; go_simp; try with_reducible rfl
  refine wpAnyH_take (i := 33) (v := ?_) rfl (by kernel_rfl) (by kernel_rfl) (by kernel_rfl) (fun _ _ _ h => h) (Or.inl ⟨by kernel_rfl, ?_⟩) hS ?_
  rotate_left
  · intro W hW; obtain ⟨k0, k1, k2, k3, k4, k5, k6, k7, k8, k9, k10, k11, k12, k13, k14, k15, k16, k17, k18, k19, k20, k21, k22, k23, k24, k25⟩ := HC.out W hW; go_simp; try with_reducible rfl
  refine wpAnyH_take (i := 34) (v := ?_) rfl (by kernel_rfl) (by kernel_rfl) (by kernel_rfl) (fun _ _ _ h => h) (Or.inl ⟨by kernel_rfl, ?_⟩) hS ?_
  rotate_left
  · intro W hW; go_simp; try with_reducible rfl
  refine wpAnyH_take (i := 35) (v := ?_) rfl (by kernel_rfl) (by kernel_rfl) (by kernel_rfl) (fun _ _ _ h => h) (Or.inl ⟨by kernel_rfl, ?_⟩) hS ?_
  rotate_left
  · intro W hW; go_simp; try with_reducible rfl
  refine wpAnyH_take (i := 36) (v := ?_) rfl (by kernel_rfl) (by kernel_rfl) (by kernel_rfl) (fun _ _ _ h => h) (Or.inl ⟨by kernel_rfl, ?_⟩) hS ?_
  rotate_left
  · intro W hW; go_simp; try with_reducible rfl
  refine wpAnyH_take (i := 37) (v := ?_) rfl (by kernel_rfl) (by kernel_rfl) (by kernel_rfl) (fun _ _ _ h => h) (Or.inl ⟨by kernel_rfl, ?_⟩) hS ?_
  rotate_left
  · intro W hW; go_simp; try with_reducible rfl
  refine wpAnyH_take (i := 38) (v := ?_) rfl (by kernel_rfl) (by kernel_rfl) (by kernel_rfl) (fun _ _ _ h => h) (Or.inl ⟨by kernel_rfl, ?_⟩) hS ?_
  rotate_left
  · intro W hW; obtain ⟨k0, k1, k2, k3, k4, k5, k6, k7, k8, k9, k10, k11, k12, k13, k14, k15, k16, k17, k18, k19, k20, k21, k22, k23, k24, k25⟩ := HC.out W hW; go_simp; try with_reducible rfl
  refine wpAnyH_take (i := 39) (v := ?_) rfl (by kernel_rfl) (by kernel_rfl) (by kernel_rfl) (fun _ _ _ h => h) (Or.inl ⟨by kernel_rfl, ?_⟩) hS ?_
  rotate_left
  · intro W hW; go_simp; try with_reducible rfl
  refine wpAnyH_ready (rs := [40]) (by kernel_rfl) (by simp) ?_
  refine AllReadyH.cons (i := 40) rfl ?_ AllReadyH.nil
  intro K hK
  go_simp
  obtain ⟨w10, hw10, hbk, hT⟩ := alloc_name W1 53 #[.int .i64 0, .int .i64 0, .int .i64 0, .int .i64 0, .int .i64 0, .int .u64 0, .int .i64 0, .bool false, .int .u64 0, .int .u32 0, .bool false, .slice none 0 0]
  rw [hw10]
  clear hw10
  go_simp
  refine hK.out _ _ ?_ (fun hN => ?_)
  · first | exact hT | exact hS | exact hS.alloc hS.size _ | exact hS.drew
  clear hK K
  try clear hT
  clear hS
  have hS := hN
  clear hN
  refine wpAnyH_ready (rs := [41]) (by kernel_rfl) (by simp) ?_
  refine AllReadyH.cons (i := 41) rfl ?_ AllReadyH.nil
  intro K hK
  obtain ⟨k0, k1, k2, k3, k4, k5, k6, k7, k8, k9, k10, k11⟩ := hbk.twelve
  obtain ⟨f0, f1, f2, f3, f4, f5, f6, f7, f8, f9, f10, f11⟩ := hbk.twelve_frozen
  have hb12 := hbk.put12 (.int .i64 r.o.fr) (.int .i64 r.o.a2) (.int .i64 r.o.kd) (.int .i64 r.o.vol) (.int .i64 r.o.l2) (.int .u64 r.o.id) (.int .i64 0) (.bool true) (.int .u64 r.o.key) (.int .u32 r.o.ck) (.bool r.o.g) (.slice r.o.a r.o.n r.o.c)
  obtain ⟨w11, hw11, hT⟩ := put_name hS (Nat.le_refl W1.heap.size) (.int .i64 r.o.fr) (.int .i64 r.o.a2) (.int .i64 r.o.kd) (.int .i64 r.o.vol) (.int .i64 r.o.l2) (.int .u64 r.o.id) (.int .i64 0) (.bool true) (.int .u64 r.o.key) (.int .u32 r.o.ck) (.bool r.o.g) (.slice r.o.a r.o.n r.o.c)
  rw [hw11] at hb12
  go_simp
  try rw [hw11]
  clear k0 k1 k2 k3 k4 k5 k6 k7 k8 k9 k10 k11 f0 f1 f2 f3 f4 f5 f6 f7 f8 f9 f10 f11 hbk hw11
  refine hK.out _ _ ?_ (fun hN => ?_)
  · first | exact hT | exact hS | exact hS.alloc hS.size _ | exact hS.drew
  clear hK K
  try clear hT
  clear hS
  have hS := hN
  clear hN
  refine wpAnyH_done (by kernel_rfl) ?_ _
  go_simp
  have HS0 := Lib.hid hS
  clear hS
  obtain ⟨k0, k1, k2, k3, k4, k5, k6, k7, k8, k9, k10, k11, k12, k13, k14, k15, k16, k17, k18, k19, k20, k21, k22, k23, k24, k25⟩ := HC.out _ HS0.out
  rw [HST.out] at k14
  clear k0 k1 k2 k3 k4 k5 k6 k7 k8 k9 k10 k11 k12 k13 k15 k16 k17 k18 k19 k20 k21 k22 k23 k24 k25
  go_upto_region 4 with fail
  clear k14
  refine wp_region_held_drew (S := fun W => Below W1.heap.size W1 W) (by kernel_rfl) (by exact HS0.out.drew) (fun hS => ?_)
  refine wpAnyH_take (i := 0) (v := ?_) rfl (by kernel_rfl) (by kernel_rfl) (by kernel_rfl) (fun _ _ _ h => h) (Or.inl ⟨by kernel_rfl, ?_⟩) hS ?_
  rotate_left
  · intro W hW; go_simp; try with_reducible rfl
  refine wpAnyH_take (i := 1) (v := ?_) rfl (by kernel_rfl) (by kernel_rfl) (by kernel_rfl) (fun _ _ _ h => h) (Or.inl ⟨by kernel_rfl, ?_⟩) hS ?_
  rotate_left
  · intro W hW; go_simp; try with_reducible rfl
  refine wpAnyH_take (i := 2) (v := ?_) rfl (by kernel_rfl) (by kernel_rfl) (by kernel_rfl) (fun _ _ _ h => h) (Or.inl ⟨by kernel_rfl, ?_⟩) hS ?_
  rotate_left
  · intro W hW; go_simp; try with_reducible rfl
  refine wpAnyH_take (i := 3) (v := ?_) rfl (by kernel_rfl) (by kernel_rfl) (by kernel_rfl) (fun _ _ _ h => h) (Or.inl ⟨by kernel_rfl, ?_⟩) hS ?_
  rotate_left
  · intro W hW; obtain ⟨k0, k1, k2, k3, k4, k5, k6, k7, k8, k9, k10, k11, k12, k13, k14, k15, k16, k17, k18, k19, k20, k21, k22, k23, k24, k25⟩ := HC.out W hW; go_simp; try with_reducible rfl
  refine wpAnyH_take (i := 4) (v := ?_) rfl (by kernel_rfl) (by kernel_rfl) (by kernel_rfl) (fun _ _ _ h => h) (Or.inl ⟨by kernel_rfl, ?_⟩) hS ?_
  rotate_left
  · intro W hW; go_simp; try with_reducible rfl
  refine wpAnyH_ready (rs := [5]) (by kernel_rfl) (by simp) ?_
  go_simp
  refine AllReadyH.cons (i := 5) rfl ?_ AllReadyH.nil
  intro K hK
  obtain ⟨q0, q1, q2, q3, q4, q5, q6, q7, q8, q9, q10, q11⟩ := hb12.drew.twelve
  obtain ⟨f0, f1, f2, f3, f4, f5, f6, f7, f8, f9, f10, f11⟩ := hb12.drew.twelve_frozen
  obtain ⟨w12, hw12, hb13, hT⟩ : ∃ X, w11.drew.setCell ⟨W1.heap.size, 2, none⟩ (.int .i64 2) = X ∧ Blk X W1.heap.size 53 #[.int .i64 r.o.fr, .int .i64 r.o.a2, .int .i64 2, .int .i64 r.o.vol, .int .i64 r.o.l2, .int .u64 r.o.id, .int .i64 0, .bool true, .int .u64 r.o.key, .int .u32 r.o.ck, .bool r.o.g, .slice r.o.a r.o.n r.o.c] ∧ Below W1.heap.size W1 X := ⟨_, rfl, hb12.drew.put 2 _, hS.setCell (p := ⟨W1.heap.size, 2, none⟩) (Nat.le_refl _) _⟩
  go_simp
  try rw [hw12]
  clear hw12 q0 q1 q2 q3 q4 q5 q6 q7 q8 q9 q10 q11 f0 f1 f2 f3 f4 f5 f6 f7 f8 f9 f10 f11
  refine hK.out _ _ ?_ (fun hN => ?_)
  · first | exact hT | exact hS | exact hS.alloc hS.size _ | exact hS.drew
  clear hK K
  try clear hT
  clear hS
  have hS := hN
  clear hN
  refine wpAnyH_take (i := 6) (v := ?_) rfl (by kernel_rfl) (by kernel_rfl) (by kernel_rfl) (fun _ _ _ h => h) (Or.inl ⟨by kernel_rfl, ?_⟩) hS ?_
  rotate_left
  · intro W hW; go_simp; try with_reducible rfl
  refine wpAnyH_ready (rs := [7]) (by kernel_rfl) (by simp) ?_
  go_simp
  refine AllReadyH.cons (i := 7) rfl ?_ AllReadyH.nil
  intro K hK
  obtain ⟨q0, q1, q2, q3, q4, q5, q6, q7, q8, q9, q10, q11⟩ := hb13.twelve
  obtain ⟨f0, f1, f2, f3, f4, f5, f6, f7, f8, f9, f10, f11⟩ := hb13.twelve_frozen
  obtain ⟨w13, hw13, hb14, hT⟩ : ∃ X, (((w12.setCell ⟨W1.heap.size, 8, none⟩ (.int .u64 r.y.key)).setCell ⟨W1.heap.size, 9, none⟩ (.int .u32 r.y.ck)).setCell ⟨W1.heap.size, 10, none⟩ (.bool r.y.g)).setCell ⟨W1.heap.size, 11, none⟩ (.slice r.y.a r.y.n r.y.c) = X ∧ Blk X W1.heap.size 53 #[.int .i64 r.o.fr, .int .i64 r.o.a2, .int .i64 2, .int .i64 r.o.vol, .int .i64 r.o.l2, .int .u64 r.o.id, .int .i64 0, .bool true, .int .u64 r.y.key, .int .u32 r.y.ck, .bool r.y.g, .slice r.y.a r.y.n r.y.c] ∧ Below W1.heap.size W1 X := ⟨_, rfl, (((hb13.put 8 _).put 9 _).put 10 _).put 11 _, (((hS.setCell (p := ⟨W1.heap.size, 8, none⟩) (Nat.le_refl _) _).setCell (p := ⟨W1.heap.size, 9, none⟩) (Nat.le_refl _) _).setCell (p := ⟨W1.heap.size, 10, none⟩) (Nat.le_refl _) _).setCell (p := ⟨W1.heap.size, 11, none⟩) (Nat.le_refl _) _⟩
  go_simp
  try rw [hw13]
  clear hw13 q0 q1 q2 q3 q4 q5 q6 q7 q8 q9 q10 q11 f0 f1 f2 f3 f4 f5 f6 f7 f8 f9 f10 f11
  refine hK.out _ _ ?_ (fun hN => ?_)
  · first | exact hT | exact hS | exact hS.alloc hS.size _ | exact hS.drew
  clear hK K
  try clear hT
  clear hS
  have hS := hN
  clear hN
  refine wpAnyH_done (by kernel_rfl) ?_ _
  go_simp
  have HS1' := Lib.hid hS
  clear hS
  have HM := Lib.hid hb14
  have m11 : w13.cell? ⟨W1.heap.size, 11, none⟩ = some (.slice r.y.a r.y.n r.y.c) := hb14.cell 11
  have EB := Lib.hid (bclone_any r.y.a r.y.n r.y.c r.y.l w13 (H1.out.on HS1'.out).y.b (H1.out.on HS1'.out).y.nc (H1.out.on HS1'.out).y.le)
  clear hb14
  go_wp2_with fail
  refine EB.out.mono ?_
  rintro e w15 ⟨av, cv, rfl, hcv, ho, B15⟩
  have HM15 := Lib.hid (HM.out.below B15 HM.out.lt)
  have HS15 := Lib.hid (HS1'.out.trans (B15.mono HS1'.out.size))
  have HLT := Lib.hid HM.out.lt
  have HO := Lib.hid ho
  have HCV := Lib.hid hcv
  have f11 := HM15.out.frozen 11
  have c11 : w15.cell? ⟨W1.heap.size, 11, none⟩ = some (.slice r.y.a r.y.n r.y.c) := HM15.out.cell 11
  clear m11 ho hcv B15 EB HM HS1'
  go_upto_region 6 with fail
  obtain ⟨W, hW⟩ : ∃ W, w15.setCell ⟨W1.heap.size, 11, none⟩ (.slice av r.y.n cv) = W := ⟨_, rfl⟩
  have hm : Blk W W1.heap.size 53 #[.int .i64 r.o.fr, .int .i64 r.o.a2, .int .i64 2, .int .i64 r.o.vol, .int .i64 r.o.l2, .int .u64 r.o.id, .int .i64 0, .bool true, .int .u64 r.y.key, .int .u32 r.y.ck, .bool r.y.g, .slice av r.y.n cv] := by rw [← hW]; exact HM15.out.put 11 _
  have HSW := Lib.hid (show Below W1.heap.size W1 W from by rw [← hW]; exact HS15.out.setCell (p := ⟨W1.heap.size, 11, none⟩) (Nat.le_refl _) _)
  have HOW := Lib.hid (show W.ownsRow (W1.heap.size + 1) 5 1 (.slice av r.y.n cv) r.y.n (r.y.l.map bv) from by rw [← hW]; exact row_base (row_far HO.out (grown_put (grown_refl _ _) 11 _) HLT.out) HLT.out)
  have hr : Blk W w.heap.size 53 #[.int .i64 0, .int .i64 0, .int .i64 0, .int .i64 0, .int .i64 0, .int .u64 0, .int .i64 0, .bool false, .int .u64 0, .int .u32 0, .bool false, .slice none 0 0] := HR1.out.below HSW.out HR1.out.lt
  clear HO HM15 HS15 HLT f11 c11
  rw [hW]
  clear hW
  obtain ⟨k0, k1, k2, k3, k4, k5, k6, k7, k8, k9, k10, k11⟩ := hm.twelve
  obtain ⟨f0, f1, f2, f3, f4, f5, f6, f7, f8, f9, f10, f11⟩ := hr.twelve_frozen
  obtain ⟨g0, g1, g2, g3, g4, g5, g6, g7, g8, g9, g10, g11⟩ := hr.twelve
  have HR := Lib.hid hr
  clear hm hr
  go_wp2_with fail
  have hz := HR.out.put12 (.int .i64 r.o.fr) (.int .i64 r.o.a2) (.int .i64 2) (.int .i64 r.o.vol) (.int .i64 r.o.l2) (.int .u64 r.o.id) (.int .i64 0) (.bool true) (.int .u64 r.y.key) (.int .u32 r.y.ck) (.bool r.y.g) (.slice av r.y.n cv)
  refine bodyPost_ret (v := .agg #[.int .i64 r.o.fr, .int .i64 r.o.a2, .int .i64 2, .int .i64 r.o.vol, .int .i64 r.o.l2, .int .u64 r.o.id, .int .i64 0, .bool true, .int .u64 r.y.key, .int .u32 r.y.ck, .bool r.y.g, .slice av r.y.n cv]) (req_results hz rfl) rfl ⟨av, cv, rfl, HCV.out, ?_, below_put12 (HB1.out.trans (HSW.out.mono HB1.out.size)) (Nat.le_refl _) _ _ _ _ _ _ _ _ _ _ _ _⟩
  exact row_base (row_far HOW.out (grown_put12 (grown_refl _ _) _ _ _ _ _ _ _ _ _ _ _ _) (by have := HS1.out; omega)) (by have := HS1.out; omega)
/-- The request of a run. -/
def req (r : RunR) (a : Option Addr) (c : Nat) : MsgR :=
  if r.st = 0 then ⟨r.o.fr, r.o.to (plc r), r.o.kd, r.o.vol, r.o.lf (plc r), r.o.id, 0, true, r.o.key, r.o.ck, r.o.g, a, r.o.n, c, r.o.l⟩
  else ⟨r.o.fr, r.o.to (plc r), 2, r.o.vol, r.o.lf (plc r), r.o.id, 0, true, r.y.key, r.y.ck, r.y.g, a, r.y.n, c, r.y.l⟩
theorem request_any {B : Nat} {r : RunR} (w : World) (h : RBl w B r) (h0 : 0 ≤ r.st) (h2 : r.st ≤ 2) :
    Calls Try.prog 58 #[.pointer (some ⟨B, 0, none⟩)] w fun e w' => ∃ av cv, e = .returned (req r av cv).vals ∧ BOk w' av (req r av cv).n cv (req r av cv).l ∧ w'.ownsRow w.heap.size 5 1 (.slice av (req r av cv).n cv) (req r av cv).n ((req r av cv).l.map bv) ∧ Below w.heap.size w w' := by
  by_cases hst : r.st = 0
  · have key : ∀ av cv, req r av cv = ⟨r.o.fr, r.o.to (plc r), r.o.kd, r.o.vol, r.o.lf (plc r), r.o.id, 0, true, r.o.key, r.o.ck, r.o.g, av, r.o.n, cv, r.o.l⟩ := fun av cv => by unfold req; rw [if_pos hst]
    by_cases hkd : r.o.kd = 3
    · have hp := plc_3 hkd hst
      refine (req_2_0 w h hkd hst).mono ?_
      rintro e w' ⟨av, cv, rfl, hcv, ho, B1⟩
      refine ⟨av, cv, ?_, ?_, ?_, B1⟩
      · rw [key, hp]; rfl
      · rw [key]; exact ⟨bsl_own ho, hcv, h.o.le⟩
      · rw [key]; exact ho
    · have hp : plc r = 0 := by rw [plc_n hkd, hst]
      refine (req_0_0 w h hkd hst).mono ?_
      rintro e w' ⟨av, cv, rfl, hcv, ho, B1⟩
      refine ⟨av, cv, ?_, ?_, ?_, B1⟩
      · rw [key, hp]; rfl
      · rw [key]; exact ⟨bsl_own ho, hcv, h.o.le⟩
      · rw [key]; exact ho
  · have key : ∀ av cv, req r av cv = ⟨r.o.fr, r.o.to (plc r), 2, r.o.vol, r.o.lf (plc r), r.o.id, 0, true, r.y.key, r.y.ck, r.y.g, av, r.y.n, cv, r.y.l⟩ := fun av cv => by unfold req; rw [if_neg hst]
    by_cases h1 : r.st = 1
    · have hp : plc r = 1 := by rw [plc_s hst, h1]
      refine (req_1_1 w h h1).mono ?_
      rintro e w' ⟨av, cv, rfl, hcv, ho, B1⟩
      refine ⟨av, cv, ?_, ?_, ?_, B1⟩
      · rw [key, hp]; rfl
      · rw [key]; exact ⟨bsl_own ho, hcv, h.y.le⟩
      · rw [key]; exact ho
    · have h2' : r.st = 2 := by omega
      have hp : plc r = 2 := by rw [plc_s hst, h2']
      refine (req_2_2 w h h2').mono ?_
      rintro e w' ⟨av, cv, rfl, hcv, ho, B1⟩
      refine ⟨av, cv, ?_, ?_, ?_, B1⟩
      · rw [key, hp]; rfl
      · rw [key]; exact ⟨bsl_own ho, hcv, h.y.le⟩
      · rw [key]; exact ho
end Go.Proofs.Ytboadalojimdlaa
