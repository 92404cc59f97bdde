/-
  client.Run: going, over, GiveUp, Stage, Over, Next.
-/
import Derived.Test.YtboadalojimdlaaClReq
namespace Go.Proofs.Ytboadalojimdlaa
open Go.RowKit

theorem grown_base {a w w' : World} {row : Option Nat} (h : a.grownBy w row) (hb : Below a.heap.size w w') : a.grownBy w' row :=
  ⟨hb.os.trans h.os, hb.tape.trans h.tape, hb.output.trans h.output, Nat.le_trans h.size hb.size, fun k hk hne => (hb.block k hk).trans (h.block k hk hne)⟩
theorem Blk.five {w : World} {g : Nat} {t : TypeId} {v0 v1 v2 v3 v4 : Value} (k : Blk w g t #[v0, v1, v2, v3, v4]) :
    w.cell? ⟨g, 0, none⟩ = some v0 ∧ w.cell? ⟨g, 1, none⟩ = some v1 ∧ w.cell? ⟨g, 2, none⟩ = some v2 ∧ w.cell? ⟨g, 3, none⟩ = some v3 ∧ w.cell? ⟨g, 4, none⟩ = some v4 := ⟨k.cell 0, k.cell 1, k.cell 2, k.cell 3, k.cell 4⟩
theorem Blk.five_frozen {w : World} {g : Nat} {t : TypeId} {cs : Array Value} (k : Blk w g t cs) :
    w.frozen? ⟨g, 0, none⟩ = false ∧ w.frozen? ⟨g, 1, none⟩ = false ∧ w.frozen? ⟨g, 2, none⟩ = false ∧ w.frozen? ⟨g, 3, none⟩ = false ∧ w.frozen? ⟨g, 4, none⟩ = false := ⟨k.frozen 0, k.frozen 1, k.frozen 2, k.frozen 3, k.frozen 4⟩
theorem Blk.put5 {w : World} {B : Nat} {T : TypeId} {v0 v1 v2 v3 v4 : Value} (h : Blk w B T #[v0, v1, v2, v3, v4]) (u0 u1 u2 u3 u4 : Value) :
    Blk (((((w.setCell ⟨B, 0, none⟩ u0).setCell ⟨B, 1, none⟩ u1).setCell ⟨B, 2, none⟩ u2).setCell ⟨B, 3, none⟩ u3).setCell ⟨B, 4, none⟩ u4) B T #[u0, u1, u2, u3, u4] := ((((h.put 0 u0).put 1 u1).put 2 u2).put 3 u3).put 4 u4
theorem below_put5 {w : World} {X : World} {B0 B : Nat} (h : Below B0 X w) (hB : B0 ≤ B) (u0 u1 u2 u3 u4 : Value) :
    Below B0 X (((((w.setCell ⟨B, 0, none⟩ u0).setCell ⟨B, 1, none⟩ u1).setCell ⟨B, 2, none⟩ u2).setCell ⟨B, 3, none⟩ u3).setCell ⟨B, 4, none⟩ u4) :=
  ((((h.setCell (p := ⟨B, 0, none⟩) hB u0).setCell (p := ⟨B, 1, none⟩) hB u1).setCell (p := ⟨B, 2, none⟩) hB u2).setCell (p := ⟨B, 3, none⟩) hB u3).setCell (p := ⟨B, 4, none⟩) hB u4
theorem grown_put5 {w : World} {X : World} {B : Nat} (h : X.grownBy w (some B)) (u0 u1 u2 u3 u4 : Value) :
    X.grownBy (((((w.setCell ⟨B, 0, none⟩ u0).setCell ⟨B, 1, none⟩ u1).setCell ⟨B, 2, none⟩ u2).setCell ⟨B, 3, none⟩ u3).setCell ⟨B, 4, none⟩ u4) (some B) :=
  grown_put (grown_put (grown_put (grown_put (grown_put h 0 u0) 1 u1) 2 u2) 3 u3) 4 u4

theorem going_yes {B : Nat} {r : RunR} (w : World) (h : Blk w B 113 r.cells.toArray) (h2 : r.st ≤ 2) :
    Calls Try.prog 59 #[.pointer (some ⟨B, 0, none⟩)] w fun e w' => e = .returned .nilIface ∧ w = w' := by
  obtain ⟨-, -, -, -, -, -, -, -, -, -, -, -, -, -, k14, -, -, -, -, -, -, -, -, -, -, -⟩ := run_cells h
  have hd : decide (3 ≤ r.st) = false := decide_eq_false (by omega)
  clear h h2
  go_enter Try.func59, Try.ntmps59
  go_wp2_with fail
  go_ret
  exact ⟨rfl, rfl⟩
theorem going_no {B : Nat} {r : RunR} (w : World) (h : Blk w B 113 r.cells.toArray) (h2 : r.st = 3) :
    Calls Try.prog 59 #[.pointer (some ⟨B, 0, none⟩)] w fun e w' => e = .returned (.iface 100 (.int .i64 16)) ∧ w = w' := by
  obtain ⟨-, -, -, -, -, -, -, -, -, -, -, -, -, -, k14, -, -, -, -, -, -, -, -, -, -, -⟩ := run_cells h
  rw [h2] at k14
  clear h h2
  go_enter Try.func59, Try.ntmps59
  go_wp2_with fail
  go_ret
  exact ⟨rfl, rfl⟩
theorem going_nil (w : World) :
    Calls Try.prog 59 #[.pointer none] w fun e w' => e = .returned (.iface 100 (.int .i64 15)) ∧ w = w' := by
  go_enter Try.func59, Try.ntmps59
  go_wp2_with fail
  go_ret
  exact ⟨rfl, rfl⟩
theorem stage_any {B : Nat} {r : RunR} (w : World) (h : Blk w B 113 r.cells.toArray) :
    Calls Try.prog 43 #[.pointer (some ⟨B, 0, none⟩)] w fun e w' => e = .returned (.int .i64 r.st) ∧ w = w' := by
  obtain ⟨-, -, -, -, -, -, -, -, -, -, -, -, -, -, k14, -, -, -, -, -, -, -, -, -, -, -⟩ := run_cells h
  clear h
  go_enter Try.func43, Try.ntmps43
  go_wp2_with fail
  go_ret
  exact ⟨rfl, rfl⟩
theorem stage_nil (w : World) : Calls Try.prog 43 #[.pointer none] w fun e w' => e = .returned (.int .i64 0) ∧ w = w' := by
  go_enter Try.func43, Try.ntmps43
  go_wp2_with fail
  go_ret
  exact ⟨rfl, rfl⟩

set_option maxRecDepth 100000 in
set_option maxHeartbeats 1000000 in
theorem rover_any {B : Nat} {r : RunR} (w : World) (code : Int) (z : NdC) (h : RBl w B r) (hz : BOk w z.a z.n z.c z.l) :
    Calls Try.prog 62 #[.pointer (some ⟨B, 0, none⟩), .int .i64 code, z.vals] w fun e w' => e = .returned (.tuple #[]) ∧ RBl w' B { r with st := 3, code := code, z := z } ∧ w.grownBy w' (some B) := by
  obtain ⟨W1, hW1⟩ : ∃ W, w.alloc (.cells #[.int .u64 z.key, .int .u32 z.ck, .bool z.g, .slice z.a z.n z.c] 51) = W := ⟨_, rfl⟩
  have HB1 := Lib.hid (show Below w.heap.size w W1 from by rw [← hW1]; exact (Below.refl _ _).alloc (Nat.le_refl _) _)
  have hN : Blk W1 w.heap.size 51 #[.int .u64 z.key, .int .u32 z.ck, .bool z.g, .slice z.a z.n z.c] := by rw [← hW1]; exact Blk.made w _ _
  have HK := Lib.hid (h.k.below HB1.out h.k.lt)
  have HNE := Lib.hid (show some w.heap.size ≠ some B from by intro e; injection e with e; have := h.k.lt; omega)
  have HC := Lib.hid fun (W : World) (G : W1.grownBy W (some B)) => (hN.grown G HNE.out).four
  have HH := Lib.hid h
  have HZ := Lib.hid hz
  clear h hz hN
  unfold NdC.vals
  go_enter Try.func62, Try.ntmps62
  go_upto_region 1 with fail
  try rw [hW1]
  clear hW1
  refine wp_region_held_drew (S := fun W => W1.grownBy W (some B)) (by kernel_rfl) (by exact grown_drew (grown_refl _ _)) (fun hS => ?_)
  refine wpAnyH_take (i := 0) (v := ?_) rfl (by kernel_rfl) (by kernel_rfl) (by kernel_rfl) (fun _ _ _ h => h) (Or.inl ⟨by kernel_rfl, ?_⟩) hS ?_
  rotate_left
  · intro W hW; go_simp; try with_reducible rfl
  refine wpAnyH_take (i := 1) (v := ?_) rfl (by kernel_rfl) (by kernel_rfl) (by kernel_rfl) (fun _ _ _ h => h) (Or.inl ⟨by kernel_rfl, ?_⟩) hS ?_
  rotate_left
  · intro W hW; go_simp; try with_reducible rfl
  refine wpAnyH_take (i := 2) (v := ?_) rfl (by kernel_rfl) (by kernel_rfl) (by kernel_rfl) (fun _ _ _ h => h) (Or.inl ⟨by kernel_rfl, ?_⟩) hS ?_
  rotate_left
  · intro W hW; go_simp; try with_reducible rfl
  refine wpAnyH_take (i := 3) (v := ?_) rfl (by kernel_rfl) (by kernel_rfl) (by kernel_rfl) (fun _ _ _ h => h) (Or.inl ⟨by kernel_rfl, ?_⟩) hS ?_
  rotate_left
  · intro W hW; obtain ⟨n0, n1, n2, n3⟩ := HC.out W hW; go_simp; try with_reducible rfl
  refine wpAnyH_take (i := 4) (v := ?_) rfl (by kernel_rfl) (by kernel_rfl) (by kernel_rfl) (fun _ _ _ h => h) (Or.inl ⟨by kernel_rfl, ?_⟩) hS ?_
  rotate_left
  · intro W hW; go_simp; try with_reducible rfl
  refine wpAnyH_take (i := 5) (v := ?_) rfl (by kernel_rfl) (by kernel_rfl) (by kernel_rfl) (fun _ _ _ h => h) (Or.inl ⟨by kernel_rfl, ?_⟩) hS ?_
  rotate_left
  · intro W hW; go_simp; try with_reducible rfl
  refine wpAnyH_take (i := 6) (v := ?_) rfl (by kernel_rfl) (by kernel_rfl) (by kernel_rfl) (fun _ _ _ h => h) (Or.inl ⟨by kernel_rfl, ?_⟩) hS ?_
  rotate_left
  · intro W hW; go_simp; try with_reducible rfl
  refine wpAnyH_ready (rs := [7]) (by kernel_rfl) (by simp) ?_
  go_simp
  refine AllReadyH.cons (i := 7) rfl ?_ AllReadyH.nil
  intro K hK
  have c14 : W1.drew.cell? ⟨B, 14, none⟩ = some (.int .i64 r.st) := HK.out.drew.cell 14
  have f14 := HK.out.drew.frozen 14
  obtain ⟨w2, hw2, hk2, hT⟩ : ∃ X, W1.drew.setCell ⟨B, 14, none⟩ (.int .i64 3) = X ∧ Blk X B 113 ({ r with st := 3 } : RunR).cells.toArray ∧ W1.grownBy X (some B) := ⟨_, rfl, HK.out.drew.put 14 _, grown_put hS 14 _⟩
  go_simp
  try rw [hw2]
  clear hw2 c14 f14
  refine hK.out _ _ ?_ (fun hN => ?_)
  · first | exact hT | exact hS | exact hS.alloc hS.size _ | exact hS.drew
  clear hK K
  try clear hT
  clear hS
  have hS := hN
  clear hN
  refine wpAnyH_take (i := 8) (v := ?_) rfl (by kernel_rfl) (by kernel_rfl) (by kernel_rfl) (fun _ _ _ h => h) (Or.inl ⟨by kernel_rfl, ?_⟩) hS ?_
  rotate_left
  · intro W hW; go_simp; try with_reducible rfl
  refine wpAnyH_take (i := 9) (v := ?_) rfl (by kernel_rfl) (by kernel_rfl) (by kernel_rfl) (fun _ _ _ h => h) (Or.inl ⟨by kernel_rfl, ?_⟩) hS ?_
  rotate_left
  · intro W hW; go_simp; try with_reducible rfl
  refine wpAnyH_ready (rs := [10]) (by kernel_rfl) (by simp) ?_
  go_simp
  refine AllReadyH.cons (i := 10) rfl ?_ AllReadyH.nil
  intro K hK
  obtain ⟨-, -, -, -, -, -, -, -, -, -, -, -, -, -, -, -, -, -, -, -, -, k21, k22, k23, k24, k25⟩ := run_cells hk2
  obtain ⟨-, -, -, -, -, -, -, -, -, -, -, -, -, -, -, -, -, -, -, -, -, f21, f22, f23, f24, f25⟩ := run_frozen hk2
  obtain ⟨w3, hw3, hk3, hT⟩ : ∃ X, ((((w2.setCell ⟨B, 21, none⟩ (.int .i64 code)).setCell ⟨B, 22, none⟩ (.int .u64 z.key)).setCell ⟨B, 23, none⟩ (.int .u32 z.ck)).setCell ⟨B, 24, none⟩ (.bool z.g)).setCell ⟨B, 25, none⟩ (.slice z.a z.n z.c) = X ∧ Blk X B 113 ({ r with st := 3, code := code, z := z } : RunR).cells.toArray ∧ W1.grownBy X (some B) := ⟨_, rfl, ((((hk2.put 21 _).put 22 _).put 23 _).put 24 _).put 25 _, grown_put (grown_put (grown_put (grown_put (grown_put hS 21 _) 22 _) 23 _) 24 _) 25 _⟩
  go_simp
  try rw [hw3]
  clear hw3 k21 k22 k23 k24 k25 f21 f22 f23 f24 f25
  refine hK.out _ _ ?_ (fun hN => ?_)
  · first | exact hT | exact hS | exact hS.alloc hS.size _ | exact hS.drew
  clear hK K
  try clear hT
  clear hS
  have hS := hN
  clear hN
  refine wpAnyH_done (by kernel_rfl) ?_ _
  go_simp
  have HS := Lib.hid (grown_trans (grown_of HB1.out) hS)
  have HK3 := Lib.hid hk3
  clear hS hk3
  go_wp2_with fail
  exact bodyPost_end (v := .tuple #[]) (by simp [results, Try.results62, go_sem]) rfl ⟨rfl, ⟨HK3.out, HH.out.o.apart HH.out HS.out, HH.out.y.apart HH.out HS.out, HZ.out.apart HH.out HS.out⟩, HS.out⟩

theorem giveup_yes {B : Nat} {r : RunR} (w : World) (h : RBl w B r) (h2 : r.st ≤ 2) :
    Calls Try.prog 46 #[.pointer (some ⟨B, 0, none⟩)] w fun e w' => e = .returned (errc 0) ∧ RBl w' B { r with st := 3, code := 17, z := ndN } ∧ w.grownBy w' (some B) := by
  have E := Lib.hid (rover_any w 17 ndN h (BOk.nil _ _ _))
  have EG := Lib.hid (going_yes w h.k h2)
  rw [show ndN.vals = .agg #[.int .u64 0, .int .u32 0, .bool false, .slice none 0 0] from rfl] at E
  clear h h2
  go_enter Try.func46, Try.ntmps46
  go_wp2_with fail
  refine EG.out.mono ?_
  rintro e w1 ⟨rfl, rfl⟩
  go_wp2_with fail
  refine E.out.mono ?_
  rintro e w1 ⟨rfl, hR, hG⟩
  have HR := Lib.hid hR
  have HG := Lib.hid hG
  clear hR hG
  go_wp2_with fail
  go_ret
  exact ⟨rfl, HR.out, HG.out⟩
theorem giveup_no {B : Nat} {r : RunR} (w : World) (h : Blk w B 113 r.cells.toArray) (h2 : r.st = 3) :
    Calls Try.prog 46 #[.pointer (some ⟨B, 0, none⟩)] w fun e w' => e = .returned (errc 16) ∧ w = w' := by
  have EG := Lib.hid (going_no w h h2)
  clear h h2
  go_enter Try.func46, Try.ntmps46
  go_wp2_with fail
  refine EG.out.mono ?_
  rintro e w1 ⟨rfl, rfl⟩
  go_wp2_with fail
  go_ret
  exact ⟨rfl, rfl⟩
theorem giveup_nil (w : World) : Calls Try.prog 46 #[.pointer none] w fun e w' => e = .returned (errc 15) ∧ w = w' := by
  go_enter Try.func46, Try.ntmps46
  go_wp2_with fail
  refine (going_nil w).mono ?_
  rintro e w1 ⟨rfl, rfl⟩
  go_wp2_with fail
  go_ret
  exact ⟨rfl, rfl⟩

theorem oend_results {W : World} {B : Nat} {v0 v1 v2 v3 v4 u : Value} {a : Act} (h : Blk W B 88 #[v0, v1, v2, v3, v4]) (h2 : a.tmps[2]?.getD undef = .pointer (some ⟨B, 0, none⟩)) (h3 : a.tmps[3]?.getD undef = u) :
    (results Try.f45 a.tmps).run Try.prog W = .ok (.tuple #[.agg #[v0, v1, v2, v3, v4], u]) W := by
  obtain ⟨k0, k1, k2, k3, k4⟩ := h.five
  simp [results, Try.results45, go_sem, h2, h3, k0, k1, k2, k3, k4]
theorem next_results {W : World} {B : Nat} {v0 v1 v2 v3 v4 v5 v6 v7 v8 v9 v10 v11 u : Value} {a : Act} (h : Blk W B 53 #[v0, v1, v2, v3, v4, v5, v6, v7, v8, v9, v10, v11]) (h2 : a.tmps[2]?.getD undef = .pointer (some ⟨B, 0, none⟩)) (h3 : a.tmps[3]?.getD undef = u) :
    (results Try.f40 a.tmps).run Try.prog W = .ok (.tuple #[.agg #[v0, v1, v2, v3, v4, v5, v6, v7, v8, v9, v10, v11], u]) W := by
  obtain ⟨k0, k1, k2, k3, k4, k5, k6, k7, k8, k9, k10, k11⟩ := h.twelve
  simp [results, Try.results40, go_sem, h2, h3, k0, k1, k2, k3, k4, k5, k6, k7, k8, k9, k10, k11]

theorem oend_no {B : Nat} {r : RunR} (w : World) (h : RBl w B r) (h2 : r.st ≤ 2) :
    Calls Try.prog 45 #[.pointer (some ⟨B, 0, none⟩)] w fun e w' => e = .returned (.tuple #[.agg #[.int .i64 0, .int .u64 0, .int .u32 0, .bool false, .slice none 0 0], .bool false]) ∧ Below w.heap.size w w' := by
  obtain ⟨W1, hW1⟩ : ∃ W, w.alloc (.cells #[.int .i64 0, .int .u64 0, .int .u32 0, .bool false, .slice none 0 0] 88) = W := ⟨_, rfl⟩
  have HB1 := Lib.hid (show Below w.heap.size w W1 from by rw [← hW1]; exact (Below.refl _ _).alloc (Nat.le_refl _) _)
  have hR1 : Blk W1 w.heap.size 88 #[.int .i64 0, .int .u64 0, .int .u32 0, .bool false, .slice none 0 0] := by rw [← hW1]; exact Blk.made w _ _
  have HR1 := Lib.hid hR1
  obtain ⟨-, -, -, -, -, -, -, -, -, -, -, -, -, -, k14, -, -, -, -, -, -, -, -, -, -, -⟩ := run_cells (h.k.below HB1.out h.k.lt)
  obtain ⟨q0, q1, q2, q3, q4⟩ := hR1.five
  obtain ⟨f0, f1, f2, f3, f4⟩ := hR1.five_frozen
  have hd : decide (r.st < 3) = true := decide_eq_true (by omega)
  clear h h2 hR1
  go_enter Try.func45, Try.ntmps45
  go_wp2_with fail
  have hz := HR1.out.put5 (.int .i64 0) (.int .u64 0) (.int .u32 0) (.bool false) (.slice none 0 0)
  exact bodyPost_ret (v := .tuple #[.agg #[.int .i64 0, .int .u64 0, .int .u32 0, .bool false, .slice none 0 0], .bool false]) (oend_results hz rfl rfl) rfl ⟨rfl, below_put5 HB1.out (Nat.le_refl _) _ _ _ _ _⟩
theorem oend_nil (w : World) :
    Calls Try.prog 45 #[.pointer none] w fun e w' => e = .returned (.tuple #[.agg #[.int .i64 0, .int .u64 0, .int .u32 0, .bool false, .slice none 0 0], .bool false]) ∧ Below w.heap.size w w' := by
  obtain ⟨W1, hW1⟩ : ∃ W, w.alloc (.cells #[.int .i64 0, .int .u64 0, .int .u32 0, .bool false, .slice none 0 0] 88) = W := ⟨_, rfl⟩
  have HB1 := Lib.hid (show Below w.heap.size w W1 from by rw [← hW1]; exact (Below.refl _ _).alloc (Nat.le_refl _) _)
  have hR1 : Blk W1 w.heap.size 88 #[.int .i64 0, .int .u64 0, .int .u32 0, .bool false, .slice none 0 0] := by rw [← hW1]; exact Blk.made w _ _
  have HR1 := Lib.hid hR1
  obtain ⟨q0, q1, q2, q3, q4⟩ := hR1.five
  obtain ⟨f0, f1, f2, f3, f4⟩ := hR1.five_frozen
  clear hR1
  go_enter Try.func45, Try.ntmps45
  go_wp2_with fail
  have hz := HR1.out.put5 (.int .i64 0) (.int .u64 0) (.int .u32 0) (.bool false) (.slice none 0 0)
  exact bodyPost_ret (v := .tuple #[.agg #[.int .i64 0, .int .u64 0, .int .u32 0, .bool false, .slice none 0 0], .bool false]) (oend_results hz rfl rfl) rfl ⟨rfl, below_put5 HB1.out (Nat.le_refl _) _ _ _ _ _⟩

set_option maxRecDepth 100000 in
set_option maxHeartbeats 1000000 in
theorem oend_yes {B : Nat} {r : RunR} (w : World) (h : RBl w B r) (h2 : r.st = 3) :
    Calls Try.prog 45 #[.pointer (some ⟨B, 0, none⟩)] w fun e w' => ∃ av cv, e = .returned (.tuple #[.agg #[.int .i64 r.code, .int .u64 r.z.key, .int .u32 r.z.ck, .bool r.z.g, .slice av r.z.n cv], .bool true]) ∧ Below w.heap.size w w' := by
  obtain ⟨W1, hW1⟩ : ∃ W, w.alloc (.cells #[.int .i64 0, .int .u64 0, .int .u32 0, .bool false, .slice none 0 0] 88) = W := ⟨_, rfl⟩
  have HB1 := Lib.hid (show Below w.heap.size w W1 from by rw [← hW1]; exact (Below.refl _ _).alloc (Nat.le_refl _) _)
  have HR1 := Lib.hid (show Blk W1 w.heap.size 88 #[.int .i64 0, .int .u64 0, .int .u32 0, .bool false, .slice none 0 0] from by rw [← hW1]; exact Blk.made w _ _)
  have HS1 := Lib.hid (show W1.heap.size = w.heap.size + 1 from by rw [← hW1]; simp)
  have HH := Lib.hid (h.on HB1.out)
  obtain ⟨-, -, -, -, -, -, -, -, -, -, -, -, -, -, k14, -, -, -, -, -, -, k21, k22, k23, k24, k25⟩ := run_cells HH.out.k
  rw [h2] at k14
  clear h h2
  go_enter Try.func45, Try.ntmps45
  go_upto_region 4 with fail
  try rw [hW1]
  clear hW1
  obtain ⟨w2, hw2, hE, hB2⟩ : ∃ X, W1.alloc (.cells #[.int .i64 r.code, .int .u64 r.z.key, .int .u32 r.z.ck, .bool r.z.g, .slice r.z.a r.z.n r.z.c] 88) = X ∧ Blk X W1.heap.size 88 #[.int .i64 r.code, .int .u64 r.z.key, .int .u32 r.z.ck, .bool r.z.g, .slice r.z.a r.z.n r.z.c] ∧ Below W1.heap.size W1 X := ⟨_, rfl, Blk.made _ _ _, (Below.refl _ _).alloc (Nat.le_refl _) _⟩
  rw [hw2]
  have HE := Lib.hid hE
  have HB2 := Lib.hid hB2
  have e4 : w2.cell? ⟨W1.heap.size, 4, none⟩ = some (.slice r.z.a r.z.n r.z.c) := hE.cell 4
  have EB := Lib.hid (bclone_any r.z.a r.z.n r.z.c r.z.l w2 (HH.out.on hB2).z.b (HH.out.on hB2).z.nc (HH.out.on hB2).z.le)
  clear hw2 hE hB2 k14 k21 k22 k23 k24 k25
  go_wp2_with fail
  refine EB.out.mono ?_
  rintro e w3 ⟨av, cv, rfl, hcv, ho, B3⟩
  have HE3 := Lib.hid (HE.out.below B3 HE.out.lt)
  have HB3 := Lib.hid (HB2.out.trans (B3.mono HB2.out.size))
  have e4' : w3.cell? ⟨W1.heap.size, 4, none⟩ = some (.slice r.z.a r.z.n r.z.c) := HE3.out.cell 4
  have f4' := HE3.out.frozen 4
  clear e4 EB hcv ho B3 HE HB2
  go_upto_region 5 with fail
  obtain ⟨w4, hw4, hE4, hB4⟩ : ∃ X, w3.setCell ⟨W1.heap.size, 4, none⟩ (.slice av r.z.n cv) = X ∧ Blk X W1.heap.size 88 #[.int .i64 r.code, .int .u64 r.z.key, .int .u32 r.z.ck, .bool r.z.g, .slice av r.z.n cv] ∧ Below W1.heap.size W1 X := ⟨_, rfl, HE3.out.put 4 _, HB3.out.setCell (p := ⟨W1.heap.size, 4, none⟩) (Nat.le_refl _) _⟩
  have hR4 : Blk w4 w.heap.size 88 #[.int .i64 0, .int .u64 0, .int .u32 0, .bool false, .slice none 0 0] := HR1.out.below hB4 HR1.out.lt
  have HR4 := Lib.hid hR4
  have HB4 := Lib.hid (HB1.out.trans (hB4.mono HB1.out.size))
  rw [hw4]
  obtain ⟨e0, e1, e2, e3, e4⟩ := hE4.five
  obtain ⟨q0, q1, q2, q3, q4⟩ := hR4.five
  obtain ⟨f0, f1, f2, f3, f4⟩ := hR4.five_frozen
  clear hw4 hE4 hB4 hR4 e4' f4' HE3 HB3
  go_wp2_with fail
  have hz := HR4.out.put5 (.int .i64 r.code) (.int .u64 r.z.key) (.int .u32 r.z.ck) (.bool r.z.g) (.slice av r.z.n cv)
  exact bodyPost_ret (v := .tuple #[.agg #[.int .i64 r.code, .int .u64 r.z.key, .int .u32 r.z.ck, .bool r.z.g, .slice av r.z.n cv], .bool true]) (oend_results hz rfl rfl) rfl ⟨av, cv, rfl, below_put5 HB4.out (Nat.le_refl _) _ _ _ _ _⟩

set_option maxRecDepth 100000 in
theorem next_no {B : Nat} {r : RunR} (w : World) (h : RBl w B r) (h2 : r.st = 3) :
    Calls Try.prog 40 #[.pointer (some ⟨B, 0, none⟩)] w fun e w' => e = .returned (.tuple #[.agg #[.int .i64 0, .int .i64 0, .int .i64 0, .int .i64 0, .int .i64 0, .int .u64 0, .int .i64 0, .bool false, .int .u64 0, .int .u32 0, .bool false, .slice none 0 0], errc 16]) ∧ Below w.heap.size w w' := by
  obtain ⟨W1, hW1⟩ : ∃ W, w.alloc (.cells #[.int .i64 0, .int .i64 0, .int .i64 0, .int .i64 0, .int .i64 0, .int .u64 0, .int .i64 0, .bool false, .int .u64 0, .int .u32 0, .bool false, .slice none 0 0] 53) = W := ⟨_, rfl⟩
  have HB1 := Lib.hid (show Below w.heap.size w W1 from by rw [← hW1]; exact (Below.refl _ _).alloc (Nat.le_refl _) _)
  have hR1 : Blk W1 w.heap.size 53 #[.int .i64 0, .int .i64 0, .int .i64 0, .int .i64 0, .int .i64 0, .int .u64 0, .int .i64 0, .bool false, .int .u64 0, .int .u32 0, .bool false, .slice none 0 0] := by rw [← hW1]; exact Blk.made w _ _
  have HR1 := Lib.hid hR1
  have EG := Lib.hid (going_no W1 (h.k.below HB1.out h.k.lt) h2)
  obtain ⟨q0, q1, q2, q3, q4, q5, q6, q7, q8, q9, q10, q11⟩ := hR1.twelve
  obtain ⟨f0, f1, f2, f3, f4, f5, f6, f7, f8, f9, f10, f11⟩ := hR1.twelve_frozen
  clear h h2 hR1
  go_enter Try.func40, Try.ntmps40
  go_wp2_with fail
  refine EG.out.mono ?_
  rintro e w1 ⟨rfl, rfl⟩
  go_wp2_with fail
  have hz := HR1.out.put12 (.int .i64 0) (.int .i64 0) (.int .i64 0) (.int .i64 0) (.int .i64 0) (.int .u64 0) (.int .i64 0) (.bool false) (.int .u64 0) (.int .u32 0) (.bool false) (.slice none 0 0)
  exact bodyPost_ret (v := .tuple #[.agg #[.int .i64 0, .int .i64 0, .int .i64 0, .int .i64 0, .int .i64 0, .int .u64 0, .int .i64 0, .bool false, .int .u64 0, .int .u32 0, .bool false, .slice none 0 0], .iface 100 (.int .i64 16)]) (next_results hz rfl rfl) rfl ⟨rfl, below_put12 HB1.out (Nat.le_refl _) _ _ _ _ _ _ _ _ _ _ _ _⟩
set_option maxRecDepth 100000 in
theorem next_nil (w : World) :
    Calls Try.prog 40 #[.pointer none] w fun e w' => e = .returned (.tuple #[.agg #[.int .i64 0, .int .i64 0, .int .i64 0, .int .i64 0, .int .i64 0, .int .u64 0, .int .i64 0, .bool false, .int .u64 0, .int .u32 0, .bool false, .slice none 0 0], errc 15]) ∧ Below w.heap.size w w' := by
  obtain ⟨W1, hW1⟩ : ∃ W, w.alloc (.cells #[.int .i64 0, .int .i64 0, .int .i64 0, .int .i64 0, .int .i64 0, .int .u64 0, .int .i64 0, .bool false, .int .u64 0, .int .u32 0, .bool false, .slice none 0 0] 53) = W := ⟨_, rfl⟩
  have HB1 := Lib.hid (show Below w.heap.size w W1 from by rw [← hW1]; exact (Below.refl _ _).alloc (Nat.le_refl _) _)
  have hR1 : Blk W1 w.heap.size 53 #[.int .i64 0, .int .i64 0, .int .i64 0, .int .i64 0, .int .i64 0, .int .u64 0, .int .i64 0, .bool false, .int .u64 0, .int .u32 0, .bool false, .slice none 0 0] := by rw [← hW1]; exact Blk.made w _ _
  have HR1 := Lib.hid hR1
  obtain ⟨q0, q1, q2, q3, q4, q5, q6, q7, q8, q9, q10, q11⟩ := hR1.twelve
  obtain ⟨f0, f1, f2, f3, f4, f5, f6, f7, f8, f9, f10, f11⟩ := hR1.twelve_frozen
  clear hR1
  go_enter Try.func40, Try.ntmps40
  go_wp2_with fail
  refine (going_nil _).mono ?_
  rintro e w1 ⟨rfl, rfl⟩
  go_wp2_with fail
  have hz := HR1.out.put12 (.int .i64 0) (.int .i64 0) (.int .i64 0) (.int .i64 0) (.int .i64 0) (.int .u64 0) (.int .i64 0) (.bool false) (.int .u64 0) (.int .u32 0) (.bool false) (.slice none 0 0)
  exact bodyPost_ret (v := .tuple #[.agg #[.int .i64 0, .int .i64 0, .int .i64 0, .int .i64 0, .int .i64 0, .int .u64 0, .int .i64 0, .bool false, .int .u64 0, .int .u32 0, .bool false, .slice none 0 0], .iface 100 (.int .i64 15)]) (next_results hz rfl rfl) rfl ⟨rfl, below_put12 HB1.out (Nat.le_refl _) _ _ _ _ _ _ _ _ _ _ _ _⟩

set_option maxRecDepth 100000 in
set_option maxHeartbeats 2000000 in
theorem next_yes {B : Nat} {r : RunR} (w : World) (h : RBl w B r) (h0 : 0 ≤ r.st) (h2 : r.st ≤ 2) :
    Calls Try.prog 40 #[.pointer (some ⟨B, 0, none⟩)] w fun e w' => ∃ av cv, e = .returned (.tuple #[(req r av cv).vals, errc 0]) ∧ BOk w' av (req r av cv).n cv (req r av cv).l ∧ RBl w' B { r with told := true } ∧ w.grownBy w' (some B) := by
  obtain ⟨W1, hW1⟩ : ∃ W, w.alloc (.cells #[.int .i64 0, .int .i64 0, .int .i64 0, .int .i64 0, .int .i64 0, .int .u64 0, .int .i64 0, .bool false, .int .u64 0, .int .u32 0, .bool false, .slice none 0 0] 53) = W := ⟨_, rfl⟩
  have HB1 := Lib.hid (show Below w.heap.size w W1 from by rw [← hW1]; exact (Below.refl _ _).alloc (Nat.le_refl _) _)
  have HR1 := Lib.hid (show Blk W1 w.heap.size 53 #[.int .i64 0, .int .i64 0, .int .i64 0, .int .i64 0, .int .i64 0, .int .u64 0, .int .i64 0, .bool false, .int .u64 0, .int .u32 0, .bool false, .slice none 0 0] from by rw [← hW1]; exact Blk.made w _ _)
  have HS1 := Lib.hid (show W1.heap.size = w.heap.size + 1 from by rw [← hW1]; simp)
  have HH := Lib.hid h
  have HL := Lib.hid h.k.lt
  have HK1 := Lib.hid (h.k.below HB1.out h.k.lt)
  have EG := Lib.hid (going_yes W1 HK1.out h2)
  have H0 := Lib.hid h0
  have H2 := Lib.hid h2
  have c15 : W1.cell? ⟨B, 15, none⟩ = some (.bool r.told) := HK1.out.cell 15
  have f15 := HK1.out.frozen 15
  clear h h0 h2
  go_enter Try.func40, Try.ntmps40
  go_wp2_with fail
  refine EG.out.mono ?_
  rintro e w1 ⟨rfl, rfl⟩
  go_upto_region 5 with fail
  clear hW1
  obtain ⟨w2, hw2, hk2, hg2⟩ : ∃ X, W1.setCell ⟨B, 15, none⟩ (.bool true) = X ∧ Blk X B 113 ({ r with told := true } : RunR).cells.toArray ∧ W1.grownBy X (some B) := ⟨_, rfl, HK1.out.put 15 _, grown_put (grown_refl _ _) 15 _⟩
  have HG2 := Lib.hid (grown_trans (grown_of HB1.out) hg2)
  have HR2 := Lib.hid (HR1.out.grown hg2 (by intro e; injection e with e; have := HL.out; omega))
  have HRB2 := Lib.hid (show RBl w2 B { r with told := true } from ⟨hk2, HH.out.o.apart HH.out HG2.out, HH.out.y.apart HH.out HG2.out, HH.out.z.apart HH.out HG2.out⟩)
  have HS2 := Lib.hid (show w.heap.size < w2.heap.size from by have := hg2.size; have := HS1.out; omega)
  have ER := Lib.hid (request_any w2 HRB2.out H0.out H2.out)
  rw [hw2]
  clear hw2 hk2 hg2 c15 f15
  go_wp2_with fail
  refine ER.out.mono ?_
  rintro e w3 ⟨av, cv, rfl, hbo, ho, B3⟩
  have hR3 := HR2.out.below B3 HR2.out.lt
  have hm := (show req ({ r with told := true } : RunR) av cv = req r av cv from rfl)
  rw [hm] at hbo ho ⊢
  have HBO := Lib.hid hbo
  have HO := Lib.hid ho
  have HR3 := Lib.hid hR3
  have HK3 := Lib.hid (HRB2.out.k.below B3 HRB2.out.k.lt)
  have HG3 := Lib.hid (grown_on HG2.out B3)
  clear hbo ho B3 ER hm
  obtain ⟨m, hm⟩ : ∃ m, req r av cv = m := ⟨_, rfl⟩
  have HM := Lib.hid hm
  rw [hm] at HBO HO ⊢
  clear hm
  unfold MsgR.vals
  obtain ⟨q0, q1, q2, q3, q4, q5, q6, q7, q8, q9, q10, q11⟩ := hR3.twelve
  obtain ⟨f0, f1, f2, f3, f4, f5, f6, f7, f8, f9, f10, f11⟩ := hR3.twelve_frozen
  clear hR3
  go_wp2_with fail
  have hz := HR3.out.put12 (.int .i64 m.fr) (.int .i64 m.tt) (.int .i64 m.kd) (.int .i64 m.vol) (.int .i64 m.life) (.int .u64 m.id) (.int .i64 m.cd) (.bool m.has) (.int .u64 m.key) (.int .u32 m.ck) (.bool m.g) (.slice m.a m.n m.c)
  have hb4 := below_put12 (B0 := w.heap.size) (Below.refl w.heap.size w3) (Nat.le_refl w.heap.size) (.int .i64 m.fr) (.int .i64 m.tt) (.int .i64 m.kd) (.int .i64 m.vol) (.int .i64 m.life) (.int .u64 m.id) (.int .i64 m.cd) (.bool m.has) (.int .u64 m.key) (.int .u32 m.ck) (.bool m.g) (.slice m.a m.n m.c)
  have hg4 := grown_base HG3.out hb4
  have ho4 := row_far HO.out (grown_put12 (grown_refl w3 (some w.heap.size)) (.int .i64 m.fr) (.int .i64 m.tt) (.int .i64 m.kd) (.int .i64 m.vol) (.int .i64 m.life) (.int .u64 m.id) (.int .i64 m.cd) (.bool m.has) (.int .u64 m.key) (.int .u32 m.ck) (.bool m.g) (.slice m.a m.n m.c)) HS2.out
  exact bodyPost_ret (v := .tuple #[.agg #[.int .i64 m.fr, .int .i64 m.tt, .int .i64 m.kd, .int .i64 m.vol, .int .i64 m.life, .int .u64 m.id, .int .i64 m.cd, .bool m.has, .int .u64 m.key, .int .u32 m.ck, .bool m.g, .slice m.a m.n m.c], .nilIface]) (next_results hz rfl rfl) rfl ⟨av, cv, by rw [HM.out]; rfl, by rw [HM.out]; exact ⟨bsl_own ho4, HBO.out.nc, HBO.out.le⟩, ⟨HK3.out.below hb4 HL.out, HH.out.o.apart HH.out hg4, HH.out.y.apart HH.out hg4, HH.out.z.apart HH.out hg4⟩, hg4⟩
end Go.Proofs.Ytboadalojimdlaa
