/-
  The document's Right (client).
-/
import Derived.Test.YtboadalojimdlaaClNew
namespace Go.Proofs.Ytboadalojimdlaa
open Go.RowKit
set_option linter.unusedVariables false

theorem op14 {w : World} {B : Nat} {T : TypeId} {v0 v1 v2 v3 v4 v5 v6 v7 v8 v9 v10 v11 v12 v13 : Value} (h : Blk w B T #[v0, v1, v2, v3, v4, v5, v6, v7, v8, v9, v10, v11, v12, v13]) :
    w.cell? ⟨B, 0, none⟩ = some v0 ∧ w.cell? ⟨B, 1, none⟩ = some v1 ∧ w.cell? ⟨B, 2, none⟩ = some v2 ∧ w.cell? ⟨B, 3, none⟩ = some v3 ∧ w.cell? ⟨B, 4, none⟩ = some v4 ∧ w.cell? ⟨B, 5, none⟩ = some v5 ∧ w.cell? ⟨B, 6, none⟩ = some v6 ∧ w.cell? ⟨B, 7, none⟩ = some v7 ∧ w.cell? ⟨B, 8, none⟩ = some v8 ∧ w.cell? ⟨B, 9, none⟩ = some v9 ∧ w.cell? ⟨B, 10, none⟩ = some v10 ∧ w.cell? ⟨B, 11, none⟩ = some v11 ∧ w.cell? ⟨B, 12, none⟩ = some v12 ∧ w.cell? ⟨B, 13, none⟩ = some v13 :=
  ⟨h.cell 0, h.cell 1, h.cell 2, h.cell 3, h.cell 4, h.cell 5, h.cell 6, h.cell 7, h.cell 8, h.cell 9, h.cell 10, h.cell 11, h.cell 12, h.cell 13⟩
set_option maxRecDepth 100000 in
set_option maxHeartbeats 2000000 in
theorem right_kd (kd : Int) (g : Bool) (n : Nat) (fr vol a0 a1 a2 : Int) (id : Nat) (l0 l1 l2 : Int) (key ck : Nat) (a : Option Addr) (c : Nat) (l : List (BitVec 8)) (w : World) (h1 : kd ≠ 1) (h3 : kd ≠ 3) (h4 : kd ≠ 4) :
    Calls Try.prog 37 #[.agg #[.int .i64 kd, .int .i64 fr, .int .i64 vol, .int .i64 a0, .int .i64 a1, .int .i64 a2, .int .u64 id, .int .i64 l0, .int .i64 l1, .int .i64 l2, .int .u64 key, .int .u32 ck, .bool g, .slice a n c]] w fun e w' => e = .returned (.bool false) ∧ Below w.heap.size w w' := by
  obtain ⟨W1, hW1⟩ : ∃ W, w.alloc (.cells #[.int .i64 kd, .int .i64 fr, .int .i64 vol, .int .i64 a0, .int .i64 a1, .int .i64 a2, .int .u64 id, .int .i64 l0, .int .i64 l1, .int .i64 l2, .int .u64 key, .int .u32 ck, .bool g, .slice a n c] 75) = W := ⟨_, rfl⟩
  have HB1 := Lib.hid (show Below w.heap.size w W1 from by rw [← hW1]; exact (Below.refl _ _).alloc (Nat.le_refl _) _)
  have hO : Blk W1 w.heap.size 75 #[.int .i64 kd, .int .i64 fr, .int .i64 vol, .int .i64 a0, .int .i64 a1, .int .i64 a2, .int .u64 id, .int .i64 l0, .int .i64 l1, .int .i64 l2, .int .u64 key, .int .u32 ck, .bool g, .slice a n c] := by rw [← hW1]; exact Blk.made w _ _
  have HO := Lib.hid hO
  obtain ⟨k0, k1, k2, k3, k4, k5, k6, k7, k8, k9, k10, k11, k12, k13⟩ := op14 hO
  clear hO
  have b1 : (kd != 1) = true := ne_t h1
  have b3 : (kd != 3) = true := ne_t h3
  have b4 : (kd != 4) = true := ne_t h4
  clear h1 h3 h4
  go_enter Try.func37, Try.ntmps37
  go_wp2_with fail
  go_ret
  exact ⟨rfl, HB1.out⟩
set_option maxRecDepth 100000 in
set_option maxHeartbeats 2000000 in
theorem right_g1 (n : Nat) (fr vol a0 a1 a2 : Int) (id : Nat) (l0 l1 l2 : Int) (key ck : Nat) (a : Option Addr) (c : Nat) (l : List (BitVec 8)) (w : World)  :
    Calls Try.prog 37 #[.agg #[.int .i64 1, .int .i64 fr, .int .i64 vol, .int .i64 a0, .int .i64 a1, .int .i64 a2, .int .u64 id, .int .i64 l0, .int .i64 l1, .int .i64 l2, .int .u64 key, .int .u32 ck, .bool true, .slice a n c]] w fun e w' => e = .returned (.bool false) ∧ Below w.heap.size w w' := by
  obtain ⟨W1, hW1⟩ : ∃ W, w.alloc (.cells #[.int .i64 1, .int .i64 fr, .int .i64 vol, .int .i64 a0, .int .i64 a1, .int .i64 a2, .int .u64 id, .int .i64 l0, .int .i64 l1, .int .i64 l2, .int .u64 key, .int .u32 ck, .bool true, .slice a n c] 75) = W := ⟨_, rfl⟩
  have HB1 := Lib.hid (show Below w.heap.size w W1 from by rw [← hW1]; exact (Below.refl _ _).alloc (Nat.le_refl _) _)
  have hO : Blk W1 w.heap.size 75 #[.int .i64 1, .int .i64 fr, .int .i64 vol, .int .i64 a0, .int .i64 a1, .int .i64 a2, .int .u64 id, .int .i64 l0, .int .i64 l1, .int .i64 l2, .int .u64 key, .int .u32 ck, .bool true, .slice a n c] := by rw [← hW1]; exact Blk.made w _ _
  have HO := Lib.hid hO
  obtain ⟨k0, k1, k2, k3, k4, k5, k6, k7, k8, k9, k10, k11, k12, k13⟩ := op14 hO
  clear hO
  go_enter Try.func37, Try.ntmps37
  go_wp2_with fail
  go_ret
  exact ⟨rfl, HB1.out⟩
set_option maxRecDepth 100000 in
set_option maxHeartbeats 2000000 in
theorem right_g3 (n : Nat) (fr vol a0 a1 a2 : Int) (id : Nat) (l0 l1 l2 : Int) (key ck : Nat) (a : Option Addr) (c : Nat) (l : List (BitVec 8)) (w : World)  :
    Calls Try.prog 37 #[.agg #[.int .i64 3, .int .i64 fr, .int .i64 vol, .int .i64 a0, .int .i64 a1, .int .i64 a2, .int .u64 id, .int .i64 l0, .int .i64 l1, .int .i64 l2, .int .u64 key, .int .u32 ck, .bool true, .slice a n c]] w fun e w' => e = .returned (.bool false) ∧ Below w.heap.size w w' := by
  obtain ⟨W1, hW1⟩ : ∃ W, w.alloc (.cells #[.int .i64 3, .int .i64 fr, .int .i64 vol, .int .i64 a0, .int .i64 a1, .int .i64 a2, .int .u64 id, .int .i64 l0, .int .i64 l1, .int .i64 l2, .int .u64 key, .int .u32 ck, .bool true, .slice a n c] 75) = W := ⟨_, rfl⟩
  have HB1 := Lib.hid (show Below w.heap.size w W1 from by rw [← hW1]; exact (Below.refl _ _).alloc (Nat.le_refl _) _)
  have hO : Blk W1 w.heap.size 75 #[.int .i64 3, .int .i64 fr, .int .i64 vol, .int .i64 a0, .int .i64 a1, .int .i64 a2, .int .u64 id, .int .i64 l0, .int .i64 l1, .int .i64 l2, .int .u64 key, .int .u32 ck, .bool true, .slice a n c] := by rw [← hW1]; exact Blk.made w _ _
  have HO := Lib.hid hO
  obtain ⟨k0, k1, k2, k3, k4, k5, k6, k7, k8, k9, k10, k11, k12, k13⟩ := op14 hO
  clear hO
  go_enter Try.func37, Try.ntmps37
  go_wp2_with fail
  go_ret
  exact ⟨rfl, HB1.out⟩
set_option maxRecDepth 100000 in
set_option maxHeartbeats 2000000 in
theorem right_g4 (n : Nat) (fr vol a0 a1 a2 : Int) (id : Nat) (l0 l1 l2 : Int) (key ck : Nat) (a : Option Addr) (c : Nat) (l : List (BitVec 8)) (w : World)  :
    Calls Try.prog 37 #[.agg #[.int .i64 4, .int .i64 fr, .int .i64 vol, .int .i64 a0, .int .i64 a1, .int .i64 a2, .int .u64 id, .int .i64 l0, .int .i64 l1, .int .i64 l2, .int .u64 key, .int .u32 ck, .bool true, .slice a n c]] w fun e w' => e = .returned (.bool false) ∧ Below w.heap.size w w' := by
  obtain ⟨W1, hW1⟩ : ∃ W, w.alloc (.cells #[.int .i64 4, .int .i64 fr, .int .i64 vol, .int .i64 a0, .int .i64 a1, .int .i64 a2, .int .u64 id, .int .i64 l0, .int .i64 l1, .int .i64 l2, .int .u64 key, .int .u32 ck, .bool true, .slice a n c] 75) = W := ⟨_, rfl⟩
  have HB1 := Lib.hid (show Below w.heap.size w W1 from by rw [← hW1]; exact (Below.refl _ _).alloc (Nat.le_refl _) _)
  have hO : Blk W1 w.heap.size 75 #[.int .i64 4, .int .i64 fr, .int .i64 vol, .int .i64 a0, .int .i64 a1, .int .i64 a2, .int .u64 id, .int .i64 l0, .int .i64 l1, .int .i64 l2, .int .u64 key, .int .u32 ck, .bool true, .slice a n c] := by rw [← hW1]; exact Blk.made w _ _
  have HO := Lib.hid hO
  obtain ⟨k0, k1, k2, k3, k4, k5, k6, k7, k8, k9, k10, k11, k12, k13⟩ := op14 hO
  clear hO
  go_enter Try.func37, Try.ntmps37
  go_wp2_with fail
  go_ret
  exact ⟨rfl, HB1.out⟩
set_option maxRecDepth 100000 in
set_option maxHeartbeats 2000000 in
theorem right_n3 (n : Nat) (fr vol a0 a1 a2 : Int) (id : Nat) (l0 l1 l2 : Int) (key ck : Nat) (a : Option Addr) (c : Nat) (l : List (BitVec 8)) (w : World) (h : 0 < n) :
    Calls Try.prog 37 #[.agg #[.int .i64 3, .int .i64 fr, .int .i64 vol, .int .i64 a0, .int .i64 a1, .int .i64 a2, .int .u64 id, .int .i64 l0, .int .i64 l1, .int .i64 l2, .int .u64 key, .int .u32 ck, .bool false, .slice a n c]] w fun e w' => e = .returned (.bool false) ∧ Below w.heap.size w w' := by
  obtain ⟨W1, hW1⟩ : ∃ W, w.alloc (.cells #[.int .i64 3, .int .i64 fr, .int .i64 vol, .int .i64 a0, .int .i64 a1, .int .i64 a2, .int .u64 id, .int .i64 l0, .int .i64 l1, .int .i64 l2, .int .u64 key, .int .u32 ck, .bool false, .slice a n c] 75) = W := ⟨_, rfl⟩
  have HB1 := Lib.hid (show Below w.heap.size w W1 from by rw [← hW1]; exact (Below.refl _ _).alloc (Nat.le_refl _) _)
  have hO : Blk W1 w.heap.size 75 #[.int .i64 3, .int .i64 fr, .int .i64 vol, .int .i64 a0, .int .i64 a1, .int .i64 a2, .int .u64 id, .int .i64 l0, .int .i64 l1, .int .i64 l2, .int .u64 key, .int .u32 ck, .bool false, .slice a n c] := by rw [← hW1]; exact Blk.made w _ _
  have HO := Lib.hid hO
  obtain ⟨k0, k1, k2, k3, k4, k5, k6, k7, k8, k9, k10, k11, k12, k13⟩ := op14 hO
  clear hO
  have hd : decide (0 < (n : Int)) = true := decide_eq_true (by omega)
  have hd2 : decide (0 < n) = true := decide_eq_true h
  go_enter Try.func37, Try.ntmps37
  go_wp2_with fail
  go_ret
  exact ⟨rfl, HB1.out⟩
set_option maxRecDepth 100000 in
set_option maxHeartbeats 2000000 in
theorem right_n4 (n : Nat) (fr vol a0 a1 a2 : Int) (id : Nat) (l0 l1 l2 : Int) (key ck : Nat) (a : Option Addr) (c : Nat) (l : List (BitVec 8)) (w : World) (h : 0 < n) :
    Calls Try.prog 37 #[.agg #[.int .i64 4, .int .i64 fr, .int .i64 vol, .int .i64 a0, .int .i64 a1, .int .i64 a2, .int .u64 id, .int .i64 l0, .int .i64 l1, .int .i64 l2, .int .u64 key, .int .u32 ck, .bool false, .slice a n c]] w fun e w' => e = .returned (.bool false) ∧ Below w.heap.size w w' := by
  obtain ⟨W1, hW1⟩ : ∃ W, w.alloc (.cells #[.int .i64 4, .int .i64 fr, .int .i64 vol, .int .i64 a0, .int .i64 a1, .int .i64 a2, .int .u64 id, .int .i64 l0, .int .i64 l1, .int .i64 l2, .int .u64 key, .int .u32 ck, .bool false, .slice a n c] 75) = W := ⟨_, rfl⟩
  have HB1 := Lib.hid (show Below w.heap.size w W1 from by rw [← hW1]; exact (Below.refl _ _).alloc (Nat.le_refl _) _)
  have hO : Blk W1 w.heap.size 75 #[.int .i64 4, .int .i64 fr, .int .i64 vol, .int .i64 a0, .int .i64 a1, .int .i64 a2, .int .u64 id, .int .i64 l0, .int .i64 l1, .int .i64 l2, .int .u64 key, .int .u32 ck, .bool false, .slice a n c] := by rw [← hW1]; exact Blk.made w _ _
  have HO := Lib.hid hO
  obtain ⟨k0, k1, k2, k3, k4, k5, k6, k7, k8, k9, k10, k11, k12, k13⟩ := op14 hO
  clear hO
  have hd : decide (0 < (n : Int)) = true := decide_eq_true (by omega)
  have hd2 : decide (0 < n) = true := decide_eq_true h
  go_enter Try.func37, Try.ntmps37
  go_wp2_with fail
  go_ret
  exact ⟨rfl, HB1.out⟩
set_option maxRecDepth 100000 in
set_option maxHeartbeats 2000000 in
theorem right_a1 (n : Nat) (fr vol a0 a1 a2 : Int) (id : Nat) (l0 l1 l2 : Int) (key ck : Nat) (a : Option Addr) (c : Nat) (l : List (BitVec 8)) (w : World) (h : a0 = a1) :
    Calls Try.prog 37 #[.agg #[.int .i64 1, .int .i64 fr, .int .i64 vol, .int .i64 a0, .int .i64 a1, .int .i64 a2, .int .u64 id, .int .i64 l0, .int .i64 l1, .int .i64 l2, .int .u64 key, .int .u32 ck, .bool false, .slice a n c]] w fun e w' => e = .returned (.bool false) ∧ Below w.heap.size w w' := by
  obtain ⟨W1, hW1⟩ : ∃ W, w.alloc (.cells #[.int .i64 1, .int .i64 fr, .int .i64 vol, .int .i64 a0, .int .i64 a1, .int .i64 a2, .int .u64 id, .int .i64 l0, .int .i64 l1, .int .i64 l2, .int .u64 key, .int .u32 ck, .bool false, .slice a n c] 75) = W := ⟨_, rfl⟩
  have HB1 := Lib.hid (show Below w.heap.size w W1 from by rw [← hW1]; exact (Below.refl _ _).alloc (Nat.le_refl _) _)
  have hO : Blk W1 w.heap.size 75 #[.int .i64 1, .int .i64 fr, .int .i64 vol, .int .i64 a0, .int .i64 a1, .int .i64 a2, .int .u64 id, .int .i64 l0, .int .i64 l1, .int .i64 l2, .int .u64 key, .int .u32 ck, .bool false, .slice a n c] := by rw [← hW1]; exact Blk.made w _ _
  have HO := Lib.hid hO
  obtain ⟨k0, k1, k2, k3, k4, k5, k6, k7, k8, k9, k10, k11, k12, k13⟩ := op14 hO
  clear hO
  have b01 : (a0 == a1) = true := eq_t h
  clear h
  go_enter Try.func37, Try.ntmps37
  go_wp2_with fail
  go_ret
  exact ⟨rfl, HB1.out⟩
set_option maxRecDepth 100000 in
set_option maxHeartbeats 2000000 in
theorem right_b1 (n : Nat) (fr vol a0 a1 a2 : Int) (id : Nat) (l0 l1 l2 : Int) (key ck : Nat) (a : Option Addr) (c : Nat) (l : List (BitVec 8)) (w : World) (h : a0 ≠ a1) (h2 : a1 = a2) :
    Calls Try.prog 37 #[.agg #[.int .i64 1, .int .i64 fr, .int .i64 vol, .int .i64 a0, .int .i64 a1, .int .i64 a2, .int .u64 id, .int .i64 l0, .int .i64 l1, .int .i64 l2, .int .u64 key, .int .u32 ck, .bool false, .slice a n c]] w fun e w' => e = .returned (.bool false) ∧ Below w.heap.size w w' := by
  obtain ⟨W1, hW1⟩ : ∃ W, w.alloc (.cells #[.int .i64 1, .int .i64 fr, .int .i64 vol, .int .i64 a0, .int .i64 a1, .int .i64 a2, .int .u64 id, .int .i64 l0, .int .i64 l1, .int .i64 l2, .int .u64 key, .int .u32 ck, .bool false, .slice a n c] 75) = W := ⟨_, rfl⟩
  have HB1 := Lib.hid (show Below w.heap.size w W1 from by rw [← hW1]; exact (Below.refl _ _).alloc (Nat.le_refl _) _)
  have hO : Blk W1 w.heap.size 75 #[.int .i64 1, .int .i64 fr, .int .i64 vol, .int .i64 a0, .int .i64 a1, .int .i64 a2, .int .u64 id, .int .i64 l0, .int .i64 l1, .int .i64 l2, .int .u64 key, .int .u32 ck, .bool false, .slice a n c] := by rw [← hW1]; exact Blk.made w _ _
  have HO := Lib.hid hO
  obtain ⟨k0, k1, k2, k3, k4, k5, k6, k7, k8, k9, k10, k11, k12, k13⟩ := op14 hO
  clear hO
  have b01 : (a0 == a1) = false := eq_f h
  have b12 : (a1 == a2) = true := eq_t h2
  clear h h2
  go_enter Try.func37, Try.ntmps37
  go_wp2_with fail
  go_ret
  exact ⟨rfl, HB1.out⟩
set_option maxRecDepth 100000 in
set_option maxHeartbeats 2000000 in
theorem right_c1 (n : Nat) (fr vol a0 a1 a2 : Int) (id : Nat) (l0 l1 l2 : Int) (key ck : Nat) (a : Option Addr) (c : Nat) (l : List (BitVec 8)) (w : World) (h : a0 ≠ a1) (h2 : a1 ≠ a2) (h3 : a0 = a2) :
    Calls Try.prog 37 #[.agg #[.int .i64 1, .int .i64 fr, .int .i64 vol, .int .i64 a0, .int .i64 a1, .int .i64 a2, .int .u64 id, .int .i64 l0, .int .i64 l1, .int .i64 l2, .int .u64 key, .int .u32 ck, .bool false, .slice a n c]] w fun e w' => e = .returned (.bool false) ∧ Below w.heap.size w w' := by
  obtain ⟨W1, hW1⟩ : ∃ W, w.alloc (.cells #[.int .i64 1, .int .i64 fr, .int .i64 vol, .int .i64 a0, .int .i64 a1, .int .i64 a2, .int .u64 id, .int .i64 l0, .int .i64 l1, .int .i64 l2, .int .u64 key, .int .u32 ck, .bool false, .slice a n c] 75) = W := ⟨_, rfl⟩
  have HB1 := Lib.hid (show Below w.heap.size w W1 from by rw [← hW1]; exact (Below.refl _ _).alloc (Nat.le_refl _) _)
  have hO : Blk W1 w.heap.size 75 #[.int .i64 1, .int .i64 fr, .int .i64 vol, .int .i64 a0, .int .i64 a1, .int .i64 a2, .int .u64 id, .int .i64 l0, .int .i64 l1, .int .i64 l2, .int .u64 key, .int .u32 ck, .bool false, .slice a n c] := by rw [← hW1]; exact Blk.made w _ _
  have HO := Lib.hid hO
  obtain ⟨k0, k1, k2, k3, k4, k5, k6, k7, k8, k9, k10, k11, k12, k13⟩ := op14 hO
  clear hO
  have b01 : (a0 == a1) = false := eq_f h
  have b12 : (a1 == a2) = false := eq_f h2
  have b02 : (a0 == a2) = true := eq_t h3
  clear h h2 h3
  go_enter Try.func37, Try.ntmps37
  go_wp2_with fail
  go_ret
  exact ⟨rfl, HB1.out⟩
set_option maxRecDepth 100000 in
set_option maxHeartbeats 2000000 in
theorem right_a3 (fr vol a0 a1 a2 : Int) (id : Nat) (l0 l1 l2 : Int) (key ck : Nat) (a : Option Addr) (c : Nat) (l : List (BitVec 8)) (w : World) (h : a0 = a1) :
    Calls Try.prog 37 #[.agg #[.int .i64 3, .int .i64 fr, .int .i64 vol, .int .i64 a0, .int .i64 a1, .int .i64 a2, .int .u64 id, .int .i64 l0, .int .i64 l1, .int .i64 l2, .int .u64 key, .int .u32 ck, .bool false, .slice a 0 c]] w fun e w' => e = .returned (.bool false) ∧ Below w.heap.size w w' := by
  obtain ⟨W1, hW1⟩ : ∃ W, w.alloc (.cells #[.int .i64 3, .int .i64 fr, .int .i64 vol, .int .i64 a0, .int .i64 a1, .int .i64 a2, .int .u64 id, .int .i64 l0, .int .i64 l1, .int .i64 l2, .int .u64 key, .int .u32 ck, .bool false, .slice a 0 c] 75) = W := ⟨_, rfl⟩
  have HB1 := Lib.hid (show Below w.heap.size w W1 from by rw [← hW1]; exact (Below.refl _ _).alloc (Nat.le_refl _) _)
  have hO : Blk W1 w.heap.size 75 #[.int .i64 3, .int .i64 fr, .int .i64 vol, .int .i64 a0, .int .i64 a1, .int .i64 a2, .int .u64 id, .int .i64 l0, .int .i64 l1, .int .i64 l2, .int .u64 key, .int .u32 ck, .bool false, .slice a 0 c] := by rw [← hW1]; exact Blk.made w _ _
  have HO := Lib.hid hO
  obtain ⟨k0, k1, k2, k3, k4, k5, k6, k7, k8, k9, k10, k11, k12, k13⟩ := op14 hO
  clear hO
  have b01 : (a0 == a1) = true := eq_t h
  clear h
  go_enter Try.func37, Try.ntmps37
  go_wp2_with fail
  go_ret
  exact ⟨rfl, HB1.out⟩
set_option maxRecDepth 100000 in
set_option maxHeartbeats 2000000 in
theorem right_b3 (fr vol a0 a1 a2 : Int) (id : Nat) (l0 l1 l2 : Int) (key ck : Nat) (a : Option Addr) (c : Nat) (l : List (BitVec 8)) (w : World) (h : a0 ≠ a1) (h2 : a1 = a2) :
    Calls Try.prog 37 #[.agg #[.int .i64 3, .int .i64 fr, .int .i64 vol, .int .i64 a0, .int .i64 a1, .int .i64 a2, .int .u64 id, .int .i64 l0, .int .i64 l1, .int .i64 l2, .int .u64 key, .int .u32 ck, .bool false, .slice a 0 c]] w fun e w' => e = .returned (.bool false) ∧ Below w.heap.size w w' := by
  obtain ⟨W1, hW1⟩ : ∃ W, w.alloc (.cells #[.int .i64 3, .int .i64 fr, .int .i64 vol, .int .i64 a0, .int .i64 a1, .int .i64 a2, .int .u64 id, .int .i64 l0, .int .i64 l1, .int .i64 l2, .int .u64 key, .int .u32 ck, .bool false, .slice a 0 c] 75) = W := ⟨_, rfl⟩
  have HB1 := Lib.hid (show Below w.heap.size w W1 from by rw [← hW1]; exact (Below.refl _ _).alloc (Nat.le_refl _) _)
  have hO : Blk W1 w.heap.size 75 #[.int .i64 3, .int .i64 fr, .int .i64 vol, .int .i64 a0, .int .i64 a1, .int .i64 a2, .int .u64 id, .int .i64 l0, .int .i64 l1, .int .i64 l2, .int .u64 key, .int .u32 ck, .bool false, .slice a 0 c] := by rw [← hW1]; exact Blk.made w _ _
  have HO := Lib.hid hO
  obtain ⟨k0, k1, k2, k3, k4, k5, k6, k7, k8, k9, k10, k11, k12, k13⟩ := op14 hO
  clear hO
  have b01 : (a0 == a1) = false := eq_f h
  have b12 : (a1 == a2) = true := eq_t h2
  clear h h2
  go_enter Try.func37, Try.ntmps37
  go_wp2_with fail
  go_ret
  exact ⟨rfl, HB1.out⟩
set_option maxRecDepth 100000 in
set_option maxHeartbeats 2000000 in
theorem right_c3 (fr vol a0 a1 a2 : Int) (id : Nat) (l0 l1 l2 : Int) (key ck : Nat) (a : Option Addr) (c : Nat) (l : List (BitVec 8)) (w : World) (h : a0 ≠ a1) (h2 : a1 ≠ a2) (h3 : a0 = a2) :
    Calls Try.prog 37 #[.agg #[.int .i64 3, .int .i64 fr, .int .i64 vol, .int .i64 a0, .int .i64 a1, .int .i64 a2, .int .u64 id, .int .i64 l0, .int .i64 l1, .int .i64 l2, .int .u64 key, .int .u32 ck, .bool false, .slice a 0 c]] w fun e w' => e = .returned (.bool false) ∧ Below w.heap.size w w' := by
  obtain ⟨W1, hW1⟩ : ∃ W, w.alloc (.cells #[.int .i64 3, .int .i64 fr, .int .i64 vol, .int .i64 a0, .int .i64 a1, .int .i64 a2, .int .u64 id, .int .i64 l0, .int .i64 l1, .int .i64 l2, .int .u64 key, .int .u32 ck, .bool false, .slice a 0 c] 75) = W := ⟨_, rfl⟩
  have HB1 := Lib.hid (show Below w.heap.size w W1 from by rw [← hW1]; exact (Below.refl _ _).alloc (Nat.le_refl _) _)
  have hO : Blk W1 w.heap.size 75 #[.int .i64 3, .int .i64 fr, .int .i64 vol, .int .i64 a0, .int .i64 a1, .int .i64 a2, .int .u64 id, .int .i64 l0, .int .i64 l1, .int .i64 l2, .int .u64 key, .int .u32 ck, .bool false, .slice a 0 c] := by rw [← hW1]; exact Blk.made w _ _
  have HO := Lib.hid hO
  obtain ⟨k0, k1, k2, k3, k4, k5, k6, k7, k8, k9, k10, k11, k12, k13⟩ := op14 hO
  clear hO
  have b01 : (a0 == a1) = false := eq_f h
  have b12 : (a1 == a2) = false := eq_f h2
  have b02 : (a0 == a2) = true := eq_t h3
  clear h h2 h3
  go_enter Try.func37, Try.ntmps37
  go_wp2_with fail
  go_ret
  exact ⟨rfl, HB1.out⟩
set_option maxRecDepth 100000 in
set_option maxHeartbeats 2000000 in
theorem right_a4 (fr vol a0 a1 a2 : Int) (id : Nat) (l0 l1 l2 : Int) (key ck : Nat) (a : Option Addr) (c : Nat) (l : List (BitVec 8)) (w : World) (h : a0 = a1) :
    Calls Try.prog 37 #[.agg #[.int .i64 4, .int .i64 fr, .int .i64 vol, .int .i64 a0, .int .i64 a1, .int .i64 a2, .int .u64 id, .int .i64 l0, .int .i64 l1, .int .i64 l2, .int .u64 key, .int .u32 ck, .bool false, .slice a 0 c]] w fun e w' => e = .returned (.bool false) ∧ Below w.heap.size w w' := by
  obtain ⟨W1, hW1⟩ : ∃ W, w.alloc (.cells #[.int .i64 4, .int .i64 fr, .int .i64 vol, .int .i64 a0, .int .i64 a1, .int .i64 a2, .int .u64 id, .int .i64 l0, .int .i64 l1, .int .i64 l2, .int .u64 key, .int .u32 ck, .bool false, .slice a 0 c] 75) = W := ⟨_, rfl⟩
  have HB1 := Lib.hid (show Below w.heap.size w W1 from by rw [← hW1]; exact (Below.refl _ _).alloc (Nat.le_refl _) _)
  have hO : Blk W1 w.heap.size 75 #[.int .i64 4, .int .i64 fr, .int .i64 vol, .int .i64 a0, .int .i64 a1, .int .i64 a2, .int .u64 id, .int .i64 l0, .int .i64 l1, .int .i64 l2, .int .u64 key, .int .u32 ck, .bool false, .slice a 0 c] := by rw [← hW1]; exact Blk.made w _ _
  have HO := Lib.hid hO
  obtain ⟨k0, k1, k2, k3, k4, k5, k6, k7, k8, k9, k10, k11, k12, k13⟩ := op14 hO
  clear hO
  have b01 : (a0 == a1) = true := eq_t h
  clear h
  go_enter Try.func37, Try.ntmps37
  go_wp2_with fail
  go_ret
  exact ⟨rfl, HB1.out⟩
set_option maxRecDepth 100000 in
set_option maxHeartbeats 2000000 in
theorem right_b4 (fr vol a0 a1 a2 : Int) (id : Nat) (l0 l1 l2 : Int) (key ck : Nat) (a : Option Addr) (c : Nat) (l : List (BitVec 8)) (w : World) (h : a0 ≠ a1) (h2 : a1 = a2) :
    Calls Try.prog 37 #[.agg #[.int .i64 4, .int .i64 fr, .int .i64 vol, .int .i64 a0, .int .i64 a1, .int .i64 a2, .int .u64 id, .int .i64 l0, .int .i64 l1, .int .i64 l2, .int .u64 key, .int .u32 ck, .bool false, .slice a 0 c]] w fun e w' => e = .returned (.bool false) ∧ Below w.heap.size w w' := by
  obtain ⟨W1, hW1⟩ : ∃ W, w.alloc (.cells #[.int .i64 4, .int .i64 fr, .int .i64 vol, .int .i64 a0, .int .i64 a1, .int .i64 a2, .int .u64 id, .int .i64 l0, .int .i64 l1, .int .i64 l2, .int .u64 key, .int .u32 ck, .bool false, .slice a 0 c] 75) = W := ⟨_, rfl⟩
  have HB1 := Lib.hid (show Below w.heap.size w W1 from by rw [← hW1]; exact (Below.refl _ _).alloc (Nat.le_refl _) _)
  have hO : Blk W1 w.heap.size 75 #[.int .i64 4, .int .i64 fr, .int .i64 vol, .int .i64 a0, .int .i64 a1, .int .i64 a2, .int .u64 id, .int .i64 l0, .int .i64 l1, .int .i64 l2, .int .u64 key, .int .u32 ck, .bool false, .slice a 0 c] := by rw [← hW1]; exact Blk.made w _ _
  have HO := Lib.hid hO
  obtain ⟨k0, k1, k2, k3, k4, k5, k6, k7, k8, k9, k10, k11, k12, k13⟩ := op14 hO
  clear hO
  have b01 : (a0 == a1) = false := eq_f h
  have b12 : (a1 == a2) = true := eq_t h2
  clear h h2
  go_enter Try.func37, Try.ntmps37
  go_wp2_with fail
  go_ret
  exact ⟨rfl, HB1.out⟩
set_option maxRecDepth 100000 in
set_option maxHeartbeats 2000000 in
theorem right_c4 (fr vol a0 a1 a2 : Int) (id : Nat) (l0 l1 l2 : Int) (key ck : Nat) (a : Option Addr) (c : Nat) (l : List (BitVec 8)) (w : World) (h : a0 ≠ a1) (h2 : a1 ≠ a2) (h3 : a0 = a2) :
    Calls Try.prog 37 #[.agg #[.int .i64 4, .int .i64 fr, .int .i64 vol, .int .i64 a0, .int .i64 a1, .int .i64 a2, .int .u64 id, .int .i64 l0, .int .i64 l1, .int .i64 l2, .int .u64 key, .int .u32 ck, .bool false, .slice a 0 c]] w fun e w' => e = .returned (.bool false) ∧ Below w.heap.size w w' := by
  obtain ⟨W1, hW1⟩ : ∃ W, w.alloc (.cells #[.int .i64 4, .int .i64 fr, .int .i64 vol, .int .i64 a0, .int .i64 a1, .int .i64 a2, .int .u64 id, .int .i64 l0, .int .i64 l1, .int .i64 l2, .int .u64 key, .int .u32 ck, .bool false, .slice a 0 c] 75) = W := ⟨_, rfl⟩
  have HB1 := Lib.hid (show Below w.heap.size w W1 from by rw [← hW1]; exact (Below.refl _ _).alloc (Nat.le_refl _) _)
  have hO : Blk W1 w.heap.size 75 #[.int .i64 4, .int .i64 fr, .int .i64 vol, .int .i64 a0, .int .i64 a1, .int .i64 a2, .int .u64 id, .int .i64 l0, .int .i64 l1, .int .i64 l2, .int .u64 key, .int .u32 ck, .bool false, .slice a 0 c] := by rw [← hW1]; exact Blk.made w _ _
  have HO := Lib.hid hO
  obtain ⟨k0, k1, k2, k3, k4, k5, k6, k7, k8, k9, k10, k11, k12, k13⟩ := op14 hO
  clear hO
  have b01 : (a0 == a1) = false := eq_f h
  have b12 : (a1 == a2) = false := eq_f h2
  have b02 : (a0 == a2) = true := eq_t h3
  clear h h2 h3
  go_enter Try.func37, Try.ntmps37
  go_wp2_with fail
  go_ret
  exact ⟨rfl, HB1.out⟩
/-- Which of the three are right, up to a place. -/
def RtL (i : Int) (q0 q1 q2 : Nat) : Prop := (1 ≤ i → q0 = 0) ∧ (2 ≤ i → q1 = 0) ∧ (3 ≤ i → q2 = 0)
/-- What Right answers. -/
def RtP (w : World) (q0 q1 q2 : Nat) (e : Ending) (w' : World) : Prop := ∃ b, e = .returned (.bool b) ∧ (b = true → q0 = 0 ∧ q1 = 0 ∧ q2 = 0) ∧ Below w.heap.size w w'
set_option maxRecDepth 100000 in
set_option maxHeartbeats 8000000 in
theorem right_m1 (n : Nat) (fr vol a0 a1 a2 : Int) (id : Nat) (l0 l1 l2 : Int) (key ck : Nat) (a : Option Addr) (c : Nat) (l : List (BitVec 8)) (w : World) (h : a0 ≠ a1) (h2 : a1 ≠ a2) (h3 : a0 ≠ a2) (hb : BSl w w.heap.size a n l) (hn : n ≤ 1099511627776) :
    Calls Try.prog 37 #[.agg #[.int .i64 1, .int .i64 fr, .int .i64 vol, .int .i64 a0, .int .i64 a1, .int .i64 a2, .int .u64 id, .int .i64 l0, .int .i64 l1, .int .i64 l2, .int .u64 key, .int .u32 ck, .bool false, .slice a n c]] w (RtP w (mchk (⟨fr, a0, 1, vol, l0, id, 0, true, key, ck, false, a, n, c, l⟩ : MsgR)) (mchk (⟨fr, a1, 1, vol, l1, id, 0, true, key, ck, false, a, n, c, l⟩ : MsgR)) (mchk (⟨fr, a2, 1, vol, l2, id, 0, true, key, ck, false, a, n, c, l⟩ : MsgR))) := by
  obtain ⟨W1, hW1⟩ : ∃ W, w.alloc (.cells #[.int .i64 1, .int .i64 fr, .int .i64 vol, .int .i64 a0, .int .i64 a1, .int .i64 a2, .int .u64 id, .int .i64 l0, .int .i64 l1, .int .i64 l2, .int .u64 key, .int .u32 ck, .bool false, .slice a n c] 75) = W := ⟨_, rfl⟩
  have HB1 := Lib.hid (show Below w.heap.size w W1 from by rw [← hW1]; exact (Below.refl _ _).alloc (Nat.le_refl _) _)
  have hO : Blk W1 w.heap.size 75 #[.int .i64 1, .int .i64 fr, .int .i64 vol, .int .i64 a0, .int .i64 a1, .int .i64 a2, .int .u64 id, .int .i64 l0, .int .i64 l1, .int .i64 l2, .int .u64 key, .int .u32 ck, .bool false, .slice a n c] := by rw [← hW1]; exact Blk.made w _ _
  have HO := Lib.hid hO
  obtain ⟨k0, k1, k2, k3, k4, k5, k6, k7, k8, k9, k10, k11, k12, k13⟩ := op14 hO
  clear hO
  have b01 : (a0 == a1) = false := eq_f h
  have b12 : (a1 == a2) = false := eq_f h2
  have b02 : (a0 == a2) = false := eq_f h3
  have HBS := Lib.hid hb
  have HC := Lib.hid fun (W : World) (B0 : Below w.heap.size w W) (B1 : Below W1.heap.size W1 W) => op14 (HO.out.below B1 HO.out.lt)
  have E0 := Lib.hid fun (W : World) (B0 : Below w.heap.size w W) => rcheck_any (⟨fr, a0, 1, vol, l0, id, 0, true, key, ck, false, a, n, c, l⟩ : MsgR) W ((HBS.out.below B0).more B0.size) hn
  have E1 := Lib.hid fun (W : World) (B0 : Below w.heap.size w W) => rcheck_any (⟨fr, a1, 1, vol, l1, id, 0, true, key, ck, false, a, n, c, l⟩ : MsgR) W ((HBS.out.below B0).more B0.size) hn
  have E2 := Lib.hid fun (W : World) (B0 : Below w.heap.size w W) => rcheck_any (⟨fr, a2, 1, vol, l2, id, 0, true, key, ck, false, a, n, c, l⟩ : MsgR) W ((HBS.out.below B0).more B0.size) hn
  clear h h2 h3 hb hn
  unfold MsgR.vals at E0 E1 E2
  dsimp only at E0 E1 E2
  generalize mchk (⟨fr, a0, 1, vol, l0, id, 0, true, key, ck, false, a, n, c, l⟩ : MsgR) = q0 at *
  generalize mchk (⟨fr, a1, 1, vol, l1, id, 0, true, key, ck, false, a, n, c, l⟩ : MsgR) = q1 at *
  generalize mchk (⟨fr, a2, 1, vol, l2, id, 0, true, key, ck, false, a, n, c, l⟩ : MsgR) = q2 at *
  go_enter Try.func37, Try.ntmps37
  go_wp2_with fail
  try clear hW1
  clear k0 k1 k2 k3 k4 k5 k6 k7 k8 k9 k10 k11 k12 k13 b01 b12 b02
  go_loopw [3] (fun iv wr => ∃ i : Int, 0 ≤ i ∧ i ≤ 3 ∧ iv = .int .i64 i ∧ RtL i q0 q1 q2 ∧ Below W1.heap.size W1 wr) (fun iv _ => (3 - intOf iv).toNat)
  case atStart => exact ⟨0, by omega, by omega, rfl, ⟨fun h => by omega, fun h => by omega, fun h => by omega⟩, Below.refl _ _⟩
  case round =>
    obtain ⟨i, hi0, hi3, rfl, hL, hB8⟩ := hrel
    have HB8 := Lib.hid hB8
    have HL := Lib.hid hL
    clear hB8 hL
    have h4 : i = 0 ∨ i = 1 ∨ i = 2 ∨ i = 3 := by omega
    clear hi0 hi3
    rcases h4 with rfl | rfl | rfl | rfl
    · by_cases hq : q0 = 0
      rotate_left
      · have b1 : ((q0 : Int) != 0) = true := ne_t (by omega)
        clear hq
        go_upto_region 8 with fail
        refine wp_region_held_drew (S := fun W => Below wr.heap.size wr W) (by kernel_rfl) ((Below.refl _ _).drew) (fun hS => ?_)
        refine wpAnyH_take (i := 0) (v := ?_) rfl (by kernel_rfl) (by kernel_rfl) (by kernel_rfl) (fun _ _ _ h => h) (Or.inl ⟨by kernel_rfl, ?_⟩) hS ?_
        rotate_left
        · intro W hW; go_simp; try with_reducible rfl
        refine wpAnyH_take (i := 1) (v := ?_) rfl (by kernel_rfl) (by kernel_rfl) (by kernel_rfl) (fun _ _ _ h => h) (Or.inl ⟨by kernel_rfl, ?_⟩) hS ?_
        rotate_left
        · intro W hW; obtain ⟨c0, c1, c2, c3, c4, c5, c6, c7, c8, c9, c10, c11, c12, c13⟩ := HC.out W (HB1.out.trans ((HB8.out.trans (hW.mono HB8.out.size)).mono HB1.out.size)) (HB8.out.trans (hW.mono HB8.out.size)); go_simp; try with_reducible rfl
        refine wpAnyH_take (i := 2) (v := ?_) rfl (by kernel_rfl) (by kernel_rfl) (by kernel_rfl) (fun _ _ _ h => h) (Or.inl ⟨by kernel_rfl, ?_⟩) hS ?_
        rotate_left
        · intro W hW; go_simp; try with_reducible rfl
        refine wpAnyH_take (i := 3) (v := ?_) rfl (by kernel_rfl) (by kernel_rfl) (by kernel_rfl) (fun _ _ _ h => h) (Or.inl ⟨by kernel_rfl, ?_⟩) hS ?_
        rotate_left
        · intro W hW; go_simp; try with_reducible rfl
        refine wpAnyH_take (i := 4) (v := ?_) rfl (by kernel_rfl) (by kernel_rfl) (by kernel_rfl) (fun _ _ _ h => h) (Or.inl ⟨by kernel_rfl, ?_⟩) hS ?_
        rotate_left
        · intro W hW; go_simp; try with_reducible rfl
        refine wpAnyH_take (i := 5) (v := ?_) rfl (by kernel_rfl) (by kernel_rfl) (by kernel_rfl) (fun _ _ _ h => h) (Or.inl ⟨by kernel_rfl, ?_⟩) hS ?_
        rotate_left
        · intro W hW; obtain ⟨c0, c1, c2, c3, c4, c5, c6, c7, c8, c9, c10, c11, c12, c13⟩ := HC.out W (HB1.out.trans ((HB8.out.trans (hW.mono HB8.out.size)).mono HB1.out.size)) (HB8.out.trans (hW.mono HB8.out.size)); go_simp; try with_reducible rfl
        refine wpAnyH_take (i := 6) (v := ?_) rfl (by kernel_rfl) (by kernel_rfl) (by kernel_rfl) (fun _ _ _ h => h) (Or.inl ⟨by kernel_rfl, ?_⟩) hS ?_
        rotate_left
        · intro W hW; go_simp; try with_reducible rfl
        refine wpAnyH_take (i := 7) (v := ?_) rfl (by kernel_rfl) (by kernel_rfl) (by kernel_rfl) (fun _ _ _ h => h) (Or.inl ⟨by kernel_rfl, ?_⟩) hS ?_
        rotate_left
        · intro W hW; obtain ⟨c0, c1, c2, c3, c4, c5, c6, c7, c8, c9, c10, c11, c12, c13⟩ := HC.out W (HB1.out.trans ((HB8.out.trans (hW.mono HB8.out.size)).mono HB1.out.size)) (HB8.out.trans (hW.mono HB8.out.size)); go_simp; try with_reducible rfl
        refine wpAnyH_take (i := 8) (v := ?_) rfl (by kernel_rfl) (by kernel_rfl) (by kernel_rfl) (fun _ _ _ h => h) (Or.inl ⟨by kernel_rfl, ?_⟩) hS ?_
        rotate_left
        · intro W hW; go_simp; try with_reducible rfl
        refine wpAnyH_take (i := 9) (v := ?_) rfl (by kernel_rfl) (by kernel_rfl) (by kernel_rfl) (fun _ _ _ h => h) (Or.inl ⟨by kernel_rfl, ?_⟩) hS ?_
        rotate_left
        · intro W hW; obtain ⟨c0, c1, c2, c3, c4, c5, c6, c7, c8, c9, c10, c11, c12, c13⟩ := HC.out W (HB1.out.trans ((HB8.out.trans (hW.mono HB8.out.size)).mono HB1.out.size)) (HB8.out.trans (hW.mono HB8.out.size)); go_simp; try with_reducible rfl
        refine wpAnyH_take (i := 10) (v := ?_) rfl (by kernel_rfl) (by kernel_rfl) (by kernel_rfl) (fun _ _ _ h => h) (Or.inl ⟨by kernel_rfl, ?_⟩) hS ?_
        rotate_left
        · intro W hW; go_simp; try with_reducible rfl
        refine wpAnyH_take (i := 11) (v := ?_) rfl (by kernel_rfl) (by kernel_rfl) (by kernel_rfl) (fun _ _ _ h => h) (Or.inl ⟨by kernel_rfl, ?_⟩) hS ?_
        rotate_left
        · intro W hW; go_simp; try with_reducible rfl
        refine wpAnyH_take (i := 12) (v := ?_) rfl (by kernel_rfl) (by kernel_rfl) (by kernel_rfl) (fun _ _ _ h => h) (Or.inl ⟨by kernel_rfl, ?_⟩) hS ?_
        rotate_left
        · intro W hW; go_simp; try with_reducible rfl
        refine wpAnyH_take (i := 13) (v := ?_) rfl (by kernel_rfl) (by kernel_rfl) (by kernel_rfl) (fun _ _ _ h => h) (Or.inl ⟨by kernel_rfl, ?_⟩) hS ?_
        rotate_left
        · intro W hW; obtain ⟨c0, c1, c2, c3, c4, c5, c6, c7, c8, c9, c10, c11, c12, c13⟩ := HC.out W (HB1.out.trans ((HB8.out.trans (hW.mono HB8.out.size)).mono HB1.out.size)) (HB8.out.trans (hW.mono HB8.out.size)); go_simp; try with_reducible rfl
        refine wpAnyH_take (i := 14) (v := ?_) rfl (by kernel_rfl) (by kernel_rfl) (by kernel_rfl) (fun _ _ _ h => h) (Or.inl ⟨by kernel_rfl, ?_⟩) hS ?_
        rotate_left
        · intro W hW; go_simp; try with_reducible rfl
        refine wpAnyH_take (i := 15) (v := ?_) rfl (by kernel_rfl) (by kernel_rfl) (by kernel_rfl) (fun _ _ _ h => h) (Or.inl ⟨by kernel_rfl, ?_⟩) hS ?_
        rotate_left
        · intro W hW; obtain ⟨c0, c1, c2, c3, c4, c5, c6, c7, c8, c9, c10, c11, c12, c13⟩ := HC.out W (HB1.out.trans ((HB8.out.trans (hW.mono HB8.out.size)).mono HB1.out.size)) (HB8.out.trans (hW.mono HB8.out.size)); go_simp; try with_reducible rfl
        refine wpAnyH_take (i := 16) (v := ?_) rfl (by kernel_rfl) (by kernel_rfl) (by kernel_rfl) (fun _ _ _ h => h) (Or.inl ⟨by kernel_rfl, ?_⟩) hS ?_
        rotate_left
        · intro W hW; go_simp; try with_reducible rfl
        refine wpAnyH_take (i := 17) (v := ?_) rfl (by kernel_rfl) (by kernel_rfl) (by kernel_rfl) (fun _ _ _ h => h) (Or.inl ⟨by kernel_rfl, ?_⟩) hS ?_
        rotate_left
        · intro W hW; obtain ⟨c0, c1, c2, c3, c4, c5, c6, c7, c8, c9, c10, c11, c12, c13⟩ := HC.out W (HB1.out.trans ((HB8.out.trans (hW.mono HB8.out.size)).mono HB1.out.size)) (HB8.out.trans (hW.mono HB8.out.size)); go_simp; try with_reducible rfl
        refine wpAnyH_take (i := 18) (v := ?_) rfl (by kernel_rfl) (by kernel_rfl) (by kernel_rfl) (fun _ _ _ h => h) (Or.inl ⟨by kernel_rfl, ?_⟩) hS ?_
        rotate_left
        · intro W hW; go_simp; try with_reducible rfl
        refine wpAnyH_ready (rs := [19]) (by kernel_rfl) (by simp) ?_
        go_simp
        refine AllReadyH.cons (i := 19) rfl ?_ AllReadyH.nil
        intro K hK
        go_simp
        refine (E0.out _ (HB1.out.trans ((HB8.out.trans (hS.mono HB8.out.size)).mono HB1.out.size))).mono ?_
        rintro e w6 ⟨rfl, B6⟩
        have hT := hS.trans (B6.mono hS.size)
        go_simp
        refine hK.out _ _ ?_ (fun hN => ?_)
        · first | exact hT | exact hS | exact hS.alloc hS.size _ | exact hS.drew
        clear hK K
        try clear hT
        clear hS
        have hS := hN
        clear hN
        refine wpAnyH_take (i := 20) (v := ?_) rfl (by kernel_rfl) (by kernel_rfl) (by kernel_rfl) (fun _ _ _ h => h) (Or.inl ⟨by kernel_rfl, ?_⟩) hS ?_
        rotate_left
        · intro W hW; go_simp; try with_reducible rfl
        refine wpAnyH_done (by kernel_rfl) ?_ _
        go_simp
        have HB9 := Lib.hid (HB8.out.trans (hS.mono HB8.out.size))
        clear hS
        go_wp2_with fail
        go_ret
        exact ⟨false, rfl, (fun h => by cases h), HB1.out.trans (HB9.out.mono HB1.out.size)⟩
      · have b1 : ((q0 : Int) != 0) = false := ne_f (by omega)
        have HQ := Lib.hid hq
        clear hq
        go_upto_region 8 with fail
        refine wp_region_held_drew (S := fun W => Below wr.heap.size wr W) (by kernel_rfl) ((Below.refl _ _).drew) (fun hS => ?_)
        refine wpAnyH_take (i := 0) (v := ?_) rfl (by kernel_rfl) (by kernel_rfl) (by kernel_rfl) (fun _ _ _ h => h) (Or.inl ⟨by kernel_rfl, ?_⟩) hS ?_
        rotate_left
        · intro W hW; go_simp; try with_reducible rfl
        refine wpAnyH_take (i := 1) (v := ?_) rfl (by kernel_rfl) (by kernel_rfl) (by kernel_rfl) (fun _ _ _ h => h) (Or.inl ⟨by kernel_rfl, ?_⟩) hS ?_
        rotate_left
        · intro W hW; obtain ⟨c0, c1, c2, c3, c4, c5, c6, c7, c8, c9, c10, c11, c12, c13⟩ := HC.out W (HB1.out.trans ((HB8.out.trans (hW.mono HB8.out.size)).mono HB1.out.size)) (HB8.out.trans (hW.mono HB8.out.size)); go_simp; try with_reducible rfl
        refine wpAnyH_take (i := 2) (v := ?_) rfl (by kernel_rfl) (by kernel_rfl) (by kernel_rfl) (fun _ _ _ h => h) (Or.inl ⟨by kernel_rfl, ?_⟩) hS ?_
        rotate_left
        · intro W hW; go_simp; try with_reducible rfl
        refine wpAnyH_take (i := 3) (v := ?_) rfl (by kernel_rfl) (by kernel_rfl) (by kernel_rfl) (fun _ _ _ h => h) (Or.inl ⟨by kernel_rfl, ?_⟩) hS ?_
        rotate_left
        · intro W hW; go_simp; try with_reducible rfl
        refine wpAnyH_take (i := 4) (v := ?_) rfl (by kernel_rfl) (by kernel_rfl) (by kernel_rfl) (fun _ _ _ h => h) (Or.inl ⟨by kernel_rfl, ?_⟩) hS ?_
        rotate_left
        · intro W hW; go_simp; try with_reducible rfl
        refine wpAnyH_take (i := 5) (v := ?_) rfl (by kernel_rfl) (by kernel_rfl) (by kernel_rfl) (fun _ _ _ h => h) (Or.inl ⟨by kernel_rfl, ?_⟩) hS ?_
        rotate_left
        · intro W hW; obtain ⟨c0, c1, c2, c3, c4, c5, c6, c7, c8, c9, c10, c11, c12, c13⟩ := HC.out W (HB1.out.trans ((HB8.out.trans (hW.mono HB8.out.size)).mono HB1.out.size)) (HB8.out.trans (hW.mono HB8.out.size)); go_simp; try with_reducible rfl
        refine wpAnyH_take (i := 6) (v := ?_) rfl (by kernel_rfl) (by kernel_rfl) (by kernel_rfl) (fun _ _ _ h => h) (Or.inl ⟨by kernel_rfl, ?_⟩) hS ?_
        rotate_left
        · intro W hW; go_simp; try with_reducible rfl
        refine wpAnyH_take (i := 7) (v := ?_) rfl (by kernel_rfl) (by kernel_rfl) (by kernel_rfl) (fun _ _ _ h => h) (Or.inl ⟨by kernel_rfl, ?_⟩) hS ?_
        rotate_left
        · intro W hW; obtain ⟨c0, c1, c2, c3, c4, c5, c6, c7, c8, c9, c10, c11, c12, c13⟩ := HC.out W (HB1.out.trans ((HB8.out.trans (hW.mono HB8.out.size)).mono HB1.out.size)) (HB8.out.trans (hW.mono HB8.out.size)); go_simp; try with_reducible rfl
        refine wpAnyH_take (i := 8) (v := ?_) rfl (by kernel_rfl) (by kernel_rfl) (by kernel_rfl) (fun _ _ _ h => h) (Or.inl ⟨by kernel_rfl, ?_⟩) hS ?_
        rotate_left
        · intro W hW; go_simp; try with_reducible rfl
        refine wpAnyH_take (i := 9) (v := ?_) rfl (by kernel_rfl) (by kernel_rfl) (by kernel_rfl) (fun _ _ _ h => h) (Or.inl ⟨by kernel_rfl, ?_⟩) hS ?_
        rotate_left
        · intro W hW; obtain ⟨c0, c1, c2, c3, c4, c5, c6, c7, c8, c9, c10, c11, c12, c13⟩ := HC.out W (HB1.out.trans ((HB8.out.trans (hW.mono HB8.out.size)).mono HB1.out.size)) (HB8.out.trans (hW.mono HB8.out.size)); go_simp; try with_reducible rfl
        refine wpAnyH_take (i := 10) (v := ?_) rfl (by kernel_rfl) (by kernel_rfl) (by kernel_rfl) (fun _ _ _ h => h) (Or.inl ⟨by kernel_rfl, ?_⟩) hS ?_
        rotate_left
        · intro W hW; go_simp; try with_reducible rfl
        refine wpAnyH_take (i := 11) (v := ?_) rfl (by kernel_rfl) (by kernel_rfl) (by kernel_rfl) (fun _ _ _ h => h) (Or.inl ⟨by kernel_rfl, ?_⟩) hS ?_
        rotate_left
        · intro W hW; go_simp; try with_reducible rfl
        refine wpAnyH_take (i := 12) (v := ?_) rfl (by kernel_rfl) (by kernel_rfl) (by kernel_rfl) (fun _ _ _ h => h) (Or.inl ⟨by kernel_rfl, ?_⟩) hS ?_
        rotate_left
        · intro W hW; go_simp; try with_reducible rfl
        refine wpAnyH_take (i := 13) (v := ?_) rfl (by kernel_rfl) (by kernel_rfl) (by kernel_rfl) (fun _ _ _ h => h) (Or.inl ⟨by kernel_rfl, ?_⟩) hS ?_
        rotate_left
        · intro W hW; obtain ⟨c0, c1, c2, c3, c4, c5, c6, c7, c8, c9, c10, c11, c12, c13⟩ := HC.out W (HB1.out.trans ((HB8.out.trans (hW.mono HB8.out.size)).mono HB1.out.size)) (HB8.out.trans (hW.mono HB8.out.size)); go_simp; try with_reducible rfl
        refine wpAnyH_take (i := 14) (v := ?_) rfl (by kernel_rfl) (by kernel_rfl) (by kernel_rfl) (fun _ _ _ h => h) (Or.inl ⟨by kernel_rfl, ?_⟩) hS ?_
        rotate_left
        · intro W hW; go_simp; try with_reducible rfl
        refine wpAnyH_take (i := 15) (v := ?_) rfl (by kernel_rfl) (by kernel_rfl) (by kernel_rfl) (fun _ _ _ h => h) (Or.inl ⟨by kernel_rfl, ?_⟩) hS ?_
        rotate_left
        · intro W hW; obtain ⟨c0, c1, c2, c3, c4, c5, c6, c7, c8, c9, c10, c11, c12, c13⟩ := HC.out W (HB1.out.trans ((HB8.out.trans (hW.mono HB8.out.size)).mono HB1.out.size)) (HB8.out.trans (hW.mono HB8.out.size)); go_simp; try with_reducible rfl
        refine wpAnyH_take (i := 16) (v := ?_) rfl (by kernel_rfl) (by kernel_rfl) (by kernel_rfl) (fun _ _ _ h => h) (Or.inl ⟨by kernel_rfl, ?_⟩) hS ?_
        rotate_left
        · intro W hW; go_simp; try with_reducible rfl
        refine wpAnyH_take (i := 17) (v := ?_) rfl (by kernel_rfl) (by kernel_rfl) (by kernel_rfl) (fun _ _ _ h => h) (Or.inl ⟨by kernel_rfl, ?_⟩) hS ?_
        rotate_left
        · intro W hW; obtain ⟨c0, c1, c2, c3, c4, c5, c6, c7, c8, c9, c10, c11, c12, c13⟩ := HC.out W (HB1.out.trans ((HB8.out.trans (hW.mono HB8.out.size)).mono HB1.out.size)) (HB8.out.trans (hW.mono HB8.out.size)); go_simp; try with_reducible rfl
        refine wpAnyH_take (i := 18) (v := ?_) rfl (by kernel_rfl) (by kernel_rfl) (by kernel_rfl) (fun _ _ _ h => h) (Or.inl ⟨by kernel_rfl, ?_⟩) hS ?_
        rotate_left
        · intro W hW; go_simp; try with_reducible rfl
        refine wpAnyH_ready (rs := [19]) (by kernel_rfl) (by simp) ?_
        go_simp
        refine AllReadyH.cons (i := 19) rfl ?_ AllReadyH.nil
        intro K hK
        go_simp
        refine (E0.out _ (HB1.out.trans ((HB8.out.trans (hS.mono HB8.out.size)).mono HB1.out.size))).mono ?_
        rintro e w6 ⟨rfl, B6⟩
        have hT := hS.trans (B6.mono hS.size)
        go_simp
        refine hK.out _ _ ?_ (fun hN => ?_)
        · first | exact hT | exact hS | exact hS.alloc hS.size _ | exact hS.drew
        clear hK K
        try clear hT
        clear hS
        have hS := hN
        clear hN
        refine wpAnyH_take (i := 20) (v := ?_) rfl (by kernel_rfl) (by kernel_rfl) (by kernel_rfl) (fun _ _ _ h => h) (Or.inl ⟨by kernel_rfl, ?_⟩) hS ?_
        rotate_left
        · intro W hW; go_simp; try with_reducible rfl
        refine wpAnyH_done (by kernel_rfl) ?_ _
        go_simp
        have HB9 := Lib.hid (HB8.out.trans (hS.mono HB8.out.size))
        clear hS
        go_wp2_with fail
        go_roundw
        case rel => exact ⟨1, by omega, by omega, rfl, ⟨fun h => HQ.out, fun h => by omega, fun h => by omega⟩, HB9.out⟩
        case measure => simp [intOf]
    · by_cases hq : q1 = 0
      rotate_left
      · have b1 : ((q1 : Int) != 0) = true := ne_t (by omega)
        clear hq
        go_upto_region 8 with fail
        refine wp_region_held_drew (S := fun W => Below wr.heap.size wr W) (by kernel_rfl) ((Below.refl _ _).drew) (fun hS => ?_)
        refine wpAnyH_take (i := 0) (v := ?_) rfl (by kernel_rfl) (by kernel_rfl) (by kernel_rfl) (fun _ _ _ h => h) (Or.inl ⟨by kernel_rfl, ?_⟩) hS ?_
        rotate_left
        · intro W hW; go_simp; try with_reducible rfl
        refine wpAnyH_take (i := 1) (v := ?_) rfl (by kernel_rfl) (by kernel_rfl) (by kernel_rfl) (fun _ _ _ h => h) (Or.inl ⟨by kernel_rfl, ?_⟩) hS ?_
        rotate_left
        · intro W hW; obtain ⟨c0, c1, c2, c3, c4, c5, c6, c7, c8, c9, c10, c11, c12, c13⟩ := HC.out W (HB1.out.trans ((HB8.out.trans (hW.mono HB8.out.size)).mono HB1.out.size)) (HB8.out.trans (hW.mono HB8.out.size)); go_simp; try with_reducible rfl
        refine wpAnyH_take (i := 2) (v := ?_) rfl (by kernel_rfl) (by kernel_rfl) (by kernel_rfl) (fun _ _ _ h => h) (Or.inl ⟨by kernel_rfl, ?_⟩) hS ?_
        rotate_left
        · intro W hW; go_simp; try with_reducible rfl
        refine wpAnyH_take (i := 3) (v := ?_) rfl (by kernel_rfl) (by kernel_rfl) (by kernel_rfl) (fun _ _ _ h => h) (Or.inl ⟨by kernel_rfl, ?_⟩) hS ?_
        rotate_left
        · intro W hW; go_simp; try with_reducible rfl
        refine wpAnyH_take (i := 4) (v := ?_) rfl (by kernel_rfl) (by kernel_rfl) (by kernel_rfl) (fun _ _ _ h => h) (Or.inl ⟨by kernel_rfl, ?_⟩) hS ?_
        rotate_left
        · intro W hW; go_simp; try with_reducible rfl
        refine wpAnyH_take (i := 5) (v := ?_) rfl (by kernel_rfl) (by kernel_rfl) (by kernel_rfl) (fun _ _ _ h => h) (Or.inl ⟨by kernel_rfl, ?_⟩) hS ?_
        rotate_left
        · intro W hW; obtain ⟨c0, c1, c2, c3, c4, c5, c6, c7, c8, c9, c10, c11, c12, c13⟩ := HC.out W (HB1.out.trans ((HB8.out.trans (hW.mono HB8.out.size)).mono HB1.out.size)) (HB8.out.trans (hW.mono HB8.out.size)); go_simp; try with_reducible rfl
        refine wpAnyH_take (i := 6) (v := ?_) rfl (by kernel_rfl) (by kernel_rfl) (by kernel_rfl) (fun _ _ _ h => h) (Or.inl ⟨by kernel_rfl, ?_⟩) hS ?_
        rotate_left
        · intro W hW; go_simp; try with_reducible rfl
        refine wpAnyH_take (i := 7) (v := ?_) rfl (by kernel_rfl) (by kernel_rfl) (by kernel_rfl) (fun _ _ _ h => h) (Or.inl ⟨by kernel_rfl, ?_⟩) hS ?_
        rotate_left
        · intro W hW; obtain ⟨c0, c1, c2, c3, c4, c5, c6, c7, c8, c9, c10, c11, c12, c13⟩ := HC.out W (HB1.out.trans ((HB8.out.trans (hW.mono HB8.out.size)).mono HB1.out.size)) (HB8.out.trans (hW.mono HB8.out.size)); go_simp; try with_reducible rfl
        refine wpAnyH_take (i := 8) (v := ?_) rfl (by kernel_rfl) (by kernel_rfl) (by kernel_rfl) (fun _ _ _ h => h) (Or.inl ⟨by kernel_rfl, ?_⟩) hS ?_
        rotate_left
        · intro W hW; go_simp; try with_reducible rfl
        refine wpAnyH_take (i := 9) (v := ?_) rfl (by kernel_rfl) (by kernel_rfl) (by kernel_rfl) (fun _ _ _ h => h) (Or.inl ⟨by kernel_rfl, ?_⟩) hS ?_
        rotate_left
        · intro W hW; obtain ⟨c0, c1, c2, c3, c4, c5, c6, c7, c8, c9, c10, c11, c12, c13⟩ := HC.out W (HB1.out.trans ((HB8.out.trans (hW.mono HB8.out.size)).mono HB1.out.size)) (HB8.out.trans (hW.mono HB8.out.size)); go_simp; try with_reducible rfl
        refine wpAnyH_take (i := 10) (v := ?_) rfl (by kernel_rfl) (by kernel_rfl) (by kernel_rfl) (fun _ _ _ h => h) (Or.inl ⟨by kernel_rfl, ?_⟩) hS ?_
        rotate_left
        · intro W hW; go_simp; try with_reducible rfl
        refine wpAnyH_take (i := 11) (v := ?_) rfl (by kernel_rfl) (by kernel_rfl) (by kernel_rfl) (fun _ _ _ h => h) (Or.inl ⟨by kernel_rfl, ?_⟩) hS ?_
        rotate_left
        · intro W hW; go_simp; try with_reducible rfl
        refine wpAnyH_take (i := 12) (v := ?_) rfl (by kernel_rfl) (by kernel_rfl) (by kernel_rfl) (fun _ _ _ h => h) (Or.inl ⟨by kernel_rfl, ?_⟩) hS ?_
        rotate_left
        · intro W hW; go_simp; try with_reducible rfl
        refine wpAnyH_take (i := 13) (v := ?_) rfl (by kernel_rfl) (by kernel_rfl) (by kernel_rfl) (fun _ _ _ h => h) (Or.inl ⟨by kernel_rfl, ?_⟩) hS ?_
        rotate_left
        · intro W hW; obtain ⟨c0, c1, c2, c3, c4, c5, c6, c7, c8, c9, c10, c11, c12, c13⟩ := HC.out W (HB1.out.trans ((HB8.out.trans (hW.mono HB8.out.size)).mono HB1.out.size)) (HB8.out.trans (hW.mono HB8.out.size)); go_simp; try with_reducible rfl
        refine wpAnyH_take (i := 14) (v := ?_) rfl (by kernel_rfl) (by kernel_rfl) (by kernel_rfl) (fun _ _ _ h => h) (Or.inl ⟨by kernel_rfl, ?_⟩) hS ?_
        rotate_left
        · intro W hW; go_simp; try with_reducible rfl
        refine wpAnyH_take (i := 15) (v := ?_) rfl (by kernel_rfl) (by kernel_rfl) (by kernel_rfl) (fun _ _ _ h => h) (Or.inl ⟨by kernel_rfl, ?_⟩) hS ?_
        rotate_left
        · intro W hW; obtain ⟨c0, c1, c2, c3, c4, c5, c6, c7, c8, c9, c10, c11, c12, c13⟩ := HC.out W (HB1.out.trans ((HB8.out.trans (hW.mono HB8.out.size)).mono HB1.out.size)) (HB8.out.trans (hW.mono HB8.out.size)); go_simp; try with_reducible rfl
        refine wpAnyH_take (i := 16) (v := ?_) rfl (by kernel_rfl) (by kernel_rfl) (by kernel_rfl) (fun _ _ _ h => h) (Or.inl ⟨by kernel_rfl, ?_⟩) hS ?_
        rotate_left
        · intro W hW; go_simp; try with_reducible rfl
        refine wpAnyH_take (i := 17) (v := ?_) rfl (by kernel_rfl) (by kernel_rfl) (by kernel_rfl) (fun _ _ _ h => h) (Or.inl ⟨by kernel_rfl, ?_⟩) hS ?_
        rotate_left
        · intro W hW; obtain ⟨c0, c1, c2, c3, c4, c5, c6, c7, c8, c9, c10, c11, c12, c13⟩ := HC.out W (HB1.out.trans ((HB8.out.trans (hW.mono HB8.out.size)).mono HB1.out.size)) (HB8.out.trans (hW.mono HB8.out.size)); go_simp; try with_reducible rfl
        refine wpAnyH_take (i := 18) (v := ?_) rfl (by kernel_rfl) (by kernel_rfl) (by kernel_rfl) (fun _ _ _ h => h) (Or.inl ⟨by kernel_rfl, ?_⟩) hS ?_
        rotate_left
        · intro W hW; go_simp; try with_reducible rfl
        refine wpAnyH_ready (rs := [19]) (by kernel_rfl) (by simp) ?_
        go_simp
        refine AllReadyH.cons (i := 19) rfl ?_ AllReadyH.nil
        intro K hK
        go_simp
        refine (E1.out _ (HB1.out.trans ((HB8.out.trans (hS.mono HB8.out.size)).mono HB1.out.size))).mono ?_
        rintro e w6 ⟨rfl, B6⟩
        have hT := hS.trans (B6.mono hS.size)
        go_simp
        refine hK.out _ _ ?_ (fun hN => ?_)
        · first | exact hT | exact hS | exact hS.alloc hS.size _ | exact hS.drew
        clear hK K
        try clear hT
        clear hS
        have hS := hN
        clear hN
        refine wpAnyH_take (i := 20) (v := ?_) rfl (by kernel_rfl) (by kernel_rfl) (by kernel_rfl) (fun _ _ _ h => h) (Or.inl ⟨by kernel_rfl, ?_⟩) hS ?_
        rotate_left
        · intro W hW; go_simp; try with_reducible rfl
        refine wpAnyH_done (by kernel_rfl) ?_ _
        go_simp
        have HB9 := Lib.hid (HB8.out.trans (hS.mono HB8.out.size))
        clear hS
        go_wp2_with fail
        go_ret
        exact ⟨false, rfl, (fun h => by cases h), HB1.out.trans (HB9.out.mono HB1.out.size)⟩
      · have b1 : ((q1 : Int) != 0) = false := ne_f (by omega)
        have HQ := Lib.hid hq
        clear hq
        go_upto_region 8 with fail
        refine wp_region_held_drew (S := fun W => Below wr.heap.size wr W) (by kernel_rfl) ((Below.refl _ _).drew) (fun hS => ?_)
        refine wpAnyH_take (i := 0) (v := ?_) rfl (by kernel_rfl) (by kernel_rfl) (by kernel_rfl) (fun _ _ _ h => h) (Or.inl ⟨by kernel_rfl, ?_⟩) hS ?_
        rotate_left
        · intro W hW; go_simp; try with_reducible rfl
        refine wpAnyH_take (i := 1) (v := ?_) rfl (by kernel_rfl) (by kernel_rfl) (by kernel_rfl) (fun _ _ _ h => h) (Or.inl ⟨by kernel_rfl, ?_⟩) hS ?_
        rotate_left
        · intro W hW; obtain ⟨c0, c1, c2, c3, c4, c5, c6, c7, c8, c9, c10, c11, c12, c13⟩ := HC.out W (HB1.out.trans ((HB8.out.trans (hW.mono HB8.out.size)).mono HB1.out.size)) (HB8.out.trans (hW.mono HB8.out.size)); go_simp; try with_reducible rfl
        refine wpAnyH_take (i := 2) (v := ?_) rfl (by kernel_rfl) (by kernel_rfl) (by kernel_rfl) (fun _ _ _ h => h) (Or.inl ⟨by kernel_rfl, ?_⟩) hS ?_
        rotate_left
        · intro W hW; go_simp; try with_reducible rfl
        refine wpAnyH_take (i := 3) (v := ?_) rfl (by kernel_rfl) (by kernel_rfl) (by kernel_rfl) (fun _ _ _ h => h) (Or.inl ⟨by kernel_rfl, ?_⟩) hS ?_
        rotate_left
        · intro W hW; go_simp; try with_reducible rfl
        refine wpAnyH_take (i := 4) (v := ?_) rfl (by kernel_rfl) (by kernel_rfl) (by kernel_rfl) (fun _ _ _ h => h) (Or.inl ⟨by kernel_rfl, ?_⟩) hS ?_
        rotate_left
        · intro W hW; go_simp; try with_reducible rfl
        refine wpAnyH_take (i := 5) (v := ?_) rfl (by kernel_rfl) (by kernel_rfl) (by kernel_rfl) (fun _ _ _ h => h) (Or.inl ⟨by kernel_rfl, ?_⟩) hS ?_
        rotate_left
        · intro W hW; obtain ⟨c0, c1, c2, c3, c4, c5, c6, c7, c8, c9, c10, c11, c12, c13⟩ := HC.out W (HB1.out.trans ((HB8.out.trans (hW.mono HB8.out.size)).mono HB1.out.size)) (HB8.out.trans (hW.mono HB8.out.size)); go_simp; try with_reducible rfl
        refine wpAnyH_take (i := 6) (v := ?_) rfl (by kernel_rfl) (by kernel_rfl) (by kernel_rfl) (fun _ _ _ h => h) (Or.inl ⟨by kernel_rfl, ?_⟩) hS ?_
        rotate_left
        · intro W hW; go_simp; try with_reducible rfl
        refine wpAnyH_take (i := 7) (v := ?_) rfl (by kernel_rfl) (by kernel_rfl) (by kernel_rfl) (fun _ _ _ h => h) (Or.inl ⟨by kernel_rfl, ?_⟩) hS ?_
        rotate_left
        · intro W hW; obtain ⟨c0, c1, c2, c3, c4, c5, c6, c7, c8, c9, c10, c11, c12, c13⟩ := HC.out W (HB1.out.trans ((HB8.out.trans (hW.mono HB8.out.size)).mono HB1.out.size)) (HB8.out.trans (hW.mono HB8.out.size)); go_simp; try with_reducible rfl
        refine wpAnyH_take (i := 8) (v := ?_) rfl (by kernel_rfl) (by kernel_rfl) (by kernel_rfl) (fun _ _ _ h => h) (Or.inl ⟨by kernel_rfl, ?_⟩) hS ?_
        rotate_left
        · intro W hW; go_simp; try with_reducible rfl
        refine wpAnyH_take (i := 9) (v := ?_) rfl (by kernel_rfl) (by kernel_rfl) (by kernel_rfl) (fun _ _ _ h => h) (Or.inl ⟨by kernel_rfl, ?_⟩) hS ?_
        rotate_left
        · intro W hW; obtain ⟨c0, c1, c2, c3, c4, c5, c6, c7, c8, c9, c10, c11, c12, c13⟩ := HC.out W (HB1.out.trans ((HB8.out.trans (hW.mono HB8.out.size)).mono HB1.out.size)) (HB8.out.trans (hW.mono HB8.out.size)); go_simp; try with_reducible rfl
        refine wpAnyH_take (i := 10) (v := ?_) rfl (by kernel_rfl) (by kernel_rfl) (by kernel_rfl) (fun _ _ _ h => h) (Or.inl ⟨by kernel_rfl, ?_⟩) hS ?_
        rotate_left
        · intro W hW; go_simp; try with_reducible rfl
        refine wpAnyH_take (i := 11) (v := ?_) rfl (by kernel_rfl) (by kernel_rfl) (by kernel_rfl) (fun _ _ _ h => h) (Or.inl ⟨by kernel_rfl, ?_⟩) hS ?_
        rotate_left
        · intro W hW; go_simp; try with_reducible rfl
        refine wpAnyH_take (i := 12) (v := ?_) rfl (by kernel_rfl) (by kernel_rfl) (by kernel_rfl) (fun _ _ _ h => h) (Or.inl ⟨by kernel_rfl, ?_⟩) hS ?_
        rotate_left
        · intro W hW; go_simp; try with_reducible rfl
        refine wpAnyH_take (i := 13) (v := ?_) rfl (by kernel_rfl) (by kernel_rfl) (by kernel_rfl) (fun _ _ _ h => h) (Or.inl ⟨by kernel_rfl, ?_⟩) hS ?_
        rotate_left
        · intro W hW; obtain ⟨c0, c1, c2, c3, c4, c5, c6, c7, c8, c9, c10, c11, c12, c13⟩ := HC.out W (HB1.out.trans ((HB8.out.trans (hW.mono HB8.out.size)).mono HB1.out.size)) (HB8.out.trans (hW.mono HB8.out.size)); go_simp; try with_reducible rfl
        refine wpAnyH_take (i := 14) (v := ?_) rfl (by kernel_rfl) (by kernel_rfl) (by kernel_rfl) (fun _ _ _ h => h) (Or.inl ⟨by kernel_rfl, ?_⟩) hS ?_
        rotate_left
        · intro W hW; go_simp; try with_reducible rfl
        refine wpAnyH_take (i := 15) (v := ?_) rfl (by kernel_rfl) (by kernel_rfl) (by kernel_rfl) (fun _ _ _ h => h) (Or.inl ⟨by kernel_rfl, ?_⟩) hS ?_
        rotate_left
        · intro W hW; obtain ⟨c0, c1, c2, c3, c4, c5, c6, c7, c8, c9, c10, c11, c12, c13⟩ := HC.out W (HB1.out.trans ((HB8.out.trans (hW.mono HB8.out.size)).mono HB1.out.size)) (HB8.out.trans (hW.mono HB8.out.size)); go_simp; try with_reducible rfl
        refine wpAnyH_take (i := 16) (v := ?_) rfl (by kernel_rfl) (by kernel_rfl) (by kernel_rfl) (fun _ _ _ h => h) (Or.inl ⟨by kernel_rfl, ?_⟩) hS ?_
        rotate_left
        · intro W hW; go_simp; try with_reducible rfl
        refine wpAnyH_take (i := 17) (v := ?_) rfl (by kernel_rfl) (by kernel_rfl) (by kernel_rfl) (fun _ _ _ h => h) (Or.inl ⟨by kernel_rfl, ?_⟩) hS ?_
        rotate_left
        · intro W hW; obtain ⟨c0, c1, c2, c3, c4, c5, c6, c7, c8, c9, c10, c11, c12, c13⟩ := HC.out W (HB1.out.trans ((HB8.out.trans (hW.mono HB8.out.size)).mono HB1.out.size)) (HB8.out.trans (hW.mono HB8.out.size)); go_simp; try with_reducible rfl
        refine wpAnyH_take (i := 18) (v := ?_) rfl (by kernel_rfl) (by kernel_rfl) (by kernel_rfl) (fun _ _ _ h => h) (Or.inl ⟨by kernel_rfl, ?_⟩) hS ?_
        rotate_left
        · intro W hW; go_simp; try with_reducible rfl
        refine wpAnyH_ready (rs := [19]) (by kernel_rfl) (by simp) ?_
        go_simp
        refine AllReadyH.cons (i := 19) rfl ?_ AllReadyH.nil
        intro K hK
        go_simp
        refine (E1.out _ (HB1.out.trans ((HB8.out.trans (hS.mono HB8.out.size)).mono HB1.out.size))).mono ?_
        rintro e w6 ⟨rfl, B6⟩
        have hT := hS.trans (B6.mono hS.size)
        go_simp
        refine hK.out _ _ ?_ (fun hN => ?_)
        · first | exact hT | exact hS | exact hS.alloc hS.size _ | exact hS.drew
        clear hK K
        try clear hT
        clear hS
        have hS := hN
        clear hN
        refine wpAnyH_take (i := 20) (v := ?_) rfl (by kernel_rfl) (by kernel_rfl) (by kernel_rfl) (fun _ _ _ h => h) (Or.inl ⟨by kernel_rfl, ?_⟩) hS ?_
        rotate_left
        · intro W hW; go_simp; try with_reducible rfl
        refine wpAnyH_done (by kernel_rfl) ?_ _
        go_simp
        have HB9 := Lib.hid (HB8.out.trans (hS.mono HB8.out.size))
        clear hS
        go_wp2_with fail
        go_roundw
        case rel => exact ⟨2, by omega, by omega, rfl, ⟨fun h => HL.out.1 (by omega), fun h => HQ.out, fun h => by omega⟩, HB9.out⟩
        case measure => simp [intOf]
    · by_cases hq : q2 = 0
      rotate_left
      · have b1 : ((q2 : Int) != 0) = true := ne_t (by omega)
        clear hq
        go_upto_region 8 with fail
        refine wp_region_held_drew (S := fun W => Below wr.heap.size wr W) (by kernel_rfl) ((Below.refl _ _).drew) (fun hS => ?_)
        refine wpAnyH_take (i := 0) (v := ?_) rfl (by kernel_rfl) (by kernel_rfl) (by kernel_rfl) (fun _ _ _ h => h) (Or.inl ⟨by kernel_rfl, ?_⟩) hS ?_
        rotate_left
        · intro W hW; go_simp; try with_reducible rfl
        refine wpAnyH_take (i := 1) (v := ?_) rfl (by kernel_rfl) (by kernel_rfl) (by kernel_rfl) (fun _ _ _ h => h) (Or.inl ⟨by kernel_rfl, ?_⟩) hS ?_
        rotate_left
        · intro W hW; obtain ⟨c0, c1, c2, c3, c4, c5, c6, c7, c8, c9, c10, c11, c12, c13⟩ := HC.out W (HB1.out.trans ((HB8.out.trans (hW.mono HB8.out.size)).mono HB1.out.size)) (HB8.out.trans (hW.mono HB8.out.size)); go_simp; try with_reducible rfl
        refine wpAnyH_take (i := 2) (v := ?_) rfl (by kernel_rfl) (by kernel_rfl) (by kernel_rfl) (fun _ _ _ h => h) (Or.inl ⟨by kernel_rfl, ?_⟩) hS ?_
        rotate_left
        · intro W hW; go_simp; try with_reducible rfl
        refine wpAnyH_take (i := 3) (v := ?_) rfl (by kernel_rfl) (by kernel_rfl) (by kernel_rfl) (fun _ _ _ h => h) (Or.inl ⟨by kernel_rfl, ?_⟩) hS ?_
        rotate_left
        · intro W hW; go_simp; try with_reducible rfl
        refine wpAnyH_take (i := 4) (v := ?_) rfl (by kernel_rfl) (by kernel_rfl) (by kernel_rfl) (fun _ _ _ h => h) (Or.inl ⟨by kernel_rfl, ?_⟩) hS ?_
        rotate_left
        · intro W hW; go_simp; try with_reducible rfl
        refine wpAnyH_take (i := 5) (v := ?_) rfl (by kernel_rfl) (by kernel_rfl) (by kernel_rfl) (fun _ _ _ h => h) (Or.inl ⟨by kernel_rfl, ?_⟩) hS ?_
        rotate_left
        · intro W hW; obtain ⟨c0, c1, c2, c3, c4, c5, c6, c7, c8, c9, c10, c11, c12, c13⟩ := HC.out W (HB1.out.trans ((HB8.out.trans (hW.mono HB8.out.size)).mono HB1.out.size)) (HB8.out.trans (hW.mono HB8.out.size)); go_simp; try with_reducible rfl
        refine wpAnyH_take (i := 6) (v := ?_) rfl (by kernel_rfl) (by kernel_rfl) (by kernel_rfl) (fun _ _ _ h => h) (Or.inl ⟨by kernel_rfl, ?_⟩) hS ?_
        rotate_left
        · intro W hW; go_simp; try with_reducible rfl
        refine wpAnyH_take (i := 7) (v := ?_) rfl (by kernel_rfl) (by kernel_rfl) (by kernel_rfl) (fun _ _ _ h => h) (Or.inl ⟨by kernel_rfl, ?_⟩) hS ?_
        rotate_left
        · intro W hW; obtain ⟨c0, c1, c2, c3, c4, c5, c6, c7, c8, c9, c10, c11, c12, c13⟩ := HC.out W (HB1.out.trans ((HB8.out.trans (hW.mono HB8.out.size)).mono HB1.out.size)) (HB8.out.trans (hW.mono HB8.out.size)); go_simp; try with_reducible rfl
        refine wpAnyH_take (i := 8) (v := ?_) rfl (by kernel_rfl) (by kernel_rfl) (by kernel_rfl) (fun _ _ _ h => h) (Or.inl ⟨by kernel_rfl, ?_⟩) hS ?_
        rotate_left
        · intro W hW; go_simp; try with_reducible rfl
        refine wpAnyH_take (i := 9) (v := ?_) rfl (by kernel_rfl) (by kernel_rfl) (by kernel_rfl) (fun _ _ _ h => h) (Or.inl ⟨by kernel_rfl, ?_⟩) hS ?_
        rotate_left
        · intro W hW; obtain ⟨c0, c1, c2, c3, c4, c5, c6, c7, c8, c9, c10, c11, c12, c13⟩ := HC.out W (HB1.out.trans ((HB8.out.trans (hW.mono HB8.out.size)).mono HB1.out.size)) (HB8.out.trans (hW.mono HB8.out.size)); go_simp; try with_reducible rfl
        refine wpAnyH_take (i := 10) (v := ?_) rfl (by kernel_rfl) (by kernel_rfl) (by kernel_rfl) (fun _ _ _ h => h) (Or.inl ⟨by kernel_rfl, ?_⟩) hS ?_
        rotate_left
        · intro W hW; go_simp; try with_reducible rfl
        refine wpAnyH_take (i := 11) (v := ?_) rfl (by kernel_rfl) (by kernel_rfl) (by kernel_rfl) (fun _ _ _ h => h) (Or.inl ⟨by kernel_rfl, ?_⟩) hS ?_
        rotate_left
        · intro W hW; go_simp; try with_reducible rfl
        refine wpAnyH_take (i := 12) (v := ?_) rfl (by kernel_rfl) (by kernel_rfl) (by kernel_rfl) (fun _ _ _ h => h) (Or.inl ⟨by kernel_rfl, ?_⟩) hS ?_
        rotate_left
        · intro W hW; go_simp; try with_reducible rfl
        refine wpAnyH_take (i := 13) (v := ?_) rfl (by kernel_rfl) (by kernel_rfl) (by kernel_rfl) (fun _ _ _ h => h) (Or.inl ⟨by kernel_rfl, ?_⟩) hS ?_
        rotate_left
        · intro W hW; obtain ⟨c0, c1, c2, c3, c4, c5, c6, c7, c8, c9, c10, c11, c12, c13⟩ := HC.out W (HB1.out.trans ((HB8.out.trans (hW.mono HB8.out.size)).mono HB1.out.size)) (HB8.out.trans (hW.mono HB8.out.size)); go_simp; try with_reducible rfl
        refine wpAnyH_take (i := 14) (v := ?_) rfl (by kernel_rfl) (by kernel_rfl) (by kernel_rfl) (fun _ _ _ h => h) (Or.inl ⟨by kernel_rfl, ?_⟩) hS ?_
        rotate_left
        · intro W hW; go_simp; try with_reducible rfl
        refine wpAnyH_take (i := 15) (v := ?_) rfl (by kernel_rfl) (by kernel_rfl) (by kernel_rfl) (fun _ _ _ h => h) (Or.inl ⟨by kernel_rfl, ?_⟩) hS ?_
        rotate_left
        · intro W hW; obtain ⟨c0, c1, c2, c3, c4, c5, c6, c7, c8, c9, c10, c11, c12, c13⟩ := HC.out W (HB1.out.trans ((HB8.out.trans (hW.mono HB8.out.size)).mono HB1.out.size)) (HB8.out.trans (hW.mono HB8.out.size)); go_simp; try with_reducible rfl
        refine wpAnyH_take (i := 16) (v := ?_) rfl (by kernel_rfl) (by kernel_rfl) (by kernel_rfl) (fun _ _ _ h => h) (Or.inl ⟨by kernel_rfl, ?_⟩) hS ?_
        rotate_left
        · intro W hW; go_simp; try with_reducible rfl
        refine wpAnyH_take (i := 17) (v := ?_) rfl (by kernel_rfl) (by kernel_rfl) (by kernel_rfl) (fun _ _ _ h => h) (Or.inl ⟨by kernel_rfl, ?_⟩) hS ?_
        rotate_left
        · intro W hW; obtain ⟨c0, c1, c2, c3, c4, c5, c6, c7, c8, c9, c10, c11, c12, c13⟩ := HC.out W (HB1.out.trans ((HB8.out.trans (hW.mono HB8.out.size)).mono HB1.out.size)) (HB8.out.trans (hW.mono HB8.out.size)); go_simp; try with_reducible rfl
        refine wpAnyH_take (i := 18) (v := ?_) rfl (by kernel_rfl) (by kernel_rfl) (by kernel_rfl) (fun _ _ _ h => h) (Or.inl ⟨by kernel_rfl, ?_⟩) hS ?_
        rotate_left
        · intro W hW; go_simp; try with_reducible rfl
        refine wpAnyH_ready (rs := [19]) (by kernel_rfl) (by simp) ?_
        go_simp
        refine AllReadyH.cons (i := 19) rfl ?_ AllReadyH.nil
        intro K hK
        go_simp
        refine (E2.out _ (HB1.out.trans ((HB8.out.trans (hS.mono HB8.out.size)).mono HB1.out.size))).mono ?_
        rintro e w6 ⟨rfl, B6⟩
        have hT := hS.trans (B6.mono hS.size)
        go_simp
        refine hK.out _ _ ?_ (fun hN => ?_)
        · first | exact hT | exact hS | exact hS.alloc hS.size _ | exact hS.drew
        clear hK K
        try clear hT
        clear hS
        have hS := hN
        clear hN
        refine wpAnyH_take (i := 20) (v := ?_) rfl (by kernel_rfl) (by kernel_rfl) (by kernel_rfl) (fun _ _ _ h => h) (Or.inl ⟨by kernel_rfl, ?_⟩) hS ?_
        rotate_left
        · intro W hW; go_simp; try with_reducible rfl
        refine wpAnyH_done (by kernel_rfl) ?_ _
        go_simp
        have HB9 := Lib.hid (HB8.out.trans (hS.mono HB8.out.size))
        clear hS
        go_wp2_with fail
        go_ret
        exact ⟨false, rfl, (fun h => by cases h), HB1.out.trans (HB9.out.mono HB1.out.size)⟩
      · have b1 : ((q2 : Int) != 0) = false := ne_f (by omega)
        have HQ := Lib.hid hq
        clear hq
        go_upto_region 8 with fail
        refine wp_region_held_drew (S := fun W => Below wr.heap.size wr W) (by kernel_rfl) ((Below.refl _ _).drew) (fun hS => ?_)
        refine wpAnyH_take (i := 0) (v := ?_) rfl (by kernel_rfl) (by kernel_rfl) (by kernel_rfl) (fun _ _ _ h => h) (Or.inl ⟨by kernel_rfl, ?_⟩) hS ?_
        rotate_left
        · intro W hW; go_simp; try with_reducible rfl
        refine wpAnyH_take (i := 1) (v := ?_) rfl (by kernel_rfl) (by kernel_rfl) (by kernel_rfl) (fun _ _ _ h => h) (Or.inl ⟨by kernel_rfl, ?_⟩) hS ?_
        rotate_left
        · intro W hW; obtain ⟨c0, c1, c2, c3, c4, c5, c6, c7, c8, c9, c10, c11, c12, c13⟩ := HC.out W (HB1.out.trans ((HB8.out.trans (hW.mono HB8.out.size)).mono HB1.out.size)) (HB8.out.trans (hW.mono HB8.out.size)); go_simp; try with_reducible rfl
        refine wpAnyH_take (i := 2) (v := ?_) rfl (by kernel_rfl) (by kernel_rfl) (by kernel_rfl) (fun _ _ _ h => h) (Or.inl ⟨by kernel_rfl, ?_⟩) hS ?_
        rotate_left
        · intro W hW; go_simp; try with_reducible rfl
        refine wpAnyH_take (i := 3) (v := ?_) rfl (by kernel_rfl) (by kernel_rfl) (by kernel_rfl) (fun _ _ _ h => h) (Or.inl ⟨by kernel_rfl, ?_⟩) hS ?_
        rotate_left
        · intro W hW; go_simp; try with_reducible rfl
        refine wpAnyH_take (i := 4) (v := ?_) rfl (by kernel_rfl) (by kernel_rfl) (by kernel_rfl) (fun _ _ _ h => h) (Or.inl ⟨by kernel_rfl, ?_⟩) hS ?_
        rotate_left
        · intro W hW; go_simp; try with_reducible rfl
        refine wpAnyH_take (i := 5) (v := ?_) rfl (by kernel_rfl) (by kernel_rfl) (by kernel_rfl) (fun _ _ _ h => h) (Or.inl ⟨by kernel_rfl, ?_⟩) hS ?_
        rotate_left
        · intro W hW; obtain ⟨c0, c1, c2, c3, c4, c5, c6, c7, c8, c9, c10, c11, c12, c13⟩ := HC.out W (HB1.out.trans ((HB8.out.trans (hW.mono HB8.out.size)).mono HB1.out.size)) (HB8.out.trans (hW.mono HB8.out.size)); go_simp; try with_reducible rfl
        refine wpAnyH_take (i := 6) (v := ?_) rfl (by kernel_rfl) (by kernel_rfl) (by kernel_rfl) (fun _ _ _ h => h) (Or.inl ⟨by kernel_rfl, ?_⟩) hS ?_
        rotate_left
        · intro W hW; go_simp; try with_reducible rfl
        refine wpAnyH_take (i := 7) (v := ?_) rfl (by kernel_rfl) (by kernel_rfl) (by kernel_rfl) (fun _ _ _ h => h) (Or.inl ⟨by kernel_rfl, ?_⟩) hS ?_
        rotate_left
        · intro W hW; obtain ⟨c0, c1, c2, c3, c4, c5, c6, c7, c8, c9, c10, c11, c12, c13⟩ := HC.out W (HB1.out.trans ((HB8.out.trans (hW.mono HB8.out.size)).mono HB1.out.size)) (HB8.out.trans (hW.mono HB8.out.size)); go_simp; try with_reducible rfl
        refine wpAnyH_take (i := 8) (v := ?_) rfl (by kernel_rfl) (by kernel_rfl) (by kernel_rfl) (fun _ _ _ h => h) (Or.inl ⟨by kernel_rfl, ?_⟩) hS ?_
        rotate_left
        · intro W hW; go_simp; try with_reducible rfl
        refine wpAnyH_take (i := 9) (v := ?_) rfl (by kernel_rfl) (by kernel_rfl) (by kernel_rfl) (fun _ _ _ h => h) (Or.inl ⟨by kernel_rfl, ?_⟩) hS ?_
        rotate_left
        · intro W hW; obtain ⟨c0, c1, c2, c3, c4, c5, c6, c7, c8, c9, c10, c11, c12, c13⟩ := HC.out W (HB1.out.trans ((HB8.out.trans (hW.mono HB8.out.size)).mono HB1.out.size)) (HB8.out.trans (hW.mono HB8.out.size)); go_simp; try with_reducible rfl
        refine wpAnyH_take (i := 10) (v := ?_) rfl (by kernel_rfl) (by kernel_rfl) (by kernel_rfl) (fun _ _ _ h => h) (Or.inl ⟨by kernel_rfl, ?_⟩) hS ?_
        rotate_left
        · intro W hW; go_simp; try with_reducible rfl
        refine wpAnyH_take (i := 11) (v := ?_) rfl (by kernel_rfl) (by kernel_rfl) (by kernel_rfl) (fun _ _ _ h => h) (Or.inl ⟨by kernel_rfl, ?_⟩) hS ?_
        rotate_left
        · intro W hW; go_simp; try with_reducible rfl
        refine wpAnyH_take (i := 12) (v := ?_) rfl (by kernel_rfl) (by kernel_rfl) (by kernel_rfl) (fun _ _ _ h => h) (Or.inl ⟨by kernel_rfl, ?_⟩) hS ?_
        rotate_left
        · intro W hW; go_simp; try with_reducible rfl
        refine wpAnyH_take (i := 13) (v := ?_) rfl (by kernel_rfl) (by kernel_rfl) (by kernel_rfl) (fun _ _ _ h => h) (Or.inl ⟨by kernel_rfl, ?_⟩) hS ?_
        rotate_left
        · intro W hW; obtain ⟨c0, c1, c2, c3, c4, c5, c6, c7, c8, c9, c10, c11, c12, c13⟩ := HC.out W (HB1.out.trans ((HB8.out.trans (hW.mono HB8.out.size)).mono HB1.out.size)) (HB8.out.trans (hW.mono HB8.out.size)); go_simp; try with_reducible rfl
        refine wpAnyH_take (i := 14) (v := ?_) rfl (by kernel_rfl) (by kernel_rfl) (by kernel_rfl) (fun _ _ _ h => h) (Or.inl ⟨by kernel_rfl, ?_⟩) hS ?_
        rotate_left
        · intro W hW; go_simp; try with_reducible rfl
        refine wpAnyH_take (i := 15) (v := ?_) rfl (by kernel_rfl) (by kernel_rfl) (by kernel_rfl) (fun _ _ _ h => h) (Or.inl ⟨by kernel_rfl, ?_⟩) hS ?_
        rotate_left
        · intro W hW; obtain ⟨c0, c1, c2, c3, c4, c5, c6, c7, c8, c9, c10, c11, c12, c13⟩ := HC.out W (HB1.out.trans ((HB8.out.trans (hW.mono HB8.out.size)).mono HB1.out.size)) (HB8.out.trans (hW.mono HB8.out.size)); go_simp; try with_reducible rfl
        refine wpAnyH_take (i := 16) (v := ?_) rfl (by kernel_rfl) (by kernel_rfl) (by kernel_rfl) (fun _ _ _ h => h) (Or.inl ⟨by kernel_rfl, ?_⟩) hS ?_
        rotate_left
        · intro W hW; go_simp; try with_reducible rfl
        refine wpAnyH_take (i := 17) (v := ?_) rfl (by kernel_rfl) (by kernel_rfl) (by kernel_rfl) (fun _ _ _ h => h) (Or.inl ⟨by kernel_rfl, ?_⟩) hS ?_
        rotate_left
        · intro W hW; obtain ⟨c0, c1, c2, c3, c4, c5, c6, c7, c8, c9, c10, c11, c12, c13⟩ := HC.out W (HB1.out.trans ((HB8.out.trans (hW.mono HB8.out.size)).mono HB1.out.size)) (HB8.out.trans (hW.mono HB8.out.size)); go_simp; try with_reducible rfl
        refine wpAnyH_take (i := 18) (v := ?_) rfl (by kernel_rfl) (by kernel_rfl) (by kernel_rfl) (fun _ _ _ h => h) (Or.inl ⟨by kernel_rfl, ?_⟩) hS ?_
        rotate_left
        · intro W hW; go_simp; try with_reducible rfl
        refine wpAnyH_ready (rs := [19]) (by kernel_rfl) (by simp) ?_
        go_simp
        refine AllReadyH.cons (i := 19) rfl ?_ AllReadyH.nil
        intro K hK
        go_simp
        refine (E2.out _ (HB1.out.trans ((HB8.out.trans (hS.mono HB8.out.size)).mono HB1.out.size))).mono ?_
        rintro e w6 ⟨rfl, B6⟩
        have hT := hS.trans (B6.mono hS.size)
        go_simp
        refine hK.out _ _ ?_ (fun hN => ?_)
        · first | exact hT | exact hS | exact hS.alloc hS.size _ | exact hS.drew
        clear hK K
        try clear hT
        clear hS
        have hS := hN
        clear hN
        refine wpAnyH_take (i := 20) (v := ?_) rfl (by kernel_rfl) (by kernel_rfl) (by kernel_rfl) (fun _ _ _ h => h) (Or.inl ⟨by kernel_rfl, ?_⟩) hS ?_
        rotate_left
        · intro W hW; go_simp; try with_reducible rfl
        refine wpAnyH_done (by kernel_rfl) ?_ _
        go_simp
        have HB9 := Lib.hid (HB8.out.trans (hS.mono HB8.out.size))
        clear hS
        go_wp2_with fail
        go_roundw
        case rel => exact ⟨3, by omega, by omega, rfl, ⟨fun h => HL.out.1 (by omega), fun h => HL.out.2.1 (by omega), fun h => HQ.out⟩, HB9.out⟩
        case measure => simp [intOf]
    · go_wp2_with fail
      go_ret
      exact ⟨true, rfl, fun _ => ⟨HL.out.1 (by omega), HL.out.2.1 (by omega), HL.out.2.2 (by omega)⟩, HB1.out.trans (HB8.out.mono HB1.out.size)⟩
set_option maxRecDepth 100000 in
set_option maxHeartbeats 8000000 in
theorem right_m3 (fr vol a0 a1 a2 : Int) (id : Nat) (l0 l1 l2 : Int) (key ck : Nat) (a : Option Addr) (c : Nat) (l : List (BitVec 8)) (w : World) (h : a0 ≠ a1) (h2 : a1 ≠ a2) (h3 : a0 ≠ a2) (hb : BSl w w.heap.size a 0 l) (hn : 0 ≤ 1099511627776) :
    Calls Try.prog 37 #[.agg #[.int .i64 3, .int .i64 fr, .int .i64 vol, .int .i64 a0, .int .i64 a1, .int .i64 a2, .int .u64 id, .int .i64 l0, .int .i64 l1, .int .i64 l2, .int .u64 key, .int .u32 ck, .bool false, .slice a 0 c]] w (RtP w (mchk (⟨fr, a0, 3, vol, l0, id, 0, true, key, ck, false, a, 0, c, l⟩ : MsgR)) (mchk (⟨fr, a1, 3, vol, l1, id, 0, true, key, ck, false, a, 0, c, l⟩ : MsgR)) (mchk (⟨fr, a2, 3, vol, l2, id, 0, true, key, ck, false, a, 0, c, l⟩ : MsgR))) := by
  obtain ⟨W1, hW1⟩ : ∃ W, w.alloc (.cells #[.int .i64 3, .int .i64 fr, .int .i64 vol, .int .i64 a0, .int .i64 a1, .int .i64 a2, .int .u64 id, .int .i64 l0, .int .i64 l1, .int .i64 l2, .int .u64 key, .int .u32 ck, .bool false, .slice a 0 c] 75) = W := ⟨_, rfl⟩
  have HB1 := Lib.hid (show Below w.heap.size w W1 from by rw [← hW1]; exact (Below.refl _ _).alloc (Nat.le_refl _) _)
  have hO : Blk W1 w.heap.size 75 #[.int .i64 3, .int .i64 fr, .int .i64 vol, .int .i64 a0, .int .i64 a1, .int .i64 a2, .int .u64 id, .int .i64 l0, .int .i64 l1, .int .i64 l2, .int .u64 key, .int .u32 ck, .bool false, .slice a 0 c] := by rw [← hW1]; exact Blk.made w _ _
  have HO := Lib.hid hO
  obtain ⟨k0, k1, k2, k3, k4, k5, k6, k7, k8, k9, k10, k11, k12, k13⟩ := op14 hO
  clear hO
  have b01 : (a0 == a1) = false := eq_f h
  have b12 : (a1 == a2) = false := eq_f h2
  have b02 : (a0 == a2) = false := eq_f h3
  have HBS := Lib.hid hb
  have HC := Lib.hid fun (W : World) (B0 : Below w.heap.size w W) (B1 : Below W1.heap.size W1 W) => op14 (HO.out.below B1 HO.out.lt)
  have E0 := Lib.hid fun (W : World) (B0 : Below w.heap.size w W) => rcheck_any (⟨fr, a0, 3, vol, l0, id, 0, true, key, ck, false, a, 0, c, l⟩ : MsgR) W ((HBS.out.below B0).more B0.size) hn
  have E1 := Lib.hid fun (W : World) (B0 : Below w.heap.size w W) => rcheck_any (⟨fr, a1, 3, vol, l1, id, 0, true, key, ck, false, a, 0, c, l⟩ : MsgR) W ((HBS.out.below B0).more B0.size) hn
  have E2 := Lib.hid fun (W : World) (B0 : Below w.heap.size w W) => rcheck_any (⟨fr, a2, 3, vol, l2, id, 0, true, key, ck, false, a, 0, c, l⟩ : MsgR) W ((HBS.out.below B0).more B0.size) hn
  clear h h2 h3 hb hn
  unfold MsgR.vals at E0 E1 E2
  dsimp only at E0 E1 E2
  generalize mchk (⟨fr, a0, 3, vol, l0, id, 0, true, key, ck, false, a, 0, c, l⟩ : MsgR) = q0 at *
  generalize mchk (⟨fr, a1, 3, vol, l1, id, 0, true, key, ck, false, a, 0, c, l⟩ : MsgR) = q1 at *
  generalize mchk (⟨fr, a2, 3, vol, l2, id, 0, true, key, ck, false, a, 0, c, l⟩ : MsgR) = q2 at *
  go_enter Try.func37, Try.ntmps37
  go_wp2_with fail
  try clear hW1
  clear k0 k1 k2 k3 k4 k5 k6 k7 k8 k9 k10 k11 k12 k13 b01 b12 b02
  go_loopw [3] (fun iv wr => ∃ i : Int, 0 ≤ i ∧ i ≤ 3 ∧ iv = .int .i64 i ∧ RtL i q0 q1 q2 ∧ Below W1.heap.size W1 wr) (fun iv _ => (3 - intOf iv).toNat)
  case atStart => exact ⟨0, by omega, by omega, rfl, ⟨fun h => by omega, fun h => by omega, fun h => by omega⟩, Below.refl _ _⟩
  case round =>
    obtain ⟨i, hi0, hi3, rfl, hL, hB8⟩ := hrel
    have HB8 := Lib.hid hB8
    have HL := Lib.hid hL
    clear hB8 hL
    have h4 : i = 0 ∨ i = 1 ∨ i = 2 ∨ i = 3 := by omega
    clear hi0 hi3
    rcases h4 with rfl | rfl | rfl | rfl
    · by_cases hq : q0 = 0
      rotate_left
      · have b1 : ((q0 : Int) != 0) = true := ne_t (by omega)
        clear hq
        go_upto_region 8 with fail
        refine wp_region_held_drew (S := fun W => Below wr.heap.size wr W) (by kernel_rfl) ((Below.refl _ _).drew) (fun hS => ?_)
        refine wpAnyH_take (i := 0) (v := ?_) rfl (by kernel_rfl) (by kernel_rfl) (by kernel_rfl) (fun _ _ _ h => h) (Or.inl ⟨by kernel_rfl, ?_⟩) hS ?_
        rotate_left
        · intro W hW; go_simp; try with_reducible rfl
        refine wpAnyH_take (i := 1) (v := ?_) rfl (by kernel_rfl) (by kernel_rfl) (by kernel_rfl) (fun _ _ _ h => h) (Or.inl ⟨by kernel_rfl, ?_⟩) hS ?_
        rotate_left
        · intro W hW; obtain ⟨c0, c1, c2, c3, c4, c5, c6, c7, c8, c9, c10, c11, c12, c13⟩ := HC.out W (HB1.out.trans ((HB8.out.trans (hW.mono HB8.out.size)).mono HB1.out.size)) (HB8.out.trans (hW.mono HB8.out.size)); go_simp; try with_reducible rfl
        refine wpAnyH_take (i := 2) (v := ?_) rfl (by kernel_rfl) (by kernel_rfl) (by kernel_rfl) (fun _ _ _ h => h) (Or.inl ⟨by kernel_rfl, ?_⟩) hS ?_
        rotate_left
        · intro W hW; go_simp; try with_reducible rfl
        refine wpAnyH_take (i := 3) (v := ?_) rfl (by kernel_rfl) (by kernel_rfl) (by kernel_rfl) (fun _ _ _ h => h) (Or.inl ⟨by kernel_rfl, ?_⟩) hS ?_
        rotate_left
        · intro W hW; go_simp; try with_reducible rfl
        refine wpAnyH_take (i := 4) (v := ?_) rfl (by kernel_rfl) (by kernel_rfl) (by kernel_rfl) (fun _ _ _ h => h) (Or.inl ⟨by kernel_rfl, ?_⟩) hS ?_
        rotate_left
        · intro W hW; go_simp; try with_reducible rfl
        refine wpAnyH_take (i := 5) (v := ?_) rfl (by kernel_rfl) (by kernel_rfl) (by kernel_rfl) (fun _ _ _ h => h) (Or.inl ⟨by kernel_rfl, ?_⟩) hS ?_
        rotate_left
        · intro W hW; obtain ⟨c0, c1, c2, c3, c4, c5, c6, c7, c8, c9, c10, c11, c12, c13⟩ := HC.out W (HB1.out.trans ((HB8.out.trans (hW.mono HB8.out.size)).mono HB1.out.size)) (HB8.out.trans (hW.mono HB8.out.size)); go_simp; try with_reducible rfl
        refine wpAnyH_take (i := 6) (v := ?_) rfl (by kernel_rfl) (by kernel_rfl) (by kernel_rfl) (fun _ _ _ h => h) (Or.inl ⟨by kernel_rfl, ?_⟩) hS ?_
        rotate_left
        · intro W hW; go_simp; try with_reducible rfl
        refine wpAnyH_take (i := 7) (v := ?_) rfl (by kernel_rfl) (by kernel_rfl) (by kernel_rfl) (fun _ _ _ h => h) (Or.inl ⟨by kernel_rfl, ?_⟩) hS ?_
        rotate_left
        · intro W hW; obtain ⟨c0, c1, c2, c3, c4, c5, c6, c7, c8, c9, c10, c11, c12, c13⟩ := HC.out W (HB1.out.trans ((HB8.out.trans (hW.mono HB8.out.size)).mono HB1.out.size)) (HB8.out.trans (hW.mono HB8.out.size)); go_simp; try with_reducible rfl
        refine wpAnyH_take (i := 8) (v := ?_) rfl (by kernel_rfl) (by kernel_rfl) (by kernel_rfl) (fun _ _ _ h => h) (Or.inl ⟨by kernel_rfl, ?_⟩) hS ?_
        rotate_left
        · intro W hW; go_simp; try with_reducible rfl
        refine wpAnyH_take (i := 9) (v := ?_) rfl (by kernel_rfl) (by kernel_rfl) (by kernel_rfl) (fun _ _ _ h => h) (Or.inl ⟨by kernel_rfl, ?_⟩) hS ?_
        rotate_left
        · intro W hW; obtain ⟨c0, c1, c2, c3, c4, c5, c6, c7, c8, c9, c10, c11, c12, c13⟩ := HC.out W (HB1.out.trans ((HB8.out.trans (hW.mono HB8.out.size)).mono HB1.out.size)) (HB8.out.trans (hW.mono HB8.out.size)); go_simp; try with_reducible rfl
        refine wpAnyH_take (i := 10) (v := ?_) rfl (by kernel_rfl) (by kernel_rfl) (by kernel_rfl) (fun _ _ _ h => h) (Or.inl ⟨by kernel_rfl, ?_⟩) hS ?_
        rotate_left
        · intro W hW; go_simp; try with_reducible rfl
        refine wpAnyH_take (i := 11) (v := ?_) rfl (by kernel_rfl) (by kernel_rfl) (by kernel_rfl) (fun _ _ _ h => h) (Or.inl ⟨by kernel_rfl, ?_⟩) hS ?_
        rotate_left
        · intro W hW; go_simp; try with_reducible rfl
        refine wpAnyH_take (i := 12) (v := ?_) rfl (by kernel_rfl) (by kernel_rfl) (by kernel_rfl) (fun _ _ _ h => h) (Or.inl ⟨by kernel_rfl, ?_⟩) hS ?_
        rotate_left
        · intro W hW; go_simp; try with_reducible rfl
        refine wpAnyH_take (i := 13) (v := ?_) rfl (by kernel_rfl) (by kernel_rfl) (by kernel_rfl) (fun _ _ _ h => h) (Or.inl ⟨by kernel_rfl, ?_⟩) hS ?_
        rotate_left
        · intro W hW; obtain ⟨c0, c1, c2, c3, c4, c5, c6, c7, c8, c9, c10, c11, c12, c13⟩ := HC.out W (HB1.out.trans ((HB8.out.trans (hW.mono HB8.out.size)).mono HB1.out.size)) (HB8.out.trans (hW.mono HB8.out.size)); go_simp; try with_reducible rfl
        refine wpAnyH_take (i := 14) (v := ?_) rfl (by kernel_rfl) (by kernel_rfl) (by kernel_rfl) (fun _ _ _ h => h) (Or.inl ⟨by kernel_rfl, ?_⟩) hS ?_
        rotate_left
        · intro W hW; go_simp; try with_reducible rfl
        refine wpAnyH_take (i := 15) (v := ?_) rfl (by kernel_rfl) (by kernel_rfl) (by kernel_rfl) (fun _ _ _ h => h) (Or.inl ⟨by kernel_rfl, ?_⟩) hS ?_
        rotate_left
        · intro W hW; obtain ⟨c0, c1, c2, c3, c4, c5, c6, c7, c8, c9, c10, c11, c12, c13⟩ := HC.out W (HB1.out.trans ((HB8.out.trans (hW.mono HB8.out.size)).mono HB1.out.size)) (HB8.out.trans (hW.mono HB8.out.size)); go_simp; try with_reducible rfl
        refine wpAnyH_take (i := 16) (v := ?_) rfl (by kernel_rfl) (by kernel_rfl) (by kernel_rfl) (fun _ _ _ h => h) (Or.inl ⟨by kernel_rfl, ?_⟩) hS ?_
        rotate_left
        · intro W hW; go_simp; try with_reducible rfl
        refine wpAnyH_take (i := 17) (v := ?_) rfl (by kernel_rfl) (by kernel_rfl) (by kernel_rfl) (fun _ _ _ h => h) (Or.inl ⟨by kernel_rfl, ?_⟩) hS ?_
        rotate_left
        · intro W hW; obtain ⟨c0, c1, c2, c3, c4, c5, c6, c7, c8, c9, c10, c11, c12, c13⟩ := HC.out W (HB1.out.trans ((HB8.out.trans (hW.mono HB8.out.size)).mono HB1.out.size)) (HB8.out.trans (hW.mono HB8.out.size)); go_simp; try with_reducible rfl
        refine wpAnyH_take (i := 18) (v := ?_) rfl (by kernel_rfl) (by kernel_rfl) (by kernel_rfl) (fun _ _ _ h => h) (Or.inl ⟨by kernel_rfl, ?_⟩) hS ?_
        rotate_left
        · intro W hW; go_simp; try with_reducible rfl
        refine wpAnyH_ready (rs := [19]) (by kernel_rfl) (by simp) ?_
        go_simp
        refine AllReadyH.cons (i := 19) rfl ?_ AllReadyH.nil
        intro K hK
        go_simp
        refine (E0.out _ (HB1.out.trans ((HB8.out.trans (hS.mono HB8.out.size)).mono HB1.out.size))).mono ?_
        rintro e w6 ⟨rfl, B6⟩
        have hT := hS.trans (B6.mono hS.size)
        go_simp
        refine hK.out _ _ ?_ (fun hN => ?_)
        · first | exact hT | exact hS | exact hS.alloc hS.size _ | exact hS.drew
        clear hK K
        try clear hT
        clear hS
        have hS := hN
        clear hN
        refine wpAnyH_take (i := 20) (v := ?_) rfl (by kernel_rfl) (by kernel_rfl) (by kernel_rfl) (fun _ _ _ h => h) (Or.inl ⟨by kernel_rfl, ?_⟩) hS ?_
        rotate_left
        · intro W hW; go_simp; try with_reducible rfl
        refine wpAnyH_done (by kernel_rfl) ?_ _
        go_simp
        have HB9 := Lib.hid (HB8.out.trans (hS.mono HB8.out.size))
        clear hS
        go_wp2_with fail
        go_ret
        exact ⟨false, rfl, (fun h => by cases h), HB1.out.trans (HB9.out.mono HB1.out.size)⟩
      · have b1 : ((q0 : Int) != 0) = false := ne_f (by omega)
        have HQ := Lib.hid hq
        clear hq
        go_upto_region 8 with fail
        refine wp_region_held_drew (S := fun W => Below wr.heap.size wr W) (by kernel_rfl) ((Below.refl _ _).drew) (fun hS => ?_)
        refine wpAnyH_take (i := 0) (v := ?_) rfl (by kernel_rfl) (by kernel_rfl) (by kernel_rfl) (fun _ _ _ h => h) (Or.inl ⟨by kernel_rfl, ?_⟩) hS ?_
        rotate_left
        · intro W hW; go_simp; try with_reducible rfl
        refine wpAnyH_take (i := 1) (v := ?_) rfl (by kernel_rfl) (by kernel_rfl) (by kernel_rfl) (fun _ _ _ h => h) (Or.inl ⟨by kernel_rfl, ?_⟩) hS ?_
        rotate_left
        · intro W hW; obtain ⟨c0, c1, c2, c3, c4, c5, c6, c7, c8, c9, c10, c11, c12, c13⟩ := HC.out W (HB1.out.trans ((HB8.out.trans (hW.mono HB8.out.size)).mono HB1.out.size)) (HB8.out.trans (hW.mono HB8.out.size)); go_simp; try with_reducible rfl
        refine wpAnyH_take (i := 2) (v := ?_) rfl (by kernel_rfl) (by kernel_rfl) (by kernel_rfl) (fun _ _ _ h => h) (Or.inl ⟨by kernel_rfl, ?_⟩) hS ?_
        rotate_left
        · intro W hW; go_simp; try with_reducible rfl
        refine wpAnyH_take (i := 3) (v := ?_) rfl (by kernel_rfl) (by kernel_rfl) (by kernel_rfl) (fun _ _ _ h => h) (Or.inl ⟨by kernel_rfl, ?_⟩) hS ?_
        rotate_left
        · intro W hW; go_simp; try with_reducible rfl
        refine wpAnyH_take (i := 4) (v := ?_) rfl (by kernel_rfl) (by kernel_rfl) (by kernel_rfl) (fun _ _ _ h => h) (Or.inl ⟨by kernel_rfl, ?_⟩) hS ?_
        rotate_left
        · intro W hW; go_simp; try with_reducible rfl
        refine wpAnyH_take (i := 5) (v := ?_) rfl (by kernel_rfl) (by kernel_rfl) (by kernel_rfl) (fun _ _ _ h => h) (Or.inl ⟨by kernel_rfl, ?_⟩) hS ?_
        rotate_left
        · intro W hW; obtain ⟨c0, c1, c2, c3, c4, c5, c6, c7, c8, c9, c10, c11, c12, c13⟩ := HC.out W (HB1.out.trans ((HB8.out.trans (hW.mono HB8.out.size)).mono HB1.out.size)) (HB8.out.trans (hW.mono HB8.out.size)); go_simp; try with_reducible rfl
        refine wpAnyH_take (i := 6) (v := ?_) rfl (by kernel_rfl) (by kernel_rfl) (by kernel_rfl) (fun _ _ _ h => h) (Or.inl ⟨by kernel_rfl, ?_⟩) hS ?_
        rotate_left
        · intro W hW; go_simp; try with_reducible rfl
        refine wpAnyH_take (i := 7) (v := ?_) rfl (by kernel_rfl) (by kernel_rfl) (by kernel_rfl) (fun _ _ _ h => h) (Or.inl ⟨by kernel_rfl, ?_⟩) hS ?_
        rotate_left
        · intro W hW; obtain ⟨c0, c1, c2, c3, c4, c5, c6, c7, c8, c9, c10, c11, c12, c13⟩ := HC.out W (HB1.out.trans ((HB8.out.trans (hW.mono HB8.out.size)).mono HB1.out.size)) (HB8.out.trans (hW.mono HB8.out.size)); go_simp; try with_reducible rfl
        refine wpAnyH_take (i := 8) (v := ?_) rfl (by kernel_rfl) (by kernel_rfl) (by kernel_rfl) (fun _ _ _ h => h) (Or.inl ⟨by kernel_rfl, ?_⟩) hS ?_
        rotate_left
        · intro W hW; go_simp; try with_reducible rfl
        refine wpAnyH_take (i := 9) (v := ?_) rfl (by kernel_rfl) (by kernel_rfl) (by kernel_rfl) (fun _ _ _ h => h) (Or.inl ⟨by kernel_rfl, ?_⟩) hS ?_
        rotate_left
        · intro W hW; obtain ⟨c0, c1, c2, c3, c4, c5, c6, c7, c8, c9, c10, c11, c12, c13⟩ := HC.out W (HB1.out.trans ((HB8.out.trans (hW.mono HB8.out.size)).mono HB1.out.size)) (HB8.out.trans (hW.mono HB8.out.size)); go_simp; try with_reducible rfl
        refine wpAnyH_take (i := 10) (v := ?_) rfl (by kernel_rfl) (by kernel_rfl) (by kernel_rfl) (fun _ _ _ h => h) (Or.inl ⟨by kernel_rfl, ?_⟩) hS ?_
        rotate_left
        · intro W hW; go_simp; try with_reducible rfl
        refine wpAnyH_take (i := 11) (v := ?_) rfl (by kernel_rfl) (by kernel_rfl) (by kernel_rfl) (fun _ _ _ h => h) (Or.inl ⟨by kernel_rfl, ?_⟩) hS ?_
        rotate_left
        · intro W hW; go_simp; try with_reducible rfl
        refine wpAnyH_take (i := 12) (v := ?_) rfl (by kernel_rfl) (by kernel_rfl) (by kernel_rfl) (fun _ _ _ h => h) (Or.inl ⟨by kernel_rfl, ?_⟩) hS ?_
        rotate_left
        · intro W hW; go_simp; try with_reducible rfl
        refine wpAnyH_take (i := 13) (v := ?_) rfl (by kernel_rfl) (by kernel_rfl) (by kernel_rfl) (fun _ _ _ h => h) (Or.inl ⟨by kernel_rfl, ?_⟩) hS ?_
        rotate_left
        · intro W hW; obtain ⟨c0, c1, c2, c3, c4, c5, c6, c7, c8, c9, c10, c11, c12, c13⟩ := HC.out W (HB1.out.trans ((HB8.out.trans (hW.mono HB8.out.size)).mono HB1.out.size)) (HB8.out.trans (hW.mono HB8.out.size)); go_simp; try with_reducible rfl
        refine wpAnyH_take (i := 14) (v := ?_) rfl (by kernel_rfl) (by kernel_rfl) (by kernel_rfl) (fun _ _ _ h => h) (Or.inl ⟨by kernel_rfl, ?_⟩) hS ?_
        rotate_left
        · intro W hW; go_simp; try with_reducible rfl
        refine wpAnyH_take (i := 15) (v := ?_) rfl (by kernel_rfl) (by kernel_rfl) (by kernel_rfl) (fun _ _ _ h => h) (Or.inl ⟨by kernel_rfl, ?_⟩) hS ?_
        rotate_left
        · intro W hW; obtain ⟨c0, c1, c2, c3, c4, c5, c6, c7, c8, c9, c10, c11, c12, c13⟩ := HC.out W (HB1.out.trans ((HB8.out.trans (hW.mono HB8.out.size)).mono HB1.out.size)) (HB8.out.trans (hW.mono HB8.out.size)); go_simp; try with_reducible rfl
        refine wpAnyH_take (i := 16) (v := ?_) rfl (by kernel_rfl) (by kernel_rfl) (by kernel_rfl) (fun _ _ _ h => h) (Or.inl ⟨by kernel_rfl, ?_⟩) hS ?_
        rotate_left
        · intro W hW; go_simp; try with_reducible rfl
        refine wpAnyH_take (i := 17) (v := ?_) rfl (by kernel_rfl) (by kernel_rfl) (by kernel_rfl) (fun _ _ _ h => h) (Or.inl ⟨by kernel_rfl, ?_⟩) hS ?_
        rotate_left
        · intro W hW; obtain ⟨c0, c1, c2, c3, c4, c5, c6, c7, c8, c9, c10, c11, c12, c13⟩ := HC.out W (HB1.out.trans ((HB8.out.trans (hW.mono HB8.out.size)).mono HB1.out.size)) (HB8.out.trans (hW.mono HB8.out.size)); go_simp; try with_reducible rfl
        refine wpAnyH_take (i := 18) (v := ?_) rfl (by kernel_rfl) (by kernel_rfl) (by kernel_rfl) (fun _ _ _ h => h) (Or.inl ⟨by kernel_rfl, ?_⟩) hS ?_
        rotate_left
        · intro W hW; go_simp; try with_reducible rfl
        refine wpAnyH_ready (rs := [19]) (by kernel_rfl) (by simp) ?_
        go_simp
        refine AllReadyH.cons (i := 19) rfl ?_ AllReadyH.nil
        intro K hK
        go_simp
        refine (E0.out _ (HB1.out.trans ((HB8.out.trans (hS.mono HB8.out.size)).mono HB1.out.size))).mono ?_
        rintro e w6 ⟨rfl, B6⟩
        have hT := hS.trans (B6.mono hS.size)
        go_simp
        refine hK.out _ _ ?_ (fun hN => ?_)
        · first | exact hT | exact hS | exact hS.alloc hS.size _ | exact hS.drew
        clear hK K
        try clear hT
        clear hS
        have hS := hN
        clear hN
        refine wpAnyH_take (i := 20) (v := ?_) rfl (by kernel_rfl) (by kernel_rfl) (by kernel_rfl) (fun _ _ _ h => h) (Or.inl ⟨by kernel_rfl, ?_⟩) hS ?_
        rotate_left
        · intro W hW; go_simp; try with_reducible rfl
        refine wpAnyH_done (by kernel_rfl) ?_ _
        go_simp
        have HB9 := Lib.hid (HB8.out.trans (hS.mono HB8.out.size))
        clear hS
        go_wp2_with fail
        go_roundw
        case rel => exact ⟨1, by omega, by omega, rfl, ⟨fun h => HQ.out, fun h => by omega, fun h => by omega⟩, HB9.out⟩
        case measure => simp [intOf]
    · by_cases hq : q1 = 0
      rotate_left
      · have b1 : ((q1 : Int) != 0) = true := ne_t (by omega)
        clear hq
        go_upto_region 8 with fail
        refine wp_region_held_drew (S := fun W => Below wr.heap.size wr W) (by kernel_rfl) ((Below.refl _ _).drew) (fun hS => ?_)
        refine wpAnyH_take (i := 0) (v := ?_) rfl (by kernel_rfl) (by kernel_rfl) (by kernel_rfl) (fun _ _ _ h => h) (Or.inl ⟨by kernel_rfl, ?_⟩) hS ?_
        rotate_left
        · intro W hW; go_simp; try with_reducible rfl
        refine wpAnyH_take (i := 1) (v := ?_) rfl (by kernel_rfl) (by kernel_rfl) (by kernel_rfl) (fun _ _ _ h => h) (Or.inl ⟨by kernel_rfl, ?_⟩) hS ?_
        rotate_left
        · intro W hW; obtain ⟨c0, c1, c2, c3, c4, c5, c6, c7, c8, c9, c10, c11, c12, c13⟩ := HC.out W (HB1.out.trans ((HB8.out.trans (hW.mono HB8.out.size)).mono HB1.out.size)) (HB8.out.trans (hW.mono HB8.out.size)); go_simp; try with_reducible rfl
        refine wpAnyH_take (i := 2) (v := ?_) rfl (by kernel_rfl) (by kernel_rfl) (by kernel_rfl) (fun _ _ _ h => h) (Or.inl ⟨by kernel_rfl, ?_⟩) hS ?_
        rotate_left
        · intro W hW; go_simp; try with_reducible rfl
        refine wpAnyH_take (i := 3) (v := ?_) rfl (by kernel_rfl) (by kernel_rfl) (by kernel_rfl) (fun _ _ _ h => h) (Or.inl ⟨by kernel_rfl, ?_⟩) hS ?_
        rotate_left
        · intro W hW; go_simp; try with_reducible rfl
        refine wpAnyH_take (i := 4) (v := ?_) rfl (by kernel_rfl) (by kernel_rfl) (by kernel_rfl) (fun _ _ _ h => h) (Or.inl ⟨by kernel_rfl, ?_⟩) hS ?_
        rotate_left
        · intro W hW; go_simp; try with_reducible rfl
        refine wpAnyH_take (i := 5) (v := ?_) rfl (by kernel_rfl) (by kernel_rfl) (by kernel_rfl) (fun _ _ _ h => h) (Or.inl ⟨by kernel_rfl, ?_⟩) hS ?_
        rotate_left
        · intro W hW; obtain ⟨c0, c1, c2, c3, c4, c5, c6, c7, c8, c9, c10, c11, c12, c13⟩ := HC.out W (HB1.out.trans ((HB8.out.trans (hW.mono HB8.out.size)).mono HB1.out.size)) (HB8.out.trans (hW.mono HB8.out.size)); go_simp; try with_reducible rfl
        refine wpAnyH_take (i := 6) (v := ?_) rfl (by kernel_rfl) (by kernel_rfl) (by kernel_rfl) (fun _ _ _ h => h) (Or.inl ⟨by kernel_rfl, ?_⟩) hS ?_
        rotate_left
        · intro W hW; go_simp; try with_reducible rfl
        refine wpAnyH_take (i := 7) (v := ?_) rfl (by kernel_rfl) (by kernel_rfl) (by kernel_rfl) (fun _ _ _ h => h) (Or.inl ⟨by kernel_rfl, ?_⟩) hS ?_
        rotate_left
        · intro W hW; obtain ⟨c0, c1, c2, c3, c4, c5, c6, c7, c8, c9, c10, c11, c12, c13⟩ := HC.out W (HB1.out.trans ((HB8.out.trans (hW.mono HB8.out.size)).mono HB1.out.size)) (HB8.out.trans (hW.mono HB8.out.size)); go_simp; try with_reducible rfl
        refine wpAnyH_take (i := 8) (v := ?_) rfl (by kernel_rfl) (by kernel_rfl) (by kernel_rfl) (fun _ _ _ h => h) (Or.inl ⟨by kernel_rfl, ?_⟩) hS ?_
        rotate_left
        · intro W hW; go_simp; try with_reducible rfl
        refine wpAnyH_take (i := 9) (v := ?_) rfl (by kernel_rfl) (by kernel_rfl) (by kernel_rfl) (fun _ _ _ h => h) (Or.inl ⟨by kernel_rfl, ?_⟩) hS ?_
        rotate_left
        · intro W hW; obtain ⟨c0, c1, c2, c3, c4, c5, c6, c7, c8, c9, c10, c11, c12, c13⟩ := HC.out W (HB1.out.trans ((HB8.out.trans (hW.mono HB8.out.size)).mono HB1.out.size)) (HB8.out.trans (hW.mono HB8.out.size)); go_simp; try with_reducible rfl
        refine wpAnyH_take (i := 10) (v := ?_) rfl (by kernel_rfl) (by kernel_rfl) (by kernel_rfl) (fun _ _ _ h => h) (Or.inl ⟨by kernel_rfl, ?_⟩) hS ?_
        rotate_left
        · intro W hW; go_simp; try with_reducible rfl
        refine wpAnyH_take (i := 11) (v := ?_) rfl (by kernel_rfl) (by kernel_rfl) (by kernel_rfl) (fun _ _ _ h => h) (Or.inl ⟨by kernel_rfl, ?_⟩) hS ?_
        rotate_left
        · intro W hW; go_simp; try with_reducible rfl
        refine wpAnyH_take (i := 12) (v := ?_) rfl (by kernel_rfl) (by kernel_rfl) (by kernel_rfl) (fun _ _ _ h => h) (Or.inl ⟨by kernel_rfl, ?_⟩) hS ?_
        rotate_left
        · intro W hW; go_simp; try with_reducible rfl
        refine wpAnyH_take (i := 13) (v := ?_) rfl (by kernel_rfl) (by kernel_rfl) (by kernel_rfl) (fun _ _ _ h => h) (Or.inl ⟨by kernel_rfl, ?_⟩) hS ?_
        rotate_left
        · intro W hW; obtain ⟨c0, c1, c2, c3, c4, c5, c6, c7, c8, c9, c10, c11, c12, c13⟩ := HC.out W (HB1.out.trans ((HB8.out.trans (hW.mono HB8.out.size)).mono HB1.out.size)) (HB8.out.trans (hW.mono HB8.out.size)); go_simp; try with_reducible rfl
        refine wpAnyH_take (i := 14) (v := ?_) rfl (by kernel_rfl) (by kernel_rfl) (by kernel_rfl) (fun _ _ _ h => h) (Or.inl ⟨by kernel_rfl, ?_⟩) hS ?_
        rotate_left
        · intro W hW; go_simp; try with_reducible rfl
        refine wpAnyH_take (i := 15) (v := ?_) rfl (by kernel_rfl) (by kernel_rfl) (by kernel_rfl) (fun _ _ _ h => h) (Or.inl ⟨by kernel_rfl, ?_⟩) hS ?_
        rotate_left
        · intro W hW; obtain ⟨c0, c1, c2, c3, c4, c5, c6, c7, c8, c9, c10, c11, c12, c13⟩ := HC.out W (HB1.out.trans ((HB8.out.trans (hW.mono HB8.out.size)).mono HB1.out.size)) (HB8.out.trans (hW.mono HB8.out.size)); go_simp; try with_reducible rfl
        refine wpAnyH_take (i := 16) (v := ?_) rfl (by kernel_rfl) (by kernel_rfl) (by kernel_rfl) (fun _ _ _ h => h) (Or.inl ⟨by kernel_rfl, ?_⟩) hS ?_
        rotate_left
        · intro W hW; go_simp; try with_reducible rfl
        refine wpAnyH_take (i := 17) (v := ?_) rfl (by kernel_rfl) (by kernel_rfl) (by kernel_rfl) (fun _ _ _ h => h) (Or.inl ⟨by kernel_rfl, ?_⟩) hS ?_
        rotate_left
        · intro W hW; obtain ⟨c0, c1, c2, c3, c4, c5, c6, c7, c8, c9, c10, c11, c12, c13⟩ := HC.out W (HB1.out.trans ((HB8.out.trans (hW.mono HB8.out.size)).mono HB1.out.size)) (HB8.out.trans (hW.mono HB8.out.size)); go_simp; try with_reducible rfl
        refine wpAnyH_take (i := 18) (v := ?_) rfl (by kernel_rfl) (by kernel_rfl) (by kernel_rfl) (fun _ _ _ h => h) (Or.inl ⟨by kernel_rfl, ?_⟩) hS ?_
        rotate_left
        · intro W hW; go_simp; try with_reducible rfl
        refine wpAnyH_ready (rs := [19]) (by kernel_rfl) (by simp) ?_
        go_simp
        refine AllReadyH.cons (i := 19) rfl ?_ AllReadyH.nil
        intro K hK
        go_simp
        refine (E1.out _ (HB1.out.trans ((HB8.out.trans (hS.mono HB8.out.size)).mono HB1.out.size))).mono ?_
        rintro e w6 ⟨rfl, B6⟩
        have hT := hS.trans (B6.mono hS.size)
        go_simp
        refine hK.out _ _ ?_ (fun hN => ?_)
        · first | exact hT | exact hS | exact hS.alloc hS.size _ | exact hS.drew
        clear hK K
        try clear hT
        clear hS
        have hS := hN
        clear hN
        refine wpAnyH_take (i := 20) (v := ?_) rfl (by kernel_rfl) (by kernel_rfl) (by kernel_rfl) (fun _ _ _ h => h) (Or.inl ⟨by kernel_rfl, ?_⟩) hS ?_
        rotate_left
        · intro W hW; go_simp; try with_reducible rfl
        refine wpAnyH_done (by kernel_rfl) ?_ _
        go_simp
        have HB9 := Lib.hid (HB8.out.trans (hS.mono HB8.out.size))
        clear hS
        go_wp2_with fail
        go_ret
        exact ⟨false, rfl, (fun h => by cases h), HB1.out.trans (HB9.out.mono HB1.out.size)⟩
      · have b1 : ((q1 : Int) != 0) = false := ne_f (by omega)
        have HQ := Lib.hid hq
        clear hq
        go_upto_region 8 with fail
        refine wp_region_held_drew (S := fun W => Below wr.heap.size wr W) (by kernel_rfl) ((Below.refl _ _).drew) (fun hS => ?_)
        refine wpAnyH_take (i := 0) (v := ?_) rfl (by kernel_rfl) (by kernel_rfl) (by kernel_rfl) (fun _ _ _ h => h) (Or.inl ⟨by kernel_rfl, ?_⟩) hS ?_
        rotate_left
        · intro W hW; go_simp; try with_reducible rfl
        refine wpAnyH_take (i := 1) (v := ?_) rfl (by kernel_rfl) (by kernel_rfl) (by kernel_rfl) (fun _ _ _ h => h) (Or.inl ⟨by kernel_rfl, ?_⟩) hS ?_
        rotate_left
        · intro W hW; obtain ⟨c0, c1, c2, c3, c4, c5, c6, c7, c8, c9, c10, c11, c12, c13⟩ := HC.out W (HB1.out.trans ((HB8.out.trans (hW.mono HB8.out.size)).mono HB1.out.size)) (HB8.out.trans (hW.mono HB8.out.size)); go_simp; try with_reducible rfl
        refine wpAnyH_take (i := 2) (v := ?_) rfl (by kernel_rfl) (by kernel_rfl) (by kernel_rfl) (fun _ _ _ h => h) (Or.inl ⟨by kernel_rfl, ?_⟩) hS ?_
        rotate_left
        · intro W hW; go_simp; try with_reducible rfl
        refine wpAnyH_take (i := 3) (v := ?_) rfl (by kernel_rfl) (by kernel_rfl) (by kernel_rfl) (fun _ _ _ h => h) (Or.inl ⟨by kernel_rfl, ?_⟩) hS ?_
        rotate_left
        · intro W hW; go_simp; try with_reducible rfl
        refine wpAnyH_take (i := 4) (v := ?_) rfl (by kernel_rfl) (by kernel_rfl) (by kernel_rfl) (fun _ _ _ h => h) (Or.inl ⟨by kernel_rfl, ?_⟩) hS ?_
        rotate_left
        · intro W hW; go_simp; try with_reducible rfl
        refine wpAnyH_take (i := 5) (v := ?_) rfl (by kernel_rfl) (by kernel_rfl) (by kernel_rfl) (fun _ _ _ h => h) (Or.inl ⟨by kernel_rfl, ?_⟩) hS ?_
        rotate_left
        · intro W hW; obtain ⟨c0, c1, c2, c3, c4, c5, c6, c7, c8, c9, c10, c11, c12, c13⟩ := HC.out W (HB1.out.trans ((HB8.out.trans (hW.mono HB8.out.size)).mono HB1.out.size)) (HB8.out.trans (hW.mono HB8.out.size)); go_simp; try with_reducible rfl
        refine wpAnyH_take (i := 6) (v := ?_) rfl (by kernel_rfl) (by kernel_rfl) (by kernel_rfl) (fun _ _ _ h => h) (Or.inl ⟨by kernel_rfl, ?_⟩) hS ?_
        rotate_left
        · intro W hW; go_simp; try with_reducible rfl
        refine wpAnyH_take (i := 7) (v := ?_) rfl (by kernel_rfl) (by kernel_rfl) (by kernel_rfl) (fun _ _ _ h => h) (Or.inl ⟨by kernel_rfl, ?_⟩) hS ?_
        rotate_left
        · intro W hW; obtain ⟨c0, c1, c2, c3, c4, c5, c6, c7, c8, c9, c10, c11, c12, c13⟩ := HC.out W (HB1.out.trans ((HB8.out.trans (hW.mono HB8.out.size)).mono HB1.out.size)) (HB8.out.trans (hW.mono HB8.out.size)); go_simp; try with_reducible rfl
        refine wpAnyH_take (i := 8) (v := ?_) rfl (by kernel_rfl) (by kernel_rfl) (by kernel_rfl) (fun _ _ _ h => h) (Or.inl ⟨by kernel_rfl, ?_⟩) hS ?_
        rotate_left
        · intro W hW; go_simp; try with_reducible rfl
        refine wpAnyH_take (i := 9) (v := ?_) rfl (by kernel_rfl) (by kernel_rfl) (by kernel_rfl) (fun _ _ _ h => h) (Or.inl ⟨by kernel_rfl, ?_⟩) hS ?_
        rotate_left
        · intro W hW; obtain ⟨c0, c1, c2, c3, c4, c5, c6, c7, c8, c9, c10, c11, c12, c13⟩ := HC.out W (HB1.out.trans ((HB8.out.trans (hW.mono HB8.out.size)).mono HB1.out.size)) (HB8.out.trans (hW.mono HB8.out.size)); go_simp; try with_reducible rfl
        refine wpAnyH_take (i := 10) (v := ?_) rfl (by kernel_rfl) (by kernel_rfl) (by kernel_rfl) (fun _ _ _ h => h) (Or.inl ⟨by kernel_rfl, ?_⟩) hS ?_
        rotate_left
        · intro W hW; go_simp; try with_reducible rfl
        refine wpAnyH_take (i := 11) (v := ?_) rfl (by kernel_rfl) (by kernel_rfl) (by kernel_rfl) (fun _ _ _ h => h) (Or.inl ⟨by kernel_rfl, ?_⟩) hS ?_
        rotate_left
        · intro W hW; go_simp; try with_reducible rfl
        refine wpAnyH_take (i := 12) (v := ?_) rfl (by kernel_rfl) (by kernel_rfl) (by kernel_rfl) (fun _ _ _ h => h) (Or.inl ⟨by kernel_rfl, ?_⟩) hS ?_
        rotate_left
        · intro W hW; go_simp; try with_reducible rfl
        refine wpAnyH_take (i := 13) (v := ?_) rfl (by kernel_rfl) (by kernel_rfl) (by kernel_rfl) (fun _ _ _ h => h) (Or.inl ⟨by kernel_rfl, ?_⟩) hS ?_
        rotate_left
        · intro W hW; obtain ⟨c0, c1, c2, c3, c4, c5, c6, c7, c8, c9, c10, c11, c12, c13⟩ := HC.out W (HB1.out.trans ((HB8.out.trans (hW.mono HB8.out.size)).mono HB1.out.size)) (HB8.out.trans (hW.mono HB8.out.size)); go_simp; try with_reducible rfl
        refine wpAnyH_take (i := 14) (v := ?_) rfl (by kernel_rfl) (by kernel_rfl) (by kernel_rfl) (fun _ _ _ h => h) (Or.inl ⟨by kernel_rfl, ?_⟩) hS ?_
        rotate_left
        · intro W hW; go_simp; try with_reducible rfl
        refine wpAnyH_take (i := 15) (v := ?_) rfl (by kernel_rfl) (by kernel_rfl) (by kernel_rfl) (fun _ _ _ h => h) (Or.inl ⟨by kernel_rfl, ?_⟩) hS ?_
        rotate_left
        · intro W hW; obtain ⟨c0, c1, c2, c3, c4, c5, c6, c7, c8, c9, c10, c11, c12, c13⟩ := HC.out W (HB1.out.trans ((HB8.out.trans (hW.mono HB8.out.size)).mono HB1.out.size)) (HB8.out.trans (hW.mono HB8.out.size)); go_simp; try with_reducible rfl
        refine wpAnyH_take (i := 16) (v := ?_) rfl (by kernel_rfl) (by kernel_rfl) (by kernel_rfl) (fun _ _ _ h => h) (Or.inl ⟨by kernel_rfl, ?_⟩) hS ?_
        rotate_left
        · intro W hW; go_simp; try with_reducible rfl
        refine wpAnyH_take (i := 17) (v := ?_) rfl (by kernel_rfl) (by kernel_rfl) (by kernel_rfl) (fun _ _ _ h => h) (Or.inl ⟨by kernel_rfl, ?_⟩) hS ?_
        rotate_left
        · intro W hW; obtain ⟨c0, c1, c2, c3, c4, c5, c6, c7, c8, c9, c10, c11, c12, c13⟩ := HC.out W (HB1.out.trans ((HB8.out.trans (hW.mono HB8.out.size)).mono HB1.out.size)) (HB8.out.trans (hW.mono HB8.out.size)); go_simp; try with_reducible rfl
        refine wpAnyH_take (i := 18) (v := ?_) rfl (by kernel_rfl) (by kernel_rfl) (by kernel_rfl) (fun _ _ _ h => h) (Or.inl ⟨by kernel_rfl, ?_⟩) hS ?_
        rotate_left
        · intro W hW; go_simp; try with_reducible rfl
        refine wpAnyH_ready (rs := [19]) (by kernel_rfl) (by simp) ?_
        go_simp
        refine AllReadyH.cons (i := 19) rfl ?_ AllReadyH.nil
        intro K hK
        go_simp
        refine (E1.out _ (HB1.out.trans ((HB8.out.trans (hS.mono HB8.out.size)).mono HB1.out.size))).mono ?_
        rintro e w6 ⟨rfl, B6⟩
        have hT := hS.trans (B6.mono hS.size)
        go_simp
        refine hK.out _ _ ?_ (fun hN => ?_)
        · first | exact hT | exact hS | exact hS.alloc hS.size _ | exact hS.drew
        clear hK K
        try clear hT
        clear hS
        have hS := hN
        clear hN
        refine wpAnyH_take (i := 20) (v := ?_) rfl (by kernel_rfl) (by kernel_rfl) (by kernel_rfl) (fun _ _ _ h => h) (Or.inl ⟨by kernel_rfl, ?_⟩) hS ?_
        rotate_left
        · intro W hW; go_simp; try with_reducible rfl
        refine wpAnyH_done (by kernel_rfl) ?_ _
        go_simp
        have HB9 := Lib.hid (HB8.out.trans (hS.mono HB8.out.size))
        clear hS
        go_wp2_with fail
        go_roundw
        case rel => exact ⟨2, by omega, by omega, rfl, ⟨fun h => HL.out.1 (by omega), fun h => HQ.out, fun h => by omega⟩, HB9.out⟩
        case measure => simp [intOf]
    · by_cases hq : q2 = 0
      rotate_left
      · have b1 : ((q2 : Int) != 0) = true := ne_t (by omega)
        clear hq
        go_upto_region 8 with fail
        refine wp_region_held_drew (S := fun W => Below wr.heap.size wr W) (by kernel_rfl) ((Below.refl _ _).drew) (fun hS => ?_)
        refine wpAnyH_take (i := 0) (v := ?_) rfl (by kernel_rfl) (by kernel_rfl) (by kernel_rfl) (fun _ _ _ h => h) (Or.inl ⟨by kernel_rfl, ?_⟩) hS ?_
        rotate_left
        · intro W hW; go_simp; try with_reducible rfl
        refine wpAnyH_take (i := 1) (v := ?_) rfl (by kernel_rfl) (by kernel_rfl) (by kernel_rfl) (fun _ _ _ h => h) (Or.inl ⟨by kernel_rfl, ?_⟩) hS ?_
        rotate_left
        · intro W hW; obtain ⟨c0, c1, c2, c3, c4, c5, c6, c7, c8, c9, c10, c11, c12, c13⟩ := HC.out W (HB1.out.trans ((HB8.out.trans (hW.mono HB8.out.size)).mono HB1.out.size)) (HB8.out.trans (hW.mono HB8.out.size)); go_simp; try with_reducible rfl
        refine wpAnyH_take (i := 2) (v := ?_) rfl (by kernel_rfl) (by kernel_rfl) (by kernel_rfl) (fun _ _ _ h => h) (Or.inl ⟨by kernel_rfl, ?_⟩) hS ?_
        rotate_left
        · intro W hW; go_simp; try with_reducible rfl
        refine wpAnyH_take (i := 3) (v := ?_) rfl (by kernel_rfl) (by kernel_rfl) (by kernel_rfl) (fun _ _ _ h => h) (Or.inl ⟨by kernel_rfl, ?_⟩) hS ?_
        rotate_left
        · intro W hW; go_simp; try with_reducible rfl
        refine wpAnyH_take (i := 4) (v := ?_) rfl (by kernel_rfl) (by kernel_rfl) (by kernel_rfl) (fun _ _ _ h => h) (Or.inl ⟨by kernel_rfl, ?_⟩) hS ?_
        rotate_left
        · intro W hW; go_simp; try with_reducible rfl
        refine wpAnyH_take (i := 5) (v := ?_) rfl (by kernel_rfl) (by kernel_rfl) (by kernel_rfl) (fun _ _ _ h => h) (Or.inl ⟨by kernel_rfl, ?_⟩) hS ?_
        rotate_left
        · intro W hW; obtain ⟨c0, c1, c2, c3, c4, c5, c6, c7, c8, c9, c10, c11, c12, c13⟩ := HC.out W (HB1.out.trans ((HB8.out.trans (hW.mono HB8.out.size)).mono HB1.out.size)) (HB8.out.trans (hW.mono HB8.out.size)); go_simp; try with_reducible rfl
        refine wpAnyH_take (i := 6) (v := ?_) rfl (by kernel_rfl) (by kernel_rfl) (by kernel_rfl) (fun _ _ _ h => h) (Or.inl ⟨by kernel_rfl, ?_⟩) hS ?_
        rotate_left
        · intro W hW; go_simp; try with_reducible rfl
        refine wpAnyH_take (i := 7) (v := ?_) rfl (by kernel_rfl) (by kernel_rfl) (by kernel_rfl) (fun _ _ _ h => h) (Or.inl ⟨by kernel_rfl, ?_⟩) hS ?_
        rotate_left
        · intro W hW; obtain ⟨c0, c1, c2, c3, c4, c5, c6, c7, c8, c9, c10, c11, c12, c13⟩ := HC.out W (HB1.out.trans ((HB8.out.trans (hW.mono HB8.out.size)).mono HB1.out.size)) (HB8.out.trans (hW.mono HB8.out.size)); go_simp; try with_reducible rfl
        refine wpAnyH_take (i := 8) (v := ?_) rfl (by kernel_rfl) (by kernel_rfl) (by kernel_rfl) (fun _ _ _ h => h) (Or.inl ⟨by kernel_rfl, ?_⟩) hS ?_
        rotate_left
        · intro W hW; go_simp; try with_reducible rfl
        refine wpAnyH_take (i := 9) (v := ?_) rfl (by kernel_rfl) (by kernel_rfl) (by kernel_rfl) (fun _ _ _ h => h) (Or.inl ⟨by kernel_rfl, ?_⟩) hS ?_
        rotate_left
        · intro W hW; obtain ⟨c0, c1, c2, c3, c4, c5, c6, c7, c8, c9, c10, c11, c12, c13⟩ := HC.out W (HB1.out.trans ((HB8.out.trans (hW.mono HB8.out.size)).mono HB1.out.size)) (HB8.out.trans (hW.mono HB8.out.size)); go_simp; try with_reducible rfl
        refine wpAnyH_take (i := 10) (v := ?_) rfl (by kernel_rfl) (by kernel_rfl) (by kernel_rfl) (fun _ _ _ h => h) (Or.inl ⟨by kernel_rfl, ?_⟩) hS ?_
        rotate_left
        · intro W hW; go_simp; try with_reducible rfl
        refine wpAnyH_take (i := 11) (v := ?_) rfl (by kernel_rfl) (by kernel_rfl) (by kernel_rfl) (fun _ _ _ h => h) (Or.inl ⟨by kernel_rfl, ?_⟩) hS ?_
        rotate_left
        · intro W hW; go_simp; try with_reducible rfl
        refine wpAnyH_take (i := 12) (v := ?_) rfl (by kernel_rfl) (by kernel_rfl) (by kernel_rfl) (fun _ _ _ h => h) (Or.inl ⟨by kernel_rfl, ?_⟩) hS ?_
        rotate_left
        · intro W hW; go_simp; try with_reducible rfl
        refine wpAnyH_take (i := 13) (v := ?_) rfl (by kernel_rfl) (by kernel_rfl) (by kernel_rfl) (fun _ _ _ h => h) (Or.inl ⟨by kernel_rfl, ?_⟩) hS ?_
        rotate_left
        · intro W hW; obtain ⟨c0, c1, c2, c3, c4, c5, c6, c7, c8, c9, c10, c11, c12, c13⟩ := HC.out W (HB1.out.trans ((HB8.out.trans (hW.mono HB8.out.size)).mono HB1.out.size)) (HB8.out.trans (hW.mono HB8.out.size)); go_simp; try with_reducible rfl
        refine wpAnyH_take (i := 14) (v := ?_) rfl (by kernel_rfl) (by kernel_rfl) (by kernel_rfl) (fun _ _ _ h => h) (Or.inl ⟨by kernel_rfl, ?_⟩) hS ?_
        rotate_left
        · intro W hW; go_simp; try with_reducible rfl
        refine wpAnyH_take (i := 15) (v := ?_) rfl (by kernel_rfl) (by kernel_rfl) (by kernel_rfl) (fun _ _ _ h => h) (Or.inl ⟨by kernel_rfl, ?_⟩) hS ?_
        rotate_left
        · intro W hW; obtain ⟨c0, c1, c2, c3, c4, c5, c6, c7, c8, c9, c10, c11, c12, c13⟩ := HC.out W (HB1.out.trans ((HB8.out.trans (hW.mono HB8.out.size)).mono HB1.out.size)) (HB8.out.trans (hW.mono HB8.out.size)); go_simp; try with_reducible rfl
        refine wpAnyH_take (i := 16) (v := ?_) rfl (by kernel_rfl) (by kernel_rfl) (by kernel_rfl) (fun _ _ _ h => h) (Or.inl ⟨by kernel_rfl, ?_⟩) hS ?_
        rotate_left
        · intro W hW; go_simp; try with_reducible rfl
        refine wpAnyH_take (i := 17) (v := ?_) rfl (by kernel_rfl) (by kernel_rfl) (by kernel_rfl) (fun _ _ _ h => h) (Or.inl ⟨by kernel_rfl, ?_⟩) hS ?_
        rotate_left
        · intro W hW; obtain ⟨c0, c1, c2, c3, c4, c5, c6, c7, c8, c9, c10, c11, c12, c13⟩ := HC.out W (HB1.out.trans ((HB8.out.trans (hW.mono HB8.out.size)).mono HB1.out.size)) (HB8.out.trans (hW.mono HB8.out.size)); go_simp; try with_reducible rfl
        refine wpAnyH_take (i := 18) (v := ?_) rfl (by kernel_rfl) (by kernel_rfl) (by kernel_rfl) (fun _ _ _ h => h) (Or.inl ⟨by kernel_rfl, ?_⟩) hS ?_
        rotate_left
        · intro W hW; go_simp; try with_reducible rfl
        refine wpAnyH_ready (rs := [19]) (by kernel_rfl) (by simp) ?_
        go_simp
        refine AllReadyH.cons (i := 19) rfl ?_ AllReadyH.nil
        intro K hK
        go_simp
        refine (E2.out _ (HB1.out.trans ((HB8.out.trans (hS.mono HB8.out.size)).mono HB1.out.size))).mono ?_
        rintro e w6 ⟨rfl, B6⟩
        have hT := hS.trans (B6.mono hS.size)
        go_simp
        refine hK.out _ _ ?_ (fun hN => ?_)
        · first | exact hT | exact hS | exact hS.alloc hS.size _ | exact hS.drew
        clear hK K
        try clear hT
        clear hS
        have hS := hN
        clear hN
        refine wpAnyH_take (i := 20) (v := ?_) rfl (by kernel_rfl) (by kernel_rfl) (by kernel_rfl) (fun _ _ _ h => h) (Or.inl ⟨by kernel_rfl, ?_⟩) hS ?_
        rotate_left
        · intro W hW; go_simp; try with_reducible rfl
        refine wpAnyH_done (by kernel_rfl) ?_ _
        go_simp
        have HB9 := Lib.hid (HB8.out.trans (hS.mono HB8.out.size))
        clear hS
        go_wp2_with fail
        go_ret
        exact ⟨false, rfl, (fun h => by cases h), HB1.out.trans (HB9.out.mono HB1.out.size)⟩
      · have b1 : ((q2 : Int) != 0) = false := ne_f (by omega)
        have HQ := Lib.hid hq
        clear hq
        go_upto_region 8 with fail
        refine wp_region_held_drew (S := fun W => Below wr.heap.size wr W) (by kernel_rfl) ((Below.refl _ _).drew) (fun hS => ?_)
        refine wpAnyH_take (i := 0) (v := ?_) rfl (by kernel_rfl) (by kernel_rfl) (by kernel_rfl) (fun _ _ _ h => h) (Or.inl ⟨by kernel_rfl, ?_⟩) hS ?_
        rotate_left
        · intro W hW; go_simp; try with_reducible rfl
        refine wpAnyH_take (i := 1) (v := ?_) rfl (by kernel_rfl) (by kernel_rfl) (by kernel_rfl) (fun _ _ _ h => h) (Or.inl ⟨by kernel_rfl, ?_⟩) hS ?_
        rotate_left
        · intro W hW; obtain ⟨c0, c1, c2, c3, c4, c5, c6, c7, c8, c9, c10, c11, c12, c13⟩ := HC.out W (HB1.out.trans ((HB8.out.trans (hW.mono HB8.out.size)).mono HB1.out.size)) (HB8.out.trans (hW.mono HB8.out.size)); go_simp; try with_reducible rfl
        refine wpAnyH_take (i := 2) (v := ?_) rfl (by kernel_rfl) (by kernel_rfl) (by kernel_rfl) (fun _ _ _ h => h) (Or.inl ⟨by kernel_rfl, ?_⟩) hS ?_
        rotate_left
        · intro W hW; go_simp; try with_reducible rfl
        refine wpAnyH_take (i := 3) (v := ?_) rfl (by kernel_rfl) (by kernel_rfl) (by kernel_rfl) (fun _ _ _ h => h) (Or.inl ⟨by kernel_rfl, ?_⟩) hS ?_
        rotate_left
        · intro W hW; go_simp; try with_reducible rfl
        refine wpAnyH_take (i := 4) (v := ?_) rfl (by kernel_rfl) (by kernel_rfl) (by kernel_rfl) (fun _ _ _ h => h) (Or.inl ⟨by kernel_rfl, ?_⟩) hS ?_
        rotate_left
        · intro W hW; go_simp; try with_reducible rfl
        refine wpAnyH_take (i := 5) (v := ?_) rfl (by kernel_rfl) (by kernel_rfl) (by kernel_rfl) (fun _ _ _ h => h) (Or.inl ⟨by kernel_rfl, ?_⟩) hS ?_
        rotate_left
        · intro W hW; obtain ⟨c0, c1, c2, c3, c4, c5, c6, c7, c8, c9, c10, c11, c12, c13⟩ := HC.out W (HB1.out.trans ((HB8.out.trans (hW.mono HB8.out.size)).mono HB1.out.size)) (HB8.out.trans (hW.mono HB8.out.size)); go_simp; try with_reducible rfl
        refine wpAnyH_take (i := 6) (v := ?_) rfl (by kernel_rfl) (by kernel_rfl) (by kernel_rfl) (fun _ _ _ h => h) (Or.inl ⟨by kernel_rfl, ?_⟩) hS ?_
        rotate_left
        · intro W hW; go_simp; try with_reducible rfl
        refine wpAnyH_take (i := 7) (v := ?_) rfl (by kernel_rfl) (by kernel_rfl) (by kernel_rfl) (fun _ _ _ h => h) (Or.inl ⟨by kernel_rfl, ?_⟩) hS ?_
        rotate_left
        · intro W hW; obtain ⟨c0, c1, c2, c3, c4, c5, c6, c7, c8, c9, c10, c11, c12, c13⟩ := HC.out W (HB1.out.trans ((HB8.out.trans (hW.mono HB8.out.size)).mono HB1.out.size)) (HB8.out.trans (hW.mono HB8.out.size)); go_simp; try with_reducible rfl
        refine wpAnyH_take (i := 8) (v := ?_) rfl (by kernel_rfl) (by kernel_rfl) (by kernel_rfl) (fun _ _ _ h => h) (Or.inl ⟨by kernel_rfl, ?_⟩) hS ?_
        rotate_left
        · intro W hW; go_simp; try with_reducible rfl
        refine wpAnyH_take (i := 9) (v := ?_) rfl (by kernel_rfl) (by kernel_rfl) (by kernel_rfl) (fun _ _ _ h => h) (Or.inl ⟨by kernel_rfl, ?_⟩) hS ?_
        rotate_left
        · intro W hW; obtain ⟨c0, c1, c2, c3, c4, c5, c6, c7, c8, c9, c10, c11, c12, c13⟩ := HC.out W (HB1.out.trans ((HB8.out.trans (hW.mono HB8.out.size)).mono HB1.out.size)) (HB8.out.trans (hW.mono HB8.out.size)); go_simp; try with_reducible rfl
        refine wpAnyH_take (i := 10) (v := ?_) rfl (by kernel_rfl) (by kernel_rfl) (by kernel_rfl) (fun _ _ _ h => h) (Or.inl ⟨by kernel_rfl, ?_⟩) hS ?_
        rotate_left
        · intro W hW; go_simp; try with_reducible rfl
        refine wpAnyH_take (i := 11) (v := ?_) rfl (by kernel_rfl) (by kernel_rfl) (by kernel_rfl) (fun _ _ _ h => h) (Or.inl ⟨by kernel_rfl, ?_⟩) hS ?_
        rotate_left
        · intro W hW; go_simp; try with_reducible rfl
        refine wpAnyH_take (i := 12) (v := ?_) rfl (by kernel_rfl) (by kernel_rfl) (by kernel_rfl) (fun _ _ _ h => h) (Or.inl ⟨by kernel_rfl, ?_⟩) hS ?_
        rotate_left
        · intro W hW; go_simp; try with_reducible rfl
        refine wpAnyH_take (i := 13) (v := ?_) rfl (by kernel_rfl) (by kernel_rfl) (by kernel_rfl) (fun _ _ _ h => h) (Or.inl ⟨by kernel_rfl, ?_⟩) hS ?_
        rotate_left
        · intro W hW; obtain ⟨c0, c1, c2, c3, c4, c5, c6, c7, c8, c9, c10, c11, c12, c13⟩ := HC.out W (HB1.out.trans ((HB8.out.trans (hW.mono HB8.out.size)).mono HB1.out.size)) (HB8.out.trans (hW.mono HB8.out.size)); go_simp; try with_reducible rfl
        refine wpAnyH_take (i := 14) (v := ?_) rfl (by kernel_rfl) (by kernel_rfl) (by kernel_rfl) (fun _ _ _ h => h) (Or.inl ⟨by kernel_rfl, ?_⟩) hS ?_
        rotate_left
        · intro W hW; go_simp; try with_reducible rfl
        refine wpAnyH_take (i := 15) (v := ?_) rfl (by kernel_rfl) (by kernel_rfl) (by kernel_rfl) (fun _ _ _ h => h) (Or.inl ⟨by kernel_rfl, ?_⟩) hS ?_
        rotate_left
        · intro W hW; obtain ⟨c0, c1, c2, c3, c4, c5, c6, c7, c8, c9, c10, c11, c12, c13⟩ := HC.out W (HB1.out.trans ((HB8.out.trans (hW.mono HB8.out.size)).mono HB1.out.size)) (HB8.out.trans (hW.mono HB8.out.size)); go_simp; try with_reducible rfl
        refine wpAnyH_take (i := 16) (v := ?_) rfl (by kernel_rfl) (by kernel_rfl) (by kernel_rfl) (fun _ _ _ h => h) (Or.inl ⟨by kernel_rfl, ?_⟩) hS ?_
        rotate_left
        · intro W hW; go_simp; try with_reducible rfl
        refine wpAnyH_take (i := 17) (v := ?_) rfl (by kernel_rfl) (by kernel_rfl) (by kernel_rfl) (fun _ _ _ h => h) (Or.inl ⟨by kernel_rfl, ?_⟩) hS ?_
        rotate_left
        · intro W hW; obtain ⟨c0, c1, c2, c3, c4, c5, c6, c7, c8, c9, c10, c11, c12, c13⟩ := HC.out W (HB1.out.trans ((HB8.out.trans (hW.mono HB8.out.size)).mono HB1.out.size)) (HB8.out.trans (hW.mono HB8.out.size)); go_simp; try with_reducible rfl
        refine wpAnyH_take (i := 18) (v := ?_) rfl (by kernel_rfl) (by kernel_rfl) (by kernel_rfl) (fun _ _ _ h => h) (Or.inl ⟨by kernel_rfl, ?_⟩) hS ?_
        rotate_left
        · intro W hW; go_simp; try with_reducible rfl
        refine wpAnyH_ready (rs := [19]) (by kernel_rfl) (by simp) ?_
        go_simp
        refine AllReadyH.cons (i := 19) rfl ?_ AllReadyH.nil
        intro K hK
        go_simp
        refine (E2.out _ (HB1.out.trans ((HB8.out.trans (hS.mono HB8.out.size)).mono HB1.out.size))).mono ?_
        rintro e w6 ⟨rfl, B6⟩
        have hT := hS.trans (B6.mono hS.size)
        go_simp
        refine hK.out _ _ ?_ (fun hN => ?_)
        · first | exact hT | exact hS | exact hS.alloc hS.size _ | exact hS.drew
        clear hK K
        try clear hT
        clear hS
        have hS := hN
        clear hN
        refine wpAnyH_take (i := 20) (v := ?_) rfl (by kernel_rfl) (by kernel_rfl) (by kernel_rfl) (fun _ _ _ h => h) (Or.inl ⟨by kernel_rfl, ?_⟩) hS ?_
        rotate_left
        · intro W hW; go_simp; try with_reducible rfl
        refine wpAnyH_done (by kernel_rfl) ?_ _
        go_simp
        have HB9 := Lib.hid (HB8.out.trans (hS.mono HB8.out.size))
        clear hS
        go_wp2_with fail
        go_roundw
        case rel => exact ⟨3, by omega, by omega, rfl, ⟨fun h => HL.out.1 (by omega), fun h => HL.out.2.1 (by omega), fun h => HQ.out⟩, HB9.out⟩
        case measure => simp [intOf]
    · go_wp2_with fail
      go_ret
      exact ⟨true, rfl, fun _ => ⟨HL.out.1 (by omega), HL.out.2.1 (by omega), HL.out.2.2 (by omega)⟩, HB1.out.trans (HB8.out.mono HB1.out.size)⟩
set_option maxRecDepth 100000 in
set_option maxHeartbeats 8000000 in
theorem right_m4 (fr vol a0 a1 a2 : Int) (id : Nat) (l0 l1 l2 : Int) (key ck : Nat) (a : Option Addr) (c : Nat) (l : List (BitVec 8)) (w : World) (h : a0 ≠ a1) (h2 : a1 ≠ a2) (h3 : a0 ≠ a2) (hb : BSl w w.heap.size a 0 l) (hn : 0 ≤ 1099511627776) :
    Calls Try.prog 37 #[.agg #[.int .i64 4, .int .i64 fr, .int .i64 vol, .int .i64 a0, .int .i64 a1, .int .i64 a2, .int .u64 id, .int .i64 l0, .int .i64 l1, .int .i64 l2, .int .u64 key, .int .u32 ck, .bool false, .slice a 0 c]] w (RtP w (mchk (⟨fr, a0, 4, vol, l0, id, 0, true, key, ck, false, a, 0, c, l⟩ : MsgR)) (mchk (⟨fr, a1, 4, vol, l1, id, 0, true, key, ck, false, a, 0, c, l⟩ : MsgR)) (mchk (⟨fr, a2, 4, vol, l2, id, 0, true, key, ck, false, a, 0, c, l⟩ : MsgR))) := by
  obtain ⟨W1, hW1⟩ : ∃ W, w.alloc (.cells #[.int .i64 4, .int .i64 fr, .int .i64 vol, .int .i64 a0, .int .i64 a1, .int .i64 a2, .int .u64 id, .int .i64 l0, .int .i64 l1, .int .i64 l2, .int .u64 key, .int .u32 ck, .bool false, .slice a 0 c] 75) = W := ⟨_, rfl⟩
  have HB1 := Lib.hid (show Below w.heap.size w W1 from by rw [← hW1]; exact (Below.refl _ _).alloc (Nat.le_refl _) _)
  have hO : Blk W1 w.heap.size 75 #[.int .i64 4, .int .i64 fr, .int .i64 vol, .int .i64 a0, .int .i64 a1, .int .i64 a2, .int .u64 id, .int .i64 l0, .int .i64 l1, .int .i64 l2, .int .u64 key, .int .u32 ck, .bool false, .slice a 0 c] := by rw [← hW1]; exact Blk.made w _ _
  have HO := Lib.hid hO
  obtain ⟨k0, k1, k2, k3, k4, k5, k6, k7, k8, k9, k10, k11, k12, k13⟩ := op14 hO
  clear hO
  have b01 : (a0 == a1) = false := eq_f h
  have b12 : (a1 == a2) = false := eq_f h2
  have b02 : (a0 == a2) = false := eq_f h3
  have HBS := Lib.hid hb
  have HC := Lib.hid fun (W : World) (B0 : Below w.heap.size w W) (B1 : Below W1.heap.size W1 W) => op14 (HO.out.below B1 HO.out.lt)
  have E0 := Lib.hid fun (W : World) (B0 : Below w.heap.size w W) => rcheck_any (⟨fr, a0, 4, vol, l0, id, 0, true, key, ck, false, a, 0, c, l⟩ : MsgR) W ((HBS.out.below B0).more B0.size) hn
  have E1 := Lib.hid fun (W : World) (B0 : Below w.heap.size w W) => rcheck_any (⟨fr, a1, 4, vol, l1, id, 0, true, key, ck, false, a, 0, c, l⟩ : MsgR) W ((HBS.out.below B0).more B0.size) hn
  have E2 := Lib.hid fun (W : World) (B0 : Below w.heap.size w W) => rcheck_any (⟨fr, a2, 4, vol, l2, id, 0, true, key, ck, false, a, 0, c, l⟩ : MsgR) W ((HBS.out.below B0).more B0.size) hn
  clear h h2 h3 hb hn
  unfold MsgR.vals at E0 E1 E2
  dsimp only at E0 E1 E2
  generalize mchk (⟨fr, a0, 4, vol, l0, id, 0, true, key, ck, false, a, 0, c, l⟩ : MsgR) = q0 at *
  generalize mchk (⟨fr, a1, 4, vol, l1, id, 0, true, key, ck, false, a, 0, c, l⟩ : MsgR) = q1 at *
  generalize mchk (⟨fr, a2, 4, vol, l2, id, 0, true, key, ck, false, a, 0, c, l⟩ : MsgR) = q2 at *
  go_enter Try.func37, Try.ntmps37
  go_wp2_with fail
  try clear hW1
  clear k0 k1 k2 k3 k4 k5 k6 k7 k8 k9 k10 k11 k12 k13 b01 b12 b02
  go_loopw [3] (fun iv wr => ∃ i : Int, 0 ≤ i ∧ i ≤ 3 ∧ iv = .int .i64 i ∧ RtL i q0 q1 q2 ∧ Below W1.heap.size W1 wr) (fun iv _ => (3 - intOf iv).toNat)
  case atStart => exact ⟨0, by omega, by omega, rfl, ⟨fun h => by omega, fun h => by omega, fun h => by omega⟩, Below.refl _ _⟩
  case round =>
    obtain ⟨i, hi0, hi3, rfl, hL, hB8⟩ := hrel
    have HB8 := Lib.hid hB8
    have HL := Lib.hid hL
    clear hB8 hL
    have h4 : i = 0 ∨ i = 1 ∨ i = 2 ∨ i = 3 := by omega
    clear hi0 hi3
    rcases h4 with rfl | rfl | rfl | rfl
    · by_cases hq : q0 = 0
      rotate_left
      · have b1 : ((q0 : Int) != 0) = true := ne_t (by omega)
        clear hq
        go_upto_region 8 with fail
        refine wp_region_held_drew (S := fun W => Below wr.heap.size wr W) (by kernel_rfl) ((Below.refl _ _).drew) (fun hS => ?_)
        refine wpAnyH_take (i := 0) (v := ?_) rfl (by kernel_rfl) (by kernel_rfl) (by kernel_rfl) (fun _ _ _ h => h) (Or.inl ⟨by kernel_rfl, ?_⟩) hS ?_
        rotate_left
        · intro W hW; go_simp; try with_reducible rfl
        refine wpAnyH_take (i := 1) (v := ?_) rfl (by kernel_rfl) (by kernel_rfl) (by kernel_rfl) (fun _ _ _ h => h) (Or.inl ⟨by kernel_rfl, ?_⟩) hS ?_
        rotate_left
        · intro W hW; obtain ⟨c0, c1, c2, c3, c4, c5, c6, c7, c8, c9, c10, c11, c12, c13⟩ := HC.out W (HB1.out.trans ((HB8.out.trans (hW.mono HB8.out.size)).mono HB1.out.size)) (HB8.out.trans (hW.mono HB8.out.size)); go_simp; try with_reducible rfl
        refine wpAnyH_take (i := 2) (v := ?_) rfl (by kernel_rfl) (by kernel_rfl) (by kernel_rfl) (fun _ _ _ h => h) (Or.inl ⟨by kernel_rfl, ?_⟩) hS ?_
        rotate_left
        · intro W hW; go_simp; try with_reducible rfl
        refine wpAnyH_take (i := 3) (v := ?_) rfl (by kernel_rfl) (by kernel_rfl) (by kernel_rfl) (fun _ _ _ h => h) (Or.inl ⟨by kernel_rfl, ?_⟩) hS ?_
        rotate_left
        · intro W hW; go_simp; try with_reducible rfl
        refine wpAnyH_take (i := 4) (v := ?_) rfl (by kernel_rfl) (by kernel_rfl) (by kernel_rfl) (fun _ _ _ h => h) (Or.inl ⟨by kernel_rfl, ?_⟩) hS ?_
        rotate_left
        · intro W hW; go_simp; try with_reducible rfl
        refine wpAnyH_take (i := 5) (v := ?_) rfl (by kernel_rfl) (by kernel_rfl) (by kernel_rfl) (fun _ _ _ h => h) (Or.inl ⟨by kernel_rfl, ?_⟩) hS ?_
        rotate_left
        · intro W hW; obtain ⟨c0, c1, c2, c3, c4, c5, c6, c7, c8, c9, c10, c11, c12, c13⟩ := HC.out W (HB1.out.trans ((HB8.out.trans (hW.mono HB8.out.size)).mono HB1.out.size)) (HB8.out.trans (hW.mono HB8.out.size)); go_simp; try with_reducible rfl
        refine wpAnyH_take (i := 6) (v := ?_) rfl (by kernel_rfl) (by kernel_rfl) (by kernel_rfl) (fun _ _ _ h => h) (Or.inl ⟨by kernel_rfl, ?_⟩) hS ?_
        rotate_left
        · intro W hW; go_simp; try with_reducible rfl
        refine wpAnyH_take (i := 7) (v := ?_) rfl (by kernel_rfl) (by kernel_rfl) (by kernel_rfl) (fun _ _ _ h => h) (Or.inl ⟨by kernel_rfl, ?_⟩) hS ?_
        rotate_left
        · intro W hW; obtain ⟨c0, c1, c2, c3, c4, c5, c6, c7, c8, c9, c10, c11, c12, c13⟩ := HC.out W (HB1.out.trans ((HB8.out.trans (hW.mono HB8.out.size)).mono HB1.out.size)) (HB8.out.trans (hW.mono HB8.out.size)); go_simp; try with_reducible rfl
        refine wpAnyH_take (i := 8) (v := ?_) rfl (by kernel_rfl) (by kernel_rfl) (by kernel_rfl) (fun _ _ _ h => h) (Or.inl ⟨by kernel_rfl, ?_⟩) hS ?_
        rotate_left
        · intro W hW; go_simp; try with_reducible rfl
        refine wpAnyH_take (i := 9) (v := ?_) rfl (by kernel_rfl) (by kernel_rfl) (by kernel_rfl) (fun _ _ _ h => h) (Or.inl ⟨by kernel_rfl, ?_⟩) hS ?_
        rotate_left
        · intro W hW; obtain ⟨c0, c1, c2, c3, c4, c5, c6, c7, c8, c9, c10, c11, c12, c13⟩ := HC.out W (HB1.out.trans ((HB8.out.trans (hW.mono HB8.out.size)).mono HB1.out.size)) (HB8.out.trans (hW.mono HB8.out.size)); go_simp; try with_reducible rfl
        refine wpAnyH_take (i := 10) (v := ?_) rfl (by kernel_rfl) (by kernel_rfl) (by kernel_rfl) (fun _ _ _ h => h) (Or.inl ⟨by kernel_rfl, ?_⟩) hS ?_
        rotate_left
        · intro W hW; go_simp; try with_reducible rfl
        refine wpAnyH_take (i := 11) (v := ?_) rfl (by kernel_rfl) (by kernel_rfl) (by kernel_rfl) (fun _ _ _ h => h) (Or.inl ⟨by kernel_rfl, ?_⟩) hS ?_
        rotate_left
        · intro W hW; go_simp; try with_reducible rfl
        refine wpAnyH_take (i := 12) (v := ?_) rfl (by kernel_rfl) (by kernel_rfl) (by kernel_rfl) (fun _ _ _ h => h) (Or.inl ⟨by kernel_rfl, ?_⟩) hS ?_
        rotate_left
        · intro W hW; go_simp; try with_reducible rfl
        refine wpAnyH_take (i := 13) (v := ?_) rfl (by kernel_rfl) (by kernel_rfl) (by kernel_rfl) (fun _ _ _ h => h) (Or.inl ⟨by kernel_rfl, ?_⟩) hS ?_
        rotate_left
        · intro W hW; obtain ⟨c0, c1, c2, c3, c4, c5, c6, c7, c8, c9, c10, c11, c12, c13⟩ := HC.out W (HB1.out.trans ((HB8.out.trans (hW.mono HB8.out.size)).mono HB1.out.size)) (HB8.out.trans (hW.mono HB8.out.size)); go_simp; try with_reducible rfl
        refine wpAnyH_take (i := 14) (v := ?_) rfl (by kernel_rfl) (by kernel_rfl) (by kernel_rfl) (fun _ _ _ h => h) (Or.inl ⟨by kernel_rfl, ?_⟩) hS ?_
        rotate_left
        · intro W hW; go_simp; try with_reducible rfl
        refine wpAnyH_take (i := 15) (v := ?_) rfl (by kernel_rfl) (by kernel_rfl) (by kernel_rfl) (fun _ _ _ h => h) (Or.inl ⟨by kernel_rfl, ?_⟩) hS ?_
        rotate_left
        · intro W hW; obtain ⟨c0, c1, c2, c3, c4, c5, c6, c7, c8, c9, c10, c11, c12, c13⟩ := HC.out W (HB1.out.trans ((HB8.out.trans (hW.mono HB8.out.size)).mono HB1.out.size)) (HB8.out.trans (hW.mono HB8.out.size)); go_simp; try with_reducible rfl
        refine wpAnyH_take (i := 16) (v := ?_) rfl (by kernel_rfl) (by kernel_rfl) (by kernel_rfl) (fun _ _ _ h => h) (Or.inl ⟨by kernel_rfl, ?_⟩) hS ?_
        rotate_left
        · intro W hW; go_simp; try with_reducible rfl
        refine wpAnyH_take (i := 17) (v := ?_) rfl (by kernel_rfl) (by kernel_rfl) (by kernel_rfl) (fun _ _ _ h => h) (Or.inl ⟨by kernel_rfl, ?_⟩) hS ?_
        rotate_left
        · intro W hW; obtain ⟨c0, c1, c2, c3, c4, c5, c6, c7, c8, c9, c10, c11, c12, c13⟩ := HC.out W (HB1.out.trans ((HB8.out.trans (hW.mono HB8.out.size)).mono HB1.out.size)) (HB8.out.trans (hW.mono HB8.out.size)); go_simp; try with_reducible rfl
        refine wpAnyH_take (i := 18) (v := ?_) rfl (by kernel_rfl) (by kernel_rfl) (by kernel_rfl) (fun _ _ _ h => h) (Or.inl ⟨by kernel_rfl, ?_⟩) hS ?_
        rotate_left
        · intro W hW; go_simp; try with_reducible rfl
        refine wpAnyH_ready (rs := [19]) (by kernel_rfl) (by simp) ?_
        go_simp
        refine AllReadyH.cons (i := 19) rfl ?_ AllReadyH.nil
        intro K hK
        go_simp
        refine (E0.out _ (HB1.out.trans ((HB8.out.trans (hS.mono HB8.out.size)).mono HB1.out.size))).mono ?_
        rintro e w6 ⟨rfl, B6⟩
        have hT := hS.trans (B6.mono hS.size)
        go_simp
        refine hK.out _ _ ?_ (fun hN => ?_)
        · first | exact hT | exact hS | exact hS.alloc hS.size _ | exact hS.drew
        clear hK K
        try clear hT
        clear hS
        have hS := hN
        clear hN
        refine wpAnyH_take (i := 20) (v := ?_) rfl (by kernel_rfl) (by kernel_rfl) (by kernel_rfl) (fun _ _ _ h => h) (Or.inl ⟨by kernel_rfl, ?_⟩) hS ?_
        rotate_left
        · intro W hW; go_simp; try with_reducible rfl
        refine wpAnyH_done (by kernel_rfl) ?_ _
        go_simp
        have HB9 := Lib.hid (HB8.out.trans (hS.mono HB8.out.size))
        clear hS
        go_wp2_with fail
        go_ret
        exact ⟨false, rfl, (fun h => by cases h), HB1.out.trans (HB9.out.mono HB1.out.size)⟩
      · have b1 : ((q0 : Int) != 0) = false := ne_f (by omega)
        have HQ := Lib.hid hq
        clear hq
        go_upto_region 8 with fail
        refine wp_region_held_drew (S := fun W => Below wr.heap.size wr W) (by kernel_rfl) ((Below.refl _ _).drew) (fun hS => ?_)
        refine wpAnyH_take (i := 0) (v := ?_) rfl (by kernel_rfl) (by kernel_rfl) (by kernel_rfl) (fun _ _ _ h => h) (Or.inl ⟨by kernel_rfl, ?_⟩) hS ?_
        rotate_left
        · intro W hW; go_simp; try with_reducible rfl
        refine wpAnyH_take (i := 1) (v := ?_) rfl (by kernel_rfl) (by kernel_rfl) (by kernel_rfl) (fun _ _ _ h => h) (Or.inl ⟨by kernel_rfl, ?_⟩) hS ?_
        rotate_left
        · intro W hW; obtain ⟨c0, c1, c2, c3, c4, c5, c6, c7, c8, c9, c10, c11, c12, c13⟩ := HC.out W (HB1.out.trans ((HB8.out.trans (hW.mono HB8.out.size)).mono HB1.out.size)) (HB8.out.trans (hW.mono HB8.out.size)); go_simp; try with_reducible rfl
        refine wpAnyH_take (i := 2) (v := ?_) rfl (by kernel_rfl) (by kernel_rfl) (by kernel_rfl) (fun _ _ _ h => h) (Or.inl ⟨by kernel_rfl, ?_⟩) hS ?_
        rotate_left
        · intro W hW; go_simp; try with_reducible rfl
        refine wpAnyH_take (i := 3) (v := ?_) rfl (by kernel_rfl) (by kernel_rfl) (by kernel_rfl) (fun _ _ _ h => h) (Or.inl ⟨by kernel_rfl, ?_⟩) hS ?_
        rotate_left
        · intro W hW; go_simp; try with_reducible rfl
        refine wpAnyH_take (i := 4) (v := ?_) rfl (by kernel_rfl) (by kernel_rfl) (by kernel_rfl) (fun _ _ _ h => h) (Or.inl ⟨by kernel_rfl, ?_⟩) hS ?_
        rotate_left
        · intro W hW; go_simp; try with_reducible rfl
        refine wpAnyH_take (i := 5) (v := ?_) rfl (by kernel_rfl) (by kernel_rfl) (by kernel_rfl) (fun _ _ _ h => h) (Or.inl ⟨by kernel_rfl, ?_⟩) hS ?_
        rotate_left
        · intro W hW; obtain ⟨c0, c1, c2, c3, c4, c5, c6, c7, c8, c9, c10, c11, c12, c13⟩ := HC.out W (HB1.out.trans ((HB8.out.trans (hW.mono HB8.out.size)).mono HB1.out.size)) (HB8.out.trans (hW.mono HB8.out.size)); go_simp; try with_reducible rfl
        refine wpAnyH_take (i := 6) (v := ?_) rfl (by kernel_rfl) (by kernel_rfl) (by kernel_rfl) (fun _ _ _ h => h) (Or.inl ⟨by kernel_rfl, ?_⟩) hS ?_
        rotate_left
        · intro W hW; go_simp; try with_reducible rfl
        refine wpAnyH_take (i := 7) (v := ?_) rfl (by kernel_rfl) (by kernel_rfl) (by kernel_rfl) (fun _ _ _ h => h) (Or.inl ⟨by kernel_rfl, ?_⟩) hS ?_
        rotate_left
        · intro W hW; obtain ⟨c0, c1, c2, c3, c4, c5, c6, c7, c8, c9, c10, c11, c12, c13⟩ := HC.out W (HB1.out.trans ((HB8.out.trans (hW.mono HB8.out.size)).mono HB1.out.size)) (HB8.out.trans (hW.mono HB8.out.size)); go_simp; try with_reducible rfl
        refine wpAnyH_take (i := 8) (v := ?_) rfl (by kernel_rfl) (by kernel_rfl) (by kernel_rfl) (fun _ _ _ h => h) (Or.inl ⟨by kernel_rfl, ?_⟩) hS ?_
        rotate_left
        · intro W hW; go_simp; try with_reducible rfl
        refine wpAnyH_take (i := 9) (v := ?_) rfl (by kernel_rfl) (by kernel_rfl) (by kernel_rfl) (fun _ _ _ h => h) (Or.inl ⟨by kernel_rfl, ?_⟩) hS ?_
        rotate_left
        · intro W hW; obtain ⟨c0, c1, c2, c3, c4, c5, c6, c7, c8, c9, c10, c11, c12, c13⟩ := HC.out W (HB1.out.trans ((HB8.out.trans (hW.mono HB8.out.size)).mono HB1.out.size)) (HB8.out.trans (hW.mono HB8.out.size)); go_simp; try with_reducible rfl
        refine wpAnyH_take (i := 10) (v := ?_) rfl (by kernel_rfl) (by kernel_rfl) (by kernel_rfl) (fun _ _ _ h => h) (Or.inl ⟨by kernel_rfl, ?_⟩) hS ?_
        rotate_left
        · intro W hW; go_simp; try with_reducible rfl
        refine wpAnyH_take (i := 11) (v := ?_) rfl (by kernel_rfl) (by kernel_rfl) (by kernel_rfl) (fun _ _ _ h => h) (Or.inl ⟨by kernel_rfl, ?_⟩) hS ?_
        rotate_left
        · intro W hW; go_simp; try with_reducible rfl
        refine wpAnyH_take (i := 12) (v := ?_) rfl (by kernel_rfl) (by kernel_rfl) (by kernel_rfl) (fun _ _ _ h => h) (Or.inl ⟨by kernel_rfl, ?_⟩) hS ?_
        rotate_left
        · intro W hW; go_simp; try with_reducible rfl
        refine wpAnyH_take (i := 13) (v := ?_) rfl (by kernel_rfl) (by kernel_rfl) (by kernel_rfl) (fun _ _ _ h => h) (Or.inl ⟨by kernel_rfl, ?_⟩) hS ?_
        rotate_left
        · intro W hW; obtain ⟨c0, c1, c2, c3, c4, c5, c6, c7, c8, c9, c10, c11, c12, c13⟩ := HC.out W (HB1.out.trans ((HB8.out.trans (hW.mono HB8.out.size)).mono HB1.out.size)) (HB8.out.trans (hW.mono HB8.out.size)); go_simp; try with_reducible rfl
        refine wpAnyH_take (i := 14) (v := ?_) rfl (by kernel_rfl) (by kernel_rfl) (by kernel_rfl) (fun _ _ _ h => h) (Or.inl ⟨by kernel_rfl, ?_⟩) hS ?_
        rotate_left
        · intro W hW; go_simp; try with_reducible rfl
        refine wpAnyH_take (i := 15) (v := ?_) rfl (by kernel_rfl) (by kernel_rfl) (by kernel_rfl) (fun _ _ _ h => h) (Or.inl ⟨by kernel_rfl, ?_⟩) hS ?_
        rotate_left
        · intro W hW; obtain ⟨c0, c1, c2, c3, c4, c5, c6, c7, c8, c9, c10, c11, c12, c13⟩ := HC.out W (HB1.out.trans ((HB8.out.trans (hW.mono HB8.out.size)).mono HB1.out.size)) (HB8.out.trans (hW.mono HB8.out.size)); go_simp; try with_reducible rfl
        refine wpAnyH_take (i := 16) (v := ?_) rfl (by kernel_rfl) (by kernel_rfl) (by kernel_rfl) (fun _ _ _ h => h) (Or.inl ⟨by kernel_rfl, ?_⟩) hS ?_
        rotate_left
        · intro W hW; go_simp; try with_reducible rfl
        refine wpAnyH_take (i := 17) (v := ?_) rfl (by kernel_rfl) (by kernel_rfl) (by kernel_rfl) (fun _ _ _ h => h) (Or.inl ⟨by kernel_rfl, ?_⟩) hS ?_
        rotate_left
        · intro W hW; obtain ⟨c0, c1, c2, c3, c4, c5, c6, c7, c8, c9, c10, c11, c12, c13⟩ := HC.out W (HB1.out.trans ((HB8.out.trans (hW.mono HB8.out.size)).mono HB1.out.size)) (HB8.out.trans (hW.mono HB8.out.size)); go_simp; try with_reducible rfl
        refine wpAnyH_take (i := 18) (v := ?_) rfl (by kernel_rfl) (by kernel_rfl) (by kernel_rfl) (fun _ _ _ h => h) (Or.inl ⟨by kernel_rfl, ?_⟩) hS ?_
        rotate_left
        · intro W hW; go_simp; try with_reducible rfl
        refine wpAnyH_ready (rs := [19]) (by kernel_rfl) (by simp) ?_
        go_simp
        refine AllReadyH.cons (i := 19) rfl ?_ AllReadyH.nil
        intro K hK
        go_simp
        refine (E0.out _ (HB1.out.trans ((HB8.out.trans (hS.mono HB8.out.size)).mono HB1.out.size))).mono ?_
        rintro e w6 ⟨rfl, B6⟩
        have hT := hS.trans (B6.mono hS.size)
        go_simp
        refine hK.out _ _ ?_ (fun hN => ?_)
        · first | exact hT | exact hS | exact hS.alloc hS.size _ | exact hS.drew
        clear hK K
        try clear hT
        clear hS
        have hS := hN
        clear hN
        refine wpAnyH_take (i := 20) (v := ?_) rfl (by kernel_rfl) (by kernel_rfl) (by kernel_rfl) (fun _ _ _ h => h) (Or.inl ⟨by kernel_rfl, ?_⟩) hS ?_
        rotate_left
        · intro W hW; go_simp; try with_reducible rfl
        refine wpAnyH_done (by kernel_rfl) ?_ _
        go_simp
        have HB9 := Lib.hid (HB8.out.trans (hS.mono HB8.out.size))
        clear hS
        go_wp2_with fail
        go_roundw
        case rel => exact ⟨1, by omega, by omega, rfl, ⟨fun h => HQ.out, fun h => by omega, fun h => by omega⟩, HB9.out⟩
        case measure => simp [intOf]
    · by_cases hq : q1 = 0
      rotate_left
      · have b1 : ((q1 : Int) != 0) = true := ne_t (by omega)
        clear hq
        go_upto_region 8 with fail
        refine wp_region_held_drew (S := fun W => Below wr.heap.size wr W) (by kernel_rfl) ((Below.refl _ _).drew) (fun hS => ?_)
        refine wpAnyH_take (i := 0) (v := ?_) rfl (by kernel_rfl) (by kernel_rfl) (by kernel_rfl) (fun _ _ _ h => h) (Or.inl ⟨by kernel_rfl, ?_⟩) hS ?_
        rotate_left
        · intro W hW; go_simp; try with_reducible rfl
        refine wpAnyH_take (i := 1) (v := ?_) rfl (by kernel_rfl) (by kernel_rfl) (by kernel_rfl) (fun _ _ _ h => h) (Or.inl ⟨by kernel_rfl, ?_⟩) hS ?_
        rotate_left
        · intro W hW; obtain ⟨c0, c1, c2, c3, c4, c5, c6, c7, c8, c9, c10, c11, c12, c13⟩ := HC.out W (HB1.out.trans ((HB8.out.trans (hW.mono HB8.out.size)).mono HB1.out.size)) (HB8.out.trans (hW.mono HB8.out.size)); go_simp; try with_reducible rfl
        refine wpAnyH_take (i := 2) (v := ?_) rfl (by kernel_rfl) (by kernel_rfl) (by kernel_rfl) (fun _ _ _ h => h) (Or.inl ⟨by kernel_rfl, ?_⟩) hS ?_
        rotate_left
        · intro W hW; go_simp; try with_reducible rfl
        refine wpAnyH_take (i := 3) (v := ?_) rfl (by kernel_rfl) (by kernel_rfl) (by kernel_rfl) (fun _ _ _ h => h) (Or.inl ⟨by kernel_rfl, ?_⟩) hS ?_
        rotate_left
        · intro W hW; go_simp; try with_reducible rfl
        refine wpAnyH_take (i := 4) (v := ?_) rfl (by kernel_rfl) (by kernel_rfl) (by kernel_rfl) (fun _ _ _ h => h) (Or.inl ⟨by kernel_rfl, ?_⟩) hS ?_
        rotate_left
        · intro W hW; go_simp; try with_reducible rfl
        refine wpAnyH_take (i := 5) (v := ?_) rfl (by kernel_rfl) (by kernel_rfl) (by kernel_rfl) (fun _ _ _ h => h) (Or.inl ⟨by kernel_rfl, ?_⟩) hS ?_
        rotate_left
        · intro W hW; obtain ⟨c0, c1, c2, c3, c4, c5, c6, c7, c8, c9, c10, c11, c12, c13⟩ := HC.out W (HB1.out.trans ((HB8.out.trans (hW.mono HB8.out.size)).mono HB1.out.size)) (HB8.out.trans (hW.mono HB8.out.size)); go_simp; try with_reducible rfl
        refine wpAnyH_take (i := 6) (v := ?_) rfl (by kernel_rfl) (by kernel_rfl) (by kernel_rfl) (fun _ _ _ h => h) (Or.inl ⟨by kernel_rfl, ?_⟩) hS ?_
        rotate_left
        · intro W hW; go_simp; try with_reducible rfl
        refine wpAnyH_take (i := 7) (v := ?_) rfl (by kernel_rfl) (by kernel_rfl) (by kernel_rfl) (fun _ _ _ h => h) (Or.inl ⟨by kernel_rfl, ?_⟩) hS ?_
        rotate_left
        · intro W hW; obtain ⟨c0, c1, c2, c3, c4, c5, c6, c7, c8, c9, c10, c11, c12, c13⟩ := HC.out W (HB1.out.trans ((HB8.out.trans (hW.mono HB8.out.size)).mono HB1.out.size)) (HB8.out.trans (hW.mono HB8.out.size)); go_simp; try with_reducible rfl
        refine wpAnyH_take (i := 8) (v := ?_) rfl (by kernel_rfl) (by kernel_rfl) (by kernel_rfl) (fun _ _ _ h => h) (Or.inl ⟨by kernel_rfl, ?_⟩) hS ?_
        rotate_left
        · intro W hW; go_simp; try with_reducible rfl
        refine wpAnyH_take (i := 9) (v := ?_) rfl (by kernel_rfl) (by kernel_rfl) (by kernel_rfl) (fun _ _ _ h => h) (Or.inl ⟨by kernel_rfl, ?_⟩) hS ?_
        rotate_left
        · intro W hW; obtain ⟨c0, c1, c2, c3, c4, c5, c6, c7, c8, c9, c10, c11, c12, c13⟩ := HC.out W (HB1.out.trans ((HB8.out.trans (hW.mono HB8.out.size)).mono HB1.out.size)) (HB8.out.trans (hW.mono HB8.out.size)); go_simp; try with_reducible rfl
        refine wpAnyH_take (i := 10) (v := ?_) rfl (by kernel_rfl) (by kernel_rfl) (by kernel_rfl) (fun _ _ _ h => h) (Or.inl ⟨by kernel_rfl, ?_⟩) hS ?_
        rotate_left
        · intro W hW; go_simp; try with_reducible rfl
        refine wpAnyH_take (i := 11) (v := ?_) rfl (by kernel_rfl) (by kernel_rfl) (by kernel_rfl) (fun _ _ _ h => h) (Or.inl ⟨by kernel_rfl, ?_⟩) hS ?_
        rotate_left
        · intro W hW; go_simp; try with_reducible rfl
        refine wpAnyH_take (i := 12) (v := ?_) rfl (by kernel_rfl) (by kernel_rfl) (by kernel_rfl) (fun _ _ _ h => h) (Or.inl ⟨by kernel_rfl, ?_⟩) hS ?_
        rotate_left
        · intro W hW; go_simp; try with_reducible rfl
        refine wpAnyH_take (i := 13) (v := ?_) rfl (by kernel_rfl) (by kernel_rfl) (by kernel_rfl) (fun _ _ _ h => h) (Or.inl ⟨by kernel_rfl, ?_⟩) hS ?_
        rotate_left
        · intro W hW; obtain ⟨c0, c1, c2, c3, c4, c5, c6, c7, c8, c9, c10, c11, c12, c13⟩ := HC.out W (HB1.out.trans ((HB8.out.trans (hW.mono HB8.out.size)).mono HB1.out.size)) (HB8.out.trans (hW.mono HB8.out.size)); go_simp; try with_reducible rfl
        refine wpAnyH_take (i := 14) (v := ?_) rfl (by kernel_rfl) (by kernel_rfl) (by kernel_rfl) (fun _ _ _ h => h) (Or.inl ⟨by kernel_rfl, ?_⟩) hS ?_
        rotate_left
        · intro W hW; go_simp; try with_reducible rfl
        refine wpAnyH_take (i := 15) (v := ?_) rfl (by kernel_rfl) (by kernel_rfl) (by kernel_rfl) (fun _ _ _ h => h) (Or.inl ⟨by kernel_rfl, ?_⟩) hS ?_
        rotate_left
        · intro W hW; obtain ⟨c0, c1, c2, c3, c4, c5, c6, c7, c8, c9, c10, c11, c12, c13⟩ := HC.out W (HB1.out.trans ((HB8.out.trans (hW.mono HB8.out.size)).mono HB1.out.size)) (HB8.out.trans (hW.mono HB8.out.size)); go_simp; try with_reducible rfl
        refine wpAnyH_take (i := 16) (v := ?_) rfl (by kernel_rfl) (by kernel_rfl) (by kernel_rfl) (fun _ _ _ h => h) (Or.inl ⟨by kernel_rfl, ?_⟩) hS ?_
        rotate_left
        · intro W hW; go_simp; try with_reducible rfl
        refine wpAnyH_take (i := 17) (v := ?_) rfl (by kernel_rfl) (by kernel_rfl) (by kernel_rfl) (fun _ _ _ h => h) (Or.inl ⟨by kernel_rfl, ?_⟩) hS ?_
        rotate_left
        · intro W hW; obtain ⟨c0, c1, c2, c3, c4, c5, c6, c7, c8, c9, c10, c11, c12, c13⟩ := HC.out W (HB1.out.trans ((HB8.out.trans (hW.mono HB8.out.size)).mono HB1.out.size)) (HB8.out.trans (hW.mono HB8.out.size)); go_simp; try with_reducible rfl
        refine wpAnyH_take (i := 18) (v := ?_) rfl (by kernel_rfl) (by kernel_rfl) (by kernel_rfl) (fun _ _ _ h => h) (Or.inl ⟨by kernel_rfl, ?_⟩) hS ?_
        rotate_left
        · intro W hW; go_simp; try with_reducible rfl
        refine wpAnyH_ready (rs := [19]) (by kernel_rfl) (by simp) ?_
        go_simp
        refine AllReadyH.cons (i := 19) rfl ?_ AllReadyH.nil
        intro K hK
        go_simp
        refine (E1.out _ (HB1.out.trans ((HB8.out.trans (hS.mono HB8.out.size)).mono HB1.out.size))).mono ?_
        rintro e w6 ⟨rfl, B6⟩
        have hT := hS.trans (B6.mono hS.size)
        go_simp
        refine hK.out _ _ ?_ (fun hN => ?_)
        · first | exact hT | exact hS | exact hS.alloc hS.size _ | exact hS.drew
        clear hK K
        try clear hT
        clear hS
        have hS := hN
        clear hN
        refine wpAnyH_take (i := 20) (v := ?_) rfl (by kernel_rfl) (by kernel_rfl) (by kernel_rfl) (fun _ _ _ h => h) (Or.inl ⟨by kernel_rfl, ?_⟩) hS ?_
        rotate_left
        · intro W hW; go_simp; try with_reducible rfl
        refine wpAnyH_done (by kernel_rfl) ?_ _
        go_simp
        have HB9 := Lib.hid (HB8.out.trans (hS.mono HB8.out.size))
        clear hS
        go_wp2_with fail
        go_ret
        exact ⟨false, rfl, (fun h => by cases h), HB1.out.trans (HB9.out.mono HB1.out.size)⟩
      · have b1 : ((q1 : Int) != 0) = false := ne_f (by omega)
        have HQ := Lib.hid hq
        clear hq
        go_upto_region 8 with fail
        refine wp_region_held_drew (S := fun W => Below wr.heap.size wr W) (by kernel_rfl) ((Below.refl _ _).drew) (fun hS => ?_)
        refine wpAnyH_take (i := 0) (v := ?_) rfl (by kernel_rfl) (by kernel_rfl) (by kernel_rfl) (fun _ _ _ h => h) (Or.inl ⟨by kernel_rfl, ?_⟩) hS ?_
        rotate_left
        · intro W hW; go_simp; try with_reducible rfl
        refine wpAnyH_take (i := 1) (v := ?_) rfl (by kernel_rfl) (by kernel_rfl) (by kernel_rfl) (fun _ _ _ h => h) (Or.inl ⟨by kernel_rfl, ?_⟩) hS ?_
        rotate_left
        · intro W hW; obtain ⟨c0, c1, c2, c3, c4, c5, c6, c7, c8, c9, c10, c11, c12, c13⟩ := HC.out W (HB1.out.trans ((HB8.out.trans (hW.mono HB8.out.size)).mono HB1.out.size)) (HB8.out.trans (hW.mono HB8.out.size)); go_simp; try with_reducible rfl
        refine wpAnyH_take (i := 2) (v := ?_) rfl (by kernel_rfl) (by kernel_rfl) (by kernel_rfl) (fun _ _ _ h => h) (Or.inl ⟨by kernel_rfl, ?_⟩) hS ?_
        rotate_left
        · intro W hW; go_simp; try with_reducible rfl
        refine wpAnyH_take (i := 3) (v := ?_) rfl (by kernel_rfl) (by kernel_rfl) (by kernel_rfl) (fun _ _ _ h => h) (Or.inl ⟨by kernel_rfl, ?_⟩) hS ?_
        rotate_left
        · intro W hW; go_simp; try with_reducible rfl
        refine wpAnyH_take (i := 4) (v := ?_) rfl (by kernel_rfl) (by kernel_rfl) (by kernel_rfl) (fun _ _ _ h => h) (Or.inl ⟨by kernel_rfl, ?_⟩) hS ?_
        rotate_left
        · intro W hW; go_simp; try with_reducible rfl
        refine wpAnyH_take (i := 5) (v := ?_) rfl (by kernel_rfl) (by kernel_rfl) (by kernel_rfl) (fun _ _ _ h => h) (Or.inl ⟨by kernel_rfl, ?_⟩) hS ?_
        rotate_left
        · intro W hW; obtain ⟨c0, c1, c2, c3, c4, c5, c6, c7, c8, c9, c10, c11, c12, c13⟩ := HC.out W (HB1.out.trans ((HB8.out.trans (hW.mono HB8.out.size)).mono HB1.out.size)) (HB8.out.trans (hW.mono HB8.out.size)); go_simp; try with_reducible rfl
        refine wpAnyH_take (i := 6) (v := ?_) rfl (by kernel_rfl) (by kernel_rfl) (by kernel_rfl) (fun _ _ _ h => h) (Or.inl ⟨by kernel_rfl, ?_⟩) hS ?_
        rotate_left
        · intro W hW; go_simp; try with_reducible rfl
        refine wpAnyH_take (i := 7) (v := ?_) rfl (by kernel_rfl) (by kernel_rfl) (by kernel_rfl) (fun _ _ _ h => h) (Or.inl ⟨by kernel_rfl, ?_⟩) hS ?_
        rotate_left
        · intro W hW; obtain ⟨c0, c1, c2, c3, c4, c5, c6, c7, c8, c9, c10, c11, c12, c13⟩ := HC.out W (HB1.out.trans ((HB8.out.trans (hW.mono HB8.out.size)).mono HB1.out.size)) (HB8.out.trans (hW.mono HB8.out.size)); go_simp; try with_reducible rfl
        refine wpAnyH_take (i := 8) (v := ?_) rfl (by kernel_rfl) (by kernel_rfl) (by kernel_rfl) (fun _ _ _ h => h) (Or.inl ⟨by kernel_rfl, ?_⟩) hS ?_
        rotate_left
        · intro W hW; go_simp; try with_reducible rfl
        refine wpAnyH_take (i := 9) (v := ?_) rfl (by kernel_rfl) (by kernel_rfl) (by kernel_rfl) (fun _ _ _ h => h) (Or.inl ⟨by kernel_rfl, ?_⟩) hS ?_
        rotate_left
        · intro W hW; obtain ⟨c0, c1, c2, c3, c4, c5, c6, c7, c8, c9, c10, c11, c12, c13⟩ := HC.out W (HB1.out.trans ((HB8.out.trans (hW.mono HB8.out.size)).mono HB1.out.size)) (HB8.out.trans (hW.mono HB8.out.size)); go_simp; try with_reducible rfl
        refine wpAnyH_take (i := 10) (v := ?_) rfl (by kernel_rfl) (by kernel_rfl) (by kernel_rfl) (fun _ _ _ h => h) (Or.inl ⟨by kernel_rfl, ?_⟩) hS ?_
        rotate_left
        · intro W hW; go_simp; try with_reducible rfl
        refine wpAnyH_take (i := 11) (v := ?_) rfl (by kernel_rfl) (by kernel_rfl) (by kernel_rfl) (fun _ _ _ h => h) (Or.inl ⟨by kernel_rfl, ?_⟩) hS ?_
        rotate_left
        · intro W hW; go_simp; try with_reducible rfl
        refine wpAnyH_take (i := 12) (v := ?_) rfl (by kernel_rfl) (by kernel_rfl) (by kernel_rfl) (fun _ _ _ h => h) (Or.inl ⟨by kernel_rfl, ?_⟩) hS ?_
        rotate_left
        · intro W hW; go_simp; try with_reducible rfl
        refine wpAnyH_take (i := 13) (v := ?_) rfl (by kernel_rfl) (by kernel_rfl) (by kernel_rfl) (fun _ _ _ h => h) (Or.inl ⟨by kernel_rfl, ?_⟩) hS ?_
        rotate_left
        · intro W hW; obtain ⟨c0, c1, c2, c3, c4, c5, c6, c7, c8, c9, c10, c11, c12, c13⟩ := HC.out W (HB1.out.trans ((HB8.out.trans (hW.mono HB8.out.size)).mono HB1.out.size)) (HB8.out.trans (hW.mono HB8.out.size)); go_simp; try with_reducible rfl
        refine wpAnyH_take (i := 14) (v := ?_) rfl (by kernel_rfl) (by kernel_rfl) (by kernel_rfl) (fun _ _ _ h => h) (Or.inl ⟨by kernel_rfl, ?_⟩) hS ?_
        rotate_left
        · intro W hW; go_simp; try with_reducible rfl
        refine wpAnyH_take (i := 15) (v := ?_) rfl (by kernel_rfl) (by kernel_rfl) (by kernel_rfl) (fun _ _ _ h => h) (Or.inl ⟨by kernel_rfl, ?_⟩) hS ?_
        rotate_left
        · intro W hW; obtain ⟨c0, c1, c2, c3, c4, c5, c6, c7, c8, c9, c10, c11, c12, c13⟩ := HC.out W (HB1.out.trans ((HB8.out.trans (hW.mono HB8.out.size)).mono HB1.out.size)) (HB8.out.trans (hW.mono HB8.out.size)); go_simp; try with_reducible rfl
        refine wpAnyH_take (i := 16) (v := ?_) rfl (by kernel_rfl) (by kernel_rfl) (by kernel_rfl) (fun _ _ _ h => h) (Or.inl ⟨by kernel_rfl, ?_⟩) hS ?_
        rotate_left
        · intro W hW; go_simp; try with_reducible rfl
        refine wpAnyH_take (i := 17) (v := ?_) rfl (by kernel_rfl) (by kernel_rfl) (by kernel_rfl) (fun _ _ _ h => h) (Or.inl ⟨by kernel_rfl, ?_⟩) hS ?_
        rotate_left
        · intro W hW; obtain ⟨c0, c1, c2, c3, c4, c5, c6, c7, c8, c9, c10, c11, c12, c13⟩ := HC.out W (HB1.out.trans ((HB8.out.trans (hW.mono HB8.out.size)).mono HB1.out.size)) (HB8.out.trans (hW.mono HB8.out.size)); go_simp; try with_reducible rfl
        refine wpAnyH_take (i := 18) (v := ?_) rfl (by kernel_rfl) (by kernel_rfl) (by kernel_rfl) (fun _ _ _ h => h) (Or.inl ⟨by kernel_rfl, ?_⟩) hS ?_
        rotate_left
        · intro W hW; go_simp; try with_reducible rfl
        refine wpAnyH_ready (rs := [19]) (by kernel_rfl) (by simp) ?_
        go_simp
        refine AllReadyH.cons (i := 19) rfl ?_ AllReadyH.nil
        intro K hK
        go_simp
        refine (E1.out _ (HB1.out.trans ((HB8.out.trans (hS.mono HB8.out.size)).mono HB1.out.size))).mono ?_
        rintro e w6 ⟨rfl, B6⟩
        have hT := hS.trans (B6.mono hS.size)
        go_simp
        refine hK.out _ _ ?_ (fun hN => ?_)
        · first | exact hT | exact hS | exact hS.alloc hS.size _ | exact hS.drew
        clear hK K
        try clear hT
        clear hS
        have hS := hN
        clear hN
        refine wpAnyH_take (i := 20) (v := ?_) rfl (by kernel_rfl) (by kernel_rfl) (by kernel_rfl) (fun _ _ _ h => h) (Or.inl ⟨by kernel_rfl, ?_⟩) hS ?_
        rotate_left
        · intro W hW; go_simp; try with_reducible rfl
        refine wpAnyH_done (by kernel_rfl) ?_ _
        go_simp
        have HB9 := Lib.hid (HB8.out.trans (hS.mono HB8.out.size))
        clear hS
        go_wp2_with fail
        go_roundw
        case rel => exact ⟨2, by omega, by omega, rfl, ⟨fun h => HL.out.1 (by omega), fun h => HQ.out, fun h => by omega⟩, HB9.out⟩
        case measure => simp [intOf]
    · by_cases hq : q2 = 0
      rotate_left
      · have b1 : ((q2 : Int) != 0) = true := ne_t (by omega)
        clear hq
        go_upto_region 8 with fail
        refine wp_region_held_drew (S := fun W => Below wr.heap.size wr W) (by kernel_rfl) ((Below.refl _ _).drew) (fun hS => ?_)
        refine wpAnyH_take (i := 0) (v := ?_) rfl (by kernel_rfl) (by kernel_rfl) (by kernel_rfl) (fun _ _ _ h => h) (Or.inl ⟨by kernel_rfl, ?_⟩) hS ?_
        rotate_left
        · intro W hW; go_simp; try with_reducible rfl
        refine wpAnyH_take (i := 1) (v := ?_) rfl (by kernel_rfl) (by kernel_rfl) (by kernel_rfl) (fun _ _ _ h => h) (Or.inl ⟨by kernel_rfl, ?_⟩) hS ?_
        rotate_left
        · intro W hW; obtain ⟨c0, c1, c2, c3, c4, c5, c6, c7, c8, c9, c10, c11, c12, c13⟩ := HC.out W (HB1.out.trans ((HB8.out.trans (hW.mono HB8.out.size)).mono HB1.out.size)) (HB8.out.trans (hW.mono HB8.out.size)); go_simp; try with_reducible rfl
        refine wpAnyH_take (i := 2) (v := ?_) rfl (by kernel_rfl) (by kernel_rfl) (by kernel_rfl) (fun _ _ _ h => h) (Or.inl ⟨by kernel_rfl, ?_⟩) hS ?_
        rotate_left
        · intro W hW; go_simp; try with_reducible rfl
        refine wpAnyH_take (i := 3) (v := ?_) rfl (by kernel_rfl) (by kernel_rfl) (by kernel_rfl) (fun _ _ _ h => h) (Or.inl ⟨by kernel_rfl, ?_⟩) hS ?_
        rotate_left
        · intro W hW; go_simp; try with_reducible rfl
        refine wpAnyH_take (i := 4) (v := ?_) rfl (by kernel_rfl) (by kernel_rfl) (by kernel_rfl) (fun _ _ _ h => h) (Or.inl ⟨by kernel_rfl, ?_⟩) hS ?_
        rotate_left
        · intro W hW; go_simp; try with_reducible rfl
        refine wpAnyH_take (i := 5) (v := ?_) rfl (by kernel_rfl) (by kernel_rfl) (by kernel_rfl) (fun _ _ _ h => h) (Or.inl ⟨by kernel_rfl, ?_⟩) hS ?_
        rotate_left
        · intro W hW; obtain ⟨c0, c1, c2, c3, c4, c5, c6, c7, c8, c9, c10, c11, c12, c13⟩ := HC.out W (HB1.out.trans ((HB8.out.trans (hW.mono HB8.out.size)).mono HB1.out.size)) (HB8.out.trans (hW.mono HB8.out.size)); go_simp; try with_reducible rfl
        refine wpAnyH_take (i := 6) (v := ?_) rfl (by kernel_rfl) (by kernel_rfl) (by kernel_rfl) (fun _ _ _ h => h) (Or.inl ⟨by kernel_rfl, ?_⟩) hS ?_
        rotate_left
        · intro W hW; go_simp; try with_reducible rfl
        refine wpAnyH_take (i := 7) (v := ?_) rfl (by kernel_rfl) (by kernel_rfl) (by kernel_rfl) (fun _ _ _ h => h) (Or.inl ⟨by kernel_rfl, ?_⟩) hS ?_
        rotate_left
        · intro W hW; obtain ⟨c0, c1, c2, c3, c4, c5, c6, c7, c8, c9, c10, c11, c12, c13⟩ := HC.out W (HB1.out.trans ((HB8.out.trans (hW.mono HB8.out.size)).mono HB1.out.size)) (HB8.out.trans (hW.mono HB8.out.size)); go_simp; try with_reducible rfl
        refine wpAnyH_take (i := 8) (v := ?_) rfl (by kernel_rfl) (by kernel_rfl) (by kernel_rfl) (fun _ _ _ h => h) (Or.inl ⟨by kernel_rfl, ?_⟩) hS ?_
        rotate_left
        · intro W hW; go_simp; try with_reducible rfl
        refine wpAnyH_take (i := 9) (v := ?_) rfl (by kernel_rfl) (by kernel_rfl) (by kernel_rfl) (fun _ _ _ h => h) (Or.inl ⟨by kernel_rfl, ?_⟩) hS ?_
        rotate_left
        · intro W hW; obtain ⟨c0, c1, c2, c3, c4, c5, c6, c7, c8, c9, c10, c11, c12, c13⟩ := HC.out W (HB1.out.trans ((HB8.out.trans (hW.mono HB8.out.size)).mono HB1.out.size)) (HB8.out.trans (hW.mono HB8.out.size)); go_simp; try with_reducible rfl
        refine wpAnyH_take (i := 10) (v := ?_) rfl (by kernel_rfl) (by kernel_rfl) (by kernel_rfl) (fun _ _ _ h => h) (Or.inl ⟨by kernel_rfl, ?_⟩) hS ?_
        rotate_left
        · intro W hW; go_simp; try with_reducible rfl
        refine wpAnyH_take (i := 11) (v := ?_) rfl (by kernel_rfl) (by kernel_rfl) (by kernel_rfl) (fun _ _ _ h => h) (Or.inl ⟨by kernel_rfl, ?_⟩) hS ?_
        rotate_left
        · intro W hW; go_simp; try with_reducible rfl
        refine wpAnyH_take (i := 12) (v := ?_) rfl (by kernel_rfl) (by kernel_rfl) (by kernel_rfl) (fun _ _ _ h => h) (Or.inl ⟨by kernel_rfl, ?_⟩) hS ?_
        rotate_left
        · intro W hW; go_simp; try with_reducible rfl
        refine wpAnyH_take (i := 13) (v := ?_) rfl (by kernel_rfl) (by kernel_rfl) (by kernel_rfl) (fun _ _ _ h => h) (Or.inl ⟨by kernel_rfl, ?_⟩) hS ?_
        rotate_left
        · intro W hW; obtain ⟨c0, c1, c2, c3, c4, c5, c6, c7, c8, c9, c10, c11, c12, c13⟩ := HC.out W (HB1.out.trans ((HB8.out.trans (hW.mono HB8.out.size)).mono HB1.out.size)) (HB8.out.trans (hW.mono HB8.out.size)); go_simp; try with_reducible rfl
        refine wpAnyH_take (i := 14) (v := ?_) rfl (by kernel_rfl) (by kernel_rfl) (by kernel_rfl) (fun _ _ _ h => h) (Or.inl ⟨by kernel_rfl, ?_⟩) hS ?_
        rotate_left
        · intro W hW; go_simp; try with_reducible rfl
        refine wpAnyH_take (i := 15) (v := ?_) rfl (by kernel_rfl) (by kernel_rfl) (by kernel_rfl) (fun _ _ _ h => h) (Or.inl ⟨by kernel_rfl, ?_⟩) hS ?_
        rotate_left
        · intro W hW; obtain ⟨c0, c1, c2, c3, c4, c5, c6, c7, c8, c9, c10, c11, c12, c13⟩ := HC.out W (HB1.out.trans ((HB8.out.trans (hW.mono HB8.out.size)).mono HB1.out.size)) (HB8.out.trans (hW.mono HB8.out.size)); go_simp; try with_reducible rfl
        refine wpAnyH_take (i := 16) (v := ?_) rfl (by kernel_rfl) (by kernel_rfl) (by kernel_rfl) (fun _ _ _ h => h) (Or.inl ⟨by kernel_rfl, ?_⟩) hS ?_
        rotate_left
        · intro W hW; go_simp; try with_reducible rfl
        refine wpAnyH_take (i := 17) (v := ?_) rfl (by kernel_rfl) (by kernel_rfl) (by kernel_rfl) (fun _ _ _ h => h) (Or.inl ⟨by kernel_rfl, ?_⟩) hS ?_
        rotate_left
        · intro W hW; obtain ⟨c0, c1, c2, c3, c4, c5, c6, c7, c8, c9, c10, c11, c12, c13⟩ := HC.out W (HB1.out.trans ((HB8.out.trans (hW.mono HB8.out.size)).mono HB1.out.size)) (HB8.out.trans (hW.mono HB8.out.size)); go_simp; try with_reducible rfl
        refine wpAnyH_take (i := 18) (v := ?_) rfl (by kernel_rfl) (by kernel_rfl) (by kernel_rfl) (fun _ _ _ h => h) (Or.inl ⟨by kernel_rfl, ?_⟩) hS ?_
        rotate_left
        · intro W hW; go_simp; try with_reducible rfl
        refine wpAnyH_ready (rs := [19]) (by kernel_rfl) (by simp) ?_
        go_simp
        refine AllReadyH.cons (i := 19) rfl ?_ AllReadyH.nil
        intro K hK
        go_simp
        refine (E2.out _ (HB1.out.trans ((HB8.out.trans (hS.mono HB8.out.size)).mono HB1.out.size))).mono ?_
        rintro e w6 ⟨rfl, B6⟩
        have hT := hS.trans (B6.mono hS.size)
        go_simp
        refine hK.out _ _ ?_ (fun hN => ?_)
        · first | exact hT | exact hS | exact hS.alloc hS.size _ | exact hS.drew
        clear hK K
        try clear hT
        clear hS
        have hS := hN
        clear hN
        refine wpAnyH_take (i := 20) (v := ?_) rfl (by kernel_rfl) (by kernel_rfl) (by kernel_rfl) (fun _ _ _ h => h) (Or.inl ⟨by kernel_rfl, ?_⟩) hS ?_
        rotate_left
        · intro W hW; go_simp; try with_reducible rfl
        refine wpAnyH_done (by kernel_rfl) ?_ _
        go_simp
        have HB9 := Lib.hid (HB8.out.trans (hS.mono HB8.out.size))
        clear hS
        go_wp2_with fail
        go_ret
        exact ⟨false, rfl, (fun h => by cases h), HB1.out.trans (HB9.out.mono HB1.out.size)⟩
      · have b1 : ((q2 : Int) != 0) = false := ne_f (by omega)
        have HQ := Lib.hid hq
        clear hq
        go_upto_region 8 with fail
        refine wp_region_held_drew (S := fun W => Below wr.heap.size wr W) (by kernel_rfl) ((Below.refl _ _).drew) (fun hS => ?_)
        refine wpAnyH_take (i := 0) (v := ?_) rfl (by kernel_rfl) (by kernel_rfl) (by kernel_rfl) (fun _ _ _ h => h) (Or.inl ⟨by kernel_rfl, ?_⟩) hS ?_
        rotate_left
        · intro W hW; go_simp; try with_reducible rfl
        refine wpAnyH_take (i := 1) (v := ?_) rfl (by kernel_rfl) (by kernel_rfl) (by kernel_rfl) (fun _ _ _ h => h) (Or.inl ⟨by kernel_rfl, ?_⟩) hS ?_
        rotate_left
        · intro W hW; obtain ⟨c0, c1, c2, c3, c4, c5, c6, c7, c8, c9, c10, c11, c12, c13⟩ := HC.out W (HB1.out.trans ((HB8.out.trans (hW.mono HB8.out.size)).mono HB1.out.size)) (HB8.out.trans (hW.mono HB8.out.size)); go_simp; try with_reducible rfl
        refine wpAnyH_take (i := 2) (v := ?_) rfl (by kernel_rfl) (by kernel_rfl) (by kernel_rfl) (fun _ _ _ h => h) (Or.inl ⟨by kernel_rfl, ?_⟩) hS ?_
        rotate_left
        · intro W hW; go_simp; try with_reducible rfl
        refine wpAnyH_take (i := 3) (v := ?_) rfl (by kernel_rfl) (by kernel_rfl) (by kernel_rfl) (fun _ _ _ h => h) (Or.inl ⟨by kernel_rfl, ?_⟩) hS ?_
        rotate_left
        · intro W hW; go_simp; try with_reducible rfl
        refine wpAnyH_take (i := 4) (v := ?_) rfl (by kernel_rfl) (by kernel_rfl) (by kernel_rfl) (fun _ _ _ h => h) (Or.inl ⟨by kernel_rfl, ?_⟩) hS ?_
        rotate_left
        · intro W hW; go_simp; try with_reducible rfl
        refine wpAnyH_take (i := 5) (v := ?_) rfl (by kernel_rfl) (by kernel_rfl) (by kernel_rfl) (fun _ _ _ h => h) (Or.inl ⟨by kernel_rfl, ?_⟩) hS ?_
        rotate_left
        · intro W hW; obtain ⟨c0, c1, c2, c3, c4, c5, c6, c7, c8, c9, c10, c11, c12, c13⟩ := HC.out W (HB1.out.trans ((HB8.out.trans (hW.mono HB8.out.size)).mono HB1.out.size)) (HB8.out.trans (hW.mono HB8.out.size)); go_simp; try with_reducible rfl
        refine wpAnyH_take (i := 6) (v := ?_) rfl (by kernel_rfl) (by kernel_rfl) (by kernel_rfl) (fun _ _ _ h => h) (Or.inl ⟨by kernel_rfl, ?_⟩) hS ?_
        rotate_left
        · intro W hW; go_simp; try with_reducible rfl
        refine wpAnyH_take (i := 7) (v := ?_) rfl (by kernel_rfl) (by kernel_rfl) (by kernel_rfl) (fun _ _ _ h => h) (Or.inl ⟨by kernel_rfl, ?_⟩) hS ?_
        rotate_left
        · intro W hW; obtain ⟨c0, c1, c2, c3, c4, c5, c6, c7, c8, c9, c10, c11, c12, c13⟩ := HC.out W (HB1.out.trans ((HB8.out.trans (hW.mono HB8.out.size)).mono HB1.out.size)) (HB8.out.trans (hW.mono HB8.out.size)); go_simp; try with_reducible rfl
        refine wpAnyH_take (i := 8) (v := ?_) rfl (by kernel_rfl) (by kernel_rfl) (by kernel_rfl) (fun _ _ _ h => h) (Or.inl ⟨by kernel_rfl, ?_⟩) hS ?_
        rotate_left
        · intro W hW; go_simp; try with_reducible rfl
        refine wpAnyH_take (i := 9) (v := ?_) rfl (by kernel_rfl) (by kernel_rfl) (by kernel_rfl) (fun _ _ _ h => h) (Or.inl ⟨by kernel_rfl, ?_⟩) hS ?_
        rotate_left
        · intro W hW; obtain ⟨c0, c1, c2, c3, c4, c5, c6, c7, c8, c9, c10, c11, c12, c13⟩ := HC.out W (HB1.out.trans ((HB8.out.trans (hW.mono HB8.out.size)).mono HB1.out.size)) (HB8.out.trans (hW.mono HB8.out.size)); go_simp; try with_reducible rfl
        refine wpAnyH_take (i := 10) (v := ?_) rfl (by kernel_rfl) (by kernel_rfl) (by kernel_rfl) (fun _ _ _ h => h) (Or.inl ⟨by kernel_rfl, ?_⟩) hS ?_
        rotate_left
        · intro W hW; go_simp; try with_reducible rfl
        refine wpAnyH_take (i := 11) (v := ?_) rfl (by kernel_rfl) (by kernel_rfl) (by kernel_rfl) (fun _ _ _ h => h) (Or.inl ⟨by kernel_rfl, ?_⟩) hS ?_
        rotate_left
        · intro W hW; go_simp; try with_reducible rfl
        refine wpAnyH_take (i := 12) (v := ?_) rfl (by kernel_rfl) (by kernel_rfl) (by kernel_rfl) (fun _ _ _ h => h) (Or.inl ⟨by kernel_rfl, ?_⟩) hS ?_
        rotate_left
        · intro W hW; go_simp; try with_reducible rfl
        refine wpAnyH_take (i := 13) (v := ?_) rfl (by kernel_rfl) (by kernel_rfl) (by kernel_rfl) (fun _ _ _ h => h) (Or.inl ⟨by kernel_rfl, ?_⟩) hS ?_
        rotate_left
        · intro W hW; obtain ⟨c0, c1, c2, c3, c4, c5, c6, c7, c8, c9, c10, c11, c12, c13⟩ := HC.out W (HB1.out.trans ((HB8.out.trans (hW.mono HB8.out.size)).mono HB1.out.size)) (HB8.out.trans (hW.mono HB8.out.size)); go_simp; try with_reducible rfl
        refine wpAnyH_take (i := 14) (v := ?_) rfl (by kernel_rfl) (by kernel_rfl) (by kernel_rfl) (fun _ _ _ h => h) (Or.inl ⟨by kernel_rfl, ?_⟩) hS ?_
        rotate_left
        · intro W hW; go_simp; try with_reducible rfl
        refine wpAnyH_take (i := 15) (v := ?_) rfl (by kernel_rfl) (by kernel_rfl) (by kernel_rfl) (fun _ _ _ h => h) (Or.inl ⟨by kernel_rfl, ?_⟩) hS ?_
        rotate_left
        · intro W hW; obtain ⟨c0, c1, c2, c3, c4, c5, c6, c7, c8, c9, c10, c11, c12, c13⟩ := HC.out W (HB1.out.trans ((HB8.out.trans (hW.mono HB8.out.size)).mono HB1.out.size)) (HB8.out.trans (hW.mono HB8.out.size)); go_simp; try with_reducible rfl
        refine wpAnyH_take (i := 16) (v := ?_) rfl (by kernel_rfl) (by kernel_rfl) (by kernel_rfl) (fun _ _ _ h => h) (Or.inl ⟨by kernel_rfl, ?_⟩) hS ?_
        rotate_left
        · intro W hW; go_simp; try with_reducible rfl
        refine wpAnyH_take (i := 17) (v := ?_) rfl (by kernel_rfl) (by kernel_rfl) (by kernel_rfl) (fun _ _ _ h => h) (Or.inl ⟨by kernel_rfl, ?_⟩) hS ?_
        rotate_left
        · intro W hW; obtain ⟨c0, c1, c2, c3, c4, c5, c6, c7, c8, c9, c10, c11, c12, c13⟩ := HC.out W (HB1.out.trans ((HB8.out.trans (hW.mono HB8.out.size)).mono HB1.out.size)) (HB8.out.trans (hW.mono HB8.out.size)); go_simp; try with_reducible rfl
        refine wpAnyH_take (i := 18) (v := ?_) rfl (by kernel_rfl) (by kernel_rfl) (by kernel_rfl) (fun _ _ _ h => h) (Or.inl ⟨by kernel_rfl, ?_⟩) hS ?_
        rotate_left
        · intro W hW; go_simp; try with_reducible rfl
        refine wpAnyH_ready (rs := [19]) (by kernel_rfl) (by simp) ?_
        go_simp
        refine AllReadyH.cons (i := 19) rfl ?_ AllReadyH.nil
        intro K hK
        go_simp
        refine (E2.out _ (HB1.out.trans ((HB8.out.trans (hS.mono HB8.out.size)).mono HB1.out.size))).mono ?_
        rintro e w6 ⟨rfl, B6⟩
        have hT := hS.trans (B6.mono hS.size)
        go_simp
        refine hK.out _ _ ?_ (fun hN => ?_)
        · first | exact hT | exact hS | exact hS.alloc hS.size _ | exact hS.drew
        clear hK K
        try clear hT
        clear hS
        have hS := hN
        clear hN
        refine wpAnyH_take (i := 20) (v := ?_) rfl (by kernel_rfl) (by kernel_rfl) (by kernel_rfl) (fun _ _ _ h => h) (Or.inl ⟨by kernel_rfl, ?_⟩) hS ?_
        rotate_left
        · intro W hW; go_simp; try with_reducible rfl
        refine wpAnyH_done (by kernel_rfl) ?_ _
        go_simp
        have HB9 := Lib.hid (HB8.out.trans (hS.mono HB8.out.size))
        clear hS
        go_wp2_with fail
        go_roundw
        case rel => exact ⟨3, by omega, by omega, rfl, ⟨fun h => HL.out.1 (by omega), fun h => HL.out.2.1 (by omega), fun h => HQ.out⟩, HB9.out⟩
        case measure => simp [intOf]
    · go_wp2_with fail
      go_ret
      exact ⟨true, rfl, fun _ => ⟨HL.out.1 (by omega), HL.out.2.1 (by omega), HL.out.2.2 (by omega)⟩, HB1.out.trans (HB8.out.mono HB1.out.size)⟩
/-- The document's Right. -/
def RightP (w : World) (o : OpR) (e : Ending) (w' : World) : Prop := ∃ b, e = .returned (.bool b) ∧ (b = true → Rt o) ∧ Below w.heap.size w w'
theorem right_no {w : World} {o : OpR} {e : Ending} {w' : World} (h : e = .returned (.bool false) ∧ Below w.heap.size w w') : RightP w o e w' := ⟨false, h.1, (fun h => by cases h), h.2⟩
theorem right21 (o : OpR) (w : World) (hb : BSl w w.heap.size o.a o.n o.l) (hn : o.n ≤ 1099511627776) : Calls Try.prog 37 #[o.vals] w (RightP w o) := by
  obtain ⟨kd, fr, vol, a0, a1, a2, id, l0, l1, l2, key, ck, g, a, n, c, l⟩ := o
  dsimp only at hb hn
  unfold OpR.vals
  dsimp only
  by_cases hk : kd = 1 ∨ kd = 3 ∨ kd = 4
  rotate_left
  · exact (right_kd kd g n fr vol a0 a1 a2 id l0 l1 l2 key ck a c l w (by omega) (by omega) (by omega)).mono fun e w' h => right_no h
  have hfin : ∀ e w', g = false → (kd ≠ 1 → n = 0) → a0 ≠ a1 → a1 ≠ a2 → a0 ≠ a2 → RtP w (mchk (rqM ⟨kd, fr, vol, a0, a1, a2, id, l0, l1, l2, key, ck, g, a, n, c, l⟩ 0)) (mchk (rqM ⟨kd, fr, vol, a0, a1, a2, id, l0, l1, l2, key, ck, g, a, n, c, l⟩ 1)) (mchk (rqM ⟨kd, fr, vol, a0, a1, a2, id, l0, l1, l2, key, ck, g, a, n, c, l⟩ 2)) e w' →
      RightP w ⟨kd, fr, vol, a0, a1, a2, id, l0, l1, l2, key, ck, g, a, n, c, l⟩ e w' := by
    rintro e w' hg hn0 d1 d2 d3 ⟨b, he, hb, hB⟩
    exact ⟨b, he, fun hbt => ⟨hk, hg, hn0, d1, d2, d3, (hb hbt).1, (hb hbt).2.1, (hb hbt).2.2⟩, hB⟩
  rcases hk with rfl | rfl | rfl
  · cases g with
    | true => exact (right_g1 n fr vol a0 a1 a2 id l0 l1 l2 key ck a c l w).mono fun e w' h => right_no h
    | false =>
      by_cases d1 : a0 = a1
      · exact (right_a1 n fr vol a0 a1 a2 id l0 l1 l2 key ck a c l w d1).mono fun e w' h => right_no h
      by_cases d2 : a1 = a2
      · exact (right_b1 n fr vol a0 a1 a2 id l0 l1 l2 key ck a c l w d1 d2).mono fun e w' h => right_no h
      by_cases d3 : a0 = a2
      · exact (right_c1 n fr vol a0 a1 a2 id l0 l1 l2 key ck a c l w d1 d2 d3).mono fun e w' h => right_no h
      exact (right_m1 n fr vol a0 a1 a2 id l0 l1 l2 key ck a c l w d1 d2 d3 hb hn).mono fun e w' h => hfin e w' rfl (fun h => absurd rfl h) d1 d2 d3 h
  · cases g with
    | true => exact (right_g3 n fr vol a0 a1 a2 id l0 l1 l2 key ck a c l w).mono fun e w' h => right_no h
    | false =>
      rcases Nat.eq_zero_or_pos n with rfl | hp
      rotate_left
      · exact (right_n3 n fr vol a0 a1 a2 id l0 l1 l2 key ck a c l w hp).mono fun e w' h => right_no h
      by_cases d1 : a0 = a1
      · exact (right_a3 fr vol a0 a1 a2 id l0 l1 l2 key ck a c l w d1).mono fun e w' h => right_no h
      by_cases d2 : a1 = a2
      · exact (right_b3 fr vol a0 a1 a2 id l0 l1 l2 key ck a c l w d1 d2).mono fun e w' h => right_no h
      by_cases d3 : a0 = a2
      · exact (right_c3 fr vol a0 a1 a2 id l0 l1 l2 key ck a c l w d1 d2 d3).mono fun e w' h => right_no h
      exact (right_m3 fr vol a0 a1 a2 id l0 l1 l2 key ck a c l w d1 d2 d3 hb hn).mono fun e w' h => hfin e w' rfl (fun h => rfl) d1 d2 d3 h
  · cases g with
    | true => exact (right_g4 n fr vol a0 a1 a2 id l0 l1 l2 key ck a c l w).mono fun e w' h => right_no h
    | false =>
      rcases Nat.eq_zero_or_pos n with rfl | hp
      rotate_left
      · exact (right_n4 n fr vol a0 a1 a2 id l0 l1 l2 key ck a c l w hp).mono fun e w' h => right_no h
      by_cases d1 : a0 = a1
      · exact (right_a4 fr vol a0 a1 a2 id l0 l1 l2 key ck a c l w d1).mono fun e w' h => right_no h
      by_cases d2 : a1 = a2
      · exact (right_b4 fr vol a0 a1 a2 id l0 l1 l2 key ck a c l w d1 d2).mono fun e w' h => right_no h
      by_cases d3 : a0 = a2
      · exact (right_c4 fr vol a0 a1 a2 id l0 l1 l2 key ck a c l w d1 d2 d3).mono fun e w' h => right_no h
      exact (right_m4 fr vol a0 a1 a2 id l0 l1 l2 key ck a c l w d1 d2 d3 hb hn).mono fun e w' h => hfin e w' rfl (fun h => rfl) d1 d2 d3 h
end Go.Proofs.Ytboadalojimdlaa
