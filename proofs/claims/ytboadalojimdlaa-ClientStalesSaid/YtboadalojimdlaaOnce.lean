/-
  A table: what its blocks hold; New, Len, Room, Clear, Find.
-/
import Derived.Test.YtboadalojimdlaaMap
import Derived.Test.YtboadalojimdlaaOnceOwn1
import Derived.Deep.DeepCutAuto
import Derived.Deep.RegionHeld3
namespace Go.Proofs.Ytboadalojimdlaa
open Go.RowKit

theorem len_lt {l : List MsgR} {most : Int} (h : (l.length : Int) < most) : decide ((l.length : Int) < most) = true := decide_eq_true h
/-- A table in memory: block gt holds it, block b its map. -/
structure TBl (w : World) (gt b : Nat) (most : Int) (l : List MsgR) : Prop where
  k : Blk w gt 103 #[.int .i64 most, .map (some b)]
  m : MBlk w b l
theorem TBl.ne {w : World} {gt b : Nat} {most : Int} {l : List MsgR} (h : TBl w gt b most l) : gt ≠ b := by
  intro e
  subst e
  obtain ⟨es, c, h1, _⟩ := h.m
  have := h.k
  unfold Blk at this
  rw [this] at h1
  cases h1
theorem TBl.on {w w' : World} {gt b : Nat} {most : Int} {l : List MsgR} (h : TBl w gt b most l) (hb : Below w.heap.size w w') : TBl w' gt b most l := ⟨h.k.below hb h.k.lt, h.m.on hb⟩
theorem TBl.below {w w' : World} {B gt b : Nat} {most : Int} {l : List MsgR} (h : TBl w gt b most l) (hb : Below B w w') (h1 : gt < B) (h2 : b < B) : TBl w' gt b most l := ⟨h.k.below hb h1, h.m.below hb h2⟩
theorem TBl.grown {w w' : World} {gt b : Nat} {most : Int} {l : List MsgR} {row : Option Nat} (h : TBl w gt b most l) (hg : w.grownBy w' row) (h1 : some gt ≠ row) (h2 : some b ≠ row) : TBl w' gt b most l := ⟨h.k.grown hg h1, h.m.grown hg h2⟩

theorem find_results {W : World} {B : Nat} {v0 v1 v2 v3 v4 v5 v6 v7 v8 v9 v10 v11 e : Value} {a : Act} (h : Blk W B 53 #[v0, v1, v2, v3, v4, v5, v6, v7, v8, v9, v10, v11]) (h6 : a.tmps[6]?.getD undef = .pointer (some ⟨B, 0, none⟩)) (h7 : a.tmps[7]?.getD undef = e) :
    (results Try.f24 a.tmps).run Try.prog W = .ok (.tuple #[.agg #[v0, v1, v2, v3, v4, v5, v6, v7, v8, v9, v10, v11], e]) W := by
  obtain ⟨k0, k1, k2, k3, k4, k5, k6, k7, k8, k9, k10, k11⟩ := h.twelve
  simp [results, Try.results24, go_sem, h6, h7, k0, k1, k2, k3, k4, k5, k6, k7, k8, k9, k10, k11]
theorem new_bad (most : Int) (w : World) (h : ¬ (1 ≤ most ∧ most ≤ 4096)) :
    Calls Try.prog 21 #[.int .i64 most] w fun e w' => e = .returned (.tuple #[.pointer none, errc 1]) ∧ w = w' := by
  by_cases h1 : 1 ≤ most
  · have h2 : 4096 < most := by omega
    clear h
    go_enter Try.func21, Try.ntmps21
    go_wp2_with fail
    exact bodyPost_ret (v := .tuple #[.pointer none, errc 1]) (by simp [results, Try.results21, go_sem, errc, er]) rfl ⟨rfl, rfl⟩
  · clear h
    go_enter Try.func21, Try.ntmps21
    go_wp2_with fail
    exact bodyPost_ret (v := .tuple #[.pointer none, errc 1]) (by simp [results, Try.results21, go_sem, errc, er]) rfl ⟨rfl, rfl⟩
theorem new_ok (most : Int) (w : World) (h : 1 ≤ most) (h2 : most ≤ 4096) :
    Calls Try.prog 21 #[.int .i64 most] w fun e w' => e = .returned (.tuple #[.pointer (some ⟨w.heap.size + 1, 0, none⟩), errc 0]) ∧ TBl w' (w.heap.size + 1) w.heap.size most [] ∧ Below w.heap.size w w' := by
  have hmm : (Instr.makeMap 101 none).run Try.prog w = .ok (.map (some w.heap.size)) (w.alloc (.map #[] 0)) := rfl
  go_enter Try.func21, Try.ntmps21
  go_wp2_with fail
  refine bodyPost_ret (v := .tuple #[.pointer (some ⟨w.heap.size + 1, 0, none⟩), errc 0]) (by simp [results, Try.results21, go_sem, errc]) rfl ⟨rfl, ?_, ?_⟩
  · have := Blk.made (w.alloc (.map #[] 0)) 103 #[.int .i64 most, .map (some w.heap.size)]
    refine ⟨by simpa using this, ?_⟩
    exact (MBlk.made w).on ((Below.refl _ _).alloc (Nat.le_refl _) _)
  · exact ((Below.refl w.heap.size w).alloc (Nat.le_refl _) _).alloc (by simp) _
theorem len_any {gt b : Nat} {most : Int} {l : List MsgR} (w : World) (h : TBl w gt b most l) :
    Calls Try.prog 25 #[.pointer (some ⟨gt, 0, none⟩)] w fun e w' => e = .returned (.int .i64 (l.length : Nat)) ∧ w = w' := by
  have k1 : w.cell? ⟨gt, 1, none⟩ = some (.map (some b)) := h.k.cell 1
  go_enter Try.func25, Try.ntmps25
  go_wp2_with (at_len; refine at_size rfl _ rfl h.m rfl ?_)
  go_ret
  exact ⟨rfl, rfl⟩
theorem len_none (w : World) : Calls Try.prog 25 #[.pointer none] w fun e w' => e = .returned (.int .i64 0) ∧ w = w' := by
  go_enter Try.func25, Try.ntmps25
  go_wp2_with fail
  go_ret
  exact ⟨rfl, rfl⟩
set_option maxRecDepth 20000 in
theorem clear_any {gt b : Nat} {most : Int} {l : List MsgR} (w : World) (h : TBl w gt b most l) :
    Calls Try.prog 28 #[.pointer (some ⟨gt, 0, none⟩)] w fun e w' => e = .returned (.tuple #[]) ∧ TBl w' gt b most [] ∧ w.grownBy w' (some b) := by
  have k1 : w.cell? ⟨gt, 1, none⟩ = some (.map (some b)) := h.k.cell 1
  go_enter Try.func28, Try.ntmps28
  obtain ⟨w1, hrun, hm1, hg1⟩ := run_clear 0 h.m
  go_wp2_with fail
  exact bodyPost_end (v := .tuple #[]) (by simp [results, Try.results28, go_sem]) rfl ⟨rfl, ⟨h.k.grown hg1 (by intro e; injection e with e; exact h.ne e), hm1⟩, hg1⟩
theorem clear_none (w : World) : Calls Try.prog 28 #[.pointer none] w fun e w' => e = .returned (.tuple #[]) ∧ w = w' := by
  go_enter Try.func28, Try.ntmps28
  go_wp2_with fail
  exact bodyPost_end (v := .tuple #[]) (by simp [results, Try.results28, go_sem]) rfl ⟨rfl, rfl⟩
theorem room_any {gt b : Nat} {most : Int} {l : List MsgR} (w : World) (h : TBl w gt b most l) :
    Calls Try.prog 31 #[.pointer (some ⟨gt, 0, none⟩)] w fun e w' => e = .returned (.bool (decide ((l.length : Int) < most))) ∧ Below w.heap.size w w' := by
  have HK := Lib.hid fun (W : World) (B : Below w.heap.size w W) => (⟨(h.on B).k.cell 0, (h.on B).k.cell 1⟩ : W.cell? ⟨gt, 0, none⟩ = some (.int .i64 most) ∧ W.cell? ⟨gt, 1, none⟩ = some (.map (some b)))
  have HM := Lib.hid fun (W : World) (B : Below w.heap.size w W) (T : TypeId) => run_len T (h.on B).m
  clear h
  go_enter Try.func31, Try.ntmps31
  go_upto_region 1 with fail
  refine wp_region_held_drew (S := fun W => Below w.heap.size w W) (by kernel_rfl) ((Below.refl _ _).drew) (fun hS => ?_)
  refine wpAnyH_take (i := 0) (v := ?_) rfl (by kernel_rfl) (by kernel_rfl) (by kernel_rfl) (fun _ _ _ h => h) (Or.inl ⟨by kernel_rfl, ?_⟩) hS ?_
  rotate_left
  · intro W hW; go_simp; try with_reducible rfl
  refine wpAnyH_take (i := 1) (v := ?_) rfl (by kernel_rfl) (by kernel_rfl) (by kernel_rfl) (fun _ _ _ h => h) (Or.inl ⟨by kernel_rfl, ?_⟩) hS ?_
  rotate_left
  · intro W hW; go_simp; try with_reducible rfl
  refine wpAnyH_take (i := 2) (v := ?_) rfl (by kernel_rfl) (by kernel_rfl) (by kernel_rfl) (fun _ _ _ h => h) (Or.inl ⟨by kernel_rfl, ?_⟩) hS ?_
  rotate_left
  · intro W hW; go_simp; try with_reducible rfl
  refine wpAnyH_take (i := 3) (v := ?_) rfl (by kernel_rfl) (by kernel_rfl) (by kernel_rfl) (fun _ _ _ h => h) (Or.inl ⟨by kernel_rfl, ?_⟩) hS ?_
  rotate_left
  · intro W hW; go_simp; try with_reducible rfl
  refine wpAnyH_take (i := 4) (v := ?_) rfl (by kernel_rfl) (by kernel_rfl) (by kernel_rfl) (fun _ _ _ h => h) (Or.inl ⟨by kernel_rfl, ?_⟩) hS ?_
  rotate_left
  · intro W hW; go_simp; try with_reducible rfl
  refine wpAnyH_take (i := 5) (v := ?_) rfl (by kernel_rfl) (by kernel_rfl) (by kernel_rfl) (fun _ _ _ h => h) (Or.inl ⟨by kernel_rfl, ?_⟩) hS ?_
  rotate_left
  · intro W hW; go_simp; try with_reducible rfl
  refine wpAnyH_take (i := 6) (v := ?_) rfl (by kernel_rfl) (by kernel_rfl) (by kernel_rfl) (fun _ _ _ h => h) (Or.inl ⟨by kernel_rfl, ?_⟩) hS ?_
  rotate_left
  · intro W hW; obtain ⟨k0, k1⟩ := HK.out W hW; go_simp; try with_reducible rfl
  refine wpAnyH_take (i := 7) (v := ?_) rfl (by kernel_rfl) (by kernel_rfl) (by kernel_rfl) (fun _ _ _ h => h) (Or.inl ⟨by kernel_rfl, ?_⟩) hS ?_
  rotate_left
  · intro W hW; go_simp; rw [HM.out W hW]; simp only [Result.andThen_ok]; try with_reducible rfl
  refine wpAnyH_take (i := 8) (v := ?_) rfl (by kernel_rfl) (by kernel_rfl) (by kernel_rfl) (fun _ _ _ h => h) (Or.inl ⟨by kernel_rfl, ?_⟩) hS ?_
  rotate_left
  · intro W hW; go_simp; try with_reducible rfl
  refine wpAnyH_take (i := 9) (v := ?_) rfl (by kernel_rfl) (by kernel_rfl) (by kernel_rfl) (fun _ _ _ h => h) (Or.inl ⟨by kernel_rfl, ?_⟩) hS ?_
  rotate_left
  · intro W hW; go_simp; try with_reducible rfl
  refine wpAnyH_take (i := 10) (v := ?_) rfl (by kernel_rfl) (by kernel_rfl) (by kernel_rfl) (fun _ _ _ h => h) (Or.inl ⟨by kernel_rfl, ?_⟩) hS ?_
  rotate_left
  · intro W hW; go_simp; try with_reducible rfl
  refine wpAnyH_take (i := 11) (v := ?_) rfl (by kernel_rfl) (by kernel_rfl) (by kernel_rfl) (fun _ _ _ h => h) (Or.inl ⟨by kernel_rfl, ?_⟩) hS ?_
  rotate_left
  · intro W hW; obtain ⟨k0, k1⟩ := HK.out W hW; go_simp; try with_reducible rfl
  refine wpAnyH_take (i := 12) (v := ?_) rfl (by kernel_rfl) (by kernel_rfl) (by kernel_rfl) (fun _ _ _ h => h) (Or.inl ⟨by kernel_rfl, ?_⟩) hS ?_
  rotate_left
  · intro W hW; go_simp; try with_reducible rfl
  refine wpAnyH_take (i := 13) (v := ?_) rfl (by kernel_rfl) (by kernel_rfl) (by kernel_rfl) (fun _ _ _ h => h) (Or.inl ⟨by kernel_rfl, ?_⟩) hS ?_
  rotate_left
  · intro W hW; go_simp; try with_reducible rfl
  refine wpAnyH_take (i := 14) (v := ?_) rfl (by kernel_rfl) (by kernel_rfl) (by kernel_rfl) (fun _ _ _ h => h) (Or.inl ⟨by kernel_rfl, ?_⟩) hS ?_
  rotate_left
  · intro W hW; go_simp; try with_reducible rfl
  refine wpAnyH_done (by kernel_rfl) ?_ _
  go_simp
  go_wp2_with fail
  go_ret
  exact ⟨rfl, hS⟩
theorem room_none (w : World) : Calls Try.prog 31 #[.pointer none] w fun e w' => e = .returned (.bool false) ∧ Below w.heap.size w w' := by
  go_enter Try.func31, Try.ntmps31
  go_upto_region 1 with fail
  refine wp_region_held_drew (S := fun W => Below w.heap.size w W) (by kernel_rfl) ((Below.refl _ _).drew) (fun hS => ?_)
  refine wpAnyH_take (i := 0) (v := ?_) rfl (by kernel_rfl) (by kernel_rfl) (by kernel_rfl) (fun _ _ _ h => h) (Or.inl ⟨by kernel_rfl, ?_⟩) hS ?_
  rotate_left
  · intro W hW; go_simp; try with_reducible rfl
  refine wpAnyH_take (i := 1) (v := ?_) rfl (by kernel_rfl) (by kernel_rfl) (by kernel_rfl) (fun _ _ _ h => h) (Or.inl ⟨by kernel_rfl, ?_⟩) hS ?_
  rotate_left
  · intro W hW; go_simp; try with_reducible rfl
  refine wpAnyH_take (i := 2) (v := ?_) rfl (by kernel_rfl) (by kernel_rfl) (by kernel_rfl) (fun _ _ _ h => h) (Or.inl ⟨by kernel_rfl, ?_⟩) hS ?_
  rotate_left
  · intro W hW; go_simp; try with_reducible rfl
  refine wpAnyH_take (i := 3) (v := undef) rfl (by kernel_rfl) (by kernel_rfl) (by kernel_rfl) (fun _ _ _ h => h) (Or.inr ⟨by kernel_rfl, rfl⟩) hS ?_
  refine wpAnyH_take (i := 4) (v := undef) rfl (by kernel_rfl) (by kernel_rfl) (by kernel_rfl) (fun _ _ _ h => h) (Or.inr ⟨by kernel_rfl, rfl⟩) hS ?_
  refine wpAnyH_take (i := 5) (v := undef) rfl (by kernel_rfl) (by kernel_rfl) (by kernel_rfl) (fun _ _ _ h => h) (Or.inr ⟨by kernel_rfl, rfl⟩) hS ?_
  refine wpAnyH_take (i := 6) (v := undef) rfl (by kernel_rfl) (by kernel_rfl) (by kernel_rfl) (fun _ _ _ h => h) (Or.inr ⟨by kernel_rfl, rfl⟩) hS ?_
  refine wpAnyH_take (i := 7) (v := undef) rfl (by kernel_rfl) (by kernel_rfl) (by kernel_rfl) (fun _ _ _ h => h) (Or.inr ⟨by kernel_rfl, rfl⟩) hS ?_
  refine wpAnyH_take (i := 8) (v := undef) rfl (by kernel_rfl) (by kernel_rfl) (by kernel_rfl) (fun _ _ _ h => h) (Or.inr ⟨by kernel_rfl, rfl⟩) hS ?_
  refine wpAnyH_take (i := 9) (v := undef) rfl (by kernel_rfl) (by kernel_rfl) (by kernel_rfl) (fun _ _ _ h => h) (Or.inr ⟨by kernel_rfl, rfl⟩) hS ?_
  refine wpAnyH_take (i := 10) (v := undef) rfl (by kernel_rfl) (by kernel_rfl) (by kernel_rfl) (fun _ _ _ h => h) (Or.inr ⟨by kernel_rfl, rfl⟩) hS ?_
  refine wpAnyH_take (i := 11) (v := undef) rfl (by kernel_rfl) (by kernel_rfl) (by kernel_rfl) (fun _ _ _ h => h) (Or.inr ⟨by kernel_rfl, rfl⟩) hS ?_
  refine wpAnyH_take (i := 12) (v := undef) rfl (by kernel_rfl) (by kernel_rfl) (by kernel_rfl) (fun _ _ _ h => h) (Or.inr ⟨by kernel_rfl, rfl⟩) hS ?_
  refine wpAnyH_take (i := 13) (v := ?_) rfl (by kernel_rfl) (by kernel_rfl) (by kernel_rfl) (fun _ _ _ h => h) (Or.inl ⟨by kernel_rfl, ?_⟩) hS ?_
  rotate_left
  · intro W hW; go_simp; try with_reducible rfl
  refine wpAnyH_take (i := 14) (v := ?_) rfl (by kernel_rfl) (by kernel_rfl) (by kernel_rfl) (fun _ _ _ h => h) (Or.inl ⟨by kernel_rfl, ?_⟩) hS ?_
  rotate_left
  · intro W hW; go_simp; try with_reducible rfl
  refine wpAnyH_done (by kernel_rfl) ?_ _
  go_simp
  go_wp2_with fail
  go_ret
  exact ⟨rfl, hS⟩

theorem below_hw {w W : World} {u0 u1 u2 u3 u4 u5 u6 u7 u8 u9 u10 u11 : Value} (h : Blk W w.heap.size 53 #[u0, u1, u2, u3, u4, u5, u6, u7, u8, u9, u10, u11]) (hb : Below w.heap.size w W) (v0 v1 v2 v3 v4 v5 v6 v7 v8 v9 v10 v11 : Value) : ∃ W', ((((((((((((W.setCell ⟨w.heap.size, 0, none⟩ v0).setCell ⟨w.heap.size, 1, none⟩ v1).setCell ⟨w.heap.size, 2, none⟩ v2).setCell ⟨w.heap.size, 3, none⟩ v3).setCell ⟨w.heap.size, 4, none⟩ v4).setCell ⟨w.heap.size, 5, none⟩ v5).setCell ⟨w.heap.size, 6, none⟩ v6).setCell ⟨w.heap.size, 7, none⟩ v7).setCell ⟨w.heap.size, 8, none⟩ v8).setCell ⟨w.heap.size, 9, none⟩ v9).setCell ⟨w.heap.size, 10, none⟩ v10).setCell ⟨w.heap.size, 11, none⟩ v11) = W' ∧ Blk W' w.heap.size 53 #[v0, v1, v2, v3, v4, v5, v6, v7, v8, v9, v10, v11] ∧ Below w.heap.size w W' :=
  ⟨_, rfl, h.put12 _ _ _ _ _ _ _ _ _ _ _ _, below_put12 hb (Nat.le_refl _) _ _ _ _ _ _ _ _ _ _ _ _⟩
theorem find_none (w : World) (t : Int) (i : Nat) :
    Calls Try.prog 24 #[.pointer none, .int .i64 t, .int .u64 i] w fun e w' => e = .returned (.tuple #[mNone.vals, errc 15]) ∧ Below w.heap.size w w' := by
  have HK := Lib.hid (Blk.made w 53 #[.int .i64 0, .int .i64 0, .int .i64 0, .int .i64 0, .int .i64 0, .int .u64 0, .int .i64 0, .bool false, .int .u64 0, .int .u32 0, .bool false, .slice none 0 0])
  have HB := Lib.hid ((Below.refl w.heap.size w).alloc (Nat.le_refl _) (.cells #[.int .i64 0, .int .i64 0, .int .i64 0, .int .i64 0, .int .i64 0, .int .u64 0, .int .i64 0, .bool false, .int .u64 0, .int .u32 0, .bool false, .slice none 0 0] 53))
  go_enter Try.func24, Try.ntmps24
  go_upto_region 2 with fail
  obtain ⟨W, hW⟩ : ∃ W, w.alloc (.cells #[.int .i64 0, .int .i64 0, .int .i64 0, .int .i64 0, .int .i64 0, .int .u64 0, .int .i64 0, .bool false, .int .u64 0, .int .u32 0, .bool false, .slice none 0 0] 53) = W := ⟨_, rfl⟩
  have hk : Blk W w.heap.size 53 #[.int .i64 0, .int .i64 0, .int .i64 0, .int .i64 0, .int .i64 0, .int .u64 0, .int .i64 0, .bool false, .int .u64 0, .int .u32 0, .bool false, .slice none 0 0] := by rw [← hW]; exact HK.out
  have hb : Below w.heap.size w W := by rw [← hW]; exact HB.out
  obtain ⟨k0, k1, k2, k3, k4, k5, k6, k7, k8, k9, k10, k11⟩ := hk.twelve
  obtain ⟨f0, f1, f2, f3, f4, f5, f6, f7, f8, f9, f10, f11⟩ := hk.twelve_frozen
  obtain ⟨W', hW', hk', hb'⟩ := below_hw hk hb (.int .i64 0) (.int .i64 0) (.int .i64 0) (.int .i64 0) (.int .i64 0) (.int .u64 0) (.int .i64 0) (.bool false) (.int .u64 0) (.int .u32 0) (.bool false) (.slice none 0 0)
  have HW := Lib.hid hW'
  have HK' := Lib.hid hk'
  rw [hW]
  clear hW HK HB hk hb hW' hk'
  go_wp2_with fail
  rw [HW.out]
  exact bodyPost_ret (v := .tuple #[.agg #[.int .i64 0, .int .i64 0, .int .i64 0, .int .i64 0, .int .i64 0, .int .u64 0, .int .i64 0, .bool false, .int .u64 0, .int .u32 0, .bool false, .slice none 0 0], errc 15]) (find_results HK'.out rfl rfl) rfl ⟨rfl, hb'⟩
theorem find_no {gt b : Nat} {most : Int} {l : List MsgR} (w : World) (t : Int) (i : Nat) (h : TBl w gt b most l) (hn : mFind l t i = none) :
    Calls Try.prog 24 #[.pointer (some ⟨gt, 0, none⟩), .int .i64 t, .int .u64 i] w fun e w' => e = .returned (.tuple #[mNone.vals, errc 6]) ∧ Below w.heap.size w w' := by
  have HB := Lib.hid ((Below.refl w.heap.size w).alloc (Nat.le_refl _) (.cells #[.int .i64 0, .int .i64 0, .int .i64 0, .int .i64 0, .int .i64 0, .int .u64 0, .int .i64 0, .bool false, .int .u64 0, .int .u32 0, .bool false, .slice none 0 0] 53))
  have hL : (Instr.lookup 101 (.map (some b)) (.agg #[.int .i64 t, .int .u64 i]) true).run Try.prog (w.alloc (.cells #[.int .i64 0, .int .i64 0, .int .i64 0, .int .i64 0, .int .i64 0, .int .u64 0, .int .i64 0, .bool false, .int .u64 0, .int .u32 0, .bool false, .slice none 0 0] 53)) = .ok (.tuple #[.agg #[.int .i64 0, .int .i64 0, .int .i64 0, .int .i64 0, .int .i64 0, .int .u64 0, .int .i64 0, .bool false, .int .u64 0, .int .u32 0, .bool false, .slice none 0 0], .bool false]) (w.alloc (.cells #[.int .i64 0, .int .i64 0, .int .i64 0, .int .i64 0, .int .i64 0, .int .u64 0, .int .i64 0, .bool false, .int .u64 0, .int .u32 0, .bool false, .slice none 0 0] 53)) := by
    have := run_lookup t i (h.m.on HB.out)
    rw [hn] at this
    exact this
  have kt : (w.alloc (.cells #[.int .i64 0, .int .i64 0, .int .i64 0, .int .i64 0, .int .i64 0, .int .u64 0, .int .i64 0, .bool false, .int .u64 0, .int .u32 0, .bool false, .slice none 0 0] 53)).cell? ⟨gt, 1, none⟩ = some (.map (some b)) := (h.k.below HB.out h.k.lt).cell 1
  obtain ⟨hK, hK'⟩ := made_two w 53 53 #[.int .i64 0, .int .i64 0, .int .i64 0, .int .i64 0, .int .i64 0, .int .u64 0, .int .i64 0, .bool false, .int .u64 0, .int .u32 0, .bool false, .slice none 0 0] #[.int .i64 0, .int .i64 0, .int .i64 0, .int .i64 0, .int .i64 0, .int .u64 0, .int .i64 0, .bool false, .int .u64 0, .int .u32 0, .bool false, .slice none 0 0]
  obtain ⟨k0, k1, k2, k3, k4, k5, k6, k7, k8, k9, k10, k11⟩ := hK'.twelve
  obtain ⟨f0, f1, f2, f3, f4, f5, f6, f7, f8, f9, f10, f11⟩ := hK'.twelve_frozen
  clear hK hK' h hn
  go_enter Try.func24, Try.ntmps24
  go_upto_region 5 with fail
  obtain ⟨W, hW⟩ : ∃ W, (w.alloc (.cells #[.int .i64 0, .int .i64 0, .int .i64 0, .int .i64 0, .int .i64 0, .int .u64 0, .int .i64 0, .bool false, .int .u64 0, .int .u32 0, .bool false, .slice none 0 0] 53)).alloc (.cells #[.int .i64 0, .int .i64 0, .int .i64 0, .int .i64 0, .int .i64 0, .int .u64 0, .int .i64 0, .bool false, .int .u64 0, .int .u32 0, .bool false, .slice none 0 0] 53) = W := ⟨_, rfl⟩
  have hb : Below w.heap.size w W := by rw [← hW]; exact HB.out.alloc (by simp) _
  have hk1 : Blk W w.heap.size 53 #[.int .i64 0, .int .i64 0, .int .i64 0, .int .i64 0, .int .i64 0, .int .u64 0, .int .i64 0, .bool false, .int .u64 0, .int .u32 0, .bool false, .slice none 0 0] := by rw [← hW]; exact (made_two w 53 53 #[.int .i64 0, .int .i64 0, .int .i64 0, .int .i64 0, .int .i64 0, .int .u64 0, .int .i64 0, .bool false, .int .u64 0, .int .u32 0, .bool false, .slice none 0 0] #[.int .i64 0, .int .i64 0, .int .i64 0, .int .i64 0, .int .i64 0, .int .u64 0, .int .i64 0, .bool false, .int .u64 0, .int .u32 0, .bool false, .slice none 0 0]).1
  rw [hW]
  obtain ⟨W', hW', hk', hb'⟩ := below_hw hk1 hb (.int .i64 0) (.int .i64 0) (.int .i64 0) (.int .i64 0) (.int .i64 0) (.int .u64 0) (.int .i64 0) (.bool false) (.int .u64 0) (.int .u32 0) (.bool false) (.slice none 0 0)
  clear hW k0 k1 k2 k3 k4 k5 k6 k7 k8 k9 k10 k11 f0 f1 f2 f3 f4 f5 f6 f7 f8 f9 f10 f11 hL kt
  obtain ⟨k0, k1, k2, k3, k4, k5, k6, k7, k8, k9, k10, k11⟩ := hk1.twelve
  obtain ⟨f0, f1, f2, f3, f4, f5, f6, f7, f8, f9, f10, f11⟩ := hk1.twelve_frozen
  have HW := Lib.hid hW'
  have HK' := Lib.hid hk'
  clear hW' hk' hk1
  go_wp2_with fail
  rw [HW.out]
  exact bodyPost_ret (v := .tuple #[.agg #[.int .i64 0, .int .i64 0, .int .i64 0, .int .i64 0, .int .i64 0, .int .u64 0, .int .i64 0, .bool false, .int .u64 0, .int .u32 0, .bool false, .slice none 0 0], errc 6]) (find_results HK'.out rfl rfl) rfl ⟨rfl, hb'⟩
theorem find_yes {gt b : Nat} {most : Int} {l : List MsgR} (w : World) (t : Int) (i : Nat) (h : TBl w gt b most l) {m : MsgR} (hn : mFind l t i = some m) (hb : BSl w w.heap.size m.a m.n m.l) (hc : m.n ≤ m.c) (hs : m.n ≤ 1099511627776) :
    Calls Try.prog 24 #[.pointer (some ⟨gt, 0, none⟩), .int .i64 t, .int .u64 i] w fun e w' => ∃ av cv, e = .returned (.tuple #[({ m with a := av, c := cv } : MsgR).vals, errc 0]) ∧ m.n ≤ cv ∧ w'.ownsRow w.heap.size 5 1 (.slice av m.n cv) m.n (m.l.map bv) ∧ Below w.heap.size w w' := by
  obtain ⟨fr, tt, kd, vol, life, id, cd, has, key, ck, g, a, n, c, lm⟩ := m
  dsimp only at hb hc hs
  have HBS := Lib.hid hb
  have HOwn := Lib.hid fun (W : World) (h : BSl W W.heap.size a n lm) => own_any ⟨fr, tt, kd, vol, life, id, cd, has, key, ck, g, a, n, c, lm⟩ W h hc hs
  have HB := Lib.hid ((Below.refl w.heap.size w).alloc (Nat.le_refl _) (.cells #[.int .i64 0, .int .i64 0, .int .i64 0, .int .i64 0, .int .i64 0, .int .u64 0, .int .i64 0, .bool false, .int .u64 0, .int .u32 0, .bool false, .slice none 0 0] 53))
  have hL : (Instr.lookup 101 (.map (some b)) (.agg #[.int .i64 t, .int .u64 i]) true).run Try.prog (w.alloc (.cells #[.int .i64 0, .int .i64 0, .int .i64 0, .int .i64 0, .int .i64 0, .int .u64 0, .int .i64 0, .bool false, .int .u64 0, .int .u32 0, .bool false, .slice none 0 0] 53)) = .ok (.tuple #[.agg #[.int .i64 fr, .int .i64 tt, .int .i64 kd, .int .i64 vol, .int .i64 life, .int .u64 id, .int .i64 cd, .bool has, .int .u64 key, .int .u32 ck, .bool g, .slice a n c], .bool true]) (w.alloc (.cells #[.int .i64 0, .int .i64 0, .int .i64 0, .int .i64 0, .int .i64 0, .int .u64 0, .int .i64 0, .bool false, .int .u64 0, .int .u32 0, .bool false, .slice none 0 0] 53)) := by
    have := run_lookup t i (h.m.on HB.out)
    rw [hn] at this
    exact this
  have kt : (w.alloc (.cells #[.int .i64 0, .int .i64 0, .int .i64 0, .int .i64 0, .int .i64 0, .int .u64 0, .int .i64 0, .bool false, .int .u64 0, .int .u32 0, .bool false, .slice none 0 0] 53)).cell? ⟨gt, 1, none⟩ = some (.map (some b)) := (h.k.below HB.out h.k.lt).cell 1
  obtain ⟨hK, hK'⟩ := made_two w 53 53 #[.int .i64 0, .int .i64 0, .int .i64 0, .int .i64 0, .int .i64 0, .int .u64 0, .int .i64 0, .bool false, .int .u64 0, .int .u32 0, .bool false, .slice none 0 0] #[.int .i64 0, .int .i64 0, .int .i64 0, .int .i64 0, .int .i64 0, .int .u64 0, .int .i64 0, .bool false, .int .u64 0, .int .u32 0, .bool false, .slice none 0 0]
  obtain ⟨k0, k1, k2, k3, k4, k5, k6, k7, k8, k9, k10, k11⟩ := hK'.twelve
  obtain ⟨f0, f1, f2, f3, f4, f5, f6, f7, f8, f9, f10, f11⟩ := hK'.twelve_frozen
  clear hK hK' h hn hb hc hs
  go_enter Try.func24, Try.ntmps24
  go_upto_region 6 with fail
  obtain ⟨W, hW⟩ : ∃ W, (w.alloc (.cells #[.int .i64 0, .int .i64 0, .int .i64 0, .int .i64 0, .int .i64 0, .int .u64 0, .int .i64 0, .bool false, .int .u64 0, .int .u32 0, .bool false, .slice none 0 0] 53)).alloc (.cells #[.int .i64 fr, .int .i64 tt, .int .i64 kd, .int .i64 vol, .int .i64 life, .int .u64 id, .int .i64 cd, .bool has, .int .u64 key, .int .u32 ck, .bool g, .slice a n c] 53) = W := ⟨_, rfl⟩
  have hb : Below w.heap.size w W := by rw [← hW]; exact HB.out.alloc (by simp) _
  have hs : w.heap.size + 2 = W.heap.size := by rw [← hW]; simp
  have hk1 : Blk W w.heap.size 53 #[.int .i64 0, .int .i64 0, .int .i64 0, .int .i64 0, .int .i64 0, .int .u64 0, .int .i64 0, .bool false, .int .u64 0, .int .u32 0, .bool false, .slice none 0 0] := by rw [← hW]; exact (made_two w 53 53 #[.int .i64 0, .int .i64 0, .int .i64 0, .int .i64 0, .int .i64 0, .int .u64 0, .int .i64 0, .bool false, .int .u64 0, .int .u32 0, .bool false, .slice none 0 0] #[.int .i64 fr, .int .i64 tt, .int .i64 kd, .int .i64 vol, .int .i64 life, .int .u64 id, .int .i64 cd, .bool has, .int .u64 key, .int .u32 ck, .bool g, .slice a n c]).1
  have hk2 : Blk W (w.heap.size + 1) 53 #[.int .i64 fr, .int .i64 tt, .int .i64 kd, .int .i64 vol, .int .i64 life, .int .u64 id, .int .i64 cd, .bool has, .int .u64 key, .int .u32 ck, .bool g, .slice a n c] := by rw [← hW]; exact (made_two w 53 53 #[.int .i64 0, .int .i64 0, .int .i64 0, .int .i64 0, .int .i64 0, .int .u64 0, .int .i64 0, .bool false, .int .u64 0, .int .u32 0, .bool false, .slice none 0 0] #[.int .i64 fr, .int .i64 tt, .int .i64 kd, .int .i64 vol, .int .i64 life, .int .u64 id, .int .i64 cd, .bool has, .int .u64 key, .int .u32 ck, .bool g, .slice a n c]).2
  rw [hW]
  clear hW k0 k1 k2 k3 k4 k5 k6 k7 k8 k9 k10 k11 f0 f1 f2 f3 f4 f5 f6 f7 f8 f9 f10 f11 hL kt
  have E := HOwn.out W ((HBS.out.below hb).more hb.size)
  unfold MsgR.vals at E
  dsimp only at E
  have HE := Lib.hid E
  have HBB := Lib.hid hb
  have HK1 := Lib.hid hk1
  have HS := Lib.hid hs
  obtain ⟨k0, k1, k2, k3, k4, k5, k6, k7, k8, k9, k10, k11⟩ := hk2.twelve
  clear E hb hk1 hk2 HOwn HB HBS hs
  go_wp2_with fail
  refine HE.out.mono ?_
  rintro e w1 ⟨av, cv, rfl, hcv, ho, B1⟩
  have hb := HBB.out.trans (B1.mono (by have := HS.out; omega))
  have hk1 := HK1.out.below B1 (by have := HS.out; omega)
  obtain ⟨W', hW', hk', hb'⟩ := below_hw hk1 hb (.int .i64 fr) (.int .i64 tt) (.int .i64 kd) (.int .i64 vol) (.int .i64 life) (.int .u64 id) (.int .i64 cd) (.bool has) (.int .u64 key) (.int .u32 ck) (.bool g) (.slice av n cv)
  have HR := Lib.hid (show W'.ownsRow w.heap.size 5 1 (.slice av n cv) n (lm.map bv) from by
    rw [← hW']
    have := HS.out
    exact row_base (row_far ho (grown_put12 (grown_refl _ _) _ _ _ _ _ _ _ _ _ _ _ _) (by omega)) (by omega))
  obtain ⟨f0, f1, f2, f3, f4, f5, f6, f7, f8, f9, f10, f11⟩ := hk1.twelve_frozen
  obtain ⟨g0, g1, g2, g3, g4, g5, g6, g7, g8, g9, g10, g11⟩ := hk1.twelve
  have HW := Lib.hid hW'
  have HK' := Lib.hid hk'
  have HB' := Lib.hid hb'
  clear hW' hk' hk1 hb hb' ho B1 k0 k1 k2 k3 k4 k5 k6 k7 k8 k9 k10 k11 HE HBB HK1 HS
  go_wp2_with fail
  rw [HW.out]
  exact bodyPost_ret (v := .tuple #[.agg #[.int .i64 fr, .int .i64 tt, .int .i64 kd, .int .i64 vol, .int .i64 life, .int .u64 id, .int .i64 cd, .bool has, .int .u64 key, .int .u32 ck, .bool g, .slice av n cv], errc 0]) (find_results HK'.out rfl rfl) rfl ⟨av, cv, rfl, hcv, HR.out, HB'.out⟩
end Go.Proofs.Ytboadalojimdlaa
