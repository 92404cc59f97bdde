/-
  The document's Do: cut, join; all calls.
  Layer 15, plainly: what the program's net does is what the document's does.
-/
import Derived.Test.YtpkfjnhjcdcoaaaNetDo2
namespace Go.Proofs.Ytpkfjnhjcdcoaaa
open Go.RowKit
set_option linter.unusedVariables false

theorem info_arr : (Try.prog.info? 107).map (fun i => (i.zero, i.size, i.bytes)) = some (some (.agg #[.int .i64 0, .int .i64 0]), 2, 16) := by kernel_rfl
theorem info_arr_parts : ∃ i, Try.prog.info? 107 = some i ∧ i.zero = some (.agg #[.int .i64 0, .int .i64 0]) ∧ i.size = 2 ∧ i.bytes = 16 := info_parts info_arr
theorem dCut_take (C : List (Int × Int)) (t : Nat) (ht : t < C.length) (q : Int × Int) (hq : C.getD t (0, 0) = q) (a b : Int) : dCut (C.take (t + 1)) a b = dCut (C.take t) a b ++ (if dPart q a b = true then [] else [q]) := by
  have e : C[t] = q := by rw [← hq]; simp [List.getD, ht]
  unfold dCut
  rw [List.take_succ_eq_append_getElem ht, List.filter_append, e]
  cases h : dPart q a b <;> simp [h]
theorem own_formP {W : World} {base k size : Nat} {v : Value} {xs : List Value} {e : TypeId} (h : W.ownsRow base e size v k xs) : ∃ a c, v = .slice a k c ∧ k ≤ c := by
  rcases h.2 with ⟨rfl, rfl⟩ | ⟨g, cap, _, rfl, _, _, h1, _⟩
  · exact ⟨none, 0, rfl, Nat.le_refl _⟩
  · exact ⟨_, cap, rfl, h1⟩
theorem dCut_len (C : List (Int × Int)) (a b : Int) : (dCut C a b).length ≤ C.length := List.length_filter_le _ _
theorem rnet_cut {w X : World} {base n n' lc k cc : Nat} {la ca ca' : Option Addr} {cc' : Nat} {DL : List MsgR} {DC L : List (Int × Int)} (ho : X.ownsRow base 107 2 (.slice ca' n' cc') n' (flatC L)) (hl : L.length = n') (hB : Below w.heap.size w X) (h : RNet w la n lc ca k cc DL DC) : RNet X la n lc ca' n' cc' DL L := by
  subst hl
  exact ⟨h.m.onB hB, h.nc, csl_own ho, by obtain ⟨bs, hr⟩ := h.r; exact ⟨bs, row_below hr hB (Nat.le_refl _)⟩, ⟨_, ho⟩⟩
set_option maxRecDepth 100000 in
set_option maxHeartbeats 8000000 in
theorem do_cut_bad (la : Option Addr) (n lc : Nat) (ca : Option Addr) (k cc : Nat) (DL : List MsgR) (DC : List (Int × Int)) (x : ActR) (w : World) (h : RNet w la n lc ca k cc DL DC) (hx : AIn w w.heap.size x) (hn : n ≤ 1000) (hk : k ≤ 1000) (hk4 : 4 ≤ x.kd) (hb : ¬ (0 ≤ x.i ∧ x.i ≤ 255 ∧ 0 ≤ x.k ∧ x.k ≤ 255 ∧ x.i ≠ x.k)) :
    Calls Try.prog 33 #[.agg #[.slice la n lc, .slice ca k cc], .agg #[.int .i64 x.kd, .int .i64 x.i, .int .i64 x.k, .int .i64 x.m.fr, .int .i64 x.m.tt, .int .i64 x.m.kd, .int .i64 x.m.vol, .int .i64 x.m.life, .int .u64 x.m.id, .int .i64 x.m.cd, .bool x.m.has, .int .u64 x.m.key, .int .u32 x.m.ck, .bool x.m.g, .slice x.m.a x.m.n x.m.c]] w (DoP (docDo DL DC x) w) := by
  have HH := Lib.hid h
  have HX := Lib.hid hx
  have HL := Lib.hid h.m.1
  have HLC := Lib.hid h.c.1
  obtain ⟨b0, b1, b2, b3, b4, bb⟩ := made_five w 73 66 73 36 36 #[.slice la n lc, .slice ca k cc] #[.int .i64 x.kd, .int .i64 x.i, .int .i64 x.k, .int .i64 x.m.fr, .int .i64 x.m.tt, .int .i64 x.m.kd, .int .i64 x.m.vol, .int .i64 x.m.life, .int .u64 x.m.id, .int .i64 x.m.cd, .bool x.m.has, .int .u64 x.m.key, .int .u32 x.m.ck, .bool x.m.g, .slice x.m.a x.m.n x.m.c] #[.slice none 0 0, .slice none 0 0] #[.int .i64 0, .int .i64 0, .int .i64 0, .int .i64 0, .int .i64 0, .int .u64 0, .int .i64 0, .bool false, .int .u64 0, .int .u32 0, .bool false, .slice none 0 0] #[.int .i64 0, .int .i64 0, .int .i64 0, .int .i64 0, .int .i64 0, .int .u64 0, .int .i64 0, .bool false, .int .u64 0, .int .u32 0, .bool false, .slice none 0 0]
  have H0 := Lib.hid b0
  have H1 := Lib.hid b1
  have H2 := Lib.hid b2
  have H3 := Lib.hid b3
  have H4 := Lib.hid b4
  have HB := Lib.hid bb
  clear h hx b0 b1 b2 b3 b4 bb
  have HO := Lib.hid (show docDo DL DC x = (DL, DC, mNone, 1) from by unfold docDo; rw [if_neg (by omega), if_pos hk4, if_neg hb])
  have y0 : (x.kd == 0) = false := by rw [beq_eq_false_iff_ne]; omega
  have y4 : decide (4 ≤ x.kd) = true := decide_eq_true hk4
  clear hk4
  by_cases h0 : x.i < 0
  · have z0 : decide (x.i < 0) = true := decide_eq_true h0
    clear hb
    go_enter Try.func33, Try.ntmps33
    go_upto_region 2 with fail
    generalize (((((w.alloc (.cells #[.slice la n lc, .slice ca k cc] 73)).alloc (.cells #[.int .i64 x.kd, .int .i64 x.i, .int .i64 x.k, .int .i64 x.m.fr, .int .i64 x.m.tt, .int .i64 x.m.kd, .int .i64 x.m.vol, .int .i64 x.m.life, .int .u64 x.m.id, .int .i64 x.m.cd, .bool x.m.has, .int .u64 x.m.key, .int .u32 x.m.ck, .bool x.m.g, .slice x.m.a x.m.n x.m.c] 66)).alloc (.cells #[.slice none 0 0, .slice none 0 0] 73)).alloc (.cells #[.int .i64 0, .int .i64 0, .int .i64 0, .int .i64 0, .int .i64 0, .int .u64 0, .int .i64 0, .bool false, .int .u64 0, .int .u32 0, .bool false, .slice none 0 0] 36)).alloc (.cells #[.int .i64 0, .int .i64 0, .int .i64 0, .int .i64 0, .int .i64 0, .int .u64 0, .int .i64 0, .bool false, .int .u64 0, .int .u32 0, .bool false, .slice none 0 0] 36)) = W1 at *
    obtain ⟨k0, k1, k2, k3, k4, k5, k6, k7, k8, k9, k10, k11, k12, k13, k14⟩ := act_cells H1.out
    go_upto_region 12 with fail
    clear k0 k1 k2 k3 k4 k5 k6 k7 k8 k9 k10 k11 k12 k13 k14
    have n0 := H0.out.cell 0
    have n1 := H0.out.cell 1
    obtain ⟨z0, z1, z2, z3, z4, z5, z6, z7, z8, z9, z10, z11⟩ := H4.out.twelve
    have s0 := H2.out.cell 0
    have s1 := H2.out.cell 1
    have t0 := H2.out.frozen 0
    have t1 := H2.out.frozen 1
    obtain ⟨y0, y1, y2, y3, y4, y5, y6, y7, y8, y9, y10, y11⟩ := H3.out.twelve
    obtain ⟨f0, f1, f2, f3, f4, f5, f6, f7, f8, f9, f10, f11⟩ := H3.out.twelve_frozen
    go_region
    all_goals
      go_wp2_with fail
      have hr := ret_put (B := w.heap.size) H2.out H3.out (by omega) (by omega) HB.out.size (.slice la n lc) (.slice ca k cc) (.int .i64 0) (.int .i64 0) (.int .i64 0) (.int .i64 0) (.int .i64 0) (.int .u64 0) (.int .i64 0) (.bool false) (.int .u64 0) (.int .u32 0) (.bool false) (.slice none 0 0)
      have hB := (HB.out.trans hr.2.2).drew
      exact bodyPost_ret (do_results hr.1.drew hr.2.1.drew rfl rfl rfl) rfl (by rw [HO.out]; exact ⟨hB, _, _, _, _, _, _, rfl, HH.out.on hB⟩)
  have z0 : decide (x.i < 0) = false := decide_eq_false h0
  by_cases h1 : 255 < x.i
  · have z1 : decide (255 < x.i) = true := decide_eq_true h1
    clear hb
    go_enter Try.func33, Try.ntmps33
    go_upto_region 2 with fail
    generalize (((((w.alloc (.cells #[.slice la n lc, .slice ca k cc] 73)).alloc (.cells #[.int .i64 x.kd, .int .i64 x.i, .int .i64 x.k, .int .i64 x.m.fr, .int .i64 x.m.tt, .int .i64 x.m.kd, .int .i64 x.m.vol, .int .i64 x.m.life, .int .u64 x.m.id, .int .i64 x.m.cd, .bool x.m.has, .int .u64 x.m.key, .int .u32 x.m.ck, .bool x.m.g, .slice x.m.a x.m.n x.m.c] 66)).alloc (.cells #[.slice none 0 0, .slice none 0 0] 73)).alloc (.cells #[.int .i64 0, .int .i64 0, .int .i64 0, .int .i64 0, .int .i64 0, .int .u64 0, .int .i64 0, .bool false, .int .u64 0, .int .u32 0, .bool false, .slice none 0 0] 36)).alloc (.cells #[.int .i64 0, .int .i64 0, .int .i64 0, .int .i64 0, .int .i64 0, .int .u64 0, .int .i64 0, .bool false, .int .u64 0, .int .u32 0, .bool false, .slice none 0 0] 36)) = W1 at *
    obtain ⟨k0, k1, k2, k3, k4, k5, k6, k7, k8, k9, k10, k11, k12, k13, k14⟩ := act_cells H1.out
    go_upto_region 12 with fail
    clear k0 k1 k2 k3 k4 k5 k6 k7 k8 k9 k10 k11 k12 k13 k14
    have n0 := H0.out.cell 0
    have n1 := H0.out.cell 1
    obtain ⟨z0, z1, z2, z3, z4, z5, z6, z7, z8, z9, z10, z11⟩ := H4.out.twelve
    have s0 := H2.out.cell 0
    have s1 := H2.out.cell 1
    have t0 := H2.out.frozen 0
    have t1 := H2.out.frozen 1
    obtain ⟨y0, y1, y2, y3, y4, y5, y6, y7, y8, y9, y10, y11⟩ := H3.out.twelve
    obtain ⟨f0, f1, f2, f3, f4, f5, f6, f7, f8, f9, f10, f11⟩ := H3.out.twelve_frozen
    go_region
    all_goals
      go_wp2_with fail
      have hr := ret_put (B := w.heap.size) H2.out H3.out (by omega) (by omega) HB.out.size (.slice la n lc) (.slice ca k cc) (.int .i64 0) (.int .i64 0) (.int .i64 0) (.int .i64 0) (.int .i64 0) (.int .u64 0) (.int .i64 0) (.bool false) (.int .u64 0) (.int .u32 0) (.bool false) (.slice none 0 0)
      have hB := (HB.out.trans hr.2.2).drew
      exact bodyPost_ret (do_results hr.1.drew hr.2.1.drew rfl rfl rfl) rfl (by rw [HO.out]; exact ⟨hB, _, _, _, _, _, _, rfl, HH.out.on hB⟩)
  have z1 : decide (255 < x.i) = false := decide_eq_false h1
  by_cases h2 : x.k < 0
  · have z2 : decide (x.k < 0) = true := decide_eq_true h2
    clear hb
    go_enter Try.func33, Try.ntmps33
    go_upto_region 2 with fail
    generalize (((((w.alloc (.cells #[.slice la n lc, .slice ca k cc] 73)).alloc (.cells #[.int .i64 x.kd, .int .i64 x.i, .int .i64 x.k, .int .i64 x.m.fr, .int .i64 x.m.tt, .int .i64 x.m.kd, .int .i64 x.m.vol, .int .i64 x.m.life, .int .u64 x.m.id, .int .i64 x.m.cd, .bool x.m.has, .int .u64 x.m.key, .int .u32 x.m.ck, .bool x.m.g, .slice x.m.a x.m.n x.m.c] 66)).alloc (.cells #[.slice none 0 0, .slice none 0 0] 73)).alloc (.cells #[.int .i64 0, .int .i64 0, .int .i64 0, .int .i64 0, .int .i64 0, .int .u64 0, .int .i64 0, .bool false, .int .u64 0, .int .u32 0, .bool false, .slice none 0 0] 36)).alloc (.cells #[.int .i64 0, .int .i64 0, .int .i64 0, .int .i64 0, .int .i64 0, .int .u64 0, .int .i64 0, .bool false, .int .u64 0, .int .u32 0, .bool false, .slice none 0 0] 36)) = W1 at *
    obtain ⟨k0, k1, k2, k3, k4, k5, k6, k7, k8, k9, k10, k11, k12, k13, k14⟩ := act_cells H1.out
    go_upto_region 12 with fail
    clear k0 k1 k2 k3 k4 k5 k6 k7 k8 k9 k10 k11 k12 k13 k14
    have n0 := H0.out.cell 0
    have n1 := H0.out.cell 1
    obtain ⟨z0, z1, z2, z3, z4, z5, z6, z7, z8, z9, z10, z11⟩ := H4.out.twelve
    have s0 := H2.out.cell 0
    have s1 := H2.out.cell 1
    have t0 := H2.out.frozen 0
    have t1 := H2.out.frozen 1
    obtain ⟨y0, y1, y2, y3, y4, y5, y6, y7, y8, y9, y10, y11⟩ := H3.out.twelve
    obtain ⟨f0, f1, f2, f3, f4, f5, f6, f7, f8, f9, f10, f11⟩ := H3.out.twelve_frozen
    go_region
    all_goals
      go_wp2_with fail
      have hr := ret_put (B := w.heap.size) H2.out H3.out (by omega) (by omega) HB.out.size (.slice la n lc) (.slice ca k cc) (.int .i64 0) (.int .i64 0) (.int .i64 0) (.int .i64 0) (.int .i64 0) (.int .u64 0) (.int .i64 0) (.bool false) (.int .u64 0) (.int .u32 0) (.bool false) (.slice none 0 0)
      have hB := (HB.out.trans hr.2.2).drew
      exact bodyPost_ret (do_results hr.1.drew hr.2.1.drew rfl rfl rfl) rfl (by rw [HO.out]; exact ⟨hB, _, _, _, _, _, _, rfl, HH.out.on hB⟩)
  have z2 : decide (x.k < 0) = false := decide_eq_false h2
  by_cases h3 : 255 < x.k
  · have z3 : decide (255 < x.k) = true := decide_eq_true h3
    clear hb
    go_enter Try.func33, Try.ntmps33
    go_upto_region 2 with fail
    generalize (((((w.alloc (.cells #[.slice la n lc, .slice ca k cc] 73)).alloc (.cells #[.int .i64 x.kd, .int .i64 x.i, .int .i64 x.k, .int .i64 x.m.fr, .int .i64 x.m.tt, .int .i64 x.m.kd, .int .i64 x.m.vol, .int .i64 x.m.life, .int .u64 x.m.id, .int .i64 x.m.cd, .bool x.m.has, .int .u64 x.m.key, .int .u32 x.m.ck, .bool x.m.g, .slice x.m.a x.m.n x.m.c] 66)).alloc (.cells #[.slice none 0 0, .slice none 0 0] 73)).alloc (.cells #[.int .i64 0, .int .i64 0, .int .i64 0, .int .i64 0, .int .i64 0, .int .u64 0, .int .i64 0, .bool false, .int .u64 0, .int .u32 0, .bool false, .slice none 0 0] 36)).alloc (.cells #[.int .i64 0, .int .i64 0, .int .i64 0, .int .i64 0, .int .i64 0, .int .u64 0, .int .i64 0, .bool false, .int .u64 0, .int .u32 0, .bool false, .slice none 0 0] 36)) = W1 at *
    obtain ⟨k0, k1, k2, k3, k4, k5, k6, k7, k8, k9, k10, k11, k12, k13, k14⟩ := act_cells H1.out
    go_upto_region 12 with fail
    clear k0 k1 k2 k3 k4 k5 k6 k7 k8 k9 k10 k11 k12 k13 k14
    have n0 := H0.out.cell 0
    have n1 := H0.out.cell 1
    obtain ⟨z0, z1, z2, z3, z4, z5, z6, z7, z8, z9, z10, z11⟩ := H4.out.twelve
    have s0 := H2.out.cell 0
    have s1 := H2.out.cell 1
    have t0 := H2.out.frozen 0
    have t1 := H2.out.frozen 1
    obtain ⟨y0, y1, y2, y3, y4, y5, y6, y7, y8, y9, y10, y11⟩ := H3.out.twelve
    obtain ⟨f0, f1, f2, f3, f4, f5, f6, f7, f8, f9, f10, f11⟩ := H3.out.twelve_frozen
    go_region
    all_goals
      go_wp2_with fail
      have hr := ret_put (B := w.heap.size) H2.out H3.out (by omega) (by omega) HB.out.size (.slice la n lc) (.slice ca k cc) (.int .i64 0) (.int .i64 0) (.int .i64 0) (.int .i64 0) (.int .i64 0) (.int .u64 0) (.int .i64 0) (.bool false) (.int .u64 0) (.int .u32 0) (.bool false) (.slice none 0 0)
      have hB := (HB.out.trans hr.2.2).drew
      exact bodyPost_ret (do_results hr.1.drew hr.2.1.drew rfl rfl rfl) rfl (by rw [HO.out]; exact ⟨hB, _, _, _, _, _, _, rfl, HH.out.on hB⟩)
  have z3 : decide (255 < x.k) = false := decide_eq_false h3
  have hab : x.i = x.k := by
    by_cases e : x.i = x.k
    · exact e
    · exact absurd ⟨by omega, by omega, by omega, by omega, e⟩ hb
  have z4 : (x.i == x.k) = true := by rw [hab]; exact beq_self_eq_true _
  clear hab
  clear hb
  go_enter Try.func33, Try.ntmps33
  go_upto_region 2 with fail
  generalize (((((w.alloc (.cells #[.slice la n lc, .slice ca k cc] 73)).alloc (.cells #[.int .i64 x.kd, .int .i64 x.i, .int .i64 x.k, .int .i64 x.m.fr, .int .i64 x.m.tt, .int .i64 x.m.kd, .int .i64 x.m.vol, .int .i64 x.m.life, .int .u64 x.m.id, .int .i64 x.m.cd, .bool x.m.has, .int .u64 x.m.key, .int .u32 x.m.ck, .bool x.m.g, .slice x.m.a x.m.n x.m.c] 66)).alloc (.cells #[.slice none 0 0, .slice none 0 0] 73)).alloc (.cells #[.int .i64 0, .int .i64 0, .int .i64 0, .int .i64 0, .int .i64 0, .int .u64 0, .int .i64 0, .bool false, .int .u64 0, .int .u32 0, .bool false, .slice none 0 0] 36)).alloc (.cells #[.int .i64 0, .int .i64 0, .int .i64 0, .int .i64 0, .int .i64 0, .int .u64 0, .int .i64 0, .bool false, .int .u64 0, .int .u32 0, .bool false, .slice none 0 0] 36)) = W1 at *
  obtain ⟨k0, k1, k2, k3, k4, k5, k6, k7, k8, k9, k10, k11, k12, k13, k14⟩ := act_cells H1.out
  go_upto_region 12 with fail
  clear k0 k1 k2 k3 k4 k5 k6 k7 k8 k9 k10 k11 k12 k13 k14
  have n0 := H0.out.cell 0
  have n1 := H0.out.cell 1
  obtain ⟨z0, z1, z2, z3, z4, z5, z6, z7, z8, z9, z10, z11⟩ := H4.out.twelve
  have s0 := H2.out.cell 0
  have s1 := H2.out.cell 1
  have t0 := H2.out.frozen 0
  have t1 := H2.out.frozen 1
  obtain ⟨y0, y1, y2, y3, y4, y5, y6, y7, y8, y9, y10, y11⟩ := H3.out.twelve
  obtain ⟨f0, f1, f2, f3, f4, f5, f6, f7, f8, f9, f10, f11⟩ := H3.out.twelve_frozen
  go_region
  all_goals
    go_wp2_with fail
    have hr := ret_put (B := w.heap.size) H2.out H3.out (by omega) (by omega) HB.out.size (.slice la n lc) (.slice ca k cc) (.int .i64 0) (.int .i64 0) (.int .i64 0) (.int .i64 0) (.int .i64 0) (.int .u64 0) (.int .i64 0) (.bool false) (.int .u64 0) (.int .u32 0) (.bool false) (.slice none 0 0)
    have hB := (HB.out.trans hr.2.2).drew
    exact bodyPost_ret (do_results hr.1.drew hr.2.1.drew rfl rfl rfl) rfl (by rw [HO.out]; exact ⟨hB, _, _, _, _, _, _, rfl, HH.out.on hB⟩)
set_option maxRecDepth 100000 in
set_option maxHeartbeats 8000000 in
theorem do_cut_ok (la : Option Addr) (n lc : Nat) (ca : Option Addr) (k cc : Nat) (DL : List MsgR) (DC : List (Int × Int)) (x : ActR) (w : World) (h : RNet w la n lc ca k cc DL DC) (hx : AIn w w.heap.size x) (hn : n ≤ 1000) (hk : k ≤ 1000) (hk4 : 4 ≤ x.kd) (hb : 0 ≤ x.i ∧ x.i ≤ 255 ∧ 0 ≤ x.k ∧ x.k ≤ 255 ∧ x.i ≠ x.k) :
    Calls Try.prog 33 #[.agg #[.slice la n lc, .slice ca k cc], .agg #[.int .i64 x.kd, .int .i64 x.i, .int .i64 x.k, .int .i64 x.m.fr, .int .i64 x.m.tt, .int .i64 x.m.kd, .int .i64 x.m.vol, .int .i64 x.m.life, .int .u64 x.m.id, .int .i64 x.m.cd, .bool x.m.has, .int .u64 x.m.key, .int .u32 x.m.ck, .bool x.m.g, .slice x.m.a x.m.n x.m.c]] w (DoP (docDo DL DC x) w) := by
  have HH := Lib.hid h
  have HX := Lib.hid hx
  have HL := Lib.hid h.m.1
  have HLC := Lib.hid h.c.1
  obtain ⟨b0, b1, b2, b3, b4, bb⟩ := made_five w 73 66 73 36 36 #[.slice la n lc, .slice ca k cc] #[.int .i64 x.kd, .int .i64 x.i, .int .i64 x.k, .int .i64 x.m.fr, .int .i64 x.m.tt, .int .i64 x.m.kd, .int .i64 x.m.vol, .int .i64 x.m.life, .int .u64 x.m.id, .int .i64 x.m.cd, .bool x.m.has, .int .u64 x.m.key, .int .u32 x.m.ck, .bool x.m.g, .slice x.m.a x.m.n x.m.c] #[.slice none 0 0, .slice none 0 0] #[.int .i64 0, .int .i64 0, .int .i64 0, .int .i64 0, .int .i64 0, .int .u64 0, .int .i64 0, .bool false, .int .u64 0, .int .u32 0, .bool false, .slice none 0 0] #[.int .i64 0, .int .i64 0, .int .i64 0, .int .i64 0, .int .i64 0, .int .u64 0, .int .i64 0, .bool false, .int .u64 0, .int .u32 0, .bool false, .slice none 0 0]
  have H0 := Lib.hid b0
  have H1 := Lib.hid b1
  have H2 := Lib.hid b2
  have H3 := Lib.hid b3
  have H4 := Lib.hid b4
  have HB := Lib.hid bb
  clear h hx b0 b1 b2 b3 b4 bb
  have HO : docDo DL DC x = (DL, dCut DC x.i x.k ++ (if x.kd = 4 then [(x.i, x.k)] else []), mNone, 0) := by unfold docDo; rw [if_neg (by omega), if_pos hk4, if_pos hb]
  have y0 : (x.kd == 0) = false := by rw [beq_eq_false_iff_ne]; omega
  have y4 : decide (4 ≤ x.kd) = true := decide_eq_true hk4
  have z0 : decide (x.i < 0) = false := decide_eq_false (by omega)
  have z1 : decide (255 < x.i) = false := decide_eq_false (by omega)
  have z2 : decide (x.k < 0) = false := decide_eq_false (by omega)
  have z3 : decide (255 < x.k) = false := decide_eq_false (by omega)
  have z4 : (x.i == x.k) = false := by rw [beq_eq_false_iff_ne]; exact hb.2.2.2.2
  have HOO := Lib.hid HO
  obtain ⟨i0, hi0, hz0, hz1, hz2⟩ := info_arr_parts
  have HAP := Lib.hid fun (W : World) (base : Nat) (v : Value) (L : List (Int × Int)) (q : Int × Int) (ho : W.ownsRow base 107 2 v L.length (flatC L)) (hl : L.length ≤ 100000) (hb : base ≤ W.heap.size) => append_elem (P := Try.prog) (T := 71) Try.underlying71 hi0 hz0 hz1 hz2 rfl (by decide) ho [.int .i64 q.1, .int .i64 q.2] rfl (by intro u hu; simp only [List.mem_cons, List.not_mem_nil, or_false] at hu; rcases hu with rfl | rfl <;> rfl) (by omega) (by unfold maxLen; omega) hb
  clear hk4 hb HO hi0 hz0 hz1 hz2
  go_enter Try.func33, Try.ntmps33
  go_upto_region 2 with fail
  generalize (((((w.alloc (.cells #[.slice la n lc, .slice ca k cc] 73)).alloc (.cells #[.int .i64 x.kd, .int .i64 x.i, .int .i64 x.k, .int .i64 x.m.fr, .int .i64 x.m.tt, .int .i64 x.m.kd, .int .i64 x.m.vol, .int .i64 x.m.life, .int .u64 x.m.id, .int .i64 x.m.cd, .bool x.m.has, .int .u64 x.m.key, .int .u32 x.m.ck, .bool x.m.g, .slice x.m.a x.m.n x.m.c] 66)).alloc (.cells #[.slice none 0 0, .slice none 0 0] 73)).alloc (.cells #[.int .i64 0, .int .i64 0, .int .i64 0, .int .i64 0, .int .i64 0, .int .u64 0, .int .i64 0, .bool false, .int .u64 0, .int .u32 0, .bool false, .slice none 0 0] 36)).alloc (.cells #[.int .i64 0, .int .i64 0, .int .i64 0, .int .i64 0, .int .i64 0, .int .u64 0, .int .i64 0, .bool false, .int .u64 0, .int .u32 0, .bool false, .slice none 0 0] 36)) = W1 at *
  obtain ⟨k0, k1, k2, k3, k4, k5, k6, k7, k8, k9, k10, k11, k12, k13, k14⟩ := act_cells H1.out
  have n1 := H0.out.cell 1
  go_upto_region 13 with fail
  clear z0 z1 z2 z3 z4
  go_wp2_with fail
  go_loopw [9, 10] (fun cv iv wr => ∃ t : Nat, t ≤ k ∧ iv = .int .i64 t ∧ wr.ownsRow W1.heap.size 107 2 cv (dCut (DC.take t) x.i x.k).length (flatC (dCut (DC.take t) x.i x.k)) ∧ Below W1.heap.size W1 wr) (fun _ iv _ => k - (intOf iv).toNat)
  case atStart => exact ⟨0, Nat.zero_le _, rfl, ⟨rfl, .inl ⟨rfl, rfl⟩⟩, Below.refl _ _⟩
  case round =>
    clear n1 k0 k1 k2 k3 k4 k5 k6 k7 k8 k9 k10 k11 k12 k13 k14
    obtain ⟨t, ht, rfl, hro, hB1⟩ := hrel
    have HR := Lib.hid hro
    have HB1 := Lib.hid hB1
    obtain ⟨va, vc, hsv, -⟩ := own_formP hro
    subst hsv
    have A0 := Lib.hid (H0.out.below HB1.out H0.out.lt)
    have A1 := Lib.hid (H1.out.below HB1.out H1.out.lt)
    have n1 := A0.out.cell 1
    have hdl : (dCut (DC.take t) x.i x.k).length ≤ 1000 := Nat.le_trans (dCut_len _ _ _) (by rw [List.length_take]; omega)
    clear hro hB1
    by_cases hlt : t < k
    · have HLT := Lib.hid hlt
      obtain ⟨g, off, rfl, -, hcl⟩ := (HH.out.c.below (HB.out.trans (HB1.out.mono HB.out.size))).2 (by omega)
      obtain ⟨c0, c1⟩ := hcl t hlt
      obtain ⟨c, d, hcd⟩ : ∃ c d, DC.getD t (0, 0) = (c, d) := ⟨_, _, rfl⟩
      rw [hcd] at c0 c1
      dsimp only at c0 c1
      have htk : (t : Int) < (k : Int) := by omega
      have HST := Lib.hid (dCut_take DC t (by rw [HLC.out]; exact hlt) (c, d) hcd x.i x.k)
      have hdp : dPart (c, d) x.i x.k = ((decide (c = x.i) && decide (d = x.k)) || (decide (c = x.k) && decide (d = x.i))) := rfl
      have BA := (Below.refl wr.heap.size wr).alloc (Nat.le_refl _) (.cells #[.int .i64 c, .int .i64 d] 107)
      have HBP := Lib.hid (HB1.out.trans (BA.mono HB1.out.size))
      have AP := Lib.hid (Blk.made wr 107 #[.int .i64 c, .int .i64 d])
      have AA := Lib.hid (A1.out.below BA A1.out.lt)
      have HRP := Lib.hid (row_below HR.out BA (Nat.le_refl _))
      clear hcl hcd BA
      go_upto_region 18 with fail
      generalize (wr.alloc (.cells #[.int .i64 c, .int .i64 d] 107)) = W2 at *
      clear c0 c1 n1 hlt
      obtain ⟨k0, k1, k2, k3, k4, k5, k6, k7, k8, k9, k10, k11, k12, k13, k14⟩ := act_cells AA.out
      have p0 := AP.out.cell 0
      have p1 := AP.out.cell 1
      by_cases h1 : c = x.i
      · have z1 : (c == x.i) = true := by rw [h1]; exact beq_self_eq_true _
        by_cases h2 : d = x.k
        · have z2 : (d == x.k) = true := by rw [h2]; exact beq_self_eq_true _
          have hdt : dPart (c, d) x.i x.k = true := by rw [hdp, decide_eq_true h1, decide_eq_true h2]; rfl
          have HF := Lib.hid (show dCut (DC.take (t + 1)) x.i x.k = dCut (DC.take t) x.i x.k from by rw [HST.out, if_pos hdt, List.append_nil])
          clear hdt hdp h1 h2 hdl
          go_wp2_with fail
          clear p0 p1 k0 k1 k2 k3 k4 k5 k6 k7 k8 k9 k10 k11 k12 k13 k14
          go_roundw
          case rel => exact ⟨t + 1, HLT.out, by go_num, by rw [HF.out]; exact HRP.out, HBP.out⟩
          case measure => have := HLT.out; simp [intOf]; omega
        have z2 : (d == x.k) = false := by rw [beq_eq_false_iff_ne]; exact h2
        by_cases h3 : c = x.k
        · have z3 : (c == x.k) = true := by rw [h3]; exact beq_self_eq_true _
          by_cases h4 : d = x.i
          · have z4 : (d == x.i) = true := by rw [h4]; exact beq_self_eq_true _
            have hdt : dPart (c, d) x.i x.k = true := by rw [hdp, decide_eq_true h3, decide_eq_true h4]; simp
            have HF := Lib.hid (show dCut (DC.take (t + 1)) x.i x.k = dCut (DC.take t) x.i x.k from by rw [HST.out, if_pos hdt, List.append_nil])
            clear hdt hdp h1 h2 h3 h4 hdl
            go_wp2_with fail
            clear p0 p1 k0 k1 k2 k3 k4 k5 k6 k7 k8 k9 k10 k11 k12 k13 k14
            go_roundw
            case rel => exact ⟨t + 1, HLT.out, by go_num, by rw [HF.out]; exact HRP.out, HBP.out⟩
            case measure => have := HLT.out; simp [intOf]; omega
          have z4 : (d == x.i) = false := by rw [beq_eq_false_iff_ne]; exact h4
          have hdt : dPart (c, d) x.i x.k = false := by rw [hdp, decide_eq_false h2, decide_eq_false h4]; simp
          obtain ⟨g2, cap2, W3, hrun, ho2, hg2, -, -⟩ := HAP.out W2 W1.heap.size _ _ (c, d) HRP.out (by omega) HBP.out.size
          have HF := Lib.hid (show dCut (DC.take (t + 1)) x.i x.k = dCut (DC.take t) x.i x.k ++ [(c, d)] from by rw [HST.out, if_neg (by rw [hdt]; decide)])
          have HRN := Lib.hid (show W3.ownsRow W1.heap.size 107 2 (.slice (some ⟨g2, 0, none⟩) ((dCut (DC.take t) x.i x.k).length + 1) cap2) (dCut (DC.take (t + 1)) x.i x.k).length (flatC (dCut (DC.take (t + 1)) x.i x.k)) from by
            rw [HF.out, List.length_append, flatC_append]
            exact ho2)
          have HBN := Lib.hid (HBP.out.trans (own_below' HRP.out hg2 HBP.out.size))
          clear hdt hdp h1 h2 h3 h4 ho2 hg2
          go_wp2_with (at_builtin; refine list_run (by rfl) _ _ rfl rfl rfl hrun ?_; clear hrun)
          clear p0 p1 k0 k1 k2 k3 k4 k5 k6 k7 k8 k9 k10 k11 k12 k13 k14
          go_roundw
          case rel => exact ⟨t + 1, HLT.out, by go_num, HRN.out, HBN.out⟩
          case measure => have := HLT.out; simp [intOf]; omega
        have z3 : (c == x.k) = false := by rw [beq_eq_false_iff_ne]; exact h3
        have hdt : dPart (c, d) x.i x.k = false := by rw [hdp, decide_eq_false h2, decide_eq_false h3]; simp
        obtain ⟨g2, cap2, W3, hrun, ho2, hg2, -, -⟩ := HAP.out W2 W1.heap.size _ _ (c, d) HRP.out (by omega) HBP.out.size
        have HF := Lib.hid (show dCut (DC.take (t + 1)) x.i x.k = dCut (DC.take t) x.i x.k ++ [(c, d)] from by rw [HST.out, if_neg (by rw [hdt]; decide)])
        have HRN := Lib.hid (show W3.ownsRow W1.heap.size 107 2 (.slice (some ⟨g2, 0, none⟩) ((dCut (DC.take t) x.i x.k).length + 1) cap2) (dCut (DC.take (t + 1)) x.i x.k).length (flatC (dCut (DC.take (t + 1)) x.i x.k)) from by
          rw [HF.out, List.length_append, flatC_append]
          exact ho2)
        have HBN := Lib.hid (HBP.out.trans (own_below' HRP.out hg2 HBP.out.size))
        clear hdt hdp h1 h2 h3 ho2 hg2
        go_wp2_with (at_builtin; refine list_run (by rfl) _ _ rfl rfl rfl hrun ?_; clear hrun)
        clear p0 p1 k0 k1 k2 k3 k4 k5 k6 k7 k8 k9 k10 k11 k12 k13 k14
        go_roundw
        case rel => exact ⟨t + 1, HLT.out, by go_num, HRN.out, HBN.out⟩
        case measure => have := HLT.out; simp [intOf]; omega
      have z1 : (c == x.i) = false := by rw [beq_eq_false_iff_ne]; exact h1
      by_cases h3 : c = x.k
      · have z3 : (c == x.k) = true := by rw [h3]; exact beq_self_eq_true _
        by_cases h4 : d = x.i
        · have z4 : (d == x.i) = true := by rw [h4]; exact beq_self_eq_true _
          have hdt : dPart (c, d) x.i x.k = true := by rw [hdp, decide_eq_true h3, decide_eq_true h4]; simp
          have HF := Lib.hid (show dCut (DC.take (t + 1)) x.i x.k = dCut (DC.take t) x.i x.k from by rw [HST.out, if_pos hdt, List.append_nil])
          clear hdt hdp h1 h3 h4 hdl
          go_wp2_with fail
          clear p0 p1 k0 k1 k2 k3 k4 k5 k6 k7 k8 k9 k10 k11 k12 k13 k14
          go_roundw
          case rel => exact ⟨t + 1, HLT.out, by go_num, by rw [HF.out]; exact HRP.out, HBP.out⟩
          case measure => have := HLT.out; simp [intOf]; omega
        have z4 : (d == x.i) = false := by rw [beq_eq_false_iff_ne]; exact h4
        have hdt : dPart (c, d) x.i x.k = false := by rw [hdp, decide_eq_false h1, decide_eq_false h4]; simp
        obtain ⟨g2, cap2, W3, hrun, ho2, hg2, -, -⟩ := HAP.out W2 W1.heap.size _ _ (c, d) HRP.out (by omega) HBP.out.size
        have HF := Lib.hid (show dCut (DC.take (t + 1)) x.i x.k = dCut (DC.take t) x.i x.k ++ [(c, d)] from by rw [HST.out, if_neg (by rw [hdt]; decide)])
        have HRN := Lib.hid (show W3.ownsRow W1.heap.size 107 2 (.slice (some ⟨g2, 0, none⟩) ((dCut (DC.take t) x.i x.k).length + 1) cap2) (dCut (DC.take (t + 1)) x.i x.k).length (flatC (dCut (DC.take (t + 1)) x.i x.k)) from by
          rw [HF.out, List.length_append, flatC_append]
          exact ho2)
        have HBN := Lib.hid (HBP.out.trans (own_below' HRP.out hg2 HBP.out.size))
        clear hdt hdp h1 h3 h4 ho2 hg2
        go_wp2_with (at_builtin; refine list_run (by rfl) _ _ rfl rfl rfl hrun ?_; clear hrun)
        clear p0 p1 k0 k1 k2 k3 k4 k5 k6 k7 k8 k9 k10 k11 k12 k13 k14
        go_roundw
        case rel => exact ⟨t + 1, HLT.out, by go_num, HRN.out, HBN.out⟩
        case measure => have := HLT.out; simp [intOf]; omega
      have z3 : (c == x.k) = false := by rw [beq_eq_false_iff_ne]; exact h3
      have hdt : dPart (c, d) x.i x.k = false := by rw [hdp, decide_eq_false h1, decide_eq_false h3]; simp
      obtain ⟨g2, cap2, W3, hrun, ho2, hg2, -, -⟩ := HAP.out W2 W1.heap.size _ _ (c, d) HRP.out (by omega) HBP.out.size
      have HF := Lib.hid (show dCut (DC.take (t + 1)) x.i x.k = dCut (DC.take t) x.i x.k ++ [(c, d)] from by rw [HST.out, if_neg (by rw [hdt]; decide)])
      have HRN := Lib.hid (show W3.ownsRow W1.heap.size 107 2 (.slice (some ⟨g2, 0, none⟩) ((dCut (DC.take t) x.i x.k).length + 1) cap2) (dCut (DC.take (t + 1)) x.i x.k).length (flatC (dCut (DC.take (t + 1)) x.i x.k)) from by
        rw [HF.out, List.length_append, flatC_append]
        exact ho2)
      have HBN := Lib.hid (HBP.out.trans (own_below' HRP.out hg2 HBP.out.size))
      clear hdt hdp h1 h3 ho2 hg2
      go_wp2_with (at_builtin; refine list_run (by rfl) _ _ rfl rfl rfl hrun ?_; clear hrun)
      clear p0 p1 k0 k1 k2 k3 k4 k5 k6 k7 k8 k9 k10 k11 k12 k13 k14
      go_roundw
      case rel => exact ⟨t + 1, HLT.out, by go_num, HRN.out, HBN.out⟩
      case measure => have := HLT.out; simp [intOf]; omega
    · obtain rfl : t = k := by omega
      have hfin : dCut (DC.take t) x.i x.k = dCut DC x.i x.k := by rw [← HLC.out, List.take_length]
      rw [hfin] at HR hdl
      have G0 := A0
      have G2 := Lib.hid (H2.out.below HB1.out H2.out.lt)
      have G3 := Lib.hid (H3.out.below HB1.out H3.out.lt)
      have G4 := Lib.hid (H4.out.below HB1.out H4.out.lt)
      have HB2 := Lib.hid (HB.out.trans (HB1.out.mono HB.out.size))
      have HR2 := Lib.hid (show w.heap.size + 1 + 1 < W1.heap.size from H2.out.lt)
      have HR3 := Lib.hid (show w.heap.size + 1 + 1 + 1 < W1.heap.size from H3.out.lt)
      rw [hfin]
      obtain ⟨k0, k1, k2, k3, k4, k5, k6, k7, k8, k9, k10, k11, k12, k13, k14⟩ := act_cells A1.out
      clear hfin hlt
      by_cases hkd : x.kd = 4
      · have y5 : (x.kd == 4) = true := by rw [hkd]; rfl
        have HO2 := Lib.hid (show docDo DL DC x = (DL, dCut DC x.i x.k ++ [(x.i, x.k)], mNone, 0) from by rw [HOO.out, if_pos hkd])
        clear hkd
        obtain ⟨g2, cap2, W3, hrun, ho2, hg2, -, -⟩ := HAP.out wr W1.heap.size _ _ (x.i, x.k) HR.out (by omega) HB1.out.size
        have HRN := Lib.hid (show W3.ownsRow W1.heap.size 107 2 (.slice (some ⟨g2, 0, none⟩) ((dCut DC x.i x.k).length + 1) cap2) ((dCut DC x.i x.k).length + 1) (flatC (dCut DC x.i x.k ++ [(x.i, x.k)])) from by
          rw [flatC_append]
          exact ho2)
        have HBZ := Lib.hid (own_below' HR.out hg2 HB1.out.size)
        have D0 := Lib.hid (G0.out.below HBZ.out H0.out.lt)
        have D2 := Lib.hid (G2.out.below HBZ.out H2.out.lt)
        have D3 := Lib.hid (G3.out.below HBZ.out H3.out.lt)
        have D4 := Lib.hid (G4.out.below HBZ.out H4.out.lt)
        have HB3 := Lib.hid (HB2.out.trans (HBZ.out.mono HB.out.size))
        have d1 := D0.out.cell 1
        have f1 := D0.out.frozen 1
        clear ho2 hg2
        go_upto_region 23 with (at_builtin; refine list_run (by rfl) _ _ rfl rfl rfl hrun ?_; clear hrun)
        have hg : W3.grownBy (W3.setCell ⟨w.heap.size, 1, none⟩ (.slice (some ⟨g2, 0, none⟩) ((dCut DC x.i x.k).length + 1) cap2)) (some w.heap.size) := grown_put (grown_refl _ _) 1 _
        have F0 := Lib.hid (show Blk (W3.setCell ⟨w.heap.size, 1, none⟩ (.slice (some ⟨g2, 0, none⟩) ((dCut DC x.i x.k).length + 1) cap2)) w.heap.size 73 #[.slice la n lc, (.slice (some ⟨g2, 0, none⟩) ((dCut DC x.i x.k).length + 1) cap2)] from D0.out.put 1 _)
        have F2 := Lib.hid (D2.out.grown hg (by intro e; injection e with e; omega))
        have F3 := Lib.hid (D3.out.grown hg (by intro e; injection e with e; omega))
        have F4 := Lib.hid (D4.out.grown hg (by intro e; injection e with e; omega))
        have HO6 := Lib.hid (row_far HRN.out hg (by have := HR2.out; omega))
        have HBC := Lib.hid (HB3.out.setCell (p := ⟨w.heap.size, 1, none⟩) (Nat.le_refl _) (.slice (some ⟨g2, 0, none⟩) ((dCut DC x.i x.k).length + 1) cap2))
        generalize (W3.setCell ⟨w.heap.size, 1, none⟩ (.slice (some ⟨g2, 0, none⟩) ((dCut DC x.i x.k).length + 1) cap2)) = w5 at *
        clear hg d1 f1 n1 k0 k1 k2 k3 k4 k5 k6 k7 k8 k9 k10 k11 k12 k13 k14
        have n0 := F0.out.cell 0
        have n1 := F0.out.cell 1
        obtain ⟨z0, z1, z2, z3, z4, z5, z6, z7, z8, z9, z10, z11⟩ := F4.out.twelve
        have s0 := F2.out.cell 0
        have s1 := F2.out.cell 1
        have t0 := F2.out.frozen 0
        have t1 := F2.out.frozen 1
        obtain ⟨y0, y1, y2, y3, y4, y5, y6, y7, y8, y9, y10, y11⟩ := F3.out.twelve
        obtain ⟨f0, f1, f2, f3, f4, f5, f6, f7, f8, f9, f10, f11⟩ := F3.out.twelve_frozen
        go_region
        all_goals
          go_wp2_with fail
          have hr := ret_put (B := w.heap.size) F2.out F3.out (by omega) (by omega) HBC.out.size (.slice la n lc) (.slice (some ⟨g2, 0, none⟩) ((dCut DC x.i x.k).length + 1) cap2) (.int .i64 0) (.int .i64 0) (.int .i64 0) (.int .i64 0) (.int .i64 0) (.int .u64 0) (.int .i64 0) (.bool false) (.int .u64 0) (.int .u32 0) (.bool false) (.slice none 0 0)
          have hB := (HBC.out.trans hr.2.2).drew
          exact bodyPost_ret (do_results hr.1.drew hr.2.1.drew rfl rfl rfl) rfl (by rw [HO2.out]; exact ⟨hB, _, _, _, _, _, _, rfl, rnet_cut (L := (dCut DC x.i x.k ++ [(x.i, x.k)])) (ret_row HO6.out HR2.out HR3.out).drew (by rw [List.length_append]; rfl) hB HH.out⟩)
      have y5 : (x.kd == 4) = false := by rw [beq_eq_false_iff_ne]; exact hkd
      have HO2 := Lib.hid (show docDo DL DC x = (DL, dCut DC x.i x.k, mNone, 0) from by rw [HOO.out, if_neg hkd, List.append_nil])
      clear hkd
      have D0 := G0
      have D2 := G2
      have D3 := G3
      have D4 := G4
      have HB3 := HB2
      have d1 := D0.out.cell 1
      have f1 := D0.out.frozen 1
      go_upto_region 23 with fail
      have hg : wr.grownBy (wr.setCell ⟨w.heap.size, 1, none⟩ (.slice va (dCut DC x.i x.k).length vc)) (some w.heap.size) := grown_put (grown_refl _ _) 1 _
      have F0 := Lib.hid (show Blk (wr.setCell ⟨w.heap.size, 1, none⟩ (.slice va (dCut DC x.i x.k).length vc)) w.heap.size 73 #[.slice la n lc, (.slice va (dCut DC x.i x.k).length vc)] from D0.out.put 1 _)
      have F2 := Lib.hid (D2.out.grown hg (by intro e; injection e with e; omega))
      have F3 := Lib.hid (D3.out.grown hg (by intro e; injection e with e; omega))
      have F4 := Lib.hid (D4.out.grown hg (by intro e; injection e with e; omega))
      have HO6 := Lib.hid (row_far HR.out hg (by have := HR2.out; omega))
      have HBC := Lib.hid (HB3.out.setCell (p := ⟨w.heap.size, 1, none⟩) (Nat.le_refl _) (.slice va (dCut DC x.i x.k).length vc))
      generalize (wr.setCell ⟨w.heap.size, 1, none⟩ (.slice va (dCut DC x.i x.k).length vc)) = w5 at *
      clear hg d1 f1 n1 k0 k1 k2 k3 k4 k5 k6 k7 k8 k9 k10 k11 k12 k13 k14
      have n0 := F0.out.cell 0
      have n1 := F0.out.cell 1
      obtain ⟨z0, z1, z2, z3, z4, z5, z6, z7, z8, z9, z10, z11⟩ := F4.out.twelve
      have s0 := F2.out.cell 0
      have s1 := F2.out.cell 1
      have t0 := F2.out.frozen 0
      have t1 := F2.out.frozen 1
      obtain ⟨y0, y1, y2, y3, y4, y5, y6, y7, y8, y9, y10, y11⟩ := F3.out.twelve
      obtain ⟨f0, f1, f2, f3, f4, f5, f6, f7, f8, f9, f10, f11⟩ := F3.out.twelve_frozen
      go_region
      all_goals
        go_wp2_with fail
        have hr := ret_put (B := w.heap.size) F2.out F3.out (by omega) (by omega) HBC.out.size (.slice la n lc) (.slice va (dCut DC x.i x.k).length vc) (.int .i64 0) (.int .i64 0) (.int .i64 0) (.int .i64 0) (.int .i64 0) (.int .u64 0) (.int .i64 0) (.bool false) (.int .u64 0) (.int .u32 0) (.bool false) (.slice none 0 0)
        have hB := (HBC.out.trans hr.2.2).drew
        exact bodyPost_ret (do_results hr.1.drew hr.2.1.drew rfl rfl rfl) rfl (by rw [HO2.out]; exact ⟨hB, _, _, _, _, _, _, rfl, rnet_cut (L := (dCut DC x.i x.k)) (ret_row HO6.out HR2.out HR3.out).drew (by rfl) hB HH.out⟩)
/-- The document's Do, whatever the call. -/
theorem do_any (la : Option Addr) (n lc : Nat) (ca : Option Addr) (k cc : Nat) (DL : List MsgR) (DC : List (Int × Int)) (x : ActR) (w : World) (h : RNet w la n lc ca k cc DL DC) (hx : AIn w w.heap.size x) (hn : n ≤ 1000) (hk : k ≤ 1000) (HLN : x.m.n ≤ 1099511627776) (hk0 : 0 ≤ x.kd) :
    Calls Try.prog 33 #[.agg #[.slice la n lc, .slice ca k cc], .agg #[.int .i64 x.kd, .int .i64 x.i, .int .i64 x.k, .int .i64 x.m.fr, .int .i64 x.m.tt, .int .i64 x.m.kd, .int .i64 x.m.vol, .int .i64 x.m.life, .int .u64 x.m.id, .int .i64 x.m.cd, .bool x.m.has, .int .u64 x.m.key, .int .u32 x.m.ck, .bool x.m.g, .slice x.m.a x.m.n x.m.c]] w (DoP (docDo DL DC x) w) := by
  by_cases e0 : x.kd = 0
  · by_cases hq : mchk x.m = 0
    · exact do_send_ok la n lc ca k cc DL DC x w h hx hn hk HLN e0 hq
    · exact do_send_bad la n lc ca k cc DL DC x w h hx hn hk HLN e0 hq
  by_cases e4 : 4 ≤ x.kd
  · by_cases hb : 0 ≤ x.i ∧ x.i ≤ 255 ∧ 0 ≤ x.k ∧ x.k ≤ 255 ∧ x.i ≠ x.k
    · exact do_cut_ok la n lc ca k cc DL DC x w h hx hn hk e4 hb
    · exact do_cut_bad la n lc ca k cc DL DC x w h hx hn hk e4 hb
  by_cases hr : 0 ≤ x.i ∧ x.i < n
  rotate_left
  · exact do_at_none la n lc ca k cc DL DC x w h hx hn hk (by omega) (by omega) hr
  obtain ⟨b, off, rfl, -⟩ := h.m.2.2 (by omega)
  by_cases e1 : x.kd = 1
  · cases hap : dAp DC (DL.getD x.i.toNat mNone).fr (DL.getD x.i.toNat mNone).tt
    · exact do_take_ok b off n lc ca k cc DL DC x w h hx hn hk e1 hap hr
    · exact do_take_cut b off n lc ca k cc DL DC x w h hx hn hk e1 hap hr
  by_cases e2 : x.kd = 2
  · exact do_lose b off n lc ca k cc DL DC x w h hx hn hk e2 hr
  · exact do_twice b off n lc ca k cc DL DC x w h hx hn hk (by omega) hr
def nrm (q : Int × Int) : Int × Int := (pMin q.1 q.2, pMax q.1 q.2)
theorem nrm_eq (c d a b : Int) : ((pMin c d, pMax c d) = (pMin a b, pMax a b)) ↔ ((c = a ∧ d = b) ∨ (c = b ∧ d = a)) := by
  rw [Prod.mk.injEq]
  unfold pMin pMax
  constructor
  · rintro ⟨h1, h2⟩
    by_cases e1 : c ≤ d <;> by_cases e2 : a ≤ b <;> simp only [e1, e2, if_true, if_false] at h1 h2 <;> omega
  · rintro (⟨rfl, rfl⟩ | ⟨rfl, rfl⟩)
    · exact ⟨rfl, rfl⟩
    · constructor <;> split <;> split <;> omega
theorem dPart_nrm (q : Int × Int) (a b : Int) : dPart q a b = decide (nrm q = (pMin a b, pMax a b)) := by
  obtain ⟨c, d⟩ := q
  unfold nrm
  dsimp only
  rw [Bool.eq_iff_iff, decide_eq_true_eq, nrm_eq c d a b]
  unfold dPart
  simp only [Bool.or_eq_true, Bool.and_eq_true, decide_eq_true_eq]
theorem ap_match (DC : List (Int × Int)) (a b : Int) : apC (DC.map nrm) a b = dAp DC a b := by
  unfold apC dAp
  rw [Bool.eq_iff_iff, decide_eq_true_eq, List.any_eq_true, List.mem_map]
  constructor
  · rintro ⟨q, hq, e⟩
    exact ⟨q, hq, by rw [dPart_nrm]; exact decide_eq_true e⟩
  · rintro ⟨q, hq, e⟩
    rw [dPart_nrm] at e
    exact ⟨q, hq, of_decide_eq_true e⟩
theorem cut_match (DC : List (Int × Int)) (a b : Int) : cutF (pMin a b, pMax a b) (DC.map nrm) = (dCut DC a b).map nrm := by
  unfold cutF dCut
  rw [List.filter_map]
  congr 1
  refine List.filter_congr (fun q _ => ?_)
  show (!decide (nrm q = (pMin a b, pMax a b))) = !dPart q a b
  rw [dPart_nrm]
/-- The packets as the document has them. -/
def PMat (P : List Pk) (DL : List MsgR) : Prop := P.map (fun p => p.m.bare) = DL.map MsgR.bare
theorem PMat.len {P : List Pk} {DL : List MsgR} (h : PMat P DL) : P.length = DL.length := by
  have := congrArg List.length h
  simpa using this
theorem PMat.get {P : List Pk} {DL : List MsgR} (h : PMat P DL) (j : Nat) : (P.getD j ⟨0, 0, mNone⟩).m.bare = (DL.getD j mNone).bare := by
  have h1 := congrArg (fun l : List MsgR => l.getD j mNone) h
  simp only [List.getD, List.getElem?_map] at h1 ⊢
  cases e : P[j]? with
  | none =>
    have hj : P.length ≤ j := by simpa using e
    rw [List.getElem?_eq_none (by rw [← h.len]; exact hj)]
    rfl
  | some p =>
    have hj : j < DL.length := by rw [← h.len]; exact (List.getElem?_eq_some_iff.1 e).1
    rw [e, List.getElem?_eq_getElem hj] at h1
    rw [List.getElem?_eq_getElem hj]
    exact h1
theorem PMat.erase {P : List Pk} {DL : List MsgR} (h : PMat P DL) (j : Nat) : PMat (P.eraseIdx j) (DL.eraseIdx j) := by
  unfold PMat at h ⊢
  have e : ∀ {α β : Type} (f : α → β) (l : List α), (l.eraseIdx j).map f = (l.map f).eraseIdx j := fun f l => by simp [List.eraseIdx_eq_take_drop_succ]
  rw [e, e, h]
theorem PMat.snoc {P : List Pk} {DL : List MsgR} (h : PMat P DL) {p : Pk} {m : MsgR} (hp : p.m.bare = m.bare) : PMat (P ++ [p]) (DL ++ [m]) := by
  unfold PMat at h ⊢
  rw [List.map_append, List.map_append, h]
  show _ ++ [p.m.bare] = _ ++ [m.bare]
  rw [hp]
theorem docDo_mem (DL : List MsgR) (DC : List (Int × Int)) (x : ActR) : (∀ q ∈ (docDo DL DC x).1, q ∈ DL ∨ q = x.m) ∧ ((docDo DL DC x).2.2.1 = mNone ∨ (docDo DL DC x).2.2.1 ∈ DL) ∧ (docDo DL DC x).2.2.2 ≤ 17 ∧ (docDo DL DC x).1.length ≤ DL.length + 1 ∧ (docDo DL DC x).2.1.length ≤ DC.length + 1 := by
  have hg : ∀ j, j < DL.length → DL.getD j mNone ∈ DL := fun j hj => by
    simp only [List.getD, List.getElem?_eq_getElem hj, Option.getD_some]
    exact List.getElem_mem _
  have he : ∀ j, (DL.eraseIdx j).length ≤ DL.length + 1 := fun j => by rw [List.length_eraseIdx]; split <;> omega
  have s0 : ∀ c, c ≤ 17 → ((∀ q ∈ DL, q ∈ DL ∨ q = x.m) ∧ (mNone = mNone ∨ mNone ∈ DL) ∧ c ≤ 17 ∧ DL.length ≤ DL.length + 1 ∧ DC.length ≤ DC.length + 1) := fun c hc => ⟨fun q hq => .inl hq, .inl rfl, hc, Nat.le_succ _, Nat.le_succ _⟩
  unfold docDo
  split
  · split
    · exact s0 _ (mchk_le _)
    · split
      · exact s0 11 (by decide)
      · refine ⟨fun q hq => ?_, .inl rfl, by show (0 : Nat) ≤ 17; decide, by rw [List.length_append]; exact Nat.le_refl _, Nat.le_succ _⟩
        rcases List.mem_append.1 hq with h | h
        · exact .inl h
        · exact .inr (List.mem_singleton.1 h)
  · split
    · split
      · refine ⟨fun q hq => .inl hq, .inl rfl, by show (0 : Nat) ≤ 17; decide, Nat.le_succ _, ?_⟩
        show (dCut DC x.i x.k ++ _).length ≤ _
        rw [List.length_append]
        have := dCut_len DC x.i x.k
        split
        · show _ + 1 ≤ _; omega
        · show _ + 0 ≤ _; omega
      · exact s0 1 (by decide)
    · split
      · rename_i hr
        have hm := hg x.i.toNat (by omega)
        split
        · split
          · exact s0 17 (by decide)
          · exact ⟨fun q hq => .inl (List.mem_of_mem_eraseIdx hq), .inr hm, by show (0 : Nat) ≤ 17; decide, he _, Nat.le_succ _⟩
        · split
          · exact ⟨fun q hq => .inl (List.mem_of_mem_eraseIdx hq), .inl rfl, by show (0 : Nat) ≤ 17; decide, he _, Nat.le_succ _⟩
          · split
            · exact s0 11 (by decide)
            · refine ⟨fun q hq => ?_, .inl rfl, by show (0 : Nat) ≤ 17; decide, by rw [List.length_append]; exact Nat.le_refl _, Nat.le_succ _⟩
              rcases List.mem_append.1 hq with h | h
              · exact .inl h
              · rw [List.mem_singleton] at h
                subst h
                exact .inl hm
      · exact s0 6 (by decide)
/-- The program's answer is the document's. -/
theorem send_match {P P' : List Pk} {DL : List MsgR} {DC : List (Int × Int)} {x : ActR} {cf : Nat} (h : PMat P DL) (hk : x.kd = 0) (hs : SentAs P x.m P' cf) : PMat P' (docDo DL DC x).1 ∧ (docDo DL DC x).2.1 = DC ∧ (docDo DL DC x).2.2.1 = mNone ∧ (docDo DL DC x).2.2.2 = cf := by
  unfold docDo
  rw [if_pos hk]
  rcases hs with ⟨h1, h2, h3⟩ | ⟨h1, h2, h3, h4⟩ | ⟨h1, h2, h3, p, h4, h5⟩
  · rw [if_pos h1, h3, h2]
    exact ⟨h, rfl, rfl, rfl⟩
  · rw [if_neg (not_not_intro h1), if_pos (by rw [← h.len]; exact h2), h3, h4]
    exact ⟨h, rfl, rfl, rfl⟩
  · rw [if_neg (not_not_intro h1), if_neg (by rw [← h.len]; omega), h3, h4]
    exact ⟨h.snoc (by rw [h5]), rfl, rfl, rfl⟩
theorem docDo_at (DL : List MsgR) (DC : List (Int × Int)) (x : ActR) (h0 : ¬ x.kd = 0) (h4 : ¬ 4 ≤ x.kd) : docDo DL DC x = if 0 ≤ x.i ∧ x.i < DL.length then
    (if x.kd = 1 then (if dAp DC (DL.getD x.i.toNat mNone).fr (DL.getD x.i.toNat mNone).tt = true then (DL, DC, mNone, 17) else (DL.eraseIdx x.i.toNat, DC, DL.getD x.i.toNat mNone, 0))
    else if x.kd = 2 then (DL.eraseIdx x.i.toNat, DC, mNone, 0)
    else if 4096 ≤ DL.length then (DL, DC, mNone, 11) else (DL ++ [DL.getD x.i.toNat mNone], DC, mNone, 0))
  else (DL, DC, mNone, 6) := by
  unfold docDo
  rw [if_neg h0, if_neg h4]
theorem take_match {P : List Pk} {DL : List MsgR} {DC : List (Int × Int)} {x : ActR} (h : PMat P DL) (hk : x.kd = 1) : PMat (netTake P (DC.map nrm) x.i).2 (docDo DL DC x).1 ∧ (docDo DL DC x).2.1 = DC ∧ (netTake P (DC.map nrm) x.i).1.1.bare = (docDo DL DC x).2.2.1.bare ∧ (docDo DL DC x).2.2.2 = (netTake P (DC.map nrm) x.i).1.2 := by
  rw [docDo_at DL DC x (by omega) (by omega)]
  by_cases hr : 0 ≤ x.i ∧ x.i < P.length
  · have hr' : 0 ≤ x.i ∧ x.i < DL.length := by rw [← h.len]; exact hr
    have hb := h.get x.i.toNat
    have e0 : netAt P x.i = ((P.getD x.i.toNat ⟨0, 0, mNone⟩).m.bare, 0) := if_pos hr
    rw [if_pos hr', if_pos hk]
    unfold netTake
    rw [e0]
    dsimp only
    rw [if_neg (not_not_intro rfl)]
    have ea : apC (DC.map nrm) (P.getD x.i.toNat ⟨0, 0, mNone⟩).m.bare.fr (P.getD x.i.toNat ⟨0, 0, mNone⟩).m.bare.tt = dAp DC (DL.getD x.i.toNat mNone).fr (DL.getD x.i.toNat mNone).tt := by
      rw [ap_match, hb]
      rfl
    rw [ea]
    cases dAp DC (DL.getD x.i.toNat mNone).fr (DL.getD x.i.toNat mNone).tt
    · exact ⟨h.erase _, rfl, hb, rfl⟩
    · exact ⟨h, rfl, rfl, rfl⟩
  · have hr' : ¬ (0 ≤ x.i ∧ x.i < DL.length) := by rw [← h.len]; exact hr
    have e0 : netAt P x.i = (mNone, 6) := if_neg hr
    rw [if_neg hr']
    unfold netTake
    rw [e0]
    exact ⟨h, rfl, rfl, rfl⟩
theorem lose_match {P : List Pk} {DL : List MsgR} {DC : List (Int × Int)} {x : ActR} (h : PMat P DL) (hk : x.kd = 2) : PMat (netLose P x.i).1 (docDo DL DC x).1 ∧ (docDo DL DC x).2.1 = DC ∧ (docDo DL DC x).2.2.1 = mNone ∧ (docDo DL DC x).2.2.2 = (netLose P x.i).2 := by
  rw [docDo_at DL DC x (by omega) (by omega)]
  unfold netLose
  by_cases hr : 0 ≤ x.i ∧ x.i < P.length
  · have hr' : 0 ≤ x.i ∧ x.i < DL.length := by rw [← h.len]; exact hr
    rw [if_pos hr, if_pos hr', if_neg (show ¬ x.kd = 1 from by omega), if_pos hk]
    exact ⟨h.erase _, rfl, rfl, rfl⟩
  · have hr' : ¬ (0 ≤ x.i ∧ x.i < DL.length) := by rw [← h.len]; exact hr
    rw [if_neg hr, if_neg hr']
    exact ⟨h, rfl, rfl, rfl⟩
theorem twice_match {P : List Pk} {DL : List MsgR} {DC : List (Int × Int)} {x : ActR} (h : PMat P DL) (hk : x.kd = 3) : PMat (netTwice P x.i).1 (docDo DL DC x).1 ∧ (docDo DL DC x).2.1 = DC ∧ (docDo DL DC x).2.2.1 = mNone ∧ (docDo DL DC x).2.2.2 = (netTwice P x.i).2 := by
  rw [docDo_at DL DC x (by omega) (by omega)]
  unfold netTwice
  by_cases hr : 0 ≤ x.i ∧ x.i < P.length
  · have hr' : 0 ≤ x.i ∧ x.i < DL.length := by rw [← h.len]; exact hr
    rw [if_pos hr, if_pos hr', if_neg (show ¬ x.kd = 1 from by omega), if_neg (show ¬ x.kd = 2 from by omega)]
    by_cases hf : 4096 ≤ P.length
    · rw [if_pos hf, if_pos (show 4096 ≤ DL.length from by rw [← h.len]; exact hf)]
      exact ⟨h, rfl, rfl, rfl⟩
    · rw [if_neg hf, if_neg (show ¬ 4096 ≤ DL.length from by rw [← h.len]; exact hf)]
      exact ⟨h.snoc (h.get _), rfl, rfl, rfl⟩
  · have hr' : ¬ (0 ≤ x.i ∧ x.i < DL.length) := by rw [← h.len]; exact hr
    rw [if_neg hr, if_neg hr']
    exact ⟨h, rfl, rfl, rfl⟩
theorem ncut_match {DL : List MsgR} {DC : List (Int × Int)} {x : ActR} (hk : 4 ≤ x.kd) : (docDo DL DC x).1 = DL ∧ (netCut (DC.map nrm) x.i x.k (decide (x.kd = 4))).1 = (docDo DL DC x).2.1.map nrm ∧ (docDo DL DC x).2.2.1 = mNone ∧ (docDo DL DC x).2.2.2 = (netCut (DC.map nrm) x.i x.k (decide (x.kd = 4))).2 := by
  unfold docDo netCut
  rw [if_neg (show ¬ x.kd = 0 from by omega), if_pos hk]
  split
  · refine ⟨rfl, ?_, rfl, rfl⟩
    show cutF _ _ ++ _ = List.map nrm (dCut DC x.i x.k ++ _)
    rw [cut_match, List.map_append]
    by_cases e : x.kd = 4
    · rw [if_pos (decide_eq_true e), if_pos e]
      rfl
    · rw [if_neg (by rw [decide_eq_false e]; decide), if_neg e]
      rfl
  · exact ⟨rfl, rfl, rfl, rfl⟩
theorem netAt_mat {P : List Pk} {DL : List MsgR} (h : PMat P DL) (k : Nat) (hk : k < DL.length) : ∃ q, netAt P (k : Int) = (q, 0) ∧ q = (DL.getD k mNone).bare := by
  refine ⟨_, ?_, rfl⟩
  unfold netAt
  rw [if_pos (show 0 ≤ (k : Int) ∧ (k : Int) < P.length from by rw [h.len]; omega), ← h.get k]
  rfl
theorem netAt_end {P : List Pk} {DL : List MsgR} (h : PMat P DL) : netAt P (DL.length : Int) = (mNone, 6) := by
  unfold netAt
  rw [if_neg (by rw [h.len]; omega)]
end Go.Proofs.Ytpkfjnhjcdcoaaa
