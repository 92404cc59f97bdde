/-
  The document's Do: the calls at a packet.
-/
import Derived.Test.YtpkfjnhjcdcoaaaNetDo
namespace Go.Proofs.Ytpkfjnhjcdcoaaa
open Go.RowKit
set_option linter.unusedVariables false

theorem getD_inM {W : World} {B n j : Nat} {a : Option Addr} {l : List MsgR} (h : MSl W B a n l) (hj : j < n) : MIn W B (l.getD j mNone) := h.2.1 j hj
set_option maxRecDepth 100000 in
set_option maxHeartbeats 8000000 in
theorem do_at_none (la : Option Addr) (n lc : Nat) (ca : Option Addr) (k cc : Nat) (DL : List MsgR) (DC : List (Int × Int)) (x : ActR) (w : World) (h : RNet w la n lc ca k cc DL DC) (hx : AIn w w.heap.size x) (hn : n ≤ 1000) (hk : k ≤ 1000) (hk1 : 1 ≤ x.kd) (hk3 : x.kd ≤ 3) (hr : ¬ (0 ≤ x.i ∧ x.i < n)) :
    Calls Try.prog 33 #[.agg #[.slice la n lc, .slice ca k cc], .agg #[.int .i64 x.kd, .int .i64 x.i, .int .i64 x.k, .int .i64 x.m.fr, .int .i64 x.m.tt, .int .i64 x.m.kd, .int .i64 x.m.vol, .int .i64 x.m.life, .int .u64 x.m.id, .int .i64 x.m.cd, .bool x.m.has, .int .u64 x.m.key, .int .u32 x.m.ck, .bool x.m.g, .slice x.m.a x.m.n x.m.c]] w (DoP (docDo DL DC x) w) := by
  have HH := Lib.hid h
  have HX := Lib.hid hx
  have HL := Lib.hid h.m.1
  have HLC := Lib.hid h.c.1
  obtain ⟨b0, b1, b2, b3, b4, bb⟩ := made_five w 73 66 73 36 36 #[.slice la n lc, .slice ca k cc] #[.int .i64 x.kd, .int .i64 x.i, .int .i64 x.k, .int .i64 x.m.fr, .int .i64 x.m.tt, .int .i64 x.m.kd, .int .i64 x.m.vol, .int .i64 x.m.life, .int .u64 x.m.id, .int .i64 x.m.cd, .bool x.m.has, .int .u64 x.m.key, .int .u32 x.m.ck, .bool x.m.g, .slice x.m.a x.m.n x.m.c] #[.slice none 0 0, .slice none 0 0] #[.int .i64 0, .int .i64 0, .int .i64 0, .int .i64 0, .int .i64 0, .int .u64 0, .int .i64 0, .bool false, .int .u64 0, .int .u32 0, .bool false, .slice none 0 0] #[.int .i64 0, .int .i64 0, .int .i64 0, .int .i64 0, .int .i64 0, .int .u64 0, .int .i64 0, .bool false, .int .u64 0, .int .u32 0, .bool false, .slice none 0 0]
  have H0 := Lib.hid b0
  have H1 := Lib.hid b1
  have H2 := Lib.hid b2
  have H3 := Lib.hid b3
  have H4 := Lib.hid b4
  have HB := Lib.hid bb
  clear h hx b0 b1 b2 b3 b4 bb
  have HO := Lib.hid (show docDo DL DC x = (DL, DC, mNone, 6) from by unfold docDo; rw [if_neg (by omega), if_neg (by omega), if_neg (by rw [HL.out]; exact hr)])
  have y0 : (x.kd == 0) = false := by rw [beq_eq_false_iff_ne]; omega
  have y4 : decide (4 ≤ x.kd) = false := decide_eq_false (by omega)
  clear hk1 hk3
  by_cases hneg : x.i < 0
  · have z0 : decide (x.i < 0) = true := decide_eq_true hneg
    clear hr hneg
    go_enter Try.func33, Try.ntmps33
    go_upto_region 2 with fail
    generalize (((((w.alloc (.cells #[.slice la n lc, .slice ca k cc] 73)).alloc (.cells #[.int .i64 x.kd, .int .i64 x.i, .int .i64 x.k, .int .i64 x.m.fr, .int .i64 x.m.tt, .int .i64 x.m.kd, .int .i64 x.m.vol, .int .i64 x.m.life, .int .u64 x.m.id, .int .i64 x.m.cd, .bool x.m.has, .int .u64 x.m.key, .int .u32 x.m.ck, .bool x.m.g, .slice x.m.a x.m.n x.m.c] 66)).alloc (.cells #[.slice none 0 0, .slice none 0 0] 73)).alloc (.cells #[.int .i64 0, .int .i64 0, .int .i64 0, .int .i64 0, .int .i64 0, .int .u64 0, .int .i64 0, .bool false, .int .u64 0, .int .u32 0, .bool false, .slice none 0 0] 36)).alloc (.cells #[.int .i64 0, .int .i64 0, .int .i64 0, .int .i64 0, .int .i64 0, .int .u64 0, .int .i64 0, .bool false, .int .u64 0, .int .u32 0, .bool false, .slice none 0 0] 36)) = W1 at *
    obtain ⟨k0, k1, k2, k3, k4, k5, k6, k7, k8, k9, k10, k11, k12, k13, k14⟩ := act_cells H1.out
    have n0 := H0.out.cell 0
    go_upto_region 25 with fail
    clear k0 k1 k2 k3 k4 k5 k6 k7 k8 k9 k10 k11 k12 k13 k14 n0
    have n0 := H0.out.cell 0
    have n1 := H0.out.cell 1
    obtain ⟨z0, z1, z2, z3, z4, z5, z6, z7, z8, z9, z10, z11⟩ := H4.out.twelve
    have s0 := H2.out.cell 0
    have s1 := H2.out.cell 1
    have t0 := H2.out.frozen 0
    have t1 := H2.out.frozen 1
    obtain ⟨y0, y1, y2, y3, y4, y5, y6, y7, y8, y9, y10, y11⟩ := H3.out.twelve
    obtain ⟨f0, f1, f2, f3, f4, f5, f6, f7, f8, f9, f10, f11⟩ := H3.out.twelve_frozen
    go_region
    all_goals
      go_wp2_with fail
      have hr := ret_put (B := w.heap.size) H2.out H3.out (by omega) (by omega) HB.out.size (.slice la n lc) (.slice ca k cc) (.int .i64 0) (.int .i64 0) (.int .i64 0) (.int .i64 0) (.int .i64 0) (.int .u64 0) (.int .i64 0) (.bool false) (.int .u64 0) (.int .u32 0) (.bool false) (.slice none 0 0)
      have hB := (HB.out.trans hr.2.2).drew
      exact bodyPost_ret (do_results hr.1.drew hr.2.1.drew rfl rfl rfl) rfl (by rw [HO.out]; exact ⟨hB, _, _, _, _, _, _, rfl, HH.out.on hB⟩)
  have z0 : decide (x.i < 0) = false := decide_eq_false hneg
  have z1 : decide ((n : Int) ≤ x.i) = true := decide_eq_true (by omega)
  clear hr hneg
  go_enter Try.func33, Try.ntmps33
  go_upto_region 2 with fail
  generalize (((((w.alloc (.cells #[.slice la n lc, .slice ca k cc] 73)).alloc (.cells #[.int .i64 x.kd, .int .i64 x.i, .int .i64 x.k, .int .i64 x.m.fr, .int .i64 x.m.tt, .int .i64 x.m.kd, .int .i64 x.m.vol, .int .i64 x.m.life, .int .u64 x.m.id, .int .i64 x.m.cd, .bool x.m.has, .int .u64 x.m.key, .int .u32 x.m.ck, .bool x.m.g, .slice x.m.a x.m.n x.m.c] 66)).alloc (.cells #[.slice none 0 0, .slice none 0 0] 73)).alloc (.cells #[.int .i64 0, .int .i64 0, .int .i64 0, .int .i64 0, .int .i64 0, .int .u64 0, .int .i64 0, .bool false, .int .u64 0, .int .u32 0, .bool false, .slice none 0 0] 36)).alloc (.cells #[.int .i64 0, .int .i64 0, .int .i64 0, .int .i64 0, .int .i64 0, .int .u64 0, .int .i64 0, .bool false, .int .u64 0, .int .u32 0, .bool false, .slice none 0 0] 36)) = W1 at *
  obtain ⟨k0, k1, k2, k3, k4, k5, k6, k7, k8, k9, k10, k11, k12, k13, k14⟩ := act_cells H1.out
  have n0 := H0.out.cell 0
  go_upto_region 25 with fail
  clear k0 k1 k2 k3 k4 k5 k6 k7 k8 k9 k10 k11 k12 k13 k14 n0
  have n0 := H0.out.cell 0
  have n1 := H0.out.cell 1
  obtain ⟨z0, z1, z2, z3, z4, z5, z6, z7, z8, z9, z10, z11⟩ := H4.out.twelve
  have s0 := H2.out.cell 0
  have s1 := H2.out.cell 1
  have t0 := H2.out.frozen 0
  have t1 := H2.out.frozen 1
  obtain ⟨y0, y1, y2, y3, y4, y5, y6, y7, y8, y9, y10, y11⟩ := H3.out.twelve
  obtain ⟨f0, f1, f2, f3, f4, f5, f6, f7, f8, f9, f10, f11⟩ := H3.out.twelve_frozen
  go_region
  all_goals
    go_wp2_with fail
    have hr := ret_put (B := w.heap.size) H2.out H3.out (by omega) (by omega) HB.out.size (.slice la n lc) (.slice ca k cc) (.int .i64 0) (.int .i64 0) (.int .i64 0) (.int .i64 0) (.int .i64 0) (.int .u64 0) (.int .i64 0) (.bool false) (.int .u64 0) (.int .u32 0) (.bool false) (.slice none 0 0)
    have hB := (HB.out.trans hr.2.2).drew
    exact bodyPost_ret (do_results hr.1.drew hr.2.1.drew rfl rfl rfl) rfl (by rw [HO.out]; exact ⟨hB, _, _, _, _, _, _, rfl, HH.out.on hB⟩)
set_option maxRecDepth 100000 in
set_option maxHeartbeats 8000000 in
theorem do_twice (b off : Nat) (n lc : Nat) (ca : Option Addr) (k cc : Nat) (DL : List MsgR) (DC : List (Int × Int)) (x : ActR) (w : World) (h : RNet w (some ⟨b, off, none⟩) n lc ca k cc DL DC) (hx : AIn w w.heap.size x) (hn : n ≤ 1000) (hk : k ≤ 1000) (hkd : x.kd = 3) (hr : 0 ≤ x.i ∧ x.i < n) :
    Calls Try.prog 33 #[.agg #[.slice (some ⟨b, off, none⟩) n lc, .slice ca k cc], .agg #[.int .i64 x.kd, .int .i64 x.i, .int .i64 x.k, .int .i64 x.m.fr, .int .i64 x.m.tt, .int .i64 x.m.kd, .int .i64 x.m.vol, .int .i64 x.m.life, .int .u64 x.m.id, .int .i64 x.m.cd, .bool x.m.has, .int .u64 x.m.key, .int .u32 x.m.ck, .bool x.m.g, .slice x.m.a x.m.n x.m.c]] w (DoP (docDo DL DC x) w) := by
  have HH := Lib.hid h
  have HX := Lib.hid hx
  have HL := Lib.hid h.m.1
  have HLC := Lib.hid h.c.1
  obtain ⟨b0, b1, b2, b3, b4, bb⟩ := made_five w 73 66 73 36 36 #[.slice (some ⟨b, off, none⟩) n lc, .slice ca k cc] #[.int .i64 x.kd, .int .i64 x.i, .int .i64 x.k, .int .i64 x.m.fr, .int .i64 x.m.tt, .int .i64 x.m.kd, .int .i64 x.m.vol, .int .i64 x.m.life, .int .u64 x.m.id, .int .i64 x.m.cd, .bool x.m.has, .int .u64 x.m.key, .int .u32 x.m.ck, .bool x.m.g, .slice x.m.a x.m.n x.m.c] #[.slice none 0 0, .slice none 0 0] #[.int .i64 0, .int .i64 0, .int .i64 0, .int .i64 0, .int .i64 0, .int .u64 0, .int .i64 0, .bool false, .int .u64 0, .int .u32 0, .bool false, .slice none 0 0] #[.int .i64 0, .int .i64 0, .int .i64 0, .int .i64 0, .int .i64 0, .int .u64 0, .int .i64 0, .bool false, .int .u64 0, .int .u32 0, .bool false, .slice none 0 0]
  have H0 := Lib.hid b0
  have H1 := Lib.hid b1
  have H2 := Lib.hid b2
  have H3 := Lib.hid b3
  have H4 := Lib.hid b4
  have HB := Lib.hid bb
  clear h hx b0 b1 b2 b3 b4 bb
  obtain ⟨j, hj⟩ := Int.eq_ofNat_of_zero_le hr.1
  have hjn : j < n := by omega
  obtain ⟨mm, hmm⟩ : ∃ mm, DL.getD j mNone = mm := ⟨_, rfl⟩
  have HMM := Lib.hid (show MIn w w.heap.size mm from by rw [← hmm]; exact HH.out.m.2.1 j hjn)
  have HO : docDo DL DC x = (if x.kd = 1 then (if dAp DC mm.fr mm.tt = true then (DL, DC, mNone, 17) else (DL.eraseIdx j, DC, mm, 0)) else if x.kd = 2 then (DL.eraseIdx j, DC, mNone, 0) else (DL ++ [mm], DC, mNone, 0)) := by
    unfold docDo
    rw [if_neg (by omega), if_neg (by omega), if_pos (by rw [HL.out]; exact hr), show x.i.toNat = j from by omega, hmm, if_neg (show ¬ 4096 ≤ DL.length by rw [HL.out]; omega)]
  have y0 : (x.kd == 0) = false := by rw [beq_eq_false_iff_ne]; omega
  have y4 : decide (4 ≤ x.kd) = false := decide_eq_false (by omega)
  have z0 : decide (x.i < 0) = false := decide_eq_false (by omega)
  have z1 : decide ((n : Int) ≤ x.i) = false := decide_eq_false (by omega)
  have hjl : j < DL.length := by rw [HL.out]; exact hjn
  have HEL := Lib.hid (show (DL.eraseIdx j).length = n - 1 from by rw [List.length_eraseIdx, if_pos hjl, HL.out])
  obtain ⟨b', off', hab, -, g0, g1, g2, g3, g4, g5, g6, g7, g8, g9, g10, g11⟩ := (HH.out.m.below HB.out).at_ hjn hmm
  injection hab with hab
  injection hab with hab1 hab2
  subst hab1 hab2
  have HOO := Lib.hid (show docDo DL DC x = (DL ++ [mm], DC, mNone, 0) from by rw [HO, if_neg (by omega), if_neg (by omega)])
  have y1 : (x.kd == 1) = false := by rw [hkd]; rfl
  have y2 : (x.kd == 2) = false := by rw [hkd]; rfl
  have hfull : decide ((4096 : Int) ≤ (n : Int)) = false := decide_eq_false (by omega)
  have HJN := Lib.hid hjn
  clear HO hr hmm hjl hkd
  generalize hxi : x.i = xi at *
  subst hj
  clear hxi
  have hxj : (j : Int) < (n : Int) := by omega
  go_enter Try.func33, Try.ntmps33
  go_upto_region 2 with fail
  generalize (((((w.alloc (.cells #[.slice (some ⟨b, off, none⟩) n lc, .slice ca k cc] 73)).alloc (.cells #[.int .i64 x.kd, .int .i64 (j : Int), .int .i64 x.k, .int .i64 x.m.fr, .int .i64 x.m.tt, .int .i64 x.m.kd, .int .i64 x.m.vol, .int .i64 x.m.life, .int .u64 x.m.id, .int .i64 x.m.cd, .bool x.m.has, .int .u64 x.m.key, .int .u32 x.m.ck, .bool x.m.g, .slice x.m.a x.m.n x.m.c] 66)).alloc (.cells #[.slice none 0 0, .slice none 0 0] 73)).alloc (.cells #[.int .i64 0, .int .i64 0, .int .i64 0, .int .i64 0, .int .i64 0, .int .u64 0, .int .i64 0, .bool false, .int .u64 0, .int .u32 0, .bool false, .slice none 0 0] 36)).alloc (.cells #[.int .i64 0, .int .i64 0, .int .i64 0, .int .i64 0, .int .i64 0, .int .u64 0, .int .i64 0, .bool false, .int .u64 0, .int .u32 0, .bool false, .slice none 0 0] 36)) = W1 at *
  obtain ⟨k0, k1, k2, k3, k4, k5, k6, k7, k8, k9, k10, k11, k12, k13, k14⟩ := act_cells H1.out
  have n0 := H0.out.cell 0
  have BA := (Below.refl W1.heap.size W1).alloc (Nat.le_refl _) (.cells #[.int .i64 mm.fr, .int .i64 mm.tt, .int .i64 mm.kd, .int .i64 mm.vol, .int .i64 mm.life, .int .u64 mm.id, .int .i64 mm.cd, .bool mm.has, .int .u64 mm.key, .int .u32 mm.ck, .bool mm.g, .slice mm.a mm.n mm.c] 36)
  have HB2 := Lib.hid (HB.out.trans (BA.mono HB.out.size))
  have G0 := Lib.hid (H0.out.below BA H0.out.lt)
  have G1 := Lib.hid (H1.out.below BA H1.out.lt)
  have G2 := Lib.hid (H2.out.below BA H2.out.lt)
  have G3 := Lib.hid (H3.out.below BA H3.out.lt)
  have G4 := Lib.hid (H4.out.below BA H4.out.lt)
  have G5 := Lib.hid (Blk.made W1 36 #[.int .i64 mm.fr, .int .i64 mm.tt, .int .i64 mm.kd, .int .i64 mm.vol, .int .i64 mm.life, .int .u64 mm.id, .int .i64 mm.cd, .bool mm.has, .int .u64 mm.key, .int .u32 mm.ck, .bool mm.g, .slice mm.a mm.n mm.c])
  have HZ := Lib.hid (show w.heap.size + 1 + 1 + 1 + 1 < W1.heap.size from H4.out.lt)
  clear BA
  go_upto_region 27 with fail
  generalize (W1.alloc (.cells #[.int .i64 mm.fr, .int .i64 mm.tt, .int .i64 mm.kd, .int .i64 mm.vol, .int .i64 mm.life, .int .u64 mm.id, .int .i64 mm.cd, .bool mm.has, .int .u64 mm.key, .int .u32 mm.ck, .bool mm.g, .slice mm.a mm.n mm.c] 36)) = w2 at *
  clear g0 g1 g2 g3 g4 g5 g6 g7 g8 g9 g10 g11 n0 k0 k1 k2 k3 k4 k5 k6 k7 k8 k9 k10 k11 k12 k13 k14
  obtain ⟨k0, k1, k2, k3, k4, k5, k6, k7, k8, k9, k10, k11, k12, k13, k14⟩ := act_cells G1.out
  have n0 := G0.out.cell 0
  have HC8 := Lib.hid fun (W : World) (hW : w2.grownBy W (some w.heap.size)) => (G5.out.grown hW (by intro e; injection e with e; have := HZ.out; omega)).twelve
  go_upto_region 38 with fail
  clear k0 k1 k2 k3 k4 k5 k6 k7 k8 k9 k10 k11 k12 k13 k14
  have HM := Lib.hid fun (W : World) (hW : w2.grownBy W (some w.heap.size)) => (show MSl W W.heap.size (some ⟨b, off, none⟩) n DL from (HH.out.m.below (HB2.out.trans (grown_below hW HB2.out.size (Nat.le_refl _)))).more (Nat.le_trans HB2.out.size hW.size))
  have HG := Lib.hid fun (W : World) (hW : w2.grownBy W (some w.heap.size)) (i : Nat) (hi : i < n) => (HM.out W hW).2.1 i hi
  have HAM := Lib.hid fun (W : World) (g0 cap0 : Nat) (ho : W.ownsRow w2.heap.size 36 12 (.slice (some ⟨g0, 0, none⟩) 0 cap0) 0 []) (hW : w2.grownBy W (some w.heap.size)) => append_msgs ho lc (HM.out W hW) (by omega) hW.size
  have HA1 := Lib.hid fun (W : World) (g0 cap0 gb : Nat) (ho : W.ownsRow w2.heap.size 36 12 (.slice (some ⟨g0, 0, none⟩) n cap0) n (flatM DL)) (hb : Blk W gb 36 mm.cells.toArray) (hW : w2.grownBy W (some w.heap.size)) => append_msg ho mm hb (by omega) hW.size
  have hs2 : w.heap.size < w2.heap.size := G0.out.lt
  have HS2 := Lib.hid hs2
  have hnb := G0.out.drew
  have L0 := G0.out.drew.cell 0
  have L1 := (G0.out.alloc (.cells #[] 36)).drew.cell 0
  have L2 := (G0.out.alloc (.cells #[.int .i64 mm.fr, .int .i64 mm.tt, .int .i64 mm.kd, .int .i64 mm.vol, .int .i64 mm.life, .int .u64 mm.id, .int .i64 mm.cd, .bool mm.has, .int .u64 mm.key, .int .u32 mm.ck, .bool mm.g, .slice mm.a mm.n mm.c] 36)).drew.cell 0
  have L3 := ((G0.out.alloc (.cells #[] 36)).alloc (.cells #[.int .i64 mm.fr, .int .i64 mm.tt, .int .i64 mm.kd, .int .i64 mm.vol, .int .i64 mm.life, .int .u64 mm.id, .int .i64 mm.cd, .bool mm.has, .int .u64 mm.key, .int .u32 mm.ck, .bool mm.g, .slice mm.a mm.n mm.c] 36)).drew.cell 0
  have L4 := ((G0.out.alloc (.cells #[.int .i64 mm.fr, .int .i64 mm.tt, .int .i64 mm.kd, .int .i64 mm.vol, .int .i64 mm.life, .int .u64 mm.id, .int .i64 mm.cd, .bool mm.has, .int .u64 mm.key, .int .u32 mm.ck, .bool mm.g, .slice mm.a mm.n mm.c] 36)).alloc (.cells #[] 36)).drew.cell 0
  go_upto_region 38 with fail
  go_cut [6] (fun v wx => v = .int .i64 0 ∧ ∃ g5 cap5, Blk wx w.heap.size 73 #[.slice (some ⟨g5, 0, none⟩) (n + 1) cap5, .slice ca k cc] ∧ wx.ownsRow w2.heap.size 36 12 (.slice (some ⟨g5, 0, none⟩) (n + 1) cap5) (n + 1) (flatM DL ++ mm.cells) ∧ w2.grownBy wx (some w.heap.size))
  case first =>
    refine wp_region_held_drew (S := fun W => w2.grownBy W (some w.heap.size)) (by kernel_rfl) (by exact grown_drew (grown_refl _ _)) (fun hS => ?_)
    refine wpAnyH_take (i := 1) (v := ?_) rfl (by kernel_rfl) (by kernel_rfl) (by kernel_rfl) (fun _ _ _ h => h) (Or.inl ⟨by kernel_rfl, ?_⟩) hS ?_
    rotate_left
    · intro W hW; go_simp; try with_reducible rfl
    refine wpAnyH_take (i := 4) (v := ?_) rfl (by kernel_rfl) (by kernel_rfl) (by kernel_rfl) (fun _ _ _ h => h) (Or.inl ⟨by kernel_rfl, ?_⟩) hS ?_
    rotate_left
    · intro W hW; obtain ⟨k0, k1, k2, k3, k4, k5, k6, k7, k8, k9, k10, k11⟩ := HC8.out W hW; go_simp; try with_reducible rfl
    refine wpAnyH_ready (rs := [0, 2, 5]) (by kernel_rfl) (by simp) ?_
    refine AllReadyH.cons (i := 0) rfl ?_ ?_
    · intro K hK
      go_simp
      first
      | have ho := own_new (base := w2.heap.size) (s := w2.heap.size) 36 hS.size rfl
      | have ho := own_new (base := w2.heap.size) (s := w2.heap.size + 1) 36 hS.size (by simp)
      have hT := grown_trans hS (World.grownBy_alloc _ (.cells #[] 36) _)
      replace hnb := hnb.alloc (.cells #[] 36)
      try replace hb := hb.alloc (.cells #[] 36)
      go_simp
      refine hK.out _ _ ?_ (fun hN => ?_)
      · first | exact hT | exact hS | exact hS.alloc hS.size _ | exact hS.drew
      clear hK K
      try clear hT
      clear hS
      have hS := hN
      clear hN
      refine wpAnyH_ready (rs := [2, 5]) (by kernel_rfl) (by simp) ?_
      refine AllReadyH.cons (i := 2) rfl ?_ ?_
      · intro K hK
        go_simp
        refine hK.out _ _ ?_ (fun hN => ?_)
        · first | exact hT | exact hS | exact hS.alloc hS.size _ | exact hS.drew
        clear hK K
        try clear hT
        clear hS
        have hS := hN
        clear hN
        refine wpAnyH_ready (rs := [3, 5]) (by kernel_rfl) (by simp) ?_
        refine AllReadyH.cons (i := 3) rfl ?_ ?_
        · intro K hK
          obtain ⟨g3, cap3, W3, hr3, ho3, hg3⟩ := HAM.out _ _ _ ho hS
          have hg3l := (ho.lt _ rfl).1
          have hT := grown_fresh hS hg3 hg3l
          replace hnb := hnb.grown hg3 (by intro e; injection e with e; have := HS2.out; omega)
          try replace hb := hb.grown hg3 (by intro e; injection e with e; omega)
          rw [Nat.zero_add] at hr3 ho3
          rw [List.nil_append] at ho3
          refine step_run_g (by kernel_rfl) _ _ (by rfl) (by rfl) (by rfl) hr3 ?_
          clear hr3 hg3 ho hg3l
          refine hK.out _ _ ?_ (fun hN => ?_)
          · first | exact hT | exact hS | exact hS.alloc hS.size _ | exact hS.drew
          clear hK K
          try clear hT
          clear hS
          have hS := hN
          clear hN
          refine wpAnyH_ready (rs := [5]) (by kernel_rfl) (by simp) ?_
          refine AllReadyH.cons (i := 5) rfl ?_ AllReadyH.nil
          intro K hK
          go_simp
          first
          | have hb := made_as hS (s := w2.heap.size) 36 #[.int .i64 mm.fr, .int .i64 mm.tt, .int .i64 mm.kd, .int .i64 mm.vol, .int .i64 mm.life, .int .u64 mm.id, .int .i64 mm.cd, .bool mm.has, .int .u64 mm.key, .int .u32 mm.ck, .bool mm.g, .slice mm.a mm.n mm.c] rfl
          | have hb := made_as hS (s := w2.heap.size + 1) 36 #[.int .i64 mm.fr, .int .i64 mm.tt, .int .i64 mm.kd, .int .i64 mm.vol, .int .i64 mm.life, .int .u64 mm.id, .int .i64 mm.cd, .bool mm.has, .int .u64 mm.key, .int .u32 mm.ck, .bool mm.g, .slice mm.a mm.n mm.c] (by simp)
          | have hb := made_as hS 36 #[.int .i64 mm.fr, .int .i64 mm.tt, .int .i64 mm.kd, .int .i64 mm.vol, .int .i64 mm.life, .int .u64 mm.id, .int .i64 mm.cd, .bool mm.has, .int .u64 mm.key, .int .u32 mm.ck, .bool mm.g, .slice mm.a mm.n mm.c] rfl
          have hT := grown_trans hS (World.grownBy_alloc _ (.cells #[.int .i64 mm.fr, .int .i64 mm.tt, .int .i64 mm.kd, .int .i64 mm.vol, .int .i64 mm.life, .int .u64 mm.id, .int .i64 mm.cd, .bool mm.has, .int .u64 mm.key, .int .u32 mm.ck, .bool mm.g, .slice mm.a mm.n mm.c] 36) _)
          replace hnb := hnb.alloc (.cells #[.int .i64 mm.fr, .int .i64 mm.tt, .int .i64 mm.kd, .int .i64 mm.vol, .int .i64 mm.life, .int .u64 mm.id, .int .i64 mm.cd, .bool mm.has, .int .u64 mm.key, .int .u32 mm.ck, .bool mm.g, .slice mm.a mm.n mm.c] 36)
          try replace ho := ho.alloc (.cells #[.int .i64 mm.fr, .int .i64 mm.tt, .int .i64 mm.kd, .int .i64 mm.vol, .int .i64 mm.life, .int .u64 mm.id, .int .i64 mm.cd, .bool mm.has, .int .u64 mm.key, .int .u32 mm.ck, .bool mm.g, .slice mm.a mm.n mm.c] 36)
          try replace ho3 := ho3.alloc (.cells #[.int .i64 mm.fr, .int .i64 mm.tt, .int .i64 mm.kd, .int .i64 mm.vol, .int .i64 mm.life, .int .u64 mm.id, .int .i64 mm.cd, .bool mm.has, .int .u64 mm.key, .int .u32 mm.ck, .bool mm.g, .slice mm.a mm.n mm.c] 36)
          go_simp
          refine hK.out _ _ ?_ (fun hN => ?_)
          · first | exact hT | exact hS | exact hS.alloc hS.size _ | exact hS.drew
          clear hK K
          try clear hT
          clear hS
          have hS := hN
          clear hN
          refine wpAnyH_ready (rs := [6]) (by kernel_rfl) (by simp) ?_
          refine AllReadyH.cons (i := 6) rfl ?_ AllReadyH.nil
          intro K hK
          obtain ⟨g5, cap5, W5, hr5, ho5, hg5⟩ := HA1.out _ _ _ _ ho3 hb hS
          have hg5l := (ho3.lt _ rfl).1
          have hT := grown_fresh hS hg5 hg5l
          replace hnb := hnb.grown hg5 (by intro e; injection e with e; have := HS2.out; omega)
          have d0 := hnb.cell 0
          have f0 := hnb.frozen 0
          refine step_run_g (by kernel_rfl) _ _ (by rfl) (by rfl) (by rfl) hr5 ?_
          clear hr5 hg5 ho3 hb hg5l
          refine hK.out _ _ ?_ (fun hN => ?_)
          · first | exact hT | exact hS | exact hS.alloc hS.size _ | exact hS.drew
          clear hK K
          try clear hT
          clear hS
          have hS := hN
          clear hN
          refine wpAnyH_take (i := 7) (v := ?_) rfl (by kernel_rfl) (by kernel_rfl) (by kernel_rfl) (fun _ _ _ h => h) (Or.inl ⟨by kernel_rfl, ?_⟩) hS ?_
          rotate_left
          · intro W hW; go_simp; try with_reducible rfl
          refine wpAnyH_ready (rs := [8]) (by kernel_rfl) (by simp) ?_
          refine AllReadyH.cons (i := 8) rfl ?_ AllReadyH.nil
          intro K hK
          have hT := grown_put hS 0 (.slice (some ⟨g5, 0, none⟩) (n + 1) cap5)
          have hnc := hnb.put 0 (.slice (some ⟨g5, 0, none⟩) (n + 1) cap5)
          have ho6 := row_far ho5 (grown_put (grown_refl _ _) 0 (.slice (some ⟨g5, 0, none⟩) (n + 1) cap5)) HS2.out
          go_simp
          clear d0 f0 hnb ho5
          refine hK.out _ _ ?_ (fun hN => ?_)
          · first | exact hT | exact hS | exact hS.alloc hS.size _ | exact hS.drew
          clear hK K
          try clear hT
          clear hS
          have hS := hN
          clear hN
          refine wpAnyH_done (by kernel_rfl) ?_ _
          go_simp
          have HSF := Lib.hid hS
          have HN6 := Lib.hid hnc
          have HO6 := Lib.hid ho6
          clear hS hnc ho6
          go_wp2_with fail
          go_meet
          exact ⟨rfl, _, _, HN6.out, HO6.out, HSF.out⟩
        refine AllReadyH.cons (i := 5) rfl ?_ AllReadyH.nil
        intro K hK
        go_simp
        first
        | have hb := made_as hS (s := w2.heap.size) 36 #[.int .i64 mm.fr, .int .i64 mm.tt, .int .i64 mm.kd, .int .i64 mm.vol, .int .i64 mm.life, .int .u64 mm.id, .int .i64 mm.cd, .bool mm.has, .int .u64 mm.key, .int .u32 mm.ck, .bool mm.g, .slice mm.a mm.n mm.c] rfl
        | have hb := made_as hS (s := w2.heap.size + 1) 36 #[.int .i64 mm.fr, .int .i64 mm.tt, .int .i64 mm.kd, .int .i64 mm.vol, .int .i64 mm.life, .int .u64 mm.id, .int .i64 mm.cd, .bool mm.has, .int .u64 mm.key, .int .u32 mm.ck, .bool mm.g, .slice mm.a mm.n mm.c] (by simp)
        | have hb := made_as hS 36 #[.int .i64 mm.fr, .int .i64 mm.tt, .int .i64 mm.kd, .int .i64 mm.vol, .int .i64 mm.life, .int .u64 mm.id, .int .i64 mm.cd, .bool mm.has, .int .u64 mm.key, .int .u32 mm.ck, .bool mm.g, .slice mm.a mm.n mm.c] rfl
        have hT := grown_trans hS (World.grownBy_alloc _ (.cells #[.int .i64 mm.fr, .int .i64 mm.tt, .int .i64 mm.kd, .int .i64 mm.vol, .int .i64 mm.life, .int .u64 mm.id, .int .i64 mm.cd, .bool mm.has, .int .u64 mm.key, .int .u32 mm.ck, .bool mm.g, .slice mm.a mm.n mm.c] 36) _)
        replace hnb := hnb.alloc (.cells #[.int .i64 mm.fr, .int .i64 mm.tt, .int .i64 mm.kd, .int .i64 mm.vol, .int .i64 mm.life, .int .u64 mm.id, .int .i64 mm.cd, .bool mm.has, .int .u64 mm.key, .int .u32 mm.ck, .bool mm.g, .slice mm.a mm.n mm.c] 36)
        try replace ho := ho.alloc (.cells #[.int .i64 mm.fr, .int .i64 mm.tt, .int .i64 mm.kd, .int .i64 mm.vol, .int .i64 mm.life, .int .u64 mm.id, .int .i64 mm.cd, .bool mm.has, .int .u64 mm.key, .int .u32 mm.ck, .bool mm.g, .slice mm.a mm.n mm.c] 36)
        try replace ho3 := ho3.alloc (.cells #[.int .i64 mm.fr, .int .i64 mm.tt, .int .i64 mm.kd, .int .i64 mm.vol, .int .i64 mm.life, .int .u64 mm.id, .int .i64 mm.cd, .bool mm.has, .int .u64 mm.key, .int .u32 mm.ck, .bool mm.g, .slice mm.a mm.n mm.c] 36)
        go_simp
        refine hK.out _ _ ?_ (fun hN => ?_)
        · first | exact hT | exact hS | exact hS.alloc hS.size _ | exact hS.drew
        clear hK K
        try clear hT
        clear hS
        have hS := hN
        clear hN
        refine wpAnyH_ready (rs := [3]) (by kernel_rfl) (by simp) ?_
        refine AllReadyH.cons (i := 3) rfl ?_ AllReadyH.nil
        intro K hK
        obtain ⟨g3, cap3, W3, hr3, ho3, hg3⟩ := HAM.out _ _ _ ho hS
        have hg3l := (ho.lt _ rfl).1
        have hT := grown_fresh hS hg3 hg3l
        replace hnb := hnb.grown hg3 (by intro e; injection e with e; have := HS2.out; omega)
        try replace hb := hb.grown hg3 (by intro e; injection e with e; omega)
        rw [Nat.zero_add] at hr3 ho3
        rw [List.nil_append] at ho3
        refine step_run_g (by kernel_rfl) _ _ (by rfl) (by rfl) (by rfl) hr3 ?_
        clear hr3 hg3 ho hg3l
        refine hK.out _ _ ?_ (fun hN => ?_)
        · first | exact hT | exact hS | exact hS.alloc hS.size _ | exact hS.drew
        clear hK K
        try clear hT
        clear hS
        have hS := hN
        clear hN
        refine wpAnyH_ready (rs := [6]) (by kernel_rfl) (by simp) ?_
        refine AllReadyH.cons (i := 6) rfl ?_ AllReadyH.nil
        intro K hK
        obtain ⟨g5, cap5, W5, hr5, ho5, hg5⟩ := HA1.out _ _ _ _ ho3 hb hS
        have hg5l := (ho3.lt _ rfl).1
        have hT := grown_fresh hS hg5 hg5l
        replace hnb := hnb.grown hg5 (by intro e; injection e with e; have := HS2.out; omega)
        have d0 := hnb.cell 0
        have f0 := hnb.frozen 0
        refine step_run_g (by kernel_rfl) _ _ (by rfl) (by rfl) (by rfl) hr5 ?_
        clear hr5 hg5 ho3 hb hg5l
        refine hK.out _ _ ?_ (fun hN => ?_)
        · first | exact hT | exact hS | exact hS.alloc hS.size _ | exact hS.drew
        clear hK K
        try clear hT
        clear hS
        have hS := hN
        clear hN
        refine wpAnyH_take (i := 7) (v := ?_) rfl (by kernel_rfl) (by kernel_rfl) (by kernel_rfl) (fun _ _ _ h => h) (Or.inl ⟨by kernel_rfl, ?_⟩) hS ?_
        rotate_left
        · intro W hW; go_simp; try with_reducible rfl
        refine wpAnyH_ready (rs := [8]) (by kernel_rfl) (by simp) ?_
        refine AllReadyH.cons (i := 8) rfl ?_ AllReadyH.nil
        intro K hK
        have hT := grown_put hS 0 (.slice (some ⟨g5, 0, none⟩) (n + 1) cap5)
        have hnc := hnb.put 0 (.slice (some ⟨g5, 0, none⟩) (n + 1) cap5)
        have ho6 := row_far ho5 (grown_put (grown_refl _ _) 0 (.slice (some ⟨g5, 0, none⟩) (n + 1) cap5)) HS2.out
        go_simp
        clear d0 f0 hnb ho5
        refine hK.out _ _ ?_ (fun hN => ?_)
        · first | exact hT | exact hS | exact hS.alloc hS.size _ | exact hS.drew
        clear hK K
        try clear hT
        clear hS
        have hS := hN
        clear hN
        refine wpAnyH_done (by kernel_rfl) ?_ _
        go_simp
        have HSF := Lib.hid hS
        have HN6 := Lib.hid hnc
        have HO6 := Lib.hid ho6
        clear hS hnc ho6
        go_wp2_with fail
        go_meet
        exact ⟨rfl, _, _, HN6.out, HO6.out, HSF.out⟩
      refine AllReadyH.cons (i := 5) rfl ?_ AllReadyH.nil
      intro K hK
      go_simp
      first
      | have hb := made_as hS (s := w2.heap.size) 36 #[.int .i64 mm.fr, .int .i64 mm.tt, .int .i64 mm.kd, .int .i64 mm.vol, .int .i64 mm.life, .int .u64 mm.id, .int .i64 mm.cd, .bool mm.has, .int .u64 mm.key, .int .u32 mm.ck, .bool mm.g, .slice mm.a mm.n mm.c] rfl
      | have hb := made_as hS (s := w2.heap.size + 1) 36 #[.int .i64 mm.fr, .int .i64 mm.tt, .int .i64 mm.kd, .int .i64 mm.vol, .int .i64 mm.life, .int .u64 mm.id, .int .i64 mm.cd, .bool mm.has, .int .u64 mm.key, .int .u32 mm.ck, .bool mm.g, .slice mm.a mm.n mm.c] (by simp)
      | have hb := made_as hS 36 #[.int .i64 mm.fr, .int .i64 mm.tt, .int .i64 mm.kd, .int .i64 mm.vol, .int .i64 mm.life, .int .u64 mm.id, .int .i64 mm.cd, .bool mm.has, .int .u64 mm.key, .int .u32 mm.ck, .bool mm.g, .slice mm.a mm.n mm.c] rfl
      have hT := grown_trans hS (World.grownBy_alloc _ (.cells #[.int .i64 mm.fr, .int .i64 mm.tt, .int .i64 mm.kd, .int .i64 mm.vol, .int .i64 mm.life, .int .u64 mm.id, .int .i64 mm.cd, .bool mm.has, .int .u64 mm.key, .int .u32 mm.ck, .bool mm.g, .slice mm.a mm.n mm.c] 36) _)
      replace hnb := hnb.alloc (.cells #[.int .i64 mm.fr, .int .i64 mm.tt, .int .i64 mm.kd, .int .i64 mm.vol, .int .i64 mm.life, .int .u64 mm.id, .int .i64 mm.cd, .bool mm.has, .int .u64 mm.key, .int .u32 mm.ck, .bool mm.g, .slice mm.a mm.n mm.c] 36)
      try replace ho := ho.alloc (.cells #[.int .i64 mm.fr, .int .i64 mm.tt, .int .i64 mm.kd, .int .i64 mm.vol, .int .i64 mm.life, .int .u64 mm.id, .int .i64 mm.cd, .bool mm.has, .int .u64 mm.key, .int .u32 mm.ck, .bool mm.g, .slice mm.a mm.n mm.c] 36)
      try replace ho3 := ho3.alloc (.cells #[.int .i64 mm.fr, .int .i64 mm.tt, .int .i64 mm.kd, .int .i64 mm.vol, .int .i64 mm.life, .int .u64 mm.id, .int .i64 mm.cd, .bool mm.has, .int .u64 mm.key, .int .u32 mm.ck, .bool mm.g, .slice mm.a mm.n mm.c] 36)
      go_simp
      refine hK.out _ _ ?_ (fun hN => ?_)
      · first | exact hT | exact hS | exact hS.alloc hS.size _ | exact hS.drew
      clear hK K
      try clear hT
      clear hS
      have hS := hN
      clear hN
      refine wpAnyH_ready (rs := [2]) (by kernel_rfl) (by simp) ?_
      refine AllReadyH.cons (i := 2) rfl ?_ AllReadyH.nil
      intro K hK
      go_simp
      refine hK.out _ _ ?_ (fun hN => ?_)
      · first | exact hT | exact hS | exact hS.alloc hS.size _ | exact hS.drew
      clear hK K
      try clear hT
      clear hS
      have hS := hN
      clear hN
      refine wpAnyH_ready (rs := [3]) (by kernel_rfl) (by simp) ?_
      refine AllReadyH.cons (i := 3) rfl ?_ AllReadyH.nil
      intro K hK
      obtain ⟨g3, cap3, W3, hr3, ho3, hg3⟩ := HAM.out _ _ _ ho hS
      have hg3l := (ho.lt _ rfl).1
      have hT := grown_fresh hS hg3 hg3l
      replace hnb := hnb.grown hg3 (by intro e; injection e with e; have := HS2.out; omega)
      try replace hb := hb.grown hg3 (by intro e; injection e with e; omega)
      rw [Nat.zero_add] at hr3 ho3
      rw [List.nil_append] at ho3
      refine step_run_g (by kernel_rfl) _ _ (by rfl) (by rfl) (by rfl) hr3 ?_
      clear hr3 hg3 ho hg3l
      refine hK.out _ _ ?_ (fun hN => ?_)
      · first | exact hT | exact hS | exact hS.alloc hS.size _ | exact hS.drew
      clear hK K
      try clear hT
      clear hS
      have hS := hN
      clear hN
      refine wpAnyH_ready (rs := [6]) (by kernel_rfl) (by simp) ?_
      refine AllReadyH.cons (i := 6) rfl ?_ AllReadyH.nil
      intro K hK
      obtain ⟨g5, cap5, W5, hr5, ho5, hg5⟩ := HA1.out _ _ _ _ ho3 hb hS
      have hg5l := (ho3.lt _ rfl).1
      have hT := grown_fresh hS hg5 hg5l
      replace hnb := hnb.grown hg5 (by intro e; injection e with e; have := HS2.out; omega)
      have d0 := hnb.cell 0
      have f0 := hnb.frozen 0
      refine step_run_g (by kernel_rfl) _ _ (by rfl) (by rfl) (by rfl) hr5 ?_
      clear hr5 hg5 ho3 hb hg5l
      refine hK.out _ _ ?_ (fun hN => ?_)
      · first | exact hT | exact hS | exact hS.alloc hS.size _ | exact hS.drew
      clear hK K
      try clear hT
      clear hS
      have hS := hN
      clear hN
      refine wpAnyH_take (i := 7) (v := ?_) rfl (by kernel_rfl) (by kernel_rfl) (by kernel_rfl) (fun _ _ _ h => h) (Or.inl ⟨by kernel_rfl, ?_⟩) hS ?_
      rotate_left
      · intro W hW; go_simp; try with_reducible rfl
      refine wpAnyH_ready (rs := [8]) (by kernel_rfl) (by simp) ?_
      refine AllReadyH.cons (i := 8) rfl ?_ AllReadyH.nil
      intro K hK
      have hT := grown_put hS 0 (.slice (some ⟨g5, 0, none⟩) (n + 1) cap5)
      have hnc := hnb.put 0 (.slice (some ⟨g5, 0, none⟩) (n + 1) cap5)
      have ho6 := row_far ho5 (grown_put (grown_refl _ _) 0 (.slice (some ⟨g5, 0, none⟩) (n + 1) cap5)) HS2.out
      go_simp
      clear d0 f0 hnb ho5
      refine hK.out _ _ ?_ (fun hN => ?_)
      · first | exact hT | exact hS | exact hS.alloc hS.size _ | exact hS.drew
      clear hK K
      try clear hT
      clear hS
      have hS := hN
      clear hN
      refine wpAnyH_done (by kernel_rfl) ?_ _
      go_simp
      have HSF := Lib.hid hS
      have HN6 := Lib.hid hnc
      have HO6 := Lib.hid ho6
      clear hS hnc ho6
      go_wp2_with fail
      go_meet
      exact ⟨rfl, _, _, HN6.out, HO6.out, HSF.out⟩
    refine AllReadyH.cons (i := 2) rfl ?_ ?_
    · intro K hK
      go_simp
      refine hK.out _ _ ?_ (fun hN => ?_)
      · first | exact hT | exact hS | exact hS.alloc hS.size _ | exact hS.drew
      clear hK K
      try clear hT
      clear hS
      have hS := hN
      clear hN
      refine wpAnyH_ready (rs := [0, 5]) (by kernel_rfl) (by simp) ?_
      refine AllReadyH.cons (i := 0) rfl ?_ ?_
      · intro K hK
        go_simp
        first
        | have ho := own_new (base := w2.heap.size) (s := w2.heap.size) 36 hS.size rfl
        | have ho := own_new (base := w2.heap.size) (s := w2.heap.size + 1) 36 hS.size (by simp)
        have hT := grown_trans hS (World.grownBy_alloc _ (.cells #[] 36) _)
        replace hnb := hnb.alloc (.cells #[] 36)
        try replace hb := hb.alloc (.cells #[] 36)
        go_simp
        refine hK.out _ _ ?_ (fun hN => ?_)
        · first | exact hT | exact hS | exact hS.alloc hS.size _ | exact hS.drew
        clear hK K
        try clear hT
        clear hS
        have hS := hN
        clear hN
        refine wpAnyH_ready (rs := [3, 5]) (by kernel_rfl) (by simp) ?_
        refine AllReadyH.cons (i := 3) rfl ?_ ?_
        · intro K hK
          obtain ⟨g3, cap3, W3, hr3, ho3, hg3⟩ := HAM.out _ _ _ ho hS
          have hg3l := (ho.lt _ rfl).1
          have hT := grown_fresh hS hg3 hg3l
          replace hnb := hnb.grown hg3 (by intro e; injection e with e; have := HS2.out; omega)
          try replace hb := hb.grown hg3 (by intro e; injection e with e; omega)
          rw [Nat.zero_add] at hr3 ho3
          rw [List.nil_append] at ho3
          refine step_run_g (by kernel_rfl) _ _ (by rfl) (by rfl) (by rfl) hr3 ?_
          clear hr3 hg3 ho hg3l
          refine hK.out _ _ ?_ (fun hN => ?_)
          · first | exact hT | exact hS | exact hS.alloc hS.size _ | exact hS.drew
          clear hK K
          try clear hT
          clear hS
          have hS := hN
          clear hN
          refine wpAnyH_ready (rs := [5]) (by kernel_rfl) (by simp) ?_
          refine AllReadyH.cons (i := 5) rfl ?_ AllReadyH.nil
          intro K hK
          go_simp
          first
          | have hb := made_as hS (s := w2.heap.size) 36 #[.int .i64 mm.fr, .int .i64 mm.tt, .int .i64 mm.kd, .int .i64 mm.vol, .int .i64 mm.life, .int .u64 mm.id, .int .i64 mm.cd, .bool mm.has, .int .u64 mm.key, .int .u32 mm.ck, .bool mm.g, .slice mm.a mm.n mm.c] rfl
          | have hb := made_as hS (s := w2.heap.size + 1) 36 #[.int .i64 mm.fr, .int .i64 mm.tt, .int .i64 mm.kd, .int .i64 mm.vol, .int .i64 mm.life, .int .u64 mm.id, .int .i64 mm.cd, .bool mm.has, .int .u64 mm.key, .int .u32 mm.ck, .bool mm.g, .slice mm.a mm.n mm.c] (by simp)
          | have hb := made_as hS 36 #[.int .i64 mm.fr, .int .i64 mm.tt, .int .i64 mm.kd, .int .i64 mm.vol, .int .i64 mm.life, .int .u64 mm.id, .int .i64 mm.cd, .bool mm.has, .int .u64 mm.key, .int .u32 mm.ck, .bool mm.g, .slice mm.a mm.n mm.c] rfl
          have hT := grown_trans hS (World.grownBy_alloc _ (.cells #[.int .i64 mm.fr, .int .i64 mm.tt, .int .i64 mm.kd, .int .i64 mm.vol, .int .i64 mm.life, .int .u64 mm.id, .int .i64 mm.cd, .bool mm.has, .int .u64 mm.key, .int .u32 mm.ck, .bool mm.g, .slice mm.a mm.n mm.c] 36) _)
          replace hnb := hnb.alloc (.cells #[.int .i64 mm.fr, .int .i64 mm.tt, .int .i64 mm.kd, .int .i64 mm.vol, .int .i64 mm.life, .int .u64 mm.id, .int .i64 mm.cd, .bool mm.has, .int .u64 mm.key, .int .u32 mm.ck, .bool mm.g, .slice mm.a mm.n mm.c] 36)
          try replace ho := ho.alloc (.cells #[.int .i64 mm.fr, .int .i64 mm.tt, .int .i64 mm.kd, .int .i64 mm.vol, .int .i64 mm.life, .int .u64 mm.id, .int .i64 mm.cd, .bool mm.has, .int .u64 mm.key, .int .u32 mm.ck, .bool mm.g, .slice mm.a mm.n mm.c] 36)
          try replace ho3 := ho3.alloc (.cells #[.int .i64 mm.fr, .int .i64 mm.tt, .int .i64 mm.kd, .int .i64 mm.vol, .int .i64 mm.life, .int .u64 mm.id, .int .i64 mm.cd, .bool mm.has, .int .u64 mm.key, .int .u32 mm.ck, .bool mm.g, .slice mm.a mm.n mm.c] 36)
          go_simp
          refine hK.out _ _ ?_ (fun hN => ?_)
          · first | exact hT | exact hS | exact hS.alloc hS.size _ | exact hS.drew
          clear hK K
          try clear hT
          clear hS
          have hS := hN
          clear hN
          refine wpAnyH_ready (rs := [6]) (by kernel_rfl) (by simp) ?_
          refine AllReadyH.cons (i := 6) rfl ?_ AllReadyH.nil
          intro K hK
          obtain ⟨g5, cap5, W5, hr5, ho5, hg5⟩ := HA1.out _ _ _ _ ho3 hb hS
          have hg5l := (ho3.lt _ rfl).1
          have hT := grown_fresh hS hg5 hg5l
          replace hnb := hnb.grown hg5 (by intro e; injection e with e; have := HS2.out; omega)
          have d0 := hnb.cell 0
          have f0 := hnb.frozen 0
          refine step_run_g (by kernel_rfl) _ _ (by rfl) (by rfl) (by rfl) hr5 ?_
          clear hr5 hg5 ho3 hb hg5l
          refine hK.out _ _ ?_ (fun hN => ?_)
          · first | exact hT | exact hS | exact hS.alloc hS.size _ | exact hS.drew
          clear hK K
          try clear hT
          clear hS
          have hS := hN
          clear hN
          refine wpAnyH_take (i := 7) (v := ?_) rfl (by kernel_rfl) (by kernel_rfl) (by kernel_rfl) (fun _ _ _ h => h) (Or.inl ⟨by kernel_rfl, ?_⟩) hS ?_
          rotate_left
          · intro W hW; go_simp; try with_reducible rfl
          refine wpAnyH_ready (rs := [8]) (by kernel_rfl) (by simp) ?_
          refine AllReadyH.cons (i := 8) rfl ?_ AllReadyH.nil
          intro K hK
          have hT := grown_put hS 0 (.slice (some ⟨g5, 0, none⟩) (n + 1) cap5)
          have hnc := hnb.put 0 (.slice (some ⟨g5, 0, none⟩) (n + 1) cap5)
          have ho6 := row_far ho5 (grown_put (grown_refl _ _) 0 (.slice (some ⟨g5, 0, none⟩) (n + 1) cap5)) HS2.out
          go_simp
          clear d0 f0 hnb ho5
          refine hK.out _ _ ?_ (fun hN => ?_)
          · first | exact hT | exact hS | exact hS.alloc hS.size _ | exact hS.drew
          clear hK K
          try clear hT
          clear hS
          have hS := hN
          clear hN
          refine wpAnyH_done (by kernel_rfl) ?_ _
          go_simp
          have HSF := Lib.hid hS
          have HN6 := Lib.hid hnc
          have HO6 := Lib.hid ho6
          clear hS hnc ho6
          go_wp2_with fail
          go_meet
          exact ⟨rfl, _, _, HN6.out, HO6.out, HSF.out⟩
        refine AllReadyH.cons (i := 5) rfl ?_ AllReadyH.nil
        intro K hK
        go_simp
        first
        | have hb := made_as hS (s := w2.heap.size) 36 #[.int .i64 mm.fr, .int .i64 mm.tt, .int .i64 mm.kd, .int .i64 mm.vol, .int .i64 mm.life, .int .u64 mm.id, .int .i64 mm.cd, .bool mm.has, .int .u64 mm.key, .int .u32 mm.ck, .bool mm.g, .slice mm.a mm.n mm.c] rfl
        | have hb := made_as hS (s := w2.heap.size + 1) 36 #[.int .i64 mm.fr, .int .i64 mm.tt, .int .i64 mm.kd, .int .i64 mm.vol, .int .i64 mm.life, .int .u64 mm.id, .int .i64 mm.cd, .bool mm.has, .int .u64 mm.key, .int .u32 mm.ck, .bool mm.g, .slice mm.a mm.n mm.c] (by simp)
        | have hb := made_as hS 36 #[.int .i64 mm.fr, .int .i64 mm.tt, .int .i64 mm.kd, .int .i64 mm.vol, .int .i64 mm.life, .int .u64 mm.id, .int .i64 mm.cd, .bool mm.has, .int .u64 mm.key, .int .u32 mm.ck, .bool mm.g, .slice mm.a mm.n mm.c] rfl
        have hT := grown_trans hS (World.grownBy_alloc _ (.cells #[.int .i64 mm.fr, .int .i64 mm.tt, .int .i64 mm.kd, .int .i64 mm.vol, .int .i64 mm.life, .int .u64 mm.id, .int .i64 mm.cd, .bool mm.has, .int .u64 mm.key, .int .u32 mm.ck, .bool mm.g, .slice mm.a mm.n mm.c] 36) _)
        replace hnb := hnb.alloc (.cells #[.int .i64 mm.fr, .int .i64 mm.tt, .int .i64 mm.kd, .int .i64 mm.vol, .int .i64 mm.life, .int .u64 mm.id, .int .i64 mm.cd, .bool mm.has, .int .u64 mm.key, .int .u32 mm.ck, .bool mm.g, .slice mm.a mm.n mm.c] 36)
        try replace ho := ho.alloc (.cells #[.int .i64 mm.fr, .int .i64 mm.tt, .int .i64 mm.kd, .int .i64 mm.vol, .int .i64 mm.life, .int .u64 mm.id, .int .i64 mm.cd, .bool mm.has, .int .u64 mm.key, .int .u32 mm.ck, .bool mm.g, .slice mm.a mm.n mm.c] 36)
        try replace ho3 := ho3.alloc (.cells #[.int .i64 mm.fr, .int .i64 mm.tt, .int .i64 mm.kd, .int .i64 mm.vol, .int .i64 mm.life, .int .u64 mm.id, .int .i64 mm.cd, .bool mm.has, .int .u64 mm.key, .int .u32 mm.ck, .bool mm.g, .slice mm.a mm.n mm.c] 36)
        go_simp
        refine hK.out _ _ ?_ (fun hN => ?_)
        · first | exact hT | exact hS | exact hS.alloc hS.size _ | exact hS.drew
        clear hK K
        try clear hT
        clear hS
        have hS := hN
        clear hN
        refine wpAnyH_ready (rs := [3]) (by kernel_rfl) (by simp) ?_
        refine AllReadyH.cons (i := 3) rfl ?_ AllReadyH.nil
        intro K hK
        obtain ⟨g3, cap3, W3, hr3, ho3, hg3⟩ := HAM.out _ _ _ ho hS
        have hg3l := (ho.lt _ rfl).1
        have hT := grown_fresh hS hg3 hg3l
        replace hnb := hnb.grown hg3 (by intro e; injection e with e; have := HS2.out; omega)
        try replace hb := hb.grown hg3 (by intro e; injection e with e; omega)
        rw [Nat.zero_add] at hr3 ho3
        rw [List.nil_append] at ho3
        refine step_run_g (by kernel_rfl) _ _ (by rfl) (by rfl) (by rfl) hr3 ?_
        clear hr3 hg3 ho hg3l
        refine hK.out _ _ ?_ (fun hN => ?_)
        · first | exact hT | exact hS | exact hS.alloc hS.size _ | exact hS.drew
        clear hK K
        try clear hT
        clear hS
        have hS := hN
        clear hN
        refine wpAnyH_ready (rs := [6]) (by kernel_rfl) (by simp) ?_
        refine AllReadyH.cons (i := 6) rfl ?_ AllReadyH.nil
        intro K hK
        obtain ⟨g5, cap5, W5, hr5, ho5, hg5⟩ := HA1.out _ _ _ _ ho3 hb hS
        have hg5l := (ho3.lt _ rfl).1
        have hT := grown_fresh hS hg5 hg5l
        replace hnb := hnb.grown hg5 (by intro e; injection e with e; have := HS2.out; omega)
        have d0 := hnb.cell 0
        have f0 := hnb.frozen 0
        refine step_run_g (by kernel_rfl) _ _ (by rfl) (by rfl) (by rfl) hr5 ?_
        clear hr5 hg5 ho3 hb hg5l
        refine hK.out _ _ ?_ (fun hN => ?_)
        · first | exact hT | exact hS | exact hS.alloc hS.size _ | exact hS.drew
        clear hK K
        try clear hT
        clear hS
        have hS := hN
        clear hN
        refine wpAnyH_take (i := 7) (v := ?_) rfl (by kernel_rfl) (by kernel_rfl) (by kernel_rfl) (fun _ _ _ h => h) (Or.inl ⟨by kernel_rfl, ?_⟩) hS ?_
        rotate_left
        · intro W hW; go_simp; try with_reducible rfl
        refine wpAnyH_ready (rs := [8]) (by kernel_rfl) (by simp) ?_
        refine AllReadyH.cons (i := 8) rfl ?_ AllReadyH.nil
        intro K hK
        have hT := grown_put hS 0 (.slice (some ⟨g5, 0, none⟩) (n + 1) cap5)
        have hnc := hnb.put 0 (.slice (some ⟨g5, 0, none⟩) (n + 1) cap5)
        have ho6 := row_far ho5 (grown_put (grown_refl _ _) 0 (.slice (some ⟨g5, 0, none⟩) (n + 1) cap5)) HS2.out
        go_simp
        clear d0 f0 hnb ho5
        refine hK.out _ _ ?_ (fun hN => ?_)
        · first | exact hT | exact hS | exact hS.alloc hS.size _ | exact hS.drew
        clear hK K
        try clear hT
        clear hS
        have hS := hN
        clear hN
        refine wpAnyH_done (by kernel_rfl) ?_ _
        go_simp
        have HSF := Lib.hid hS
        have HN6 := Lib.hid hnc
        have HO6 := Lib.hid ho6
        clear hS hnc ho6
        go_wp2_with fail
        go_meet
        exact ⟨rfl, _, _, HN6.out, HO6.out, HSF.out⟩
      refine AllReadyH.cons (i := 5) rfl ?_ AllReadyH.nil
      intro K hK
      go_simp
      first
      | have hb := made_as hS (s := w2.heap.size) 36 #[.int .i64 mm.fr, .int .i64 mm.tt, .int .i64 mm.kd, .int .i64 mm.vol, .int .i64 mm.life, .int .u64 mm.id, .int .i64 mm.cd, .bool mm.has, .int .u64 mm.key, .int .u32 mm.ck, .bool mm.g, .slice mm.a mm.n mm.c] rfl
      | have hb := made_as hS (s := w2.heap.size + 1) 36 #[.int .i64 mm.fr, .int .i64 mm.tt, .int .i64 mm.kd, .int .i64 mm.vol, .int .i64 mm.life, .int .u64 mm.id, .int .i64 mm.cd, .bool mm.has, .int .u64 mm.key, .int .u32 mm.ck, .bool mm.g, .slice mm.a mm.n mm.c] (by simp)
      | have hb := made_as hS 36 #[.int .i64 mm.fr, .int .i64 mm.tt, .int .i64 mm.kd, .int .i64 mm.vol, .int .i64 mm.life, .int .u64 mm.id, .int .i64 mm.cd, .bool mm.has, .int .u64 mm.key, .int .u32 mm.ck, .bool mm.g, .slice mm.a mm.n mm.c] rfl
      have hT := grown_trans hS (World.grownBy_alloc _ (.cells #[.int .i64 mm.fr, .int .i64 mm.tt, .int .i64 mm.kd, .int .i64 mm.vol, .int .i64 mm.life, .int .u64 mm.id, .int .i64 mm.cd, .bool mm.has, .int .u64 mm.key, .int .u32 mm.ck, .bool mm.g, .slice mm.a mm.n mm.c] 36) _)
      replace hnb := hnb.alloc (.cells #[.int .i64 mm.fr, .int .i64 mm.tt, .int .i64 mm.kd, .int .i64 mm.vol, .int .i64 mm.life, .int .u64 mm.id, .int .i64 mm.cd, .bool mm.has, .int .u64 mm.key, .int .u32 mm.ck, .bool mm.g, .slice mm.a mm.n mm.c] 36)
      try replace ho := ho.alloc (.cells #[.int .i64 mm.fr, .int .i64 mm.tt, .int .i64 mm.kd, .int .i64 mm.vol, .int .i64 mm.life, .int .u64 mm.id, .int .i64 mm.cd, .bool mm.has, .int .u64 mm.key, .int .u32 mm.ck, .bool mm.g, .slice mm.a mm.n mm.c] 36)
      try replace ho3 := ho3.alloc (.cells #[.int .i64 mm.fr, .int .i64 mm.tt, .int .i64 mm.kd, .int .i64 mm.vol, .int .i64 mm.life, .int .u64 mm.id, .int .i64 mm.cd, .bool mm.has, .int .u64 mm.key, .int .u32 mm.ck, .bool mm.g, .slice mm.a mm.n mm.c] 36)
      go_simp
      refine hK.out _ _ ?_ (fun hN => ?_)
      · first | exact hT | exact hS | exact hS.alloc hS.size _ | exact hS.drew
      clear hK K
      try clear hT
      clear hS
      have hS := hN
      clear hN
      refine wpAnyH_ready (rs := [0]) (by kernel_rfl) (by simp) ?_
      refine AllReadyH.cons (i := 0) rfl ?_ AllReadyH.nil
      intro K hK
      go_simp
      first
      | have ho := own_new (base := w2.heap.size) (s := w2.heap.size) 36 hS.size rfl
      | have ho := own_new (base := w2.heap.size) (s := w2.heap.size + 1) 36 hS.size (by simp)
      have hT := grown_trans hS (World.grownBy_alloc _ (.cells #[] 36) _)
      replace hnb := hnb.alloc (.cells #[] 36)
      try replace hb := hb.alloc (.cells #[] 36)
      go_simp
      refine hK.out _ _ ?_ (fun hN => ?_)
      · first | exact hT | exact hS | exact hS.alloc hS.size _ | exact hS.drew
      clear hK K
      try clear hT
      clear hS
      have hS := hN
      clear hN
      refine wpAnyH_ready (rs := [3]) (by kernel_rfl) (by simp) ?_
      refine AllReadyH.cons (i := 3) rfl ?_ AllReadyH.nil
      intro K hK
      obtain ⟨g3, cap3, W3, hr3, ho3, hg3⟩ := HAM.out _ _ _ ho hS
      have hg3l := (ho.lt _ rfl).1
      have hT := grown_fresh hS hg3 hg3l
      replace hnb := hnb.grown hg3 (by intro e; injection e with e; have := HS2.out; omega)
      try replace hb := hb.grown hg3 (by intro e; injection e with e; omega)
      rw [Nat.zero_add] at hr3 ho3
      rw [List.nil_append] at ho3
      refine step_run_g (by kernel_rfl) _ _ (by rfl) (by rfl) (by rfl) hr3 ?_
      clear hr3 hg3 ho hg3l
      refine hK.out _ _ ?_ (fun hN => ?_)
      · first | exact hT | exact hS | exact hS.alloc hS.size _ | exact hS.drew
      clear hK K
      try clear hT
      clear hS
      have hS := hN
      clear hN
      refine wpAnyH_ready (rs := [6]) (by kernel_rfl) (by simp) ?_
      refine AllReadyH.cons (i := 6) rfl ?_ AllReadyH.nil
      intro K hK
      obtain ⟨g5, cap5, W5, hr5, ho5, hg5⟩ := HA1.out _ _ _ _ ho3 hb hS
      have hg5l := (ho3.lt _ rfl).1
      have hT := grown_fresh hS hg5 hg5l
      replace hnb := hnb.grown hg5 (by intro e; injection e with e; have := HS2.out; omega)
      have d0 := hnb.cell 0
      have f0 := hnb.frozen 0
      refine step_run_g (by kernel_rfl) _ _ (by rfl) (by rfl) (by rfl) hr5 ?_
      clear hr5 hg5 ho3 hb hg5l
      refine hK.out _ _ ?_ (fun hN => ?_)
      · first | exact hT | exact hS | exact hS.alloc hS.size _ | exact hS.drew
      clear hK K
      try clear hT
      clear hS
      have hS := hN
      clear hN
      refine wpAnyH_take (i := 7) (v := ?_) rfl (by kernel_rfl) (by kernel_rfl) (by kernel_rfl) (fun _ _ _ h => h) (Or.inl ⟨by kernel_rfl, ?_⟩) hS ?_
      rotate_left
      · intro W hW; go_simp; try with_reducible rfl
      refine wpAnyH_ready (rs := [8]) (by kernel_rfl) (by simp) ?_
      refine AllReadyH.cons (i := 8) rfl ?_ AllReadyH.nil
      intro K hK
      have hT := grown_put hS 0 (.slice (some ⟨g5, 0, none⟩) (n + 1) cap5)
      have hnc := hnb.put 0 (.slice (some ⟨g5, 0, none⟩) (n + 1) cap5)
      have ho6 := row_far ho5 (grown_put (grown_refl _ _) 0 (.slice (some ⟨g5, 0, none⟩) (n + 1) cap5)) HS2.out
      go_simp
      clear d0 f0 hnb ho5
      refine hK.out _ _ ?_ (fun hN => ?_)
      · first | exact hT | exact hS | exact hS.alloc hS.size _ | exact hS.drew
      clear hK K
      try clear hT
      clear hS
      have hS := hN
      clear hN
      refine wpAnyH_done (by kernel_rfl) ?_ _
      go_simp
      have HSF := Lib.hid hS
      have HN6 := Lib.hid hnc
      have HO6 := Lib.hid ho6
      clear hS hnc ho6
      go_wp2_with fail
      go_meet
      exact ⟨rfl, _, _, HN6.out, HO6.out, HSF.out⟩
    refine AllReadyH.cons (i := 5) rfl ?_ AllReadyH.nil
    intro K hK
    go_simp
    first
    | have hb := made_as hS (s := w2.heap.size) 36 #[.int .i64 mm.fr, .int .i64 mm.tt, .int .i64 mm.kd, .int .i64 mm.vol, .int .i64 mm.life, .int .u64 mm.id, .int .i64 mm.cd, .bool mm.has, .int .u64 mm.key, .int .u32 mm.ck, .bool mm.g, .slice mm.a mm.n mm.c] rfl
    | have hb := made_as hS (s := w2.heap.size + 1) 36 #[.int .i64 mm.fr, .int .i64 mm.tt, .int .i64 mm.kd, .int .i64 mm.vol, .int .i64 mm.life, .int .u64 mm.id, .int .i64 mm.cd, .bool mm.has, .int .u64 mm.key, .int .u32 mm.ck, .bool mm.g, .slice mm.a mm.n mm.c] (by simp)
    | have hb := made_as hS 36 #[.int .i64 mm.fr, .int .i64 mm.tt, .int .i64 mm.kd, .int .i64 mm.vol, .int .i64 mm.life, .int .u64 mm.id, .int .i64 mm.cd, .bool mm.has, .int .u64 mm.key, .int .u32 mm.ck, .bool mm.g, .slice mm.a mm.n mm.c] rfl
    have hT := grown_trans hS (World.grownBy_alloc _ (.cells #[.int .i64 mm.fr, .int .i64 mm.tt, .int .i64 mm.kd, .int .i64 mm.vol, .int .i64 mm.life, .int .u64 mm.id, .int .i64 mm.cd, .bool mm.has, .int .u64 mm.key, .int .u32 mm.ck, .bool mm.g, .slice mm.a mm.n mm.c] 36) _)
    replace hnb := hnb.alloc (.cells #[.int .i64 mm.fr, .int .i64 mm.tt, .int .i64 mm.kd, .int .i64 mm.vol, .int .i64 mm.life, .int .u64 mm.id, .int .i64 mm.cd, .bool mm.has, .int .u64 mm.key, .int .u32 mm.ck, .bool mm.g, .slice mm.a mm.n mm.c] 36)
    try replace ho := ho.alloc (.cells #[.int .i64 mm.fr, .int .i64 mm.tt, .int .i64 mm.kd, .int .i64 mm.vol, .int .i64 mm.life, .int .u64 mm.id, .int .i64 mm.cd, .bool mm.has, .int .u64 mm.key, .int .u32 mm.ck, .bool mm.g, .slice mm.a mm.n mm.c] 36)
    try replace ho3 := ho3.alloc (.cells #[.int .i64 mm.fr, .int .i64 mm.tt, .int .i64 mm.kd, .int .i64 mm.vol, .int .i64 mm.life, .int .u64 mm.id, .int .i64 mm.cd, .bool mm.has, .int .u64 mm.key, .int .u32 mm.ck, .bool mm.g, .slice mm.a mm.n mm.c] 36)
    go_simp
    refine hK.out _ _ ?_ (fun hN => ?_)
    · first | exact hT | exact hS | exact hS.alloc hS.size _ | exact hS.drew
    clear hK K
    try clear hT
    clear hS
    have hS := hN
    clear hN
    refine wpAnyH_ready (rs := [0, 2]) (by kernel_rfl) (by simp) ?_
    refine AllReadyH.cons (i := 0) rfl ?_ ?_
    · intro K hK
      go_simp
      first
      | have ho := own_new (base := w2.heap.size) (s := w2.heap.size) 36 hS.size rfl
      | have ho := own_new (base := w2.heap.size) (s := w2.heap.size + 1) 36 hS.size (by simp)
      have hT := grown_trans hS (World.grownBy_alloc _ (.cells #[] 36) _)
      replace hnb := hnb.alloc (.cells #[] 36)
      try replace hb := hb.alloc (.cells #[] 36)
      go_simp
      refine hK.out _ _ ?_ (fun hN => ?_)
      · first | exact hT | exact hS | exact hS.alloc hS.size _ | exact hS.drew
      clear hK K
      try clear hT
      clear hS
      have hS := hN
      clear hN
      refine wpAnyH_ready (rs := [2]) (by kernel_rfl) (by simp) ?_
      refine AllReadyH.cons (i := 2) rfl ?_ AllReadyH.nil
      intro K hK
      go_simp
      refine hK.out _ _ ?_ (fun hN => ?_)
      · first | exact hT | exact hS | exact hS.alloc hS.size _ | exact hS.drew
      clear hK K
      try clear hT
      clear hS
      have hS := hN
      clear hN
      refine wpAnyH_ready (rs := [3]) (by kernel_rfl) (by simp) ?_
      refine AllReadyH.cons (i := 3) rfl ?_ AllReadyH.nil
      intro K hK
      obtain ⟨g3, cap3, W3, hr3, ho3, hg3⟩ := HAM.out _ _ _ ho hS
      have hg3l := (ho.lt _ rfl).1
      have hT := grown_fresh hS hg3 hg3l
      replace hnb := hnb.grown hg3 (by intro e; injection e with e; have := HS2.out; omega)
      try replace hb := hb.grown hg3 (by intro e; injection e with e; omega)
      rw [Nat.zero_add] at hr3 ho3
      rw [List.nil_append] at ho3
      refine step_run_g (by kernel_rfl) _ _ (by rfl) (by rfl) (by rfl) hr3 ?_
      clear hr3 hg3 ho hg3l
      refine hK.out _ _ ?_ (fun hN => ?_)
      · first | exact hT | exact hS | exact hS.alloc hS.size _ | exact hS.drew
      clear hK K
      try clear hT
      clear hS
      have hS := hN
      clear hN
      refine wpAnyH_ready (rs := [6]) (by kernel_rfl) (by simp) ?_
      refine AllReadyH.cons (i := 6) rfl ?_ AllReadyH.nil
      intro K hK
      obtain ⟨g5, cap5, W5, hr5, ho5, hg5⟩ := HA1.out _ _ _ _ ho3 hb hS
      have hg5l := (ho3.lt _ rfl).1
      have hT := grown_fresh hS hg5 hg5l
      replace hnb := hnb.grown hg5 (by intro e; injection e with e; have := HS2.out; omega)
      have d0 := hnb.cell 0
      have f0 := hnb.frozen 0
      refine step_run_g (by kernel_rfl) _ _ (by rfl) (by rfl) (by rfl) hr5 ?_
      clear hr5 hg5 ho3 hb hg5l
      refine hK.out _ _ ?_ (fun hN => ?_)
      · first | exact hT | exact hS | exact hS.alloc hS.size _ | exact hS.drew
      clear hK K
      try clear hT
      clear hS
      have hS := hN
      clear hN
      refine wpAnyH_take (i := 7) (v := ?_) rfl (by kernel_rfl) (by kernel_rfl) (by kernel_rfl) (fun _ _ _ h => h) (Or.inl ⟨by kernel_rfl, ?_⟩) hS ?_
      rotate_left
      · intro W hW; go_simp; try with_reducible rfl
      refine wpAnyH_ready (rs := [8]) (by kernel_rfl) (by simp) ?_
      refine AllReadyH.cons (i := 8) rfl ?_ AllReadyH.nil
      intro K hK
      have hT := grown_put hS 0 (.slice (some ⟨g5, 0, none⟩) (n + 1) cap5)
      have hnc := hnb.put 0 (.slice (some ⟨g5, 0, none⟩) (n + 1) cap5)
      have ho6 := row_far ho5 (grown_put (grown_refl _ _) 0 (.slice (some ⟨g5, 0, none⟩) (n + 1) cap5)) HS2.out
      go_simp
      clear d0 f0 hnb ho5
      refine hK.out _ _ ?_ (fun hN => ?_)
      · first | exact hT | exact hS | exact hS.alloc hS.size _ | exact hS.drew
      clear hK K
      try clear hT
      clear hS
      have hS := hN
      clear hN
      refine wpAnyH_done (by kernel_rfl) ?_ _
      go_simp
      have HSF := Lib.hid hS
      have HN6 := Lib.hid hnc
      have HO6 := Lib.hid ho6
      clear hS hnc ho6
      go_wp2_with fail
      go_meet
      exact ⟨rfl, _, _, HN6.out, HO6.out, HSF.out⟩
    refine AllReadyH.cons (i := 2) rfl ?_ AllReadyH.nil
    intro K hK
    go_simp
    refine hK.out _ _ ?_ (fun hN => ?_)
    · first | exact hT | exact hS | exact hS.alloc hS.size _ | exact hS.drew
    clear hK K
    try clear hT
    clear hS
    have hS := hN
    clear hN
    refine wpAnyH_ready (rs := [0]) (by kernel_rfl) (by simp) ?_
    refine AllReadyH.cons (i := 0) rfl ?_ AllReadyH.nil
    intro K hK
    go_simp
    first
    | have ho := own_new (base := w2.heap.size) (s := w2.heap.size) 36 hS.size rfl
    | have ho := own_new (base := w2.heap.size) (s := w2.heap.size + 1) 36 hS.size (by simp)
    have hT := grown_trans hS (World.grownBy_alloc _ (.cells #[] 36) _)
    replace hnb := hnb.alloc (.cells #[] 36)
    try replace hb := hb.alloc (.cells #[] 36)
    go_simp
    refine hK.out _ _ ?_ (fun hN => ?_)
    · first | exact hT | exact hS | exact hS.alloc hS.size _ | exact hS.drew
    clear hK K
    try clear hT
    clear hS
    have hS := hN
    clear hN
    refine wpAnyH_ready (rs := [3]) (by kernel_rfl) (by simp) ?_
    refine AllReadyH.cons (i := 3) rfl ?_ AllReadyH.nil
    intro K hK
    obtain ⟨g3, cap3, W3, hr3, ho3, hg3⟩ := HAM.out _ _ _ ho hS
    have hg3l := (ho.lt _ rfl).1
    have hT := grown_fresh hS hg3 hg3l
    replace hnb := hnb.grown hg3 (by intro e; injection e with e; have := HS2.out; omega)
    try replace hb := hb.grown hg3 (by intro e; injection e with e; omega)
    rw [Nat.zero_add] at hr3 ho3
    rw [List.nil_append] at ho3
    refine step_run_g (by kernel_rfl) _ _ (by rfl) (by rfl) (by rfl) hr3 ?_
    clear hr3 hg3 ho hg3l
    refine hK.out _ _ ?_ (fun hN => ?_)
    · first | exact hT | exact hS | exact hS.alloc hS.size _ | exact hS.drew
    clear hK K
    try clear hT
    clear hS
    have hS := hN
    clear hN
    refine wpAnyH_ready (rs := [6]) (by kernel_rfl) (by simp) ?_
    refine AllReadyH.cons (i := 6) rfl ?_ AllReadyH.nil
    intro K hK
    obtain ⟨g5, cap5, W5, hr5, ho5, hg5⟩ := HA1.out _ _ _ _ ho3 hb hS
    have hg5l := (ho3.lt _ rfl).1
    have hT := grown_fresh hS hg5 hg5l
    replace hnb := hnb.grown hg5 (by intro e; injection e with e; have := HS2.out; omega)
    have d0 := hnb.cell 0
    have f0 := hnb.frozen 0
    refine step_run_g (by kernel_rfl) _ _ (by rfl) (by rfl) (by rfl) hr5 ?_
    clear hr5 hg5 ho3 hb hg5l
    refine hK.out _ _ ?_ (fun hN => ?_)
    · first | exact hT | exact hS | exact hS.alloc hS.size _ | exact hS.drew
    clear hK K
    try clear hT
    clear hS
    have hS := hN
    clear hN
    refine wpAnyH_take (i := 7) (v := ?_) rfl (by kernel_rfl) (by kernel_rfl) (by kernel_rfl) (fun _ _ _ h => h) (Or.inl ⟨by kernel_rfl, ?_⟩) hS ?_
    rotate_left
    · intro W hW; go_simp; try with_reducible rfl
    refine wpAnyH_ready (rs := [8]) (by kernel_rfl) (by simp) ?_
    refine AllReadyH.cons (i := 8) rfl ?_ AllReadyH.nil
    intro K hK
    have hT := grown_put hS 0 (.slice (some ⟨g5, 0, none⟩) (n + 1) cap5)
    have hnc := hnb.put 0 (.slice (some ⟨g5, 0, none⟩) (n + 1) cap5)
    have ho6 := row_far ho5 (grown_put (grown_refl _ _) 0 (.slice (some ⟨g5, 0, none⟩) (n + 1) cap5)) HS2.out
    go_simp
    clear d0 f0 hnb ho5
    refine hK.out _ _ ?_ (fun hN => ?_)
    · first | exact hT | exact hS | exact hS.alloc hS.size _ | exact hS.drew
    clear hK K
    try clear hT
    clear hS
    have hS := hN
    clear hN
    refine wpAnyH_done (by kernel_rfl) ?_ _
    go_simp
    have HSF := Lib.hid hS
    have HN6 := Lib.hid hnc
    have HO6 := Lib.hid ho6
    clear hS hnc ho6
    go_wp2_with fail
    go_meet
    exact ⟨rfl, _, _, HN6.out, HO6.out, HSF.out⟩
  case rest =>
    obtain ⟨rfl, g5, cap5, hnb6, ho6, hg6⟩ := hcut
    have HBC := Lib.hid (HB2.out.trans (grown_below hg6 HB2.out.size (Nat.le_refl _)))
    have F0 := Lib.hid hnb6
    have F2 := Lib.hid (G2.out.grown hg6 (by intro e; injection e with e; omega))
    have F3 := Lib.hid (G3.out.grown hg6 (by intro e; injection e with e; omega))
    have F4 := Lib.hid (G4.out.grown hg6 (by intro e; injection e with e; omega))
    have HO6 := Lib.hid ho6
    have HR2 := Lib.hid (show w.heap.size + 1 + 1 < w2.heap.size from G2.out.lt)
    have HR3 := Lib.hid (show w.heap.size + 1 + 1 + 1 < w2.heap.size from G3.out.lt)
    clear hnb6 ho6 hg6 L0 L1 L2 L3 L4 hnb n0
    go_upto_region 39 with fail
    have n0 := F0.out.cell 0
    have n1 := F0.out.cell 1
    obtain ⟨z0, z1, z2, z3, z4, z5, z6, z7, z8, z9, z10, z11⟩ := F4.out.twelve
    have s0 := F2.out.cell 0
    have s1 := F2.out.cell 1
    have t0 := F2.out.frozen 0
    have t1 := F2.out.frozen 1
    obtain ⟨y0, y1, y2, y3, y4, y5, y6, y7, y8, y9, y10, y11⟩ := F3.out.twelve
    obtain ⟨f0, f1, f2, f3, f4, f5, f6, f7, f8, f9, f10, f11⟩ := F3.out.twelve_frozen
    go_region
    all_goals
      go_wp2_with fail
      have hr := ret_put (B := w.heap.size) F2.out F3.out (by omega) (by omega) HBC.out.size (.slice (some ⟨g5, 0, none⟩) (n + 1) cap5) (.slice ca k cc) (.int .i64 0) (.int .i64 0) (.int .i64 0) (.int .i64 0) (.int .i64 0) (.int .u64 0) (.int .i64 0) (.bool false) (.int .u64 0) (.int .u32 0) (.bool false) (.slice none 0 0)
      have hB := (HBC.out.trans hr.2.2).drew
      exact bodyPost_ret (do_results hr.1.drew hr.2.1.drew rfl rfl rfl) rfl (by rw [HOO.out]; exact ⟨hB, _, _, _, _, _, _, rfl, rnet_own (ret_row HO6.out HR2.out HR3.out).drew (by rw [List.length_append, HL.out]; rfl) (mem_snoc HH.out.m HMM.out) hB HH.out (own_le HO6.out)⟩)
set_option maxRecDepth 100000 in
set_option maxHeartbeats 8000000 in
theorem do_lose (b off : Nat) (n lc : Nat) (ca : Option Addr) (k cc : Nat) (DL : List MsgR) (DC : List (Int × Int)) (x : ActR) (w : World) (h : RNet w (some ⟨b, off, none⟩) n lc ca k cc DL DC) (hx : AIn w w.heap.size x) (hn : n ≤ 1000) (hk : k ≤ 1000) (hkd : x.kd = 2) (hr : 0 ≤ x.i ∧ x.i < n) :
    Calls Try.prog 33 #[.agg #[.slice (some ⟨b, off, none⟩) n lc, .slice ca k cc], .agg #[.int .i64 x.kd, .int .i64 x.i, .int .i64 x.k, .int .i64 x.m.fr, .int .i64 x.m.tt, .int .i64 x.m.kd, .int .i64 x.m.vol, .int .i64 x.m.life, .int .u64 x.m.id, .int .i64 x.m.cd, .bool x.m.has, .int .u64 x.m.key, .int .u32 x.m.ck, .bool x.m.g, .slice x.m.a x.m.n x.m.c]] w (DoP (docDo DL DC x) w) := by
  have HH := Lib.hid h
  have HX := Lib.hid hx
  have HL := Lib.hid h.m.1
  have HLC := Lib.hid h.c.1
  obtain ⟨b0, b1, b2, b3, b4, bb⟩ := made_five w 73 66 73 36 36 #[.slice (some ⟨b, off, none⟩) n lc, .slice ca k cc] #[.int .i64 x.kd, .int .i64 x.i, .int .i64 x.k, .int .i64 x.m.fr, .int .i64 x.m.tt, .int .i64 x.m.kd, .int .i64 x.m.vol, .int .i64 x.m.life, .int .u64 x.m.id, .int .i64 x.m.cd, .bool x.m.has, .int .u64 x.m.key, .int .u32 x.m.ck, .bool x.m.g, .slice x.m.a x.m.n x.m.c] #[.slice none 0 0, .slice none 0 0] #[.int .i64 0, .int .i64 0, .int .i64 0, .int .i64 0, .int .i64 0, .int .u64 0, .int .i64 0, .bool false, .int .u64 0, .int .u32 0, .bool false, .slice none 0 0] #[.int .i64 0, .int .i64 0, .int .i64 0, .int .i64 0, .int .i64 0, .int .u64 0, .int .i64 0, .bool false, .int .u64 0, .int .u32 0, .bool false, .slice none 0 0]
  have H0 := Lib.hid b0
  have H1 := Lib.hid b1
  have H2 := Lib.hid b2
  have H3 := Lib.hid b3
  have H4 := Lib.hid b4
  have HB := Lib.hid bb
  clear h hx b0 b1 b2 b3 b4 bb
  obtain ⟨j, hj⟩ := Int.eq_ofNat_of_zero_le hr.1
  have hjn : j < n := by omega
  obtain ⟨mm, hmm⟩ : ∃ mm, DL.getD j mNone = mm := ⟨_, rfl⟩
  have HMM := Lib.hid (show MIn w w.heap.size mm from by rw [← hmm]; exact HH.out.m.2.1 j hjn)
  have HO : docDo DL DC x = (if x.kd = 1 then (if dAp DC mm.fr mm.tt = true then (DL, DC, mNone, 17) else (DL.eraseIdx j, DC, mm, 0)) else if x.kd = 2 then (DL.eraseIdx j, DC, mNone, 0) else (DL ++ [mm], DC, mNone, 0)) := by
    unfold docDo
    rw [if_neg (by omega), if_neg (by omega), if_pos (by rw [HL.out]; exact hr), show x.i.toNat = j from by omega, hmm, if_neg (show ¬ 4096 ≤ DL.length by rw [HL.out]; omega)]
  have y0 : (x.kd == 0) = false := by rw [beq_eq_false_iff_ne]; omega
  have y4 : decide (4 ≤ x.kd) = false := decide_eq_false (by omega)
  have z0 : decide (x.i < 0) = false := decide_eq_false (by omega)
  have z1 : decide ((n : Int) ≤ x.i) = false := decide_eq_false (by omega)
  have hjl : j < DL.length := by rw [HL.out]; exact hjn
  have HEL := Lib.hid (show (DL.eraseIdx j).length = n - 1 from by rw [List.length_eraseIdx, if_pos hjl, HL.out])
  obtain ⟨b', off', hab, -, g0, g1, g2, g3, g4, g5, g6, g7, g8, g9, g10, g11⟩ := (HH.out.m.below HB.out).at_ hjn hmm
  injection hab with hab
  injection hab with hab1 hab2
  subst hab1 hab2
  have HOO := Lib.hid (show docDo DL DC x = (DL.eraseIdx j, DC, mNone, 0) from by rw [HO, if_neg (by omega), if_pos hkd])
  have y1 : (x.kd == 1) = false := by rw [hkd]; rfl
  have y2 : (x.kd == 2) = true := by rw [hkd]; rfl
  have HJN := Lib.hid hjn
  clear HO hr hmm hjl hkd
  generalize hxi : x.i = xi at *
  subst hj
  clear hxi
  have hxj : (j : Int) < (n : Int) := by omega
  go_enter Try.func33, Try.ntmps33
  go_upto_region 2 with fail
  generalize (((((w.alloc (.cells #[.slice (some ⟨b, off, none⟩) n lc, .slice ca k cc] 73)).alloc (.cells #[.int .i64 x.kd, .int .i64 (j : Int), .int .i64 x.k, .int .i64 x.m.fr, .int .i64 x.m.tt, .int .i64 x.m.kd, .int .i64 x.m.vol, .int .i64 x.m.life, .int .u64 x.m.id, .int .i64 x.m.cd, .bool x.m.has, .int .u64 x.m.key, .int .u32 x.m.ck, .bool x.m.g, .slice x.m.a x.m.n x.m.c] 66)).alloc (.cells #[.slice none 0 0, .slice none 0 0] 73)).alloc (.cells #[.int .i64 0, .int .i64 0, .int .i64 0, .int .i64 0, .int .i64 0, .int .u64 0, .int .i64 0, .bool false, .int .u64 0, .int .u32 0, .bool false, .slice none 0 0] 36)).alloc (.cells #[.int .i64 0, .int .i64 0, .int .i64 0, .int .i64 0, .int .i64 0, .int .u64 0, .int .i64 0, .bool false, .int .u64 0, .int .u32 0, .bool false, .slice none 0 0] 36)) = W1 at *
  obtain ⟨k0, k1, k2, k3, k4, k5, k6, k7, k8, k9, k10, k11, k12, k13, k14⟩ := act_cells H1.out
  have n0 := H0.out.cell 0
  have BA := (Below.refl W1.heap.size W1).alloc (Nat.le_refl _) (.cells #[.int .i64 mm.fr, .int .i64 mm.tt, .int .i64 mm.kd, .int .i64 mm.vol, .int .i64 mm.life, .int .u64 mm.id, .int .i64 mm.cd, .bool mm.has, .int .u64 mm.key, .int .u32 mm.ck, .bool mm.g, .slice mm.a mm.n mm.c] 36)
  have HB2 := Lib.hid (HB.out.trans (BA.mono HB.out.size))
  have G0 := Lib.hid (H0.out.below BA H0.out.lt)
  have G1 := Lib.hid (H1.out.below BA H1.out.lt)
  have G2 := Lib.hid (H2.out.below BA H2.out.lt)
  have G3 := Lib.hid (H3.out.below BA H3.out.lt)
  have G4 := Lib.hid (H4.out.below BA H4.out.lt)
  have G5 := Lib.hid (Blk.made W1 36 #[.int .i64 mm.fr, .int .i64 mm.tt, .int .i64 mm.kd, .int .i64 mm.vol, .int .i64 mm.life, .int .u64 mm.id, .int .i64 mm.cd, .bool mm.has, .int .u64 mm.key, .int .u32 mm.ck, .bool mm.g, .slice mm.a mm.n mm.c])
  have HZ := Lib.hid (show w.heap.size + 1 + 1 + 1 + 1 < W1.heap.size from H4.out.lt)
  clear BA
  go_upto_region 27 with fail
  generalize (W1.alloc (.cells #[.int .i64 mm.fr, .int .i64 mm.tt, .int .i64 mm.kd, .int .i64 mm.vol, .int .i64 mm.life, .int .u64 mm.id, .int .i64 mm.cd, .bool mm.has, .int .u64 mm.key, .int .u32 mm.ck, .bool mm.g, .slice mm.a mm.n mm.c] 36)) = w2 at *
  clear g0 g1 g2 g3 g4 g5 g6 g7 g8 g9 g10 g11 n0 k0 k1 k2 k3 k4 k5 k6 k7 k8 k9 k10 k11 k12 k13 k14
  obtain ⟨k0, k1, k2, k3, k4, k5, k6, k7, k8, k9, k10, k11, k12, k13, k14⟩ := act_cells G1.out
  have EW := Lib.hid (without_any j (some ⟨b, off, none⟩) n lc DL w2 ((HH.out.m.below HB2.out).more HB2.out.size) HH.out.nc (by omega) HJN.out)
  have n0 := G0.out.cell 0
  go_wp2_with fail
  refine EW.out.mono ?_
  rintro e w4 ⟨a', c', rfl, ho4, hc4, B4⟩
  have HB4 := Lib.hid (HB2.out.trans (B4.mono HB2.out.size))
  have E0 := Lib.hid (G0.out.below B4 G0.out.lt)
  have E2 := Lib.hid (G2.out.below B4 G2.out.lt)
  have E3 := Lib.hid (G3.out.below B4 G3.out.lt)
  have E4 := Lib.hid (G4.out.below B4 G4.out.lt)
  have E5 := Lib.hid (G5.out.below B4 G5.out.lt)
  have HO4 := Lib.hid ho4
  have HR2 := Lib.hid (show w.heap.size + 1 + 1 < w2.heap.size from G2.out.lt)
  have HR3 := Lib.hid (show w.heap.size + 1 + 1 + 1 < w2.heap.size from G3.out.lt)
  have d0 := E0.out.cell 0
  have f0 := E0.out.frozen 0
  clear B4 ho4 hc4 EW n0 k0 k1 k2 k3 k4 k5 k6 k7 k8 k9 k10 k11 k12 k13 k14
  go_upto_region 35 with fail
  have hg : w4.grownBy (w4.setCell ⟨w.heap.size, 0, none⟩ (.slice a' (n - 1) c')) (some w.heap.size) := grown_put (grown_refl _ _) 0 _
  have F0 := Lib.hid (show Blk (w4.setCell ⟨w.heap.size, 0, none⟩ (.slice a' (n - 1) c')) w.heap.size 73 #[.slice a' (n - 1) c', .slice ca k cc] from E0.out.put 0 _)
  have F2 := Lib.hid (E2.out.grown hg (by intro e; injection e with e; omega))
  have F3 := Lib.hid (E3.out.grown hg (by intro e; injection e with e; omega))
  have F4 := Lib.hid (E4.out.grown hg (by intro e; injection e with e; omega))
  have F5 := Lib.hid (E5.out.grown hg (by intro e; injection e with e; have := HZ.out; omega))
  have HO6 := Lib.hid (row_far HO4.out hg (by have := HR2.out; omega))
  have HBC := Lib.hid (HB4.out.setCell (p := ⟨w.heap.size, 0, none⟩) (Nat.le_refl _) (.slice a' (n - 1) c'))
  generalize (w4.setCell ⟨w.heap.size, 0, none⟩ (.slice a' (n - 1) c')) = w5 at *
  clear hg d0 f0
  have n0 := F0.out.cell 0
  have n1 := F0.out.cell 1
  obtain ⟨z0, z1, z2, z3, z4, z5, z6, z7, z8, z9, z10, z11⟩ := F4.out.twelve
  have s0 := F2.out.cell 0
  have s1 := F2.out.cell 1
  have t0 := F2.out.frozen 0
  have t1 := F2.out.frozen 1
  obtain ⟨y0, y1, y2, y3, y4, y5, y6, y7, y8, y9, y10, y11⟩ := F3.out.twelve
  obtain ⟨f0, f1, f2, f3, f4, f5, f6, f7, f8, f9, f10, f11⟩ := F3.out.twelve_frozen
  go_region
  all_goals
    go_wp2_with fail
    have hr := ret_put (B := w.heap.size) F2.out F3.out (by omega) (by omega) HBC.out.size (.slice a' (n - 1) c') (.slice ca k cc) (.int .i64 0) (.int .i64 0) (.int .i64 0) (.int .i64 0) (.int .i64 0) (.int .u64 0) (.int .i64 0) (.bool false) (.int .u64 0) (.int .u32 0) (.bool false) (.slice none 0 0)
    have hB := (HBC.out.trans hr.2.2).drew
    exact bodyPost_ret (do_results hr.1.drew hr.2.1.drew rfl rfl rfl) rfl (by rw [HOO.out]; exact ⟨hB, _, _, _, _, _, _, rfl, rnet_own (ret_row HO6.out HR2.out HR3.out).drew HEL.out (fun q hq => mem_of_msl HH.out.m q (List.mem_of_mem_eraseIdx hq)) hB HH.out (own_le HO6.out) rfl⟩)
set_option maxRecDepth 100000 in
set_option maxHeartbeats 8000000 in
theorem do_take_cut (b off : Nat) (n lc : Nat) (ca : Option Addr) (k cc : Nat) (DL : List MsgR) (DC : List (Int × Int)) (x : ActR) (w : World) (h : RNet w (some ⟨b, off, none⟩) n lc ca k cc DL DC) (hx : AIn w w.heap.size x) (hn : n ≤ 1000) (hk : k ≤ 1000) (hkd : x.kd = 1) (hap : dAp DC (DL.getD x.i.toNat mNone).fr (DL.getD x.i.toNat mNone).tt = true) (hr : 0 ≤ x.i ∧ x.i < n) :
    Calls Try.prog 33 #[.agg #[.slice (some ⟨b, off, none⟩) n lc, .slice ca k cc], .agg #[.int .i64 x.kd, .int .i64 x.i, .int .i64 x.k, .int .i64 x.m.fr, .int .i64 x.m.tt, .int .i64 x.m.kd, .int .i64 x.m.vol, .int .i64 x.m.life, .int .u64 x.m.id, .int .i64 x.m.cd, .bool x.m.has, .int .u64 x.m.key, .int .u32 x.m.ck, .bool x.m.g, .slice x.m.a x.m.n x.m.c]] w (DoP (docDo DL DC x) w) := by
  have HH := Lib.hid h
  have HX := Lib.hid hx
  have HL := Lib.hid h.m.1
  have HLC := Lib.hid h.c.1
  obtain ⟨b0, b1, b2, b3, b4, bb⟩ := made_five w 73 66 73 36 36 #[.slice (some ⟨b, off, none⟩) n lc, .slice ca k cc] #[.int .i64 x.kd, .int .i64 x.i, .int .i64 x.k, .int .i64 x.m.fr, .int .i64 x.m.tt, .int .i64 x.m.kd, .int .i64 x.m.vol, .int .i64 x.m.life, .int .u64 x.m.id, .int .i64 x.m.cd, .bool x.m.has, .int .u64 x.m.key, .int .u32 x.m.ck, .bool x.m.g, .slice x.m.a x.m.n x.m.c] #[.slice none 0 0, .slice none 0 0] #[.int .i64 0, .int .i64 0, .int .i64 0, .int .i64 0, .int .i64 0, .int .u64 0, .int .i64 0, .bool false, .int .u64 0, .int .u32 0, .bool false, .slice none 0 0] #[.int .i64 0, .int .i64 0, .int .i64 0, .int .i64 0, .int .i64 0, .int .u64 0, .int .i64 0, .bool false, .int .u64 0, .int .u32 0, .bool false, .slice none 0 0]
  have H0 := Lib.hid b0
  have H1 := Lib.hid b1
  have H2 := Lib.hid b2
  have H3 := Lib.hid b3
  have H4 := Lib.hid b4
  have HB := Lib.hid bb
  clear h hx b0 b1 b2 b3 b4 bb
  obtain ⟨j, hj⟩ := Int.eq_ofNat_of_zero_le hr.1
  have hjn : j < n := by omega
  obtain ⟨mm, hmm⟩ : ∃ mm, DL.getD j mNone = mm := ⟨_, rfl⟩
  have HMM := Lib.hid (show MIn w w.heap.size mm from by rw [← hmm]; exact HH.out.m.2.1 j hjn)
  have HO : docDo DL DC x = (if x.kd = 1 then (if dAp DC mm.fr mm.tt = true then (DL, DC, mNone, 17) else (DL.eraseIdx j, DC, mm, 0)) else if x.kd = 2 then (DL.eraseIdx j, DC, mNone, 0) else (DL ++ [mm], DC, mNone, 0)) := by
    unfold docDo
    rw [if_neg (by omega), if_neg (by omega), if_pos (by rw [HL.out]; exact hr), show x.i.toNat = j from by omega, hmm, if_neg (show ¬ 4096 ≤ DL.length by rw [HL.out]; omega)]
  have y0 : (x.kd == 0) = false := by rw [beq_eq_false_iff_ne]; omega
  have y4 : decide (4 ≤ x.kd) = false := decide_eq_false (by omega)
  have z0 : decide (x.i < 0) = false := decide_eq_false (by omega)
  have z1 : decide ((n : Int) ≤ x.i) = false := decide_eq_false (by omega)
  have hjl : j < DL.length := by rw [HL.out]; exact hjn
  have HEL := Lib.hid (show (DL.eraseIdx j).length = n - 1 from by rw [List.length_eraseIdx, if_pos hjl, HL.out])
  obtain ⟨b', off', hab, -, g0, g1, g2, g3, g4, g5, g6, g7, g8, g9, g10, g11⟩ := (HH.out.m.below HB.out).at_ hjn hmm
  injection hab with hab
  injection hab with hab1 hab2
  subst hab1 hab2
  have hap2 : dAp DC mm.fr mm.tt = true := by rw [show x.i.toNat = j from by omega, hmm] at hap; exact hap
  have HOO := Lib.hid (show docDo DL DC x = (DL, DC, mNone, 17) from by rw [HO, if_pos hkd, if_pos hap2])
  have y1 : (x.kd == 1) = true := by rw [hkd]; rfl
  have EA := Lib.hid fun (W : World) (B : Below w.heap.size w W) => rapart_any mm.fr mm.tt (some ⟨b, off, none⟩) n lc ca k cc DC W ((HH.out.c.below B).more B.size) (by omega)
  rw [hap2] at EA
  have HJN := Lib.hid hjn
  clear HO hr hmm hjl hkd hap hap2
  generalize hxi : x.i = xi at *
  subst hj
  clear hxi
  have hxj : (j : Int) < (n : Int) := by omega
  go_enter Try.func33, Try.ntmps33
  go_upto_region 2 with fail
  generalize (((((w.alloc (.cells #[.slice (some ⟨b, off, none⟩) n lc, .slice ca k cc] 73)).alloc (.cells #[.int .i64 x.kd, .int .i64 (j : Int), .int .i64 x.k, .int .i64 x.m.fr, .int .i64 x.m.tt, .int .i64 x.m.kd, .int .i64 x.m.vol, .int .i64 x.m.life, .int .u64 x.m.id, .int .i64 x.m.cd, .bool x.m.has, .int .u64 x.m.key, .int .u32 x.m.ck, .bool x.m.g, .slice x.m.a x.m.n x.m.c] 66)).alloc (.cells #[.slice none 0 0, .slice none 0 0] 73)).alloc (.cells #[.int .i64 0, .int .i64 0, .int .i64 0, .int .i64 0, .int .i64 0, .int .u64 0, .int .i64 0, .bool false, .int .u64 0, .int .u32 0, .bool false, .slice none 0 0] 36)).alloc (.cells #[.int .i64 0, .int .i64 0, .int .i64 0, .int .i64 0, .int .i64 0, .int .u64 0, .int .i64 0, .bool false, .int .u64 0, .int .u32 0, .bool false, .slice none 0 0] 36)) = W1 at *
  obtain ⟨k0, k1, k2, k3, k4, k5, k6, k7, k8, k9, k10, k11, k12, k13, k14⟩ := act_cells H1.out
  have n0 := H0.out.cell 0
  have BA := (Below.refl W1.heap.size W1).alloc (Nat.le_refl _) (.cells #[.int .i64 mm.fr, .int .i64 mm.tt, .int .i64 mm.kd, .int .i64 mm.vol, .int .i64 mm.life, .int .u64 mm.id, .int .i64 mm.cd, .bool mm.has, .int .u64 mm.key, .int .u32 mm.ck, .bool mm.g, .slice mm.a mm.n mm.c] 36)
  have HB2 := Lib.hid (HB.out.trans (BA.mono HB.out.size))
  have G0 := Lib.hid (H0.out.below BA H0.out.lt)
  have G1 := Lib.hid (H1.out.below BA H1.out.lt)
  have G2 := Lib.hid (H2.out.below BA H2.out.lt)
  have G3 := Lib.hid (H3.out.below BA H3.out.lt)
  have G4 := Lib.hid (H4.out.below BA H4.out.lt)
  have G5 := Lib.hid (Blk.made W1 36 #[.int .i64 mm.fr, .int .i64 mm.tt, .int .i64 mm.kd, .int .i64 mm.vol, .int .i64 mm.life, .int .u64 mm.id, .int .i64 mm.cd, .bool mm.has, .int .u64 mm.key, .int .u32 mm.ck, .bool mm.g, .slice mm.a mm.n mm.c])
  have HZ := Lib.hid (show w.heap.size + 1 + 1 + 1 + 1 < W1.heap.size from H4.out.lt)
  clear BA
  go_upto_region 27 with fail
  generalize (W1.alloc (.cells #[.int .i64 mm.fr, .int .i64 mm.tt, .int .i64 mm.kd, .int .i64 mm.vol, .int .i64 mm.life, .int .u64 mm.id, .int .i64 mm.cd, .bool mm.has, .int .u64 mm.key, .int .u32 mm.ck, .bool mm.g, .slice mm.a mm.n mm.c] 36)) = w2 at *
  clear g0 g1 g2 g3 g4 g5 g6 g7 g8 g9 g10 g11 n0 k0 k1 k2 k3 k4 k5 k6 k7 k8 k9 k10 k11 k12 k13 k14
  obtain ⟨k0, k1, k2, k3, k4, k5, k6, k7, k8, k9, k10, k11, k12, k13, k14⟩ := act_cells G1.out
  have n0 := G0.out.cell 0
  have n1 := G0.out.cell 1
  obtain ⟨p0, p1, p2, p3, p4, p5, p6, p7, p8, p9, p10, p11⟩ := G5.out.twelve
  go_wp2_with fail
  refine (EA.out _ HB2.out).mono ?_
  rintro e w3 ⟨rfl, B3⟩
  have HB3 := Lib.hid (HB2.out.trans (B3.mono HB2.out.size))
  have Q0 := Lib.hid (G0.out.below B3 G0.out.lt)
  have Q1 := Lib.hid (G1.out.below B3 G1.out.lt)
  have Q2 := Lib.hid (G2.out.below B3 G2.out.lt)
  have Q3 := Lib.hid (G3.out.below B3 G3.out.lt)
  have Q4 := Lib.hid (G4.out.below B3 G4.out.lt)
  have Q5 := Lib.hid (G5.out.below B3 G5.out.lt)
  clear B3 n0 n1 p0 p1 p2 p3 p4 p5 p6 p7 p8 p9 p10 p11 k0 k1 k2 k3 k4 k5 k6 k7 k8 k9 k10 k11 k12 k13 k14 EA
  obtain ⟨k0, k1, k2, k3, k4, k5, k6, k7, k8, k9, k10, k11, k12, k13, k14⟩ := act_cells Q1.out
  clear k0 k1 k2 k3 k4 k5 k6 k7 k8 k9 k10 k11 k12 k13 k14
  go_upto_region 30 with fail
  have n0 := Q0.out.cell 0
  have n1 := Q0.out.cell 1
  obtain ⟨z0, z1, z2, z3, z4, z5, z6, z7, z8, z9, z10, z11⟩ := Q4.out.twelve
  have s0 := Q2.out.cell 0
  have s1 := Q2.out.cell 1
  have t0 := Q2.out.frozen 0
  have t1 := Q2.out.frozen 1
  obtain ⟨y0, y1, y2, y3, y4, y5, y6, y7, y8, y9, y10, y11⟩ := Q3.out.twelve
  obtain ⟨f0, f1, f2, f3, f4, f5, f6, f7, f8, f9, f10, f11⟩ := Q3.out.twelve_frozen
  go_region
  all_goals
    go_wp2_with fail
    have hr := ret_put (B := w.heap.size) Q2.out Q3.out (by omega) (by omega) HB3.out.size (.slice (some ⟨b, off, none⟩) n lc) (.slice ca k cc) (.int .i64 0) (.int .i64 0) (.int .i64 0) (.int .i64 0) (.int .i64 0) (.int .u64 0) (.int .i64 0) (.bool false) (.int .u64 0) (.int .u32 0) (.bool false) (.slice none 0 0)
    have hB := (HB3.out.trans hr.2.2).drew
    exact bodyPost_ret (do_results hr.1.drew hr.2.1.drew rfl rfl rfl) rfl (by rw [HOO.out]; exact ⟨hB, _, _, _, _, _, _, rfl, HH.out.on hB⟩)
set_option maxRecDepth 100000 in
set_option maxHeartbeats 8000000 in
theorem do_take_ok (b off : Nat) (n lc : Nat) (ca : Option Addr) (k cc : Nat) (DL : List MsgR) (DC : List (Int × Int)) (x : ActR) (w : World) (h : RNet w (some ⟨b, off, none⟩) n lc ca k cc DL DC) (hx : AIn w w.heap.size x) (hn : n ≤ 1000) (hk : k ≤ 1000) (hkd : x.kd = 1) (hap : dAp DC (DL.getD x.i.toNat mNone).fr (DL.getD x.i.toNat mNone).tt = false) (hr : 0 ≤ x.i ∧ x.i < n) :
    Calls Try.prog 33 #[.agg #[.slice (some ⟨b, off, none⟩) n lc, .slice ca k cc], .agg #[.int .i64 x.kd, .int .i64 x.i, .int .i64 x.k, .int .i64 x.m.fr, .int .i64 x.m.tt, .int .i64 x.m.kd, .int .i64 x.m.vol, .int .i64 x.m.life, .int .u64 x.m.id, .int .i64 x.m.cd, .bool x.m.has, .int .u64 x.m.key, .int .u32 x.m.ck, .bool x.m.g, .slice x.m.a x.m.n x.m.c]] w (DoP (docDo DL DC x) w) := by
  have HH := Lib.hid h
  have HX := Lib.hid hx
  have HL := Lib.hid h.m.1
  have HLC := Lib.hid h.c.1
  obtain ⟨b0, b1, b2, b3, b4, bb⟩ := made_five w 73 66 73 36 36 #[.slice (some ⟨b, off, none⟩) n lc, .slice ca k cc] #[.int .i64 x.kd, .int .i64 x.i, .int .i64 x.k, .int .i64 x.m.fr, .int .i64 x.m.tt, .int .i64 x.m.kd, .int .i64 x.m.vol, .int .i64 x.m.life, .int .u64 x.m.id, .int .i64 x.m.cd, .bool x.m.has, .int .u64 x.m.key, .int .u32 x.m.ck, .bool x.m.g, .slice x.m.a x.m.n x.m.c] #[.slice none 0 0, .slice none 0 0] #[.int .i64 0, .int .i64 0, .int .i64 0, .int .i64 0, .int .i64 0, .int .u64 0, .int .i64 0, .bool false, .int .u64 0, .int .u32 0, .bool false, .slice none 0 0] #[.int .i64 0, .int .i64 0, .int .i64 0, .int .i64 0, .int .i64 0, .int .u64 0, .int .i64 0, .bool false, .int .u64 0, .int .u32 0, .bool false, .slice none 0 0]
  have H0 := Lib.hid b0
  have H1 := Lib.hid b1
  have H2 := Lib.hid b2
  have H3 := Lib.hid b3
  have H4 := Lib.hid b4
  have HB := Lib.hid bb
  clear h hx b0 b1 b2 b3 b4 bb
  obtain ⟨j, hj⟩ := Int.eq_ofNat_of_zero_le hr.1
  have hjn : j < n := by omega
  obtain ⟨mm, hmm⟩ : ∃ mm, DL.getD j mNone = mm := ⟨_, rfl⟩
  have HMM := Lib.hid (show MIn w w.heap.size mm from by rw [← hmm]; exact HH.out.m.2.1 j hjn)
  have HO : docDo DL DC x = (if x.kd = 1 then (if dAp DC mm.fr mm.tt = true then (DL, DC, mNone, 17) else (DL.eraseIdx j, DC, mm, 0)) else if x.kd = 2 then (DL.eraseIdx j, DC, mNone, 0) else (DL ++ [mm], DC, mNone, 0)) := by
    unfold docDo
    rw [if_neg (by omega), if_neg (by omega), if_pos (by rw [HL.out]; exact hr), show x.i.toNat = j from by omega, hmm, if_neg (show ¬ 4096 ≤ DL.length by rw [HL.out]; omega)]
  have y0 : (x.kd == 0) = false := by rw [beq_eq_false_iff_ne]; omega
  have y4 : decide (4 ≤ x.kd) = false := decide_eq_false (by omega)
  have z0 : decide (x.i < 0) = false := decide_eq_false (by omega)
  have z1 : decide ((n : Int) ≤ x.i) = false := decide_eq_false (by omega)
  have hjl : j < DL.length := by rw [HL.out]; exact hjn
  have HEL := Lib.hid (show (DL.eraseIdx j).length = n - 1 from by rw [List.length_eraseIdx, if_pos hjl, HL.out])
  obtain ⟨b', off', hab, -, g0, g1, g2, g3, g4, g5, g6, g7, g8, g9, g10, g11⟩ := (HH.out.m.below HB.out).at_ hjn hmm
  injection hab with hab
  injection hab with hab1 hab2
  subst hab1 hab2
  have hap2 : dAp DC mm.fr mm.tt = false := by rw [show x.i.toNat = j from by omega, hmm] at hap; exact hap
  have HOO := Lib.hid (show docDo DL DC x = (DL.eraseIdx j, DC, mm, 0) from by rw [HO, if_pos hkd, if_neg (by rw [hap2]; decide)])
  have y1 : (x.kd == 1) = true := by rw [hkd]; rfl
  have EA := Lib.hid fun (W : World) (B : Below w.heap.size w W) => rapart_any mm.fr mm.tt (some ⟨b, off, none⟩) n lc ca k cc DC W ((HH.out.c.below B).more B.size) (by omega)
  rw [hap2] at EA
  have HJN := Lib.hid hjn
  clear HO hr hmm hjl hkd hap hap2
  generalize hxi : x.i = xi at *
  subst hj
  clear hxi
  have hxj : (j : Int) < (n : Int) := by omega
  go_enter Try.func33, Try.ntmps33
  go_upto_region 2 with fail
  generalize (((((w.alloc (.cells #[.slice (some ⟨b, off, none⟩) n lc, .slice ca k cc] 73)).alloc (.cells #[.int .i64 x.kd, .int .i64 (j : Int), .int .i64 x.k, .int .i64 x.m.fr, .int .i64 x.m.tt, .int .i64 x.m.kd, .int .i64 x.m.vol, .int .i64 x.m.life, .int .u64 x.m.id, .int .i64 x.m.cd, .bool x.m.has, .int .u64 x.m.key, .int .u32 x.m.ck, .bool x.m.g, .slice x.m.a x.m.n x.m.c] 66)).alloc (.cells #[.slice none 0 0, .slice none 0 0] 73)).alloc (.cells #[.int .i64 0, .int .i64 0, .int .i64 0, .int .i64 0, .int .i64 0, .int .u64 0, .int .i64 0, .bool false, .int .u64 0, .int .u32 0, .bool false, .slice none 0 0] 36)).alloc (.cells #[.int .i64 0, .int .i64 0, .int .i64 0, .int .i64 0, .int .i64 0, .int .u64 0, .int .i64 0, .bool false, .int .u64 0, .int .u32 0, .bool false, .slice none 0 0] 36)) = W1 at *
  obtain ⟨k0, k1, k2, k3, k4, k5, k6, k7, k8, k9, k10, k11, k12, k13, k14⟩ := act_cells H1.out
  have n0 := H0.out.cell 0
  have BA := (Below.refl W1.heap.size W1).alloc (Nat.le_refl _) (.cells #[.int .i64 mm.fr, .int .i64 mm.tt, .int .i64 mm.kd, .int .i64 mm.vol, .int .i64 mm.life, .int .u64 mm.id, .int .i64 mm.cd, .bool mm.has, .int .u64 mm.key, .int .u32 mm.ck, .bool mm.g, .slice mm.a mm.n mm.c] 36)
  have HB2 := Lib.hid (HB.out.trans (BA.mono HB.out.size))
  have G0 := Lib.hid (H0.out.below BA H0.out.lt)
  have G1 := Lib.hid (H1.out.below BA H1.out.lt)
  have G2 := Lib.hid (H2.out.below BA H2.out.lt)
  have G3 := Lib.hid (H3.out.below BA H3.out.lt)
  have G4 := Lib.hid (H4.out.below BA H4.out.lt)
  have G5 := Lib.hid (Blk.made W1 36 #[.int .i64 mm.fr, .int .i64 mm.tt, .int .i64 mm.kd, .int .i64 mm.vol, .int .i64 mm.life, .int .u64 mm.id, .int .i64 mm.cd, .bool mm.has, .int .u64 mm.key, .int .u32 mm.ck, .bool mm.g, .slice mm.a mm.n mm.c])
  have HZ := Lib.hid (show w.heap.size + 1 + 1 + 1 + 1 < W1.heap.size from H4.out.lt)
  clear BA
  go_upto_region 27 with fail
  generalize (W1.alloc (.cells #[.int .i64 mm.fr, .int .i64 mm.tt, .int .i64 mm.kd, .int .i64 mm.vol, .int .i64 mm.life, .int .u64 mm.id, .int .i64 mm.cd, .bool mm.has, .int .u64 mm.key, .int .u32 mm.ck, .bool mm.g, .slice mm.a mm.n mm.c] 36)) = w2 at *
  clear g0 g1 g2 g3 g4 g5 g6 g7 g8 g9 g10 g11 n0 k0 k1 k2 k3 k4 k5 k6 k7 k8 k9 k10 k11 k12 k13 k14
  obtain ⟨k0, k1, k2, k3, k4, k5, k6, k7, k8, k9, k10, k11, k12, k13, k14⟩ := act_cells G1.out
  have n0 := G0.out.cell 0
  have n1 := G0.out.cell 1
  obtain ⟨p0, p1, p2, p3, p4, p5, p6, p7, p8, p9, p10, p11⟩ := G5.out.twelve
  go_wp2_with fail
  refine (EA.out _ HB2.out).mono ?_
  rintro e w3 ⟨rfl, B3⟩
  have HB3 := Lib.hid (HB2.out.trans (B3.mono HB2.out.size))
  have Q0 := Lib.hid (G0.out.below B3 G0.out.lt)
  have Q1 := Lib.hid (G1.out.below B3 G1.out.lt)
  have Q2 := Lib.hid (G2.out.below B3 G2.out.lt)
  have Q3 := Lib.hid (G3.out.below B3 G3.out.lt)
  have Q4 := Lib.hid (G4.out.below B3 G4.out.lt)
  have Q5 := Lib.hid (G5.out.below B3 G5.out.lt)
  clear B3 n0 n1 p0 p1 p2 p3 p4 p5 p6 p7 p8 p9 p10 p11 k0 k1 k2 k3 k4 k5 k6 k7 k8 k9 k10 k11 k12 k13 k14 EA
  obtain ⟨k0, k1, k2, k3, k4, k5, k6, k7, k8, k9, k10, k11, k12, k13, k14⟩ := act_cells Q1.out
  have e1 : W1.heap.size ≠ w.heap.size + 1 + 1 := by have := HZ.out; omega
  have e2 : w.heap.size + 1 + 1 ≠ W1.heap.size := by have := HZ.out; omega
  have e3 : W1.heap.size ≠ w.heap.size + 1 + 1 + 1 := by have := HZ.out; omega
  have e4 : w.heap.size + 1 + 1 + 1 ≠ W1.heap.size := by have := HZ.out; omega
  have EW := Lib.hid (without_any j (some ⟨b, off, none⟩) n lc DL w3 ((HH.out.m.below HB3.out).more HB3.out.size) HH.out.nc (by omega) HJN.out)
  have n0 := Q0.out.cell 0
  go_wp2_with fail
  refine EW.out.mono ?_
  rintro e w4 ⟨a', c', rfl, ho4, hc4, B4⟩
  have HB4 := Lib.hid (HB3.out.trans (B4.mono HB3.out.size))
  have E0 := Lib.hid (Q0.out.below B4 Q0.out.lt)
  have E2 := Lib.hid (Q2.out.below B4 Q2.out.lt)
  have E3 := Lib.hid (Q3.out.below B4 Q3.out.lt)
  have E4 := Lib.hid (Q4.out.below B4 Q4.out.lt)
  have E5 := Lib.hid (Q5.out.below B4 Q5.out.lt)
  have HO4 := Lib.hid ho4
  have HR2 := Lib.hid (show w.heap.size + 1 + 1 < w3.heap.size from Q2.out.lt)
  have HR3 := Lib.hid (show w.heap.size + 1 + 1 + 1 < w3.heap.size from Q3.out.lt)
  have d0 := E0.out.cell 0
  have f0 := E0.out.frozen 0
  clear B4 ho4 hc4 EW n0 k0 k1 k2 k3 k4 k5 k6 k7 k8 k9 k10 k11 k12 k13 k14
  go_upto_region 32 with fail
  have hg : w4.grownBy (w4.setCell ⟨w.heap.size, 0, none⟩ (.slice a' (n - 1) c')) (some w.heap.size) := grown_put (grown_refl _ _) 0 _
  have F0 := Lib.hid (show Blk (w4.setCell ⟨w.heap.size, 0, none⟩ (.slice a' (n - 1) c')) w.heap.size 73 #[.slice a' (n - 1) c', .slice ca k cc] from E0.out.put 0 _)
  have F2 := Lib.hid (E2.out.grown hg (by intro e; injection e with e; omega))
  have F3 := Lib.hid (E3.out.grown hg (by intro e; injection e with e; omega))
  have F4 := Lib.hid (E4.out.grown hg (by intro e; injection e with e; omega))
  have F5 := Lib.hid (E5.out.grown hg (by intro e; injection e with e; have := HZ.out; omega))
  have HO6 := Lib.hid (row_far HO4.out hg (by have := HR2.out; omega))
  have HBC := Lib.hid (HB4.out.setCell (p := ⟨w.heap.size, 0, none⟩) (Nat.le_refl _) (.slice a' (n - 1) c'))
  generalize (w4.setCell ⟨w.heap.size, 0, none⟩ (.slice a' (n - 1) c')) = w5 at *
  clear hg d0 f0
  have n0 := F0.out.cell 0
  have n1 := F0.out.cell 1
  obtain ⟨z0, z1, z2, z3, z4, z5, z6, z7, z8, z9, z10, z11⟩ := F5.out.twelve
  have s0 := F2.out.cell 0
  have s1 := F2.out.cell 1
  have t0 := F2.out.frozen 0
  have t1 := F2.out.frozen 1
  obtain ⟨y0, y1, y2, y3, y4, y5, y6, y7, y8, y9, y10, y11⟩ := F3.out.twelve
  obtain ⟨f0, f1, f2, f3, f4, f5, f6, f7, f8, f9, f10, f11⟩ := F3.out.twelve_frozen
  go_region
  all_goals
    go_wp2_with fail
    have hr := ret_put (B := w.heap.size) F2.out F3.out (by omega) (by omega) HBC.out.size (.slice a' (n - 1) c') (.slice ca k cc) (.int .i64 mm.fr) (.int .i64 mm.tt) (.int .i64 mm.kd) (.int .i64 mm.vol) (.int .i64 mm.life) (.int .u64 mm.id) (.int .i64 mm.cd) (.bool mm.has) (.int .u64 mm.key) (.int .u32 mm.ck) (.bool mm.g) (.slice mm.a mm.n mm.c)
    have hB := (HBC.out.trans hr.2.2).drew
    exact bodyPost_ret (do_results hr.1.drew hr.2.1.drew rfl rfl rfl) rfl (by rw [HOO.out]; exact ⟨hB, _, _, _, _, _, _, rfl, rnet_own (ret_row HO6.out HR2.out HR3.out).drew HEL.out (fun q hq => mem_of_msl HH.out.m q (List.mem_of_mem_eraseIdx hq)) hB HH.out (own_le HO6.out) rfl⟩)
end Go.Proofs.Ytpkfjnhjcdcoaaa
