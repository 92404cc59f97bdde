/-
  client.New.
-/
import Derived.Test.YtboadalojimdlaaClRun
namespace Go.Proofs.Ytboadalojimdlaa
open Go.RowKit

/-- May there be such an operation? -/
def rqM (o : OpR) (p : Int) : MsgR := ⟨o.fr, o.to p, o.kd, o.vol, o.lf p, o.id, 0, true, o.key, o.ck, o.g, o.a, o.n, o.c, o.l⟩
structure Rt (o : OpR) : Prop where
  kd : o.kd = 1 ∨ o.kd = 3 ∨ o.kd = 4
  g : o.g = false
  n0 : o.kd ≠ 1 → o.n = 0
  d01 : o.a0 ≠ o.a1
  d12 : o.a1 ≠ o.a2
  d02 : o.a0 ≠ o.a2
  c0 : mchk (rqM o 0) = 0
  c1 : mchk (rqM o 1) = 0
  c2 : mchk (rqM o 2) = 0
def newR (o : OpR) : RunR := ⟨o, 0, false, false, ndN, 0, ndN⟩
def atC (o : OpR) (a : Option Addr) (c : Nat) : OpR := { o with a := a, c := c }
theorem req_0 {r : RunR} (h : r.st = 0) (a : Option Addr) (c : Nat) : req r a c = ⟨r.o.fr, r.o.to (plc r), r.o.kd, r.o.vol, r.o.lf (plc r), r.o.id, 0, true, r.o.key, r.o.ck, r.o.g, a, r.o.n, c, r.o.l⟩ := by
  unfold req
  rw [if_pos h]
theorem req_s {r : RunR} (h : r.st ≠ 0) (a : Option Addr) (c : Nat) : req r a c = ⟨r.o.fr, r.o.to (plc r), 2, r.o.vol, r.o.lf (plc r), r.o.id, 0, true, r.y.key, r.y.ck, r.y.g, a, r.y.n, c, r.y.l⟩ := by
  unfold req
  rw [if_neg h]
theorem req_new {o : OpR} (h : Rt o) (a : Option Addr) (c : Nat) (av : Option Addr) (cv : Nat) : mchk (req (newR (atC o a c)) av cv) = 0 := by
  rw [req_0 rfl]
  rcases h.kd with hk | hk | hk
  · rw [show plc (newR (atC o a c)) = 0 from plc_n (by show o.kd ≠ 3; omega)]
    exact h.c0
  · rw [show plc (newR (atC o a c)) = 2 from plc_3 hk rfl]
    exact h.c2
  · rw [show plc (newR (atC o a c)) = 0 from plc_n (by show o.kd ≠ 3; omega)]
    exact h.c0
theorem req_new_at {o : OpR} (a : Option Addr) (c : Nat) (av : Option Addr) (cv : Nat) (p : Int) (h : mchk (rqM o p) = 0) : mchk { req (newR (atC o a c)) av cv with tt := o.to p, life := o.lf p } = 0 := by
  rw [req_0 rfl]
  exact h
def CNewP (w : World) (o : OpR) (e : Ending) (w' : World) : Prop :=
  ∃ B av cv, e = .returned (.tuple #[.pointer (some ⟨B, 0, none⟩), errc 0]) ∧ w.heap.size ≤ B ∧ RBl w' B (newR (atC o av cv)) ∧ Below w.heap.size w w'
theorem Blk.three {w : World} {g : Nat} {t : TypeId} {v0 v1 v2 : Value} (k : Blk w g t #[v0, v1, v2]) :
    w.cell? ⟨g, 0, none⟩ = some v0 ∧ w.cell? ⟨g, 1, none⟩ = some v1 ∧ w.cell? ⟨g, 2, none⟩ = some v2 := ⟨k.cell 0, k.cell 1, k.cell 2⟩
/-- At the loop's heads. -/
def CNewL (W : World) (O A B : Nat) (o oc : OpR) (wr : World) : Prop :=
  Below W.heap.size W wr ∧ Blk wr O 82 oc.cells.toArray ∧ Blk wr A 73 #[.int .i64 o.a0, .int .i64 o.a1, .int .i64 o.a2] ∧ RBl wr B (newR oc)

set_option maxRecDepth 100000 in
set_option maxHeartbeats 8000000 in
theorem cnew_ok {o : OpR} (w : World) (hr : Rt o) (hb : BOk w o.a o.n o.c o.l) : Calls Try.prog 38 #[o.vals] w (CNewP w o) := by
  obtain ⟨W1, hW1⟩ : ∃ W, w.alloc (.cells #[.int .i64 o.kd, .int .i64 o.fr, .int .i64 o.vol, .int .i64 o.a0, .int .i64 o.a1, .int .i64 o.a2, .int .u64 o.id, .int .i64 o.l0, .int .i64 o.l1, .int .i64 o.l2, .int .u64 o.key, .int .u32 o.ck, .bool o.g, .slice o.a o.n o.c] 82) = W := ⟨_, rfl⟩
  have HB1 := Lib.hid (show Below w.heap.size w W1 from by rw [← hW1]; exact (Below.refl _ _).alloc (Nat.le_refl _) _)
  have hO : Blk W1 w.heap.size 82 #[.int .i64 o.kd, .int .i64 o.fr, .int .i64 o.vol, .int .i64 o.a0, .int .i64 o.a1, .int .i64 o.a2, .int .u64 o.id, .int .i64 o.l0, .int .i64 o.l1, .int .i64 o.l2, .int .u64 o.key, .int .u32 o.ck, .bool o.g, .slice o.a o.n o.c] := by rw [← hW1]; exact Blk.made w _ _
  have HO1 := Lib.hid hO
  have HS1 := Lib.hid (show W1.heap.size = w.heap.size + 1 from by rw [← hW1]; simp)
  have HBM := Lib.hid (hb.on HB1.out)
  have HRT := Lib.hid hr
  have EB := Lib.hid (bclone_any o.a o.n o.c o.l W1 HBM.out.b HBM.out.nc HBM.out.le)
  have k13 : W1.cell? ⟨w.heap.size, 13, none⟩ = some (.slice o.a o.n o.c) := hO.cell 13
  clear hb hr hO
  unfold OpR.vals
  go_enter Try.func38, Try.ntmps38
  go_wp2_with fail
  refine EB.out.mono ?_
  rintro e w2 ⟨av, cv, rfl, hcv, ho, B2⟩
  have hO2 := HO1.out.below B2 HO1.out.lt
  have HB2 := Lib.hid (HB1.out.trans (B2.mono HB1.out.size))
  have HO2 := Lib.hid hO2
  have HOW := Lib.hid ho
  have HCV := Lib.hid hcv
  have c13 : w2.cell? ⟨w.heap.size, 13, none⟩ = some (.slice o.a o.n o.c) := hO2.cell 13
  have f13 := hO2.frozen 13
  try clear hW1
  clear hO2 ho hcv B2 EB k13
  go_upto_region 2 with fail
  obtain ⟨W3, hW3, hO3, hB3⟩ : ∃ X, w2.setCell ⟨w.heap.size, 13, none⟩ (.slice av o.n cv) = X ∧ Blk X w.heap.size 82 (atC o av cv).cells.toArray ∧ Below w.heap.size w X := ⟨_, rfl, HO2.out.put 13 _, HB2.out.setCell (p := ⟨w.heap.size, 13, none⟩) (Nat.le_refl _) _⟩
  have HOW3 := Lib.hid (show W3.ownsRow W1.heap.size 5 1 (.slice av o.n cv) o.n (o.l.map bv) from by rw [← hW3]; exact row_far HOW.out (grown_put (grown_refl _ _) 13 _) (by have := HS1.out; omega))
  have HO3 := Lib.hid hO3
  have HB3 := Lib.hid hB3
  have hc3 := op_cells hO3
  dsimp only [atC] at hc3
  obtain ⟨k0, k1, k2, k3, k4, k5, k6, k7, k8, k9, k10, k11, k12, k13⟩ := hc3
  rw [hW3]
  clear hW3 hO3 hB3 HO2 HB2 HOW c13 f13
  go_upto_region 3 with fail
  obtain ⟨W4, hW4, hk4, hs4, hz4⟩ : ∃ X, W3.alloc (.cells #[.int .i64 o.kd, .int .i64 o.fr, .int .i64 o.vol, .int .i64 o.a0, .int .i64 o.a1, .int .i64 o.a2, .int .u64 o.id, .int .i64 o.l0, .int .i64 o.l1, .int .i64 o.l2, .int .u64 o.key, .int .u32 o.ck, .bool o.g, .slice av o.n cv, .int .i64 0, .bool false, .bool false, .int .u64 0, .int .u32 0, .bool false, .slice none 0 0, .int .i64 0, .int .u64 0, .int .u32 0, .bool false, .slice none 0 0] 113) = X ∧ Blk X W3.heap.size 113 (newR (atC o av cv)).cells.toArray ∧ Below W3.heap.size W3 X ∧ X.heap.size = W3.heap.size + 1 := ⟨_, rfl, Blk.made W3 _ _, (Below.refl _ _).alloc (Nat.le_refl _) _, by simp⟩
  rw [hW4]
  clear hW4 k0 k1 k2 k3 k4 k5 k6 k7 k8 k9 k10 k11 k12 k13
  have hc4 := op_cells (HO3.out.below hs4 HO3.out.lt)
  dsimp only [atC] at hc4
  obtain ⟨-, -, -, k3, k4, k5, -⟩ := hc4
  have HK4 := Lib.hid hk4
  have HS4 := Lib.hid hs4
  have HZ4 := Lib.hid hz4
  clear hk4 hs4 hz4
  go_upto_region 4 with fail
  obtain ⟨W5, hW5, hk5, hs5⟩ : ∃ X, W4.alloc (.cells #[.int .i64 o.a0, .int .i64 o.a1, .int .i64 o.a2] 73) = X ∧ (Blk X W3.heap.size 113 (newR (atC o av cv)).cells.toArray ∧ Blk X W4.heap.size 73 #[.int .i64 o.a0, .int .i64 o.a1, .int .i64 o.a2]) ∧ Below W3.heap.size W3 X := ⟨_, rfl, ⟨HK4.out.alloc _, Blk.made _ _ _⟩, HS4.out.alloc HS4.out.size _⟩
  rw [hW5]
  rw [HZ4.out] at hk5
  have HLB := Lib.hid HB3.out.size
  clear k3 k4 k5 hW5
  have HB5 := Lib.hid (HB3.out.trans (hs5.mono HLB.out))
  have HO5 := Lib.hid (HO3.out.below hs5 HO3.out.lt)
  have HBO := Lib.hid (show BOk W5 av o.n cv o.l from ⟨bsl_own (own_below HOW3.out hs5 (Nat.le_refl _)), HCV.out, HBM.out.le⟩)
  try rw [HZ4.out]
  clear hs5 HB3 HO3 HOW3 HK4 HS4 HZ4
  generalize W3.heap.size = B at *
  have HR5 := Lib.hid (show RBl W5 B (newR (atC o av cv)) from ⟨hk5.1, HBO.out, BOk.nil _ _ _, BOk.nil _ _ _⟩)
  have HA5 := Lib.hid hk5.2
  clear hk5
  obtain ⟨k0, -, -, -, -, -, -, -, -, -, -, -, k12, k13⟩ := op_cells HO5.out
  obtain ⟨a0, a1, a2⟩ := HA5.out.three
  have hn0 : o.kd ≠ 1 → decide (0 < (o.n : Int)) = false := fun e => decide_eq_false (by have := HRT.out.n0 e; omega)
  rw [show (atC o av cv).g = false from HRT.out.g] at k12
  have b01 : (o.a0 == o.a1) = false := eq_f HRT.out.d01
  have b12 : (o.a1 == o.a2) = false := eq_f HRT.out.d12
  have b02 : (o.a0 == o.a2) = false := eq_f HRT.out.d02
  have ER := Lib.hid (request_any W5 HR5.out (Int.le_refl 0) (show (0 : Int) ≤ 2 by decide))
  have hkd := HRT.out.kd
  rcases hkd with hkd | hkd | hkd
  all_goals
    clear hn0
    have k0' : W5.cell? ⟨w.heap.size, 0, none⟩ = some (.int .i64 o.kd) := k0
    have k13' : W5.cell? ⟨w.heap.size, 13, none⟩ = some (.slice av o.n cv) := k13
    rw [hkd] at k0'
    try rw [HRT.out.n0 (by omega)] at k13'
    clear k0 k13 hkd
    go_wp2_with fail
    refine ER.out.mono ?_
    rintro e w6 ⟨aq, cq, rfl, hbq, -, B6⟩
    have HB6 := Lib.hid B6
    have EW := Lib.hid (wcheck_any (req (newR (atC o av cv)) aq cq) w6 hbq.b hbq.le)
    rw [req_new HRT.out av cv aq cq, show errc 0 = .nilIface from rfl] at EW
    clear hbq B6 ER
    generalize req (newR (atC o av cv)) aq cq = m at *
    unfold MsgR.vals at EW ⊢
    go_wp2_with fail
    refine EW.out.mono ?_
    rintro e w7 ⟨rfl, B7⟩
    have HB7 := Lib.hid (HB6.out.trans (B7.mono HB6.out.size))
    have HL7 := Lib.hid (show CNewL W5 w.heap.size (B + 1) B o (atC o av cv) w7 from ⟨HB7.out, HO5.out.below HB7.out HO5.out.lt, HA5.out.below HB7.out HA5.out.lt, HR5.out.on HB7.out⟩)
    clear B7 EW HB6 HB7 k0' k12 k13' a0 a1 a2 b01 b12 b02
    go_wp2_with fail
    go_loopw [64] (fun iv wr => ∃ i : Int, 0 ≤ i ∧ i ≤ 3 ∧ iv = .int .i64 i ∧ CNewL W5 w.heap.size (B + 1) B o (atC o av cv) wr) (fun iv _ => (3 - intOf iv).toNat)
    case atStart => exact ⟨0, by omega, by omega, rfl, HL7.out⟩
    case round =>
      obtain ⟨i, hi0, hi3, rfl, hB8, hO8, hA8, hR8⟩ := hrel
      have HB8 := Lib.hid hB8
      have HO8 := Lib.hid hO8
      have HA8 := Lib.hid hA8
      have HR8 := Lib.hid hR8
      clear hB8 hO8 hA8 hR8 HL7
      have h4 : i = 0 ∨ i = 1 ∨ i = 2 ∨ i = 3 := by omega
      rcases h4 with rfl | rfl | rfl | rfl
      · have ER := Lib.hid (request_any wr HR8.out (Int.le_refl 0) (show (0 : Int) ≤ 2 by decide))
        clear hi0 hi3
        go_wp2_with fail
        refine ER.out.mono ?_
        rintro e w9 ⟨aq, cq, rfl, hbq, -, B9⟩
        have HB9 := Lib.hid (HB8.out.trans (B9.mono HB8.out.size))
        have HO9 := Lib.hid (HO8.out.below B9 HO8.out.lt)
        have HA9 := Lib.hid (HA8.out.below B9 HA8.out.lt)
        have HR9 := Lib.hid (HR8.out.on B9)
        have HBQ := Lib.hid hbq
        have HCK := Lib.hid (req_new_at av cv aq cq 0 HRT.out.c0)
        obtain ⟨m, hm⟩ : ∃ m, req (newR (atC o av cv)) aq cq = m := ⟨_, rfl⟩
        have hq : (req (newR (atC o av cv)) aq cq).a = aq ∧ (req (newR (atC o av cv)) aq cq).c = cq := ⟨rfl, rfl⟩
        rw [hm] at HBQ HCK hq ⊢
        obtain ⟨rfl, rfl⟩ := hq
        clear hbq B9 ER HB8 HO8 HA8 HR8 hm
        unfold MsgR.vals
        go_upto_region 19 with fail
        obtain ⟨w10, hw10, hX, hB10⟩ : ∃ X, w9.alloc (.cells #[.int .i64 m.fr, .int .i64 m.tt, .int .i64 m.kd, .int .i64 m.vol, .int .i64 m.life, .int .u64 m.id, .int .i64 m.cd, .bool m.has, .int .u64 m.key, .int .u32 m.ck, .bool m.g, .slice m.a m.n m.c] 53) = X ∧ Blk X w9.heap.size 53 #[.int .i64 m.fr, .int .i64 m.tt, .int .i64 m.kd, .int .i64 m.vol, .int .i64 m.life, .int .u64 m.id, .int .i64 m.cd, .bool m.has, .int .u64 m.key, .int .u32 m.ck, .bool m.g, .slice m.a m.n m.c] ∧ Below w9.heap.size w9 X := ⟨_, rfl, Blk.made _ _ _, (Below.refl _ _).alloc (Nat.le_refl _) _⟩
        have HX := Lib.hid hX
        have HB10 := Lib.hid hB10
        rw [hw10]
        clear hw10 hX hB10
        have HC := Lib.hid fun (W : World) (B0 : Below w9.heap.size w9 W) => (show W.cell? ⟨B + 1, 0, none⟩ = some (.int .i64 o.a0) ∧ W.cell? ⟨w.heap.size, 7, none⟩ = some (.int .i64 o.l0) from ⟨(HA9.out.below B0 HA9.out.lt).cell 0, (HO9.out.below B0 HO9.out.lt).cell 7⟩)
        refine wp_region_held_drew (S := fun W => Below w9.heap.size w9 W) (by kernel_rfl) (by exact HB10.out.drew) (fun hS => ?_)
        refine wpAnyH_take (i := 0) (v := ?_) rfl (by kernel_rfl) (by kernel_rfl) (by kernel_rfl) (fun _ _ _ h => h) (Or.inl ⟨by kernel_rfl, ?_⟩) hS ?_
        rotate_left
        · intro W hW; go_simp; try with_reducible rfl
        refine wpAnyH_take (i := 1) (v := ?_) rfl (by kernel_rfl) (by kernel_rfl) (by kernel_rfl) (fun _ _ _ h => h) (Or.inl ⟨by kernel_rfl, ?_⟩) hS ?_
        rotate_left
        · intro W hW; go_simp; try with_reducible rfl
        refine wpAnyH_take (i := 2) (v := ?_) rfl (by kernel_rfl) (by kernel_rfl) (by kernel_rfl) (fun _ _ _ h => h) (Or.inl ⟨by kernel_rfl, ?_⟩) hS ?_
        rotate_left
        · intro W hW; obtain ⟨c1, c2⟩ := HC.out W hW; go_simp; try with_reducible rfl
        refine wpAnyH_take (i := 3) (v := ?_) rfl (by kernel_rfl) (by kernel_rfl) (by kernel_rfl) (fun _ _ _ h => h) (Or.inl ⟨by kernel_rfl, ?_⟩) hS ?_
        rotate_left
        · intro W hW; go_simp; try with_reducible rfl
        refine wpAnyH_take (i := 4) (v := ?_) rfl (by kernel_rfl) (by kernel_rfl) (by kernel_rfl) (fun _ _ _ h => h) (Or.inl ⟨by kernel_rfl, ?_⟩) hS ?_
        rotate_left
        · intro W hW; go_simp; try with_reducible rfl
        refine wpAnyH_take (i := 5) (v := ?_) rfl (by kernel_rfl) (by kernel_rfl) (by kernel_rfl) (fun _ _ _ h => h) (Or.inl ⟨by kernel_rfl, ?_⟩) hS ?_
        rotate_left
        · intro W hW; go_simp; try with_reducible rfl
        refine wpAnyH_take (i := 6) (v := ?_) rfl (by kernel_rfl) (by kernel_rfl) (by kernel_rfl) (fun _ _ _ h => h) (Or.inl ⟨by kernel_rfl, ?_⟩) hS ?_
        rotate_left
        · intro W hW; obtain ⟨c1, c2⟩ := HC.out W hW; go_simp; try with_reducible rfl
        refine wpAnyH_take (i := 7) (v := ?_) rfl (by kernel_rfl) (by kernel_rfl) (by kernel_rfl) (fun _ _ _ h => h) (Or.inl ⟨by kernel_rfl, ?_⟩) hS ?_
        rotate_left
        · intro W hW; go_simp; try with_reducible rfl
        refine wpAnyH_ready (rs := [8]) (by kernel_rfl) (by simp) ?_
        go_simp
        refine AllReadyH.cons (i := 8) rfl ?_ AllReadyH.nil
        intro K hK
        have x1 : w10.drew.cell? ⟨w9.heap.size, 1, none⟩ = some (.int .i64 m.tt) := HX.out.drew.cell 1
        have f1 := HX.out.drew.frozen 1
        obtain ⟨w11, hw11, hX1, hT⟩ : ∃ X, w10.drew.setCell ⟨w9.heap.size, 1, none⟩ (.int .i64 o.a0) = X ∧ Blk X w9.heap.size 53 #[.int .i64 m.fr, .int .i64 o.a0, .int .i64 m.kd, .int .i64 m.vol, .int .i64 m.life, .int .u64 m.id, .int .i64 m.cd, .bool m.has, .int .u64 m.key, .int .u32 m.ck, .bool m.g, .slice m.a m.n m.c] ∧ Below w9.heap.size w9 X := ⟨_, rfl, HX.out.drew.put 1 _, hS.setCell (p := ⟨w9.heap.size, 1, none⟩) (Nat.le_refl _) _⟩
        go_simp
        try rw [hw11]
        clear hw11 x1 f1
        refine hK.out _ _ ?_ (fun hN => ?_)
        · first | exact hT | exact hS | exact hS.alloc hS.size _ | exact hS.drew
        clear hK K
        try clear hT
        clear hS
        have hS := hN
        clear hN
        refine wpAnyH_take (i := 9) (v := ?_) rfl (by kernel_rfl) (by kernel_rfl) (by kernel_rfl) (fun _ _ _ h => h) (Or.inl ⟨by kernel_rfl, ?_⟩) hS ?_
        rotate_left
        · intro W hW; go_simp; try with_reducible rfl
        refine wpAnyH_ready (rs := [10]) (by kernel_rfl) (by simp) ?_
        go_simp
        refine AllReadyH.cons (i := 10) rfl ?_ AllReadyH.nil
        intro K hK
        have x4 : w11.cell? ⟨w9.heap.size, 4, none⟩ = some (.int .i64 m.life) := hX1.cell 4
        have f4 := hX1.frozen 4
        obtain ⟨w12, hw12, hX2, hT⟩ : ∃ X, w11.setCell ⟨w9.heap.size, 4, none⟩ (.int .i64 o.l0) = X ∧ Blk X w9.heap.size 53 #[.int .i64 m.fr, .int .i64 o.a0, .int .i64 m.kd, .int .i64 m.vol, .int .i64 o.l0, .int .u64 m.id, .int .i64 m.cd, .bool m.has, .int .u64 m.key, .int .u32 m.ck, .bool m.g, .slice m.a m.n m.c] ∧ Below w9.heap.size w9 X := ⟨_, rfl, hX1.put 4 _, hS.setCell (p := ⟨w9.heap.size, 4, none⟩) (Nat.le_refl _) _⟩
        go_simp
        try rw [hw12]
        clear hw12 x4 f4
        refine hK.out _ _ ?_ (fun hN => ?_)
        · first | exact hT | exact hS | exact hS.alloc hS.size _ | exact hS.drew
        clear hK K
        try clear hT
        clear hS
        have hS := hN
        clear hN
        refine wpAnyH_done (by kernel_rfl) ?_ _
        go_simp
        obtain ⟨x0, x1, x2, x3, x4, x5, x6, x7, x8, x9, x10, x11⟩ := hX2.twelve
        have HB12 := Lib.hid (HB9.out.trans (hS.mono HB9.out.size))
        have HO12 := Lib.hid (HO9.out.below hS HO9.out.lt)
        have HA12 := Lib.hid (HA9.out.below hS HA9.out.lt)
        have HR12 := Lib.hid (HR9.out.on hS)
        have EW := Lib.hid (wcheck_any { m with tt := o.a0, life := o.l0 } w12 (HBQ.out.on hS).b HBQ.out.le)
        rw [show mchk { m with tt := o.a0, life := o.l0 } = 0 from HCK.out, show errc 0 = .nilIface from rfl] at EW
        unfold MsgR.vals at EW
        dsimp only at EW
        clear hX1 hX2 hS HX HB10 HC HB9 HO9 HA9 HR9
        go_wp2_with fail
        refine EW.out.mono ?_
        rintro e w13 ⟨rfl, B13⟩
        have HL := Lib.hid (show CNewL W5 w.heap.size (B + 1) B o (atC o av cv) w13 from ⟨HB12.out.trans (B13.mono HB12.out.size), HO12.out.below B13 HO12.out.lt, HA12.out.below B13 HA12.out.lt, HR12.out.on B13⟩)
        clear B13 EW HB12 HO12 HA12 HR12 x0 x1 x2 x3 x4 x5 x6 x7 x8 x9 x10 x11
        go_wp2_with fail
        go_roundw
        case rel => exact ⟨1, by omega, by omega, rfl, HL.out⟩
        case measure => simp [intOf]
      · have ER := Lib.hid (request_any wr HR8.out (Int.le_refl 0) (show (0 : Int) ≤ 2 by decide))
        clear hi0 hi3
        go_wp2_with fail
        refine ER.out.mono ?_
        rintro e w9 ⟨aq, cq, rfl, hbq, -, B9⟩
        have HB9 := Lib.hid (HB8.out.trans (B9.mono HB8.out.size))
        have HO9 := Lib.hid (HO8.out.below B9 HO8.out.lt)
        have HA9 := Lib.hid (HA8.out.below B9 HA8.out.lt)
        have HR9 := Lib.hid (HR8.out.on B9)
        have HBQ := Lib.hid hbq
        have HCK := Lib.hid (req_new_at av cv aq cq 1 HRT.out.c1)
        obtain ⟨m, hm⟩ : ∃ m, req (newR (atC o av cv)) aq cq = m := ⟨_, rfl⟩
        have hq : (req (newR (atC o av cv)) aq cq).a = aq ∧ (req (newR (atC o av cv)) aq cq).c = cq := ⟨rfl, rfl⟩
        rw [hm] at HBQ HCK hq ⊢
        obtain ⟨rfl, rfl⟩ := hq
        clear hbq B9 ER HB8 HO8 HA8 HR8 hm
        unfold MsgR.vals
        go_upto_region 19 with fail
        obtain ⟨w10, hw10, hX, hB10⟩ : ∃ X, w9.alloc (.cells #[.int .i64 m.fr, .int .i64 m.tt, .int .i64 m.kd, .int .i64 m.vol, .int .i64 m.life, .int .u64 m.id, .int .i64 m.cd, .bool m.has, .int .u64 m.key, .int .u32 m.ck, .bool m.g, .slice m.a m.n m.c] 53) = X ∧ Blk X w9.heap.size 53 #[.int .i64 m.fr, .int .i64 m.tt, .int .i64 m.kd, .int .i64 m.vol, .int .i64 m.life, .int .u64 m.id, .int .i64 m.cd, .bool m.has, .int .u64 m.key, .int .u32 m.ck, .bool m.g, .slice m.a m.n m.c] ∧ Below w9.heap.size w9 X := ⟨_, rfl, Blk.made _ _ _, (Below.refl _ _).alloc (Nat.le_refl _) _⟩
        have HX := Lib.hid hX
        have HB10 := Lib.hid hB10
        rw [hw10]
        clear hw10 hX hB10
        have HC := Lib.hid fun (W : World) (B0 : Below w9.heap.size w9 W) => (show W.cell? ⟨B + 1, 1, none⟩ = some (.int .i64 o.a1) ∧ W.cell? ⟨w.heap.size, 8, none⟩ = some (.int .i64 o.l1) from ⟨(HA9.out.below B0 HA9.out.lt).cell 1, (HO9.out.below B0 HO9.out.lt).cell 8⟩)
        refine wp_region_held_drew (S := fun W => Below w9.heap.size w9 W) (by kernel_rfl) (by exact HB10.out.drew) (fun hS => ?_)
        refine wpAnyH_take (i := 0) (v := ?_) rfl (by kernel_rfl) (by kernel_rfl) (by kernel_rfl) (fun _ _ _ h => h) (Or.inl ⟨by kernel_rfl, ?_⟩) hS ?_
        rotate_left
        · intro W hW; go_simp; try with_reducible rfl
        refine wpAnyH_take (i := 1) (v := ?_) rfl (by kernel_rfl) (by kernel_rfl) (by kernel_rfl) (fun _ _ _ h => h) (Or.inl ⟨by kernel_rfl, ?_⟩) hS ?_
        rotate_left
        · intro W hW; go_simp; try with_reducible rfl
        refine wpAnyH_take (i := 2) (v := ?_) rfl (by kernel_rfl) (by kernel_rfl) (by kernel_rfl) (fun _ _ _ h => h) (Or.inl ⟨by kernel_rfl, ?_⟩) hS ?_
        rotate_left
        · intro W hW; obtain ⟨c1, c2⟩ := HC.out W hW; go_simp; try with_reducible rfl
        refine wpAnyH_take (i := 3) (v := ?_) rfl (by kernel_rfl) (by kernel_rfl) (by kernel_rfl) (fun _ _ _ h => h) (Or.inl ⟨by kernel_rfl, ?_⟩) hS ?_
        rotate_left
        · intro W hW; go_simp; try with_reducible rfl
        refine wpAnyH_take (i := 4) (v := ?_) rfl (by kernel_rfl) (by kernel_rfl) (by kernel_rfl) (fun _ _ _ h => h) (Or.inl ⟨by kernel_rfl, ?_⟩) hS ?_
        rotate_left
        · intro W hW; go_simp; try with_reducible rfl
        refine wpAnyH_take (i := 5) (v := ?_) rfl (by kernel_rfl) (by kernel_rfl) (by kernel_rfl) (fun _ _ _ h => h) (Or.inl ⟨by kernel_rfl, ?_⟩) hS ?_
        rotate_left
        · intro W hW; go_simp; try with_reducible rfl
        refine wpAnyH_take (i := 6) (v := ?_) rfl (by kernel_rfl) (by kernel_rfl) (by kernel_rfl) (fun _ _ _ h => h) (Or.inl ⟨by kernel_rfl, ?_⟩) hS ?_
        rotate_left
        · intro W hW; obtain ⟨c1, c2⟩ := HC.out W hW; go_simp; try with_reducible rfl
        refine wpAnyH_take (i := 7) (v := ?_) rfl (by kernel_rfl) (by kernel_rfl) (by kernel_rfl) (fun _ _ _ h => h) (Or.inl ⟨by kernel_rfl, ?_⟩) hS ?_
        rotate_left
        · intro W hW; go_simp; try with_reducible rfl
        refine wpAnyH_ready (rs := [8]) (by kernel_rfl) (by simp) ?_
        go_simp
        refine AllReadyH.cons (i := 8) rfl ?_ AllReadyH.nil
        intro K hK
        have x1 : w10.drew.cell? ⟨w9.heap.size, 1, none⟩ = some (.int .i64 m.tt) := HX.out.drew.cell 1
        have f1 := HX.out.drew.frozen 1
        obtain ⟨w11, hw11, hX1, hT⟩ : ∃ X, w10.drew.setCell ⟨w9.heap.size, 1, none⟩ (.int .i64 o.a1) = X ∧ Blk X w9.heap.size 53 #[.int .i64 m.fr, .int .i64 o.a1, .int .i64 m.kd, .int .i64 m.vol, .int .i64 m.life, .int .u64 m.id, .int .i64 m.cd, .bool m.has, .int .u64 m.key, .int .u32 m.ck, .bool m.g, .slice m.a m.n m.c] ∧ Below w9.heap.size w9 X := ⟨_, rfl, HX.out.drew.put 1 _, hS.setCell (p := ⟨w9.heap.size, 1, none⟩) (Nat.le_refl _) _⟩
        go_simp
        try rw [hw11]
        clear hw11 x1 f1
        refine hK.out _ _ ?_ (fun hN => ?_)
        · first | exact hT | exact hS | exact hS.alloc hS.size _ | exact hS.drew
        clear hK K
        try clear hT
        clear hS
        have hS := hN
        clear hN
        refine wpAnyH_take (i := 9) (v := ?_) rfl (by kernel_rfl) (by kernel_rfl) (by kernel_rfl) (fun _ _ _ h => h) (Or.inl ⟨by kernel_rfl, ?_⟩) hS ?_
        rotate_left
        · intro W hW; go_simp; try with_reducible rfl
        refine wpAnyH_ready (rs := [10]) (by kernel_rfl) (by simp) ?_
        go_simp
        refine AllReadyH.cons (i := 10) rfl ?_ AllReadyH.nil
        intro K hK
        have x4 : w11.cell? ⟨w9.heap.size, 4, none⟩ = some (.int .i64 m.life) := hX1.cell 4
        have f4 := hX1.frozen 4
        obtain ⟨w12, hw12, hX2, hT⟩ : ∃ X, w11.setCell ⟨w9.heap.size, 4, none⟩ (.int .i64 o.l1) = X ∧ Blk X w9.heap.size 53 #[.int .i64 m.fr, .int .i64 o.a1, .int .i64 m.kd, .int .i64 m.vol, .int .i64 o.l1, .int .u64 m.id, .int .i64 m.cd, .bool m.has, .int .u64 m.key, .int .u32 m.ck, .bool m.g, .slice m.a m.n m.c] ∧ Below w9.heap.size w9 X := ⟨_, rfl, hX1.put 4 _, hS.setCell (p := ⟨w9.heap.size, 4, none⟩) (Nat.le_refl _) _⟩
        go_simp
        try rw [hw12]
        clear hw12 x4 f4
        refine hK.out _ _ ?_ (fun hN => ?_)
        · first | exact hT | exact hS | exact hS.alloc hS.size _ | exact hS.drew
        clear hK K
        try clear hT
        clear hS
        have hS := hN
        clear hN
        refine wpAnyH_done (by kernel_rfl) ?_ _
        go_simp
        obtain ⟨x0, x1, x2, x3, x4, x5, x6, x7, x8, x9, x10, x11⟩ := hX2.twelve
        have HB12 := Lib.hid (HB9.out.trans (hS.mono HB9.out.size))
        have HO12 := Lib.hid (HO9.out.below hS HO9.out.lt)
        have HA12 := Lib.hid (HA9.out.below hS HA9.out.lt)
        have HR12 := Lib.hid (HR9.out.on hS)
        have EW := Lib.hid (wcheck_any { m with tt := o.a1, life := o.l1 } w12 (HBQ.out.on hS).b HBQ.out.le)
        rw [show mchk { m with tt := o.a1, life := o.l1 } = 0 from HCK.out, show errc 0 = .nilIface from rfl] at EW
        unfold MsgR.vals at EW
        dsimp only at EW
        clear hX1 hX2 hS HX HB10 HC HB9 HO9 HA9 HR9
        go_wp2_with fail
        refine EW.out.mono ?_
        rintro e w13 ⟨rfl, B13⟩
        have HL := Lib.hid (show CNewL W5 w.heap.size (B + 1) B o (atC o av cv) w13 from ⟨HB12.out.trans (B13.mono HB12.out.size), HO12.out.below B13 HO12.out.lt, HA12.out.below B13 HA12.out.lt, HR12.out.on B13⟩)
        clear B13 EW HB12 HO12 HA12 HR12 x0 x1 x2 x3 x4 x5 x6 x7 x8 x9 x10 x11
        go_wp2_with fail
        go_roundw
        case rel => exact ⟨2, by omega, by omega, rfl, HL.out⟩
        case measure => simp [intOf]
      · have ER := Lib.hid (request_any wr HR8.out (Int.le_refl 0) (show (0 : Int) ≤ 2 by decide))
        clear hi0 hi3
        go_wp2_with fail
        refine ER.out.mono ?_
        rintro e w9 ⟨aq, cq, rfl, hbq, -, B9⟩
        have HB9 := Lib.hid (HB8.out.trans (B9.mono HB8.out.size))
        have HO9 := Lib.hid (HO8.out.below B9 HO8.out.lt)
        have HA9 := Lib.hid (HA8.out.below B9 HA8.out.lt)
        have HR9 := Lib.hid (HR8.out.on B9)
        have HBQ := Lib.hid hbq
        have HCK := Lib.hid (req_new_at av cv aq cq 2 HRT.out.c2)
        obtain ⟨m, hm⟩ : ∃ m, req (newR (atC o av cv)) aq cq = m := ⟨_, rfl⟩
        have hq : (req (newR (atC o av cv)) aq cq).a = aq ∧ (req (newR (atC o av cv)) aq cq).c = cq := ⟨rfl, rfl⟩
        rw [hm] at HBQ HCK hq ⊢
        obtain ⟨rfl, rfl⟩ := hq
        clear hbq B9 ER HB8 HO8 HA8 HR8 hm
        unfold MsgR.vals
        go_upto_region 19 with fail
        obtain ⟨w10, hw10, hX, hB10⟩ : ∃ X, w9.alloc (.cells #[.int .i64 m.fr, .int .i64 m.tt, .int .i64 m.kd, .int .i64 m.vol, .int .i64 m.life, .int .u64 m.id, .int .i64 m.cd, .bool m.has, .int .u64 m.key, .int .u32 m.ck, .bool m.g, .slice m.a m.n m.c] 53) = X ∧ Blk X w9.heap.size 53 #[.int .i64 m.fr, .int .i64 m.tt, .int .i64 m.kd, .int .i64 m.vol, .int .i64 m.life, .int .u64 m.id, .int .i64 m.cd, .bool m.has, .int .u64 m.key, .int .u32 m.ck, .bool m.g, .slice m.a m.n m.c] ∧ Below w9.heap.size w9 X := ⟨_, rfl, Blk.made _ _ _, (Below.refl _ _).alloc (Nat.le_refl _) _⟩
        have HX := Lib.hid hX
        have HB10 := Lib.hid hB10
        rw [hw10]
        clear hw10 hX hB10
        have HC := Lib.hid fun (W : World) (B0 : Below w9.heap.size w9 W) => (show W.cell? ⟨B + 1, 2, none⟩ = some (.int .i64 o.a2) ∧ W.cell? ⟨w.heap.size, 9, none⟩ = some (.int .i64 o.l2) from ⟨(HA9.out.below B0 HA9.out.lt).cell 2, (HO9.out.below B0 HO9.out.lt).cell 9⟩)
        refine wp_region_held_drew (S := fun W => Below w9.heap.size w9 W) (by kernel_rfl) (by exact HB10.out.drew) (fun hS => ?_)
        refine wpAnyH_take (i := 0) (v := ?_) rfl (by kernel_rfl) (by kernel_rfl) (by kernel_rfl) (fun _ _ _ h => h) (Or.inl ⟨by kernel_rfl, ?_⟩) hS ?_
        rotate_left
        · intro W hW; go_simp; try with_reducible rfl
        refine wpAnyH_take (i := 1) (v := ?_) rfl (by kernel_rfl) (by kernel_rfl) (by kernel_rfl) (fun _ _ _ h => h) (Or.inl ⟨by kernel_rfl, ?_⟩) hS ?_
        rotate_left
        · intro W hW; go_simp; try with_reducible rfl
        refine wpAnyH_take (i := 2) (v := ?_) rfl (by kernel_rfl) (by kernel_rfl) (by kernel_rfl) (fun _ _ _ h => h) (Or.inl ⟨by kernel_rfl, ?_⟩) hS ?_
        rotate_left
        · intro W hW; obtain ⟨c1, c2⟩ := HC.out W hW; go_simp; try with_reducible rfl
        refine wpAnyH_take (i := 3) (v := ?_) rfl (by kernel_rfl) (by kernel_rfl) (by kernel_rfl) (fun _ _ _ h => h) (Or.inl ⟨by kernel_rfl, ?_⟩) hS ?_
        rotate_left
        · intro W hW; go_simp; try with_reducible rfl
        refine wpAnyH_take (i := 4) (v := ?_) rfl (by kernel_rfl) (by kernel_rfl) (by kernel_rfl) (fun _ _ _ h => h) (Or.inl ⟨by kernel_rfl, ?_⟩) hS ?_
        rotate_left
        · intro W hW; go_simp; try with_reducible rfl
        refine wpAnyH_take (i := 5) (v := ?_) rfl (by kernel_rfl) (by kernel_rfl) (by kernel_rfl) (fun _ _ _ h => h) (Or.inl ⟨by kernel_rfl, ?_⟩) hS ?_
        rotate_left
        · intro W hW; go_simp; try with_reducible rfl
        refine wpAnyH_take (i := 6) (v := ?_) rfl (by kernel_rfl) (by kernel_rfl) (by kernel_rfl) (fun _ _ _ h => h) (Or.inl ⟨by kernel_rfl, ?_⟩) hS ?_
        rotate_left
        · intro W hW; obtain ⟨c1, c2⟩ := HC.out W hW; go_simp; try with_reducible rfl
        refine wpAnyH_take (i := 7) (v := ?_) rfl (by kernel_rfl) (by kernel_rfl) (by kernel_rfl) (fun _ _ _ h => h) (Or.inl ⟨by kernel_rfl, ?_⟩) hS ?_
        rotate_left
        · intro W hW; go_simp; try with_reducible rfl
        refine wpAnyH_ready (rs := [8]) (by kernel_rfl) (by simp) ?_
        go_simp
        refine AllReadyH.cons (i := 8) rfl ?_ AllReadyH.nil
        intro K hK
        have x1 : w10.drew.cell? ⟨w9.heap.size, 1, none⟩ = some (.int .i64 m.tt) := HX.out.drew.cell 1
        have f1 := HX.out.drew.frozen 1
        obtain ⟨w11, hw11, hX1, hT⟩ : ∃ X, w10.drew.setCell ⟨w9.heap.size, 1, none⟩ (.int .i64 o.a2) = X ∧ Blk X w9.heap.size 53 #[.int .i64 m.fr, .int .i64 o.a2, .int .i64 m.kd, .int .i64 m.vol, .int .i64 m.life, .int .u64 m.id, .int .i64 m.cd, .bool m.has, .int .u64 m.key, .int .u32 m.ck, .bool m.g, .slice m.a m.n m.c] ∧ Below w9.heap.size w9 X := ⟨_, rfl, HX.out.drew.put 1 _, hS.setCell (p := ⟨w9.heap.size, 1, none⟩) (Nat.le_refl _) _⟩
        go_simp
        try rw [hw11]
        clear hw11 x1 f1
        refine hK.out _ _ ?_ (fun hN => ?_)
        · first | exact hT | exact hS | exact hS.alloc hS.size _ | exact hS.drew
        clear hK K
        try clear hT
        clear hS
        have hS := hN
        clear hN
        refine wpAnyH_take (i := 9) (v := ?_) rfl (by kernel_rfl) (by kernel_rfl) (by kernel_rfl) (fun _ _ _ h => h) (Or.inl ⟨by kernel_rfl, ?_⟩) hS ?_
        rotate_left
        · intro W hW; go_simp; try with_reducible rfl
        refine wpAnyH_ready (rs := [10]) (by kernel_rfl) (by simp) ?_
        go_simp
        refine AllReadyH.cons (i := 10) rfl ?_ AllReadyH.nil
        intro K hK
        have x4 : w11.cell? ⟨w9.heap.size, 4, none⟩ = some (.int .i64 m.life) := hX1.cell 4
        have f4 := hX1.frozen 4
        obtain ⟨w12, hw12, hX2, hT⟩ : ∃ X, w11.setCell ⟨w9.heap.size, 4, none⟩ (.int .i64 o.l2) = X ∧ Blk X w9.heap.size 53 #[.int .i64 m.fr, .int .i64 o.a2, .int .i64 m.kd, .int .i64 m.vol, .int .i64 o.l2, .int .u64 m.id, .int .i64 m.cd, .bool m.has, .int .u64 m.key, .int .u32 m.ck, .bool m.g, .slice m.a m.n m.c] ∧ Below w9.heap.size w9 X := ⟨_, rfl, hX1.put 4 _, hS.setCell (p := ⟨w9.heap.size, 4, none⟩) (Nat.le_refl _) _⟩
        go_simp
        try rw [hw12]
        clear hw12 x4 f4
        refine hK.out _ _ ?_ (fun hN => ?_)
        · first | exact hT | exact hS | exact hS.alloc hS.size _ | exact hS.drew
        clear hK K
        try clear hT
        clear hS
        have hS := hN
        clear hN
        refine wpAnyH_done (by kernel_rfl) ?_ _
        go_simp
        obtain ⟨x0, x1, x2, x3, x4, x5, x6, x7, x8, x9, x10, x11⟩ := hX2.twelve
        have HB12 := Lib.hid (HB9.out.trans (hS.mono HB9.out.size))
        have HO12 := Lib.hid (HO9.out.below hS HO9.out.lt)
        have HA12 := Lib.hid (HA9.out.below hS HA9.out.lt)
        have HR12 := Lib.hid (HR9.out.on hS)
        have EW := Lib.hid (wcheck_any { m with tt := o.a2, life := o.l2 } w12 (HBQ.out.on hS).b HBQ.out.le)
        rw [show mchk { m with tt := o.a2, life := o.l2 } = 0 from HCK.out, show errc 0 = .nilIface from rfl] at EW
        unfold MsgR.vals at EW
        dsimp only at EW
        clear hX1 hX2 hS HX HB10 HC HB9 HO9 HA9 HR9
        go_wp2_with fail
        refine EW.out.mono ?_
        rintro e w13 ⟨rfl, B13⟩
        have HL := Lib.hid (show CNewL W5 w.heap.size (B + 1) B o (atC o av cv) w13 from ⟨HB12.out.trans (B13.mono HB12.out.size), HO12.out.below B13 HO12.out.lt, HA12.out.below B13 HA12.out.lt, HR12.out.on B13⟩)
        clear B13 EW HB12 HO12 HA12 HR12 x0 x1 x2 x3 x4 x5 x6 x7 x8 x9 x10 x11
        go_wp2_with fail
        go_roundw
        case rel => exact ⟨3, by omega, by omega, rfl, HL.out⟩
        case measure => simp [intOf]
      · go_wp2_with fail
        go_ret2
        exact ⟨B, av, cv, rfl, HLB.out, HR8.out, HB5.out.trans (HB8.out.mono HB5.out.size)⟩
end Go.Proofs.Ytboadalojimdlaa
