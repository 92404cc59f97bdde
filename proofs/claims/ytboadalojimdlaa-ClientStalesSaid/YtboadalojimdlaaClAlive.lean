/-
  client.New of what can't be; the chapter's example.
-/
import Derived.Test.YtboadalojimdlaaClWire
import Derived.Test.YtboadalojimdlaaClGotD
namespace Go.Proofs.Ytboadalojimdlaa
open Go.RowKit

set_option maxRecDepth 100000 in
set_option maxHeartbeats 4000000 in
theorem cnew_bad {o : OpR} (w : World) (hb : BOk w o.a o.n o.c o.l) (h1 : o.kd ≠ 1) (h3 : o.kd ≠ 3) (h4 : o.kd ≠ 4) : Calls Try.prog 38 #[o.vals] w fun e w' => e = .returned (.tuple #[.pointer none, errc 1]) ∧ Below w.heap.size w w' := by
  have b1 : (o.kd == 1) = false := eq_f h1
  have b3 : (o.kd == 3) = false := eq_f h3
  have b4 : (o.kd == 4) = false := eq_f h4
  clear h1 h3 h4
  obtain ⟨W1, hW1⟩ : ∃ W, w.alloc (.cells #[.int .i64 o.kd, .int .i64 o.fr, .int .i64 o.vol, .int .i64 o.a0, .int .i64 o.a1, .int .i64 o.a2, .int .u64 o.id, .int .i64 o.l0, .int .i64 o.l1, .int .i64 o.l2, .int .u64 o.key, .int .u32 o.ck, .bool o.g, .slice o.a o.n o.c] 82) = W := ⟨_, rfl⟩
  have HB1 := Lib.hid (show Below w.heap.size w W1 from by rw [← hW1]; exact (Below.refl _ _).alloc (Nat.le_refl _) _)
  have hO : Blk W1 w.heap.size 82 #[.int .i64 o.kd, .int .i64 o.fr, .int .i64 o.vol, .int .i64 o.a0, .int .i64 o.a1, .int .i64 o.a2, .int .u64 o.id, .int .i64 o.l0, .int .i64 o.l1, .int .i64 o.l2, .int .u64 o.key, .int .u32 o.ck, .bool o.g, .slice o.a o.n o.c] := by rw [← hW1]; exact Blk.made w _ _
  have HO1 := Lib.hid hO
  have HS1 := Lib.hid (show W1.heap.size = w.heap.size + 1 from by rw [← hW1]; simp)
  have HBM := Lib.hid (hb.on HB1.out)
  have EB := Lib.hid (bclone_any o.a o.n o.c o.l W1 HBM.out.b HBM.out.nc HBM.out.le)
  have k13 : W1.cell? ⟨w.heap.size, 13, none⟩ = some (.slice o.a o.n o.c) := hO.cell 13
  clear hb hO
  unfold OpR.vals
  go_enter Try.func38, Try.ntmps38
  go_wp2_with fail
  refine EB.out.mono ?_
  rintro e w2 ⟨av, cv, rfl, hcv, ho, B2⟩
  have hO2 := HO1.out.below B2 HO1.out.lt
  have HB2 := Lib.hid (HB1.out.trans (B2.mono HB1.out.size))
  have HO2 := Lib.hid hO2
  have HOW := Lib.hid ho
  have HCV := Lib.hid hcv
  have c13 : w2.cell? ⟨w.heap.size, 13, none⟩ = some (.slice o.a o.n o.c) := hO2.cell 13
  have f13 := hO2.frozen 13
  try clear hW1
  clear hO2 ho hcv B2 EB k13
  go_upto_region 2 with fail
  obtain ⟨W3, hW3, hO3, hB3⟩ : ∃ X, w2.setCell ⟨w.heap.size, 13, none⟩ (.slice av o.n cv) = X ∧ Blk X w.heap.size 82 (atC o av cv).cells.toArray ∧ Below w.heap.size w X := ⟨_, rfl, HO2.out.put 13 _, HB2.out.setCell (p := ⟨w.heap.size, 13, none⟩) (Nat.le_refl _) _⟩
  have HOW3 := Lib.hid (show W3.ownsRow W1.heap.size 5 1 (.slice av o.n cv) o.n (o.l.map bv) from by rw [← hW3]; exact row_far HOW.out (grown_put (grown_refl _ _) 13 _) (by have := HS1.out; omega))
  have HO3 := Lib.hid hO3
  have HB3 := Lib.hid hB3
  have hc3 := op_cells hO3
  dsimp only [atC] at hc3
  obtain ⟨k0, k1, k2, k3, k4, k5, k6, k7, k8, k9, k10, k11, k12, k13⟩ := hc3
  rw [hW3]
  clear hW3 hO3 hB3 HO2 HB2 HOW c13 f13
  go_upto_region 3 with fail
  obtain ⟨W4, hW4, hk4, hs4, hz4⟩ : ∃ X, W3.alloc (.cells #[.int .i64 o.kd, .int .i64 o.fr, .int .i64 o.vol, .int .i64 o.a0, .int .i64 o.a1, .int .i64 o.a2, .int .u64 o.id, .int .i64 o.l0, .int .i64 o.l1, .int .i64 o.l2, .int .u64 o.key, .int .u32 o.ck, .bool o.g, .slice av o.n cv, .int .i64 0, .bool false, .bool false, .int .u64 0, .int .u32 0, .bool false, .slice none 0 0, .int .i64 0, .int .u64 0, .int .u32 0, .bool false, .slice none 0 0] 113) = X ∧ Blk X W3.heap.size 113 (newR (atC o av cv)).cells.toArray ∧ Below W3.heap.size W3 X ∧ X.heap.size = W3.heap.size + 1 := ⟨_, rfl, Blk.made W3 _ _, (Below.refl _ _).alloc (Nat.le_refl _) _, by simp⟩
  rw [hW4]
  clear hW4 k0 k1 k2 k3 k4 k5 k6 k7 k8 k9 k10 k11 k12 k13
  have hc4 := op_cells (HO3.out.below hs4 HO3.out.lt)
  dsimp only [atC] at hc4
  obtain ⟨-, -, -, k3, k4, k5, -⟩ := hc4
  have HK4 := Lib.hid hk4
  have HS4 := Lib.hid hs4
  have HZ4 := Lib.hid hz4
  clear hk4 hs4 hz4
  go_upto_region 4 with fail
  obtain ⟨W5, hW5, hk5, hs5⟩ : ∃ X, W4.alloc (.cells #[.int .i64 o.a0, .int .i64 o.a1, .int .i64 o.a2] 73) = X ∧ (Blk X W3.heap.size 113 (newR (atC o av cv)).cells.toArray ∧ Blk X W4.heap.size 73 #[.int .i64 o.a0, .int .i64 o.a1, .int .i64 o.a2]) ∧ Below W3.heap.size W3 X := ⟨_, rfl, ⟨HK4.out.alloc _, Blk.made _ _ _⟩, HS4.out.alloc HS4.out.size _⟩
  rw [hW5]
  rw [HZ4.out] at hk5
  have HLB := Lib.hid HB3.out.size
  clear k3 k4 k5 hW5
  have HB5 := Lib.hid (HB3.out.trans (hs5.mono HLB.out))
  have HO5 := Lib.hid (HO3.out.below hs5 HO3.out.lt)
  have HBO := Lib.hid (show BOk W5 av o.n cv o.l from ⟨bsl_own (own_below HOW3.out hs5 (Nat.le_refl _)), HCV.out, HBM.out.le⟩)
  try rw [HZ4.out]
  clear hs5 HB3 HO3 HOW3 HK4 HS4 HZ4
  generalize W3.heap.size = B at *
  have HR5 := Lib.hid (show RBl W5 B (newR (atC o av cv)) from ⟨hk5.1, HBO.out, BOk.nil _ _ _, BOk.nil _ _ _⟩)
  have HA5 := Lib.hid hk5.2
  clear hk5
  obtain ⟨k0, -, -, -, -, -, -, -, -, -, -, -, k12, k13⟩ := op_cells HO5.out
  obtain ⟨a0, a1, a2⟩ := HA5.out.three
  have k0' : W5.cell? ⟨w.heap.size, 0, none⟩ = some (.int .i64 o.kd) := k0
  clear k0 k12 k13 a0 a1 a2
  go_wp2_with fail
  go_ret2
  exact ⟨rfl, HB5.out⟩
/-- The example's operation. -/
def exO : OpR := ⟨1, 9, 1, 1, 2, 3, 0, 0, 0, 0, 5, 0, false, none, 0, 0, []⟩
theorem exO_rt : Rt exO := ⟨Or.inl rfl, rfl, fun h => absurd rfl h, by decide, by decide, by decide, by decide, by decide, by decide⟩
def zO : OpR := ⟨0, 0, 0, 0, 0, 0, 0, 0, 0, 0, 0, 0, false, none, 0, 0, []⟩
set_option maxRecDepth 100000 in
set_option maxHeartbeats 4000000 in
theorem client_alive (w : World) : Calls Try.prog 35 #[] w fun e w' => e = .returned (.bool true) ∧ Below w.heap.size w w' := by
  have E1 := Lib.hid (show Calls Try.prog 38 #[.agg #[.int .i64 1, .int .i64 9, .int .i64 1, .int .i64 1, .int .i64 2, .int .i64 3, .int .u64 0, .int .i64 0, .int .i64 0, .int .i64 0, .int .u64 5, .int .u32 0, .bool false, .slice none 0 0]] w (CNewP w exO) from cnew_ok (o := exO) w exO_rt (BOk.nil _ _ _))
  go_enter Try.func35, Try.ntmps35
  go_wp2_with fail
  refine E1.out.mono ?_
  rintro e w1 ⟨B, av, cv, rfl, hB, hR, B1⟩
  have HB := Lib.hid hB
  have HB1 := Lib.hid B1
  have HL1 := Lib.hid hR.k.lt
  have E2 := Lib.hid ((next_yes w1 hR (Int.le_refl 0) (show (0 : Int) ≤ 2 by decide)).mono (fun e w' h => h))
  clear hB hR B1 E1
  go_wp2_with fail
  refine E2.out.mono ?_
  rintro e w2 ⟨a2, c2, rfl, hb2, hR2, hg2⟩
  have HR2 := Lib.hid hR2
  have HBl2 := Lib.hid (HB1.out.grown hg2 HB1.out.size (fun k e => by injection e with e; have := HB.out; omega))
  rw [show (req (newR (atC exO av cv)) a2 c2).vals = .agg #[.int .i64 9, .int .i64 1, .int .i64 1, .int .i64 1, .int .i64 0, .int .u64 0, .int .i64 0, .bool true, .int .u64 5, .int .u32 0, .bool false, .slice a2 0 c2] from rfl]
  clear hb2 hR2 hg2 E2 HB1
  go_upto_region 3 with fail
  obtain ⟨w3, hw3, hM3, hB3⟩ : ∃ X, w2.alloc (.cells #[.int .i64 9, .int .i64 1, .int .i64 1, .int .i64 1, .int .i64 0, .int .u64 0, .int .i64 0, .bool true, .int .u64 5, .int .u32 0, .bool false, .slice a2 0 c2] 53) = X ∧ Blk X w2.heap.size 53 #[.int .i64 9, .int .i64 1, .int .i64 1, .int .i64 1, .int .i64 0, .int .u64 0, .int .i64 0, .bool true, .int .u64 5, .int .u32 0, .bool false, .slice a2 0 c2] ∧ Below w2.heap.size w2 X := ⟨_, rfl, Blk.made _ _ _, (Below.refl _ _).alloc (Nat.le_refl _) _⟩
  obtain ⟨m0, m1, m2, m3, m4, m5, m6, m7, m8, m9, m10, m11⟩ := hM3.twelve
  have HR3 := Lib.hid (HR2.out.on hB3)
  have HBl3 := Lib.hid (HBl2.out.trans (hB3.mono HBl2.out.size))
  have E4 := Lib.hid (show Calls Try.prog 42 #[.agg #[.int .i64 9, .int .i64 1, .int .i64 1, .int .i64 1, .int .i64 0, .int .u64 0, .int .i64 0, .bool true, .int .u64 5, .int .u32 0, .bool false, .slice a2 0 c2], .int .i64 8, .bool true, .agg #[.int .u64 5, .int .u32 4, .bool false, .slice none 0 0]] w3 fun e w' =>
    e = .returned (.agg #[.int .i64 1, .int .i64 9, .int .i64 5, .int .i64 1, .int .i64 0, .int .u64 0, .int .i64 8, .bool true, .int .u64 5, .int .u32 4, .bool false, .slice none 0 0]) ∧ Below w3.heap.size w3 w' from
    reply_any ⟨9, 1, 1, 1, 0, 0, 0, true, 5, 0, false, a2, 0, c2, []⟩ 8 true ⟨5, 4, false, none, 0, 0, []⟩ w3)
  rw [hw3]
  clear hw3 hM3 hB3 HR2 HBl2
  go_wp2_with fail
  refine E4.out.mono ?_
  rintro e w4 ⟨rfl, B4⟩
  have HR4 := Lib.hid (HR3.out.on B4)
  have HBl4 := Lib.hid (HBl3.out.trans (B4.mono HBl3.out.size))
  have E5 := Lib.hid (show Calls Try.prog 41 #[.pointer (some ⟨B, 0, none⟩), .agg #[.int .i64 1, .int .i64 9, .int .i64 5, .int .i64 1, .int .i64 0, .int .u64 0, .int .i64 8, .bool true, .int .u64 5, .int .u32 4, .bool false, .slice none 0 0]] w4 fun e w' =>
    ∃ a5 c5, e = .returned (errc 0) ∧ RBl w' B ⟨atC exO av cv, 1, true, false, ⟨5, 4, false, a5, 0, c5, []⟩, 8, ndN⟩ ∧ w4.grownBy w' (some B) from
    got_met w4 ⟨1, 9, 5, 1, 0, 0, 8, true, 5, 4, false, none, 0, 0, []⟩ HR4.out (BOk.nil _ _ _) (show (1 : Int) ≠ 3 by decide) rfl rfl rfl rfl rfl rfl rfl (Or.inr (Or.inl rfl)) rfl rfl)
  clear m0 m1 m2 m3 m4 m5 m6 m7 m8 m9 m10 m11 B4 E4 HR3 HBl3
  go_wp2_with fail
  refine E5.out.mono ?_
  rintro e w5 ⟨a5, c5, rfl, hR5, hg5⟩
  have HR5 := Lib.hid hR5
  have HBl5 := Lib.hid (HBl4.out.grown hg5 HBl4.out.size (fun k e => by injection e with e; have := HB.out; omega))
  have E6 := Lib.hid (next_yes w5 hR5 (show (0 : Int) ≤ 1 by decide) (show (1 : Int) ≤ 2 by decide))
  clear hR5 hg5 E5 HR4 HBl4
  go_wp2_with fail
  refine E6.out.mono ?_
  rintro e w6 ⟨a6, c6, rfl, hb6, hR6, hg6⟩
  have HBl6 := Lib.hid (HBl5.out.grown hg6 HBl5.out.size (fun k e => by injection e with e; have := HB.out; omega))
  rw [show (req ⟨atC exO av cv, 1, true, false, ⟨5, 4, false, a5, 0, c5, []⟩, 8, ndN⟩ a6 c6).vals = .agg #[.int .i64 9, .int .i64 2, .int .i64 2, .int .i64 1, .int .i64 0, .int .u64 0, .int .i64 0, .bool true, .int .u64 5, .int .u32 4, .bool false, .slice a6 0 c6] from rfl]
  clear hb6 hR6 hg6 E6 HR5 HBl5
  go_upto_region 5 with fail
  obtain ⟨w7, hw7, hM7, hB7⟩ : ∃ X, w6.alloc (.cells #[.int .i64 9, .int .i64 2, .int .i64 2, .int .i64 1, .int .i64 0, .int .u64 0, .int .i64 0, .bool true, .int .u64 5, .int .u32 4, .bool false, .slice a6 0 c6] 53) = X ∧ Blk X w6.heap.size 53 #[.int .i64 9, .int .i64 2, .int .i64 2, .int .i64 1, .int .i64 0, .int .u64 0, .int .i64 0, .bool true, .int .u64 5, .int .u32 4, .bool false, .slice a6 0 c6] ∧ Below w6.heap.size w6 X := ⟨_, rfl, Blk.made _ _ _, (Below.refl _ _).alloc (Nat.le_refl _) _⟩
  have HM7 := Lib.hid hM7
  have HBl7 := Lib.hid (HBl6.out.trans (hB7.mono HBl6.out.size))
  have E8 := Lib.hid (show Calls Try.prog 38 #[.agg #[.int .i64 0, .int .i64 0, .int .i64 0, .int .i64 0, .int .i64 0, .int .i64 0, .int .u64 0, .int .i64 0, .int .i64 0, .int .i64 0, .int .u64 0, .int .u32 0, .bool false, .slice none 0 0]] w7 (fun e w' => e = .returned (.tuple #[.pointer none, errc 1]) ∧ Below w7.heap.size w7 w') from
    cnew_bad (o := zO) w7 (BOk.nil _ _ _) (show (0 : Int) ≠ 1 by decide) (show (0 : Int) ≠ 3 by decide) (show (0 : Int) ≠ 4 by decide))
  rw [hw7]
  clear hw7 hM7 hB7 HBl6
  go_wp2_with fail
  refine E8.out.mono ?_
  rintro e w8 ⟨rfl, B8⟩
  have HBl8 := Lib.hid (HBl7.out.trans (B8.mono HBl7.out.size))
  obtain ⟨m0, m1, m2, m3, m4, m5, m6, m7, m8, m9, m10, m11⟩ := (HM7.out.below B8 HM7.out.lt).twelve
  clear B8 E8 HM7 HBl7
  go_wp2_with fail
  refine (code_c 0 _ (by decide)).mono ?_
  rintro e w9 ⟨rfl, rfl⟩
  go_wp2_with fail
  refine (code_c 0 _ (by decide)).mono ?_
  rintro e w9 ⟨rfl, rfl⟩
  go_wp2_with fail
  refine (code_c 0 _ (by decide)).mono ?_
  rintro e w9 ⟨rfl, rfl⟩
  go_wp2_with fail
  refine (code_c 0 _ (by decide)).mono ?_
  rintro e w9 ⟨rfl, rfl⟩
  go_wp2_with fail
  refine (code_c 1 _ (by decide)).mono ?_
  rintro e w9 ⟨rfl, rfl⟩
  go_wp2_with fail
  go_ret
  exact ⟨rfl, HBl8.out⟩
end Go.Proofs.Ytboadalojimdlaa
