/-
  What no net answers; Send of a message that may be, with where its bytes stand.
-/
import Derived.Test.YtpkfjnhjcdcoaaaNetAll
namespace Go.Proofs.Ytpkfjnhjcdcoaaa
open Go.RowKit
set_option linter.unusedVariables false

theorem NetR.far {W W' : World} {N base g : Nat} {P : List Pk} {C : List (Int × Int)} {cs : Array Value} (h : NetR W N base P C) (hb : W.heap[g]? = some (.cells cs 5 (0, 0))) (hg : W.grownBy W' (some g)) (hne : ∀ p ∈ P, p.g ≠ g) : NetR W' N base P C := by
  obtain ⟨la, lc, ca, cc, h1, h2, h3, h4, h5, h6⟩ := h
  refine ⟨la, lc, ca, cc, ?_, row_keep h2 hg hb (by decide), row_keep h3 hg hb (by decide), h4, fun p hp => ?_, h6⟩
  · exact (hg.block N h1.lt (by intro e; injection e with e; exact blk_ne h1 hb (by decide) e)).trans h1
  · obtain ⟨g1, g2, bp, g3⟩ := h5 p hp
    exact ⟨g1, g2, bp, g3.kept hg (.inr (by intro e; injection e with e; exact hne p hp e))⟩
theorem len_nil (w : World) : Calls Try.prog 32 #[.pointer none] w fun e w' => e = .returned (.int .i64 0) ∧ w = w' := by
  go_enter Try.func32, Try.ntmps32
  go_wp2_with fail
  go_ret
  exact ⟨rfl, rfl⟩
set_option maxRecDepth 100000 in
theorem send_nil (m : MsgR) (w : World) : Calls Try.prog 26 #[.pointer none, .agg #[.int .i64 m.fr, .int .i64 m.tt, .int .i64 m.kd, .int .i64 m.vol, .int .i64 m.life, .int .u64 m.id, .int .i64 m.cd, .bool m.has, .int .u64 m.key, .int .u32 m.ck, .bool m.g, .slice m.a m.n m.c]] w fun e w' => e = .returned (errc 15) ∧ Below w.heap.size w w' := by
  have HB := Lib.hid ((Below.refl w.heap.size w).alloc (Nat.le_refl _) (.cells #[.int .i64 m.fr, .int .i64 m.tt, .int .i64 m.kd, .int .i64 m.vol, .int .i64 m.life, .int .u64 m.id, .int .i64 m.cd, .bool m.has, .int .u64 m.key, .int .u32 m.ck, .bool m.g, .slice m.a m.n m.c] 29))
  go_enter Try.func26, Try.ntmps26
  go_upto_region 1 with fail
  generalize (w.alloc (.cells #[.int .i64 m.fr, .int .i64 m.tt, .int .i64 m.kd, .int .i64 m.vol, .int .i64 m.life, .int .u64 m.id, .int .i64 m.cd, .bool m.has, .int .u64 m.key, .int .u32 m.ck, .bool m.g, .slice m.a m.n m.c] 29)) = W1 at *
  go_wp2_with fail
  go_ret
  exact ⟨rfl, HB.out⟩
theorem cut_nil (a b : Int) (cut : Bool) (w : World) : Calls Try.prog 27 #[.pointer none, .int .i64 a, .int .i64 b, .bool cut] w fun e w' => e = .returned (errc 15) ∧ Below w.heap.size w w' := by
  have HB := Lib.hid (((Below.refl w.heap.size w).alloc (Nat.le_refl _) (.cells #[.int .i64 a] 3)).alloc (by simp) (.cells #[.int .i64 b] 3))
  go_enter Try.func27, Try.ntmps27
  go_upto_region 1 with fail
  generalize ((w.alloc (.cells #[.int .i64 a] 3)).alloc (.cells #[.int .i64 b] 3)) = W1 at *
  go_wp2_with fail
  go_ret
  exact ⟨rfl, HB.out⟩
theorem lose_nil (i : Int) (w : World) : Calls Try.prog 30 #[.pointer none, .int .i64 i] w fun e w' => e = .returned (errc 15) ∧ Below w.heap.size w w' := by
  have E := Lib.hid (at_nil i w)
  go_enter Try.func30, Try.ntmps30
  go_wp2_with fail
  refine E.out.mono ?_
  rintro e w1 ⟨B1, a1, c1, rfl, -, -, -⟩
  rw [show MsgR.vals { (mNone, 15).1 with a := a1, c := c1 } = .agg #[.int .i64 0, .int .i64 0, .int .i64 0, .int .i64 0, .int .i64 0, .int .u64 0, .int .i64 0, .bool false, .int .u64 0, .int .u32 0, .bool false, .slice a1 0 c1] from rfl, show errc (mNone, 15).2 = er 15 from rfl]
  have HB1 := Lib.hid (B1.trans (((Below.refl w1.heap.size w1).alloc (Nat.le_refl _) (.cells #[.int .i64 0, .int .i64 0, .int .i64 0, .int .i64 0, .int .i64 0, .int .u64 0, .int .i64 0, .bool false, .int .u64 0, .int .u32 0, .bool false, .slice a1 0 c1] 29)).mono B1.size))
  clear B1
  go_upto_region 2 with fail
  generalize (w1.alloc (.cells #[.int .i64 0, .int .i64 0, .int .i64 0, .int .i64 0, .int .i64 0, .int .u64 0, .int .i64 0, .bool false, .int .u64 0, .int .u32 0, .bool false, .slice a1 0 c1] 29)) = W2 at *
  go_wp2_with fail
  go_ret
  exact ⟨rfl, HB1.out⟩
theorem twice_nil (i : Int) (w : World) : Calls Try.prog 31 #[.pointer none, .int .i64 i] w fun e w' => e = .returned (errc 15) ∧ Below w.heap.size w w' := by
  have E := Lib.hid (at_nil i w)
  go_enter Try.func31, Try.ntmps31
  go_wp2_with fail
  refine E.out.mono ?_
  rintro e w1 ⟨B1, a1, c1, rfl, -, -, -⟩
  rw [show MsgR.vals { (mNone, 15).1 with a := a1, c := c1 } = .agg #[.int .i64 0, .int .i64 0, .int .i64 0, .int .i64 0, .int .i64 0, .int .u64 0, .int .i64 0, .bool false, .int .u64 0, .int .u32 0, .bool false, .slice a1 0 c1] from rfl, show errc (mNone, 15).2 = er 15 from rfl]
  have HB1 := Lib.hid (B1.trans (((Below.refl w1.heap.size w1).alloc (Nat.le_refl _) (.cells #[.int .i64 0, .int .i64 0, .int .i64 0, .int .i64 0, .int .i64 0, .int .u64 0, .int .i64 0, .bool false, .int .u64 0, .int .u32 0, .bool false, .slice a1 0 c1] 29)).mono B1.size))
  clear B1
  go_upto_region 2 with fail
  generalize (w1.alloc (.cells #[.int .i64 0, .int .i64 0, .int .i64 0, .int .i64 0, .int .i64 0, .int .u64 0, .int .i64 0, .bool false, .int .u64 0, .int .u32 0, .bool false, .slice a1 0 c1] 29)) = W2 at *
  go_wp2_with fail
  go_ret
  exact ⟨rfl, HB1.out⟩
set_option maxRecDepth 100000 in
theorem take_nil (i : Int) (w : World) : Calls Try.prog 28 #[.pointer none, .int .i64 i] w (NGot (mNone, 15) w) := by
  have HK := Lib.hid (Blk.made w 29 #[.int .i64 0, .int .i64 0, .int .i64 0, .int .i64 0, .int .i64 0, .int .u64 0, .int .i64 0, .bool false, .int .u64 0, .int .u32 0, .bool false, .slice none 0 0])
  have HB := Lib.hid ((Below.refl w.heap.size w).alloc (Nat.le_refl _) (.cells #[.int .i64 0, .int .i64 0, .int .i64 0, .int .i64 0, .int .i64 0, .int .u64 0, .int .i64 0, .bool false, .int .u64 0, .int .u32 0, .bool false, .slice none 0 0] 29))
  have E := Lib.hid fun (W : World) => at_nil i W
  go_enter Try.func28, Try.ntmps28
  go_upto_region 1 with fail
  generalize (w.alloc (.cells #[.int .i64 0, .int .i64 0, .int .i64 0, .int .i64 0, .int .i64 0, .int .u64 0, .int .i64 0, .bool false, .int .u64 0, .int .u32 0, .bool false, .slice none 0 0] 29)) = W0 at *
  go_wp2_with fail
  refine (E.out W0).mono ?_
  rintro e w1 ⟨B1, a1, c1, rfl, -, -, -⟩
  rw [show MsgR.vals { (mNone, 15).1 with a := a1, c := c1 } = .agg #[.int .i64 0, .int .i64 0, .int .i64 0, .int .i64 0, .int .i64 0, .int .u64 0, .int .i64 0, .bool false, .int .u64 0, .int .u32 0, .bool false, .slice a1 0 c1] from rfl, show errc (mNone, 15).2 = er 15 from rfl]
  have BB := B1.trans (((Below.refl w1.heap.size w1).alloc (Nat.le_refl _) (.cells #[.int .i64 0, .int .i64 0, .int .i64 0, .int .i64 0, .int .i64 0, .int .u64 0, .int .i64 0, .bool false, .int .u64 0, .int .u32 0, .bool false, .slice a1 0 c1] 29)).mono B1.size)
  have HB1 := Lib.hid (HB.out.trans (BB.mono HB.out.size))
  have HK1 := Lib.hid (HK.out.below BB HK.out.lt)
  clear B1 BB
  go_upto_region 2 with fail
  generalize (w1.alloc (.cells #[.int .i64 0, .int .i64 0, .int .i64 0, .int .i64 0, .int .i64 0, .int .u64 0, .int .i64 0, .bool false, .int .u64 0, .int .u32 0, .bool false, .slice a1 0 c1] 29)) = W2 at *
  obtain ⟨k0, k1, k2, k3, k4, k5, k6, k7, k8, k9, k10, k11⟩ := HK1.out.twelve
  obtain ⟨f0, f1, f2, f3, f4, f5, f6, f7, f8, f9, f10, f11⟩ := HK1.out.twelve_frozen
  go_wp2_with fail
  exact bodyPost_ret (take_results (HK1.out.put12 _ _ _ _ _ _ _ _ _ _ _ _) rfl rfl) rfl (ngot_none 15 (below_put12 HB1.out (Nat.le_refl _) _ _ _ _ _ _ _ _ _ _ _ _))
set_option maxRecDepth 100000 in
set_option maxHeartbeats 4000000 in
theorem send_ok {N base : Nat} {P : List Pk} {C : List (Int × Int)} (m : MsgR) (w : World) (h : NetR w N base P C) (hm : BSl w w.heap.size m.a m.n m.l) (hn : m.n ≤ 1099511627776) (hi : m.id < 18446744073709551616) (hk : m.key < 18446744073709551616) (hck : m.ck < 4294967296) (hq0 : mchk m = 0) (hfull : P.length < 4096) :
    Calls Try.prog 26 #[.pointer (some ⟨N, 0, none⟩), .agg #[.int .i64 m.fr, .int .i64 m.tt, .int .i64 m.kd, .int .i64 m.vol, .int .i64 m.life, .int .u64 m.id, .int .i64 m.cd, .bool m.has, .int .u64 m.key, .int .u32 m.ck, .bool m.g, .slice m.a m.n m.c]] w fun e w' => ∃ p : Pk, e = .returned (errc 0) ∧ p.m = m ∧ w.heap.size ≤ p.g ∧ NDid w N base (P ++ [p]) C w' := by
  have HV := Lib.hid (show m.vals = .agg #[.int .i64 m.fr, .int .i64 m.tt, .int .i64 m.kd, .int .i64 m.vol, .int .i64 m.life, .int .u64 m.id, .int .i64 m.cd, .bool m.has, .int .u64 m.key, .int .u32 m.ck, .bool m.g, .slice m.a m.n m.c] from rfl)
  have BA := (Below.refl w.heap.size w).alloc (Nat.le_refl _) (.cells #[.int .i64 m.fr, .int .i64 m.tt, .int .i64 m.kd, .int .i64 m.vol, .int .i64 m.life, .int .u64 m.id, .int .i64 m.cd, .bool m.has, .int .u64 m.key, .int .u32 m.ck, .bool m.g, .slice m.a m.n m.c] 29)
  have HK := Lib.hid (Blk.made w 29 #[.int .i64 m.fr, .int .i64 m.tt, .int .i64 m.kd, .int .i64 m.vol, .int .i64 m.life, .int .u64 m.id, .int .i64 m.cd, .bool m.has, .int .u64 m.key, .int .u32 m.ck, .bool m.g, .slice m.a m.n m.c])
  have HR := Lib.hid h
  have HB := Lib.hid BA
  have hml := hm.1
  have hMV := MV.of hml hi hk hck hq0
  have hlk : msLen m + 4 ≤ 10000 := by unfold msLen padn; have := hMV.hn; split <;> omega
  have EP := Lib.hid (wbytes_ok m _ ((hm.below BA).more BA.size) hn hi hk hck hq0)
  rw [HV.out] at EP
  have HMV := Lib.hid hMV
  clear hm h BA hml hq0 hMV
  obtain ⟨k, hk⟩ : ∃ k, msLen m + 4 = k := ⟨_, rfl⟩
  rw [hk] at EP
  have HKK := Lib.hid hk
  have HF := Lib.hid hfull
  clear hk hlk
  go_enter Try.func26, Try.ntmps26
  go_upto_region 1 with fail
  generalize (w.alloc (.cells #[.int .i64 m.fr, .int .i64 m.tt, .int .i64 m.kd, .int .i64 m.vol, .int .i64 m.life, .int .u64 m.id, .int .i64 m.cd, .bool m.has, .int .u64 m.key, .int .u32 m.ck, .bool m.g, .slice m.a m.n m.c] 29)) = W0 at *
  obtain ⟨k0, k1, k2, k3, k4, k5, k6, k7, k8, k9, k10, k11⟩ := HK.out.twelve
  go_wp2_with fail
  refine EP.out.mono ?_
  rintro e w1 ⟨bg, cap, rfl, hcap, ho1, B1⟩
  have HB1 := Lib.hid (HB.out.trans (B1.mono HB.out.size))
  have HR1 := Lib.hid (HR.out.below HB1.out)
  have HO1 := Lib.hid ho1
  have HC1 := Lib.hid hcap
  have HBG := Lib.hid (show w.heap.size ≤ bg from Nat.le_trans HB.out.size (ho1.lt bg rfl).1)
  clear B1 k0 k1 k2 k3 k4 k5 k6 k7 k8 k9 k10 k11 ho1 hcap EP
  obtain ⟨la, lc, ca, cc, hN, hL, hC, hbn, hP, h4⟩ := HR1.out
  have z : decide ((4096 : Int) ≤ (P.length : Int)) = false := decide_eq_false (by omega)
  obtain ⟨i0, hi0, hz0, hz1, hz2⟩ := info_bt_parts
  obtain ⟨g2, cap2, W2, hrun, ho2, hg2, -, -⟩ := append_elem (P := Try.prog) (T := 96) Try.underlying96 hi0 hz0 hz1 hz2 rfl (by decide) hL [.slice (some ⟨bg, 0, none⟩) k cap] rfl (by intro u hu; rw [List.mem_singleton] at hu; subst hu; rfl) (by omega) (by unfold maxLen; omega) HR1.out.low
  have hN2 := own_blk hL hg2 hN (by decide)
  have HC2 := Lib.hid (own_row hL hg2 hC (by decide))
  have HK2 := Lib.hid (own_nkeep hL hg2 (.inl rfl))
  have HB2 := Lib.hid (own_below' hL hg2 HR1.out.low)
  have HN2 := Lib.hid hN2
  have HO2 := Lib.hid ho2
  have c0 := hN.cell 0
  have d0 := hN2.cell 0
  have f0 := hN2.frozen 0
  have HP := Lib.hid hP
  clear hN hL hC hP h4 hfull hN2 ho2 hg2 hi0 hz0 hz1 hz2
  go_wp2_with (at_builtin; refine list_run (by rfl) _ _ rfl rfl rfl hrun ?_; clear hrun)
  go_ret
  have hpk : PkOk w1 ⟨bg, cap, m⟩ := ⟨HMV.out, by show msLen m + 4 ≤ cap; rw [HKK.out]; exact HC1.out, _, by show w1.ownsRow _ 5 1 (.slice (some ⟨bg, 0, none⟩) (msLen m + 4) cap) (msLen m + 4) _; rw [HKK.out]; exact HO1.out⟩
  refine ⟨⟨bg, cap, m⟩, rfl, rfl, HBG.out, NDid.on HR1.out (.of HB1.out) (HB1.out.mono HR.out.low) ?_⟩
  have hln : (P ++ [(⟨bg, cap, m⟩ : Pk)]).length = P.length + 1 := by rw [List.length_append]; rfl
  have := net_setL (P' := P ++ [⟨bg, cap, m⟩]) HR1.out (la' := some ⟨g2, 0, none⟩) (lc' := cap2) HK2.out HB2.out ⟨_, _, _, HN2.out, HC2.out⟩ (by
    rw [hln, List.map_append]
    have h2 := HO2.out
    rw [← HKK.out] at h2
    exact h2) (fun p hp => by
      rcases List.mem_append.1 hp with hp | hp
      · exact HP.out p hp
      · rw [List.mem_singleton] at hp
        subst hp
        exact hpk) (by rw [hln]; exact HF.out)
  rw [hln] at this
  exact this
end Go.Proofs.Ytpkfjnhjcdcoaaa
