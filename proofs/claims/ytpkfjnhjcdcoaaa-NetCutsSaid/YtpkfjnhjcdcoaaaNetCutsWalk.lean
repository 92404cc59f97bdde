/-
  The walk of corncriblaw15.NetCuts.
-/
import Derived.Test.YtpkfjnhjcdcoaaaNetAlive
import Derived.Test.YtpkfjnhjcdcoaaaMsl
namespace Go.Proofs.Ytpkfjnhjcdcoaaa
open Go.RowKit
set_option linter.unusedVariables false

theorem pMin_comm (a b : Int) : pMin a b = pMin b a := by unfold pMin; split <;> split <;> omega
theorem pMax_comm (a b : Int) : pMax a b = pMax b a := by unfold pMax; split <;> split <;> omega
theorem apC_one (a b c d : Int) : apC [(pMin a b, pMax a b)] c d = decide ((c = a ∧ d = b) ∨ (c = b ∧ d = a)) := by
  unfold apC
  congr 1
  rw [List.mem_singleton, Prod.mk.injEq, eq_iff_iff]
  unfold pMin pMax
  constructor
  · rintro ⟨h1, h2⟩
    split at h1 <;> split at h1 <;> rename_i e1 e2 <;> simp only [e1, e2, if_true, if_false] at h2 <;> omega
  · rintro (⟨rfl, rfl⟩ | ⟨rfl, rfl⟩)
    · exact ⟨rfl, rfl⟩
    · split <;> split <;> omega
theorem cutF_one (q : Int × Int) : cutF q [q] = [] := by simp [cutF]
set_option maxRecDepth 100000 in
set_option maxHeartbeats 8000000 in
theorem cuts_all (m : MsgR) (a b : Int) (w : World) (h : MIn w w.heap.size m) (ha0 : 0 ≤ a) (ha1 : a ≤ 255) (hb0 : 0 ≤ b) (hb1 : b ≤ 255) :
    Calls Try.prog 7 #[m.vals, .int .u8 a, .int .u8 b] w fun e w' => e = .returned (.bool true) ∧ Below w.heap.size w w' := by
  have HI := Lib.hid h
  have HV := Lib.hid (show m.vals = .agg #[.int .i64 m.fr, .int .i64 m.tt, .int .i64 m.kd, .int .i64 m.vol, .int .i64 m.life, .int .u64 m.id, .int .i64 m.cd, .bool m.has, .int .u64 m.key, .int .u32 m.ck, .bool m.g, .slice m.a m.n m.c] from rfl)
  rw [HV.out]
  have HB0 := Lib.hid ((Below.refl w.heap.size w).alloc (Nat.le_refl _) (.cells #[.int .i64 m.fr, .int .i64 m.tt, .int .i64 m.kd, .int .i64 m.vol, .int .i64 m.life, .int .u64 m.id, .int .i64 m.cd, .bool m.has, .int .u64 m.key, .int .u32 m.ck, .bool m.g, .slice m.a m.n m.c] 36))
  have HK0 := Lib.hid (Blk.made w 36 #[.int .i64 m.fr, .int .i64 m.tt, .int .i64 m.kd, .int .i64 m.vol, .int .i64 m.life, .int .u64 m.id, .int .i64 m.cd, .bool m.has, .int .u64 m.key, .int .u32 m.ck, .bool m.g, .slice m.a m.n m.c])
  have HAB := Lib.hid (And.intro ha0 (And.intro ha1 (And.intro hb0 hb1)))
  have HWa := Lib.hid (show IntKind.i64.wrap a = a from IntWalk.i64_in _ (by omega))
  have HWb := Lib.hid (show IntKind.i64.wrap b = b from IntWalk.i64_in _ (by omega))
  clear h
  by_cases hbig : 300 < m.n
  · have z : decide ((300 : Int) < (m.n : Int)) = true := decide_eq_true (by omega)
    clear hbig
    go_enter Try.func7, Try.ntmps7
    go_upto_region 1 with fail
    generalize (w.alloc (.cells #[.int .i64 m.fr, .int .i64 m.tt, .int .i64 m.kd, .int .i64 m.vol, .int .i64 m.life, .int .u64 m.id, .int .i64 m.cd, .bool m.has, .int .u64 m.key, .int .u32 m.ck, .bool m.g, .slice m.a m.n m.c] 36)) = W0 at *
    go_wp2_with fail
    refine (net_alive _).mono ?_
    rintro e w1 ⟨rfl, B1⟩
    have HB1 := Lib.hid (HB0.out.trans (B1.mono HB0.out.size))
    have HK1 := Lib.hid (HK0.out.below B1 HK0.out.lt)
    clear B1
    obtain ⟨k0, k1, k2, k3, k4, k5, k6, k7, k8, k9, k10, k11⟩ := HK1.out.twelve
    go_wp2_with fail
    go_ret
    exact ⟨rfl, HB1.out⟩
  have z : decide ((300 : Int) < (m.n : Int)) = false := decide_eq_false (by omega)
  have HN := Lib.hid (show m.n ≤ 300 from by omega)
  clear hbig
  obtain ⟨q, hq⟩ : ∃ q, mchk m = q := ⟨_, rfl⟩
  have EK := Lib.hid fun (W : World) (B : Below w.heap.size w W) => rcheck_any m W ((HI.out.hb.below B).more B.size) (by have := HN.out; omega)
  rw [hq, HV.out] at EK
  by_cases hq0 : q ≠ 0
  · have z2 : ((q : Int) != 0) = true := by rw [bne_iff_ne]; omega
    clear hq0 hq
    go_enter Try.func7, Try.ntmps7
    go_upto_region 1 with fail
    generalize (w.alloc (.cells #[.int .i64 m.fr, .int .i64 m.tt, .int .i64 m.kd, .int .i64 m.vol, .int .i64 m.life, .int .u64 m.id, .int .i64 m.cd, .bool m.has, .int .u64 m.key, .int .u32 m.ck, .bool m.g, .slice m.a m.n m.c] 36)) = W0 at *
    go_wp2_with fail
    refine (net_alive _).mono ?_
    rintro e w1 ⟨rfl, B1⟩
    have HB1 := Lib.hid (HB0.out.trans (B1.mono HB0.out.size))
    have HK1 := Lib.hid (HK0.out.below B1 HK0.out.lt)
    clear B1
    obtain ⟨k0, k1, k2, k3, k4, k5, k6, k7, k8, k9, k10, k11⟩ := HK1.out.twelve
    go_wp2_with fail
    refine (EK.out _ HB1.out).mono ?_
    rintro e w2 ⟨rfl, B2⟩
    have HB2 := Lib.hid (HB1.out.trans (B2.mono HB1.out.size))
    have HK2 := Lib.hid (HK1.out.below B2 HK1.out.lt)
    clear B2 k0 k1 k2 k3 k4 k5 k6 k7 k8 k9 k10 k11
    obtain ⟨k0, k1, k2, k3, k4, k5, k6, k7, k8, k9, k10, k11⟩ := HK2.out.twelve
    go_wp2_with fail
    go_ret
    exact ⟨rfl, HB2.out⟩
  obtain rfl : q = 0 := Decidable.not_not.1 hq0
  clear hq0
  have HQ := Lib.hid hq
  clear hq
  by_cases hft : m.fr = m.tt
  · have z3 : (m.fr == m.tt) = true := by rw [hft]; exact beq_self_eq_true _
    clear hft
    go_enter Try.func7, Try.ntmps7
    go_upto_region 1 with fail
    generalize (w.alloc (.cells #[.int .i64 m.fr, .int .i64 m.tt, .int .i64 m.kd, .int .i64 m.vol, .int .i64 m.life, .int .u64 m.id, .int .i64 m.cd, .bool m.has, .int .u64 m.key, .int .u32 m.ck, .bool m.g, .slice m.a m.n m.c] 36)) = W0 at *
    go_wp2_with fail
    refine (net_alive _).mono ?_
    rintro e w1 ⟨rfl, B1⟩
    have HB1 := Lib.hid (HB0.out.trans (B1.mono HB0.out.size))
    have HK1 := Lib.hid (HK0.out.below B1 HK0.out.lt)
    clear B1
    obtain ⟨k0, k1, k2, k3, k4, k5, k6, k7, k8, k9, k10, k11⟩ := HK1.out.twelve
    go_wp2_with fail
    refine (EK.out _ HB1.out).mono ?_
    rintro e w2 ⟨rfl, B2⟩
    have HB2 := Lib.hid (HB1.out.trans (B2.mono HB1.out.size))
    have HK2 := Lib.hid (HK1.out.below B2 HK1.out.lt)
    clear B2 k0 k1 k2 k3 k4 k5 k6 k7 k8 k9 k10 k11
    obtain ⟨k0, k1, k2, k3, k4, k5, k6, k7, k8, k9, k10, k11⟩ := HK2.out.twelve
    go_wp2_with fail
    go_ret
    exact ⟨rfl, HB2.out⟩
  have z3 : (m.fr == m.tt) = false := by rw [beq_eq_false_iff_ne]; exact hft
  have HFT := Lib.hid hft
  clear hft
  have EO := Lib.hid fun (W : World) => ofm_any m W
  rw [HV.out] at EO
  have hml : m.l.length = m.n := HI.out.hb.1
  obtain ⟨r1, r2, -⟩ := mchk_ok HQ.out
  have HRG := Lib.hid (And.intro r1 r2)
  clear r1 r2
  go_enter Try.func7, Try.ntmps7
  go_upto_region 1 with fail
  generalize (w.alloc (.cells #[.int .i64 m.fr, .int .i64 m.tt, .int .i64 m.kd, .int .i64 m.vol, .int .i64 m.life, .int .u64 m.id, .int .i64 m.cd, .bool m.has, .int .u64 m.key, .int .u32 m.ck, .bool m.g, .slice m.a m.n m.c] 36)) = W0 at *
  go_wp2_with fail
  refine (net_alive _).mono ?_
  rintro e w1 ⟨rfl, B1⟩
  have HB1 := Lib.hid (HB0.out.trans (B1.mono HB0.out.size))
  have HK1 := Lib.hid (HK0.out.below B1 HK0.out.lt)
  clear B1
  obtain ⟨k0, k1, k2, k3, k4, k5, k6, k7, k8, k9, k10, k11⟩ := HK1.out.twelve
  go_wp2_with fail
  refine (EK.out _ HB1.out).mono ?_
  rintro e w2 ⟨rfl, B2⟩
  have HB2 := Lib.hid (HB1.out.trans (B2.mono HB1.out.size))
  have HK2 := Lib.hid (HK1.out.below B2 HK1.out.lt)
  clear B2 k0 k1 k2 k3 k4 k5 k6 k7 k8 k9 k10 k11
  obtain ⟨k0, k1, k2, k3, k4, k5, k6, k7, k8, k9, k10, k11⟩ := HK2.out.twelve
  go_wp2_with fail
  refine (new_any w2).mono ?_
  rintro e w3 ⟨rfl, rfl⟩
  have hn0 := new_net w2
  have BA := (Below.refl w2.heap.size w2).alloc (Nat.le_refl _) (.cells #[.slice none 0 0, .slice none 0 0] 99)
  have HB3 := Lib.hid (HB2.out.trans (BA.mono HB2.out.size))
  have HK3 := Lib.hid (HK2.out.below BA HK2.out.lt)
  have HR3 := Lib.hid hn0
  obtain ⟨N, hN⟩ : ∃ N, w2.heap.size = N := ⟨_, rfl⟩
  have HLN := Lib.hid (show w.heap.size < N from by rw [← hN]; exact HK2.out.lt)
  rw [hN] at HR3
  generalize (w2.alloc (.cells #[.slice none 0 0, .slice none 0 0] 99)) = w3 at *
  rw [hN]
  clear hn0 BA hN HB2 HK2 HB1 HK1 HB0 HK0 k0 k1 k2 k3 k4 k5 k6 k7 k8 k9 k10 k11
  obtain ⟨k0, k1, k2, k3, k4, k5, k6, k7, k8, k9, k10, k11⟩ := HK3.out.twelve
  go_wp2_with fail
  refine (EO.out _).mono ?_
  rintro e w4 ⟨rfl, B4⟩
  have HB4 := Lib.hid (HB3.out.trans (B4.mono HB3.out.size))
  have HK4 := Lib.hid (HK3.out.below B4 HK3.out.lt)
  have HR4 := Lib.hid (HR3.out.below B4)
  clear B4 k0 k1 k2 k3 k4 k5 k6 k7 k8 k9 k10 k11
  obtain ⟨k0, k1, k2, k3, k4, k5, k6, k7, k8, k9, k10, k11⟩ := HK4.out.twelve
  go_wp2_with fail
  have ES := Lib.hid (send_any m w4 HR4.out ((HI.out.hb.below HB4.out).more HB4.out.size) (by have := HN.out; omega) HI.out.id1 HI.out.key1 HI.out.ck1)
  refine ES.out.mono ?_
  rintro e w5 ⟨P1, cf, rfl, hd5, hs⟩
  obtain ⟨pk, rfl, hp⟩ : ∃ pk : Pk, P1 = [pk] ∧ pk.m = m := by
    rcases hs with ⟨h, -⟩ | ⟨-, h, -⟩ | ⟨-, -, -, p, h1, h2⟩
    · exact absurd HQ.out h
    · exact absurd h (by decide)
    · exact ⟨p, h1, h2⟩
  obtain rfl : cf = 0 := by
    rcases hs with ⟨h, -⟩ | ⟨-, h, -⟩ | ⟨-, -, h, -⟩
    · exact absurd HQ.out h
    · exact absurd h (by decide)
    · exact h
  have HP := Lib.hid hp
  have HB5 := Lib.hid (HB4.out.trans (hd5.2.2.mono (Nat.le_of_lt HLN.out)))
  have HK5 := Lib.hid (HK4.out.below hd5.2.2 HLN.out)
  have hcv : 0 ≤ m.tt ∧ m.tt ≤ 255 ∧ 0 ≤ m.fr ∧ m.fr ≤ 255 ∧ m.tt ≠ m.fr := ⟨HRG.out.2.1, HRG.out.2.2, HRG.out.1.1, HRG.out.1.2, fun e => HFT.out e.symm⟩
  have EC := Lib.hid (cut_any m.tt m.fr true w5 hd5.1 (by decide))
  have hcut : netCut [] m.tt m.fr true = ([(pMin m.fr m.tt, pMax m.fr m.tt)], 0) := by
    unfold netCut
    rw [if_pos hcv, pMin_comm m.tt, pMax_comm m.tt]
    rfl
  rw [hcut] at EC
  clear hs hp hd5 ES hcut hcv EO k0 k1 k2 k3 k4 k5 k6 k7 k8 k9 k10 k11
  obtain ⟨k0, k1, k2, k3, k4, k5, k6, k7, k8, k9, k10, k11⟩ := HK5.out.twelve
  go_wp2_with fail
  refine EC.out.mono ?_
  rintro e w6 ⟨rfl, hd6⟩
  have HB6 := Lib.hid (HB5.out.trans (hd6.2.2.mono (Nat.le_of_lt HLN.out)))
  have HK6 := Lib.hid (HK5.out.below hd6.2.2 HLN.out)
  have ET := Lib.hid (take_any 0 w6 hd6.1 (by show (1 : Nat) ≤ _; decide))
  have htk : netTake [pk] [(pMin m.fr m.tt, pMax m.fr m.tt)] 0 = ((mNone, 17), [pk]) := by
    unfold netTake
    rw [show netAt [pk] 0 = (pk.m.bare, 0) from rfl, HP.out, if_neg (not_not_intro rfl)]
    show (if apC [(pMin m.fr m.tt, pMax m.fr m.tt)] m.fr m.tt = true then _ else _) = _
    rw [apC_one, decide_eq_true (.inl ⟨rfl, rfl⟩), if_pos rfl]
  rw [htk] at ET
  clear hd6 EC htk k0 k1 k2 k3 k4 k5 k6 k7 k8 k9 k10 k11
  go_wp2_with fail
  refine ET.out.mono ?_
  rintro e w7 ⟨hd7, a1, c1, rfl, -, -, -⟩
  rw [show MsgR.vals { ((mNone, 17) : MsgR × Nat).1 with a := a1, c := c1 } = .agg #[.int .i64 0, .int .i64 0, .int .i64 0, .int .i64 0, .int .i64 0, .int .u64 0, .int .i64 0, .bool false, .int .u64 0, .int .u32 0, .bool false, .slice a1 0 c1] from rfl, show errc ((mNone, 17) : MsgR × Nat).2 = errc 17 from rfl]
  have BA := (Below.refl w7.heap.size w7).alloc (Nat.le_refl _) (.cells #[.int .i64 0, .int .i64 0, .int .i64 0, .int .i64 0, .int .i64 0, .int .u64 0, .int .i64 0, .bool false, .int .u64 0, .int .u32 0, .bool false, .slice a1 0 c1] 29)
  have HK7 := Lib.hid ((HK6.out.below hd7.2.2 HLN.out).below BA (HK6.out.below hd7.2.2 HLN.out).lt)
  have HB7 := Lib.hid ((HB6.out.trans (hd7.2.2.mono (Nat.le_of_lt HLN.out))).trans (BA.mono (Nat.le_trans (Nat.le_of_lt HLN.out) hd7.1.low)))
  have HR7 := Lib.hid (hd7.1.below BA)
  clear hd7 BA ET
  go_upto_region 9 with fail
  generalize (w7.alloc (.cells #[.int .i64 0, .int .i64 0, .int .i64 0, .int .i64 0, .int .i64 0, .int .u64 0, .int .i64 0, .bool false, .int .u64 0, .int .u32 0, .bool false, .slice a1 0 c1] 29)) = W7 at *
  obtain ⟨k0, k1, k2, k3, k4, k5, k6, k7, k8, k9, k10, k11⟩ := HK7.out.twelve
  have EA := Lib.hid fun (W : World) (B : Below W7.heap.size W7 W) => apart_any m.fr m.tt W (HR7.out.below B) (by show (1 : Nat) ≤ _; decide)
  have EA' := Lib.hid fun (W : World) (B : Below W7.heap.size W7 W) => apart_any m.tt m.fr W (HR7.out.below B) (by show (1 : Nat) ≤ _; decide)
  rw [show apC [(pMin m.fr m.tt, pMax m.fr m.tt)] m.fr m.tt = true from by rw [apC_one]; exact decide_eq_true (.inl ⟨rfl, rfl⟩)] at EA
  rw [show apC [(pMin m.fr m.tt, pMax m.fr m.tt)] m.tt m.fr = true from by rw [apC_one]; exact decide_eq_true (.inr ⟨rfl, rfl⟩)] at EA'
  go_wp2_with fail
  refine (EA.out _ (Below.refl _ _)).mono ?_
  rintro e w8 ⟨rfl, B8⟩
  have HB8 := Lib.hid B8
  have hk8 := HK7.out.below B8 HK7.out.lt
  clear k0 k1 k2 k3 k4 k5 k6 k7 k8 k9 k10 k11
  obtain ⟨k0, k1, k2, k3, k4, k5, k6, k7, k8, k9, k10, k11⟩ := hk8.twelve
  go_wp2_with fail
  refine (EA'.out _ HB8.out).mono ?_
  rintro e w9 ⟨rfl, B9⟩
  have HB9 := Lib.hid (HB8.out.trans (B9.mono HB8.out.size))
  have HK9 := Lib.hid (hk8.below B9 hk8.lt)
  have HR9 := Lib.hid (HR7.out.below HB9.out)
  have HBW9 := Lib.hid (HB7.out.trans (HB9.out.mono HB7.out.size))
  clear B8 B9 hk8 EA EA' HR7 HB7 HK7 HB8 HB9 k0 k1 k2 k3 k4 k5 k6 k7 k8 k9 k10 k11
  go_upto_region 10 with fail
  go_cut [13] (fun v wx => v = .bool false ∧ Below w9.heap.size w9 wx)
  case first =>
    obtain ⟨k0, k1, k2, k3, k4, k5, k6, k7, k8, k9, k10, k11⟩ := HK9.out.twelve
    by_cases h1 : a = m.fr
    · have y1 : (a != m.fr) = false := by rw [bne_eq_false_iff_eq]; exact h1
      clear h1
      go_wp2_with fail
      go_meet
      exact ⟨rfl, Below.refl _ _⟩
    have y1 : (a != m.fr) = true := by rw [bne_iff_ne]; exact h1
    by_cases h2 : a = m.tt
    · have y2 : (a != m.tt) = false := by rw [bne_eq_false_iff_eq]; exact h2
      clear h1 h2
      go_wp2_with fail
      go_meet
      exact ⟨rfl, Below.refl _ _⟩
    have y2 : (a != m.tt) = true := by rw [bne_iff_ne]; exact h2
    have EX := Lib.hid (apart_any a b w9 HR9.out (by show (1 : Nat) ≤ _; decide))
    rw [show apC [(pMin m.fr m.tt, pMax m.fr m.tt)] a b = false from by rw [apC_one]; exact decide_eq_false (fun e => by rcases e with e | e; exact h1 e.1; exact h2 e.1)] at EX
    clear h1 h2
    go_wp2_with fail
    try rw [HWa.out, HWb.out]
    refine EX.out.mono ?_
    rintro e wx ⟨rfl, Bx⟩
    have HBX := Lib.hid Bx
    clear Bx k0 k1 k2 k3 k4 k5 k6 k7 k8 k9 k10 k11
    go_wp2_with fail
    go_meet
    exact ⟨rfl, HBX.out⟩
  case rest =>
    obtain ⟨rfl, Bc⟩ := hcut
    have HKc := Lib.hid (HK9.out.below Bc HK9.out.lt)
    have HRc := Lib.hid (HR9.out.below Bc)
    have HBc := Lib.hid (HBW9.out.trans (Bc.mono HBW9.out.size))
    clear Bc HK9 HR9 HBW9
    have hcv : 0 ≤ m.fr ∧ m.fr ≤ 255 ∧ 0 ≤ m.tt ∧ m.tt ≤ 255 ∧ m.fr ≠ m.tt := ⟨HRG.out.1.1, HRG.out.1.2, HRG.out.2.1, HRG.out.2.2, HFT.out⟩
    have EC := Lib.hid (cut_any m.fr m.tt false wc HRc.out (by show (1 : Nat) ≤ _; decide))
    have hcut' : netCut [(pMin m.fr m.tt, pMax m.fr m.tt)] m.fr m.tt false = ([], 0) := by
      unfold netCut
      rw [if_pos hcv, cutF_one]
      rfl
    rw [hcut'] at EC
    clear hcut' hcv
    obtain ⟨k0, k1, k2, k3, k4, k5, k6, k7, k8, k9, k10, k11⟩ := HKc.out.twelve
    go_wp2_with fail
    refine EC.out.mono ?_
    rintro e w10 ⟨rfl, hd10⟩
    have HB10 := Lib.hid (HBc.out.trans (hd10.2.2.mono (Nat.le_of_lt HLN.out)))
    have HK10 := Lib.hid (HKc.out.below hd10.2.2 HLN.out)
    have ET := Lib.hid (take_any 0 w10 hd10.1 (by decide))
    rw [show netTake [pk] [] 0 = ((pk.m.bare, 0), []) from rfl, HP.out] at ET
    clear hd10 EC k0 k1 k2 k3 k4 k5 k6 k7 k8 k9 k10 k11
    go_wp2_with fail
    refine ET.out.mono ?_
    rintro e w11 ⟨hd11, a2, c2, rfl, -, -, ho11⟩
    rw [show MsgR.vals { ((m.bare, 0) : MsgR × Nat).1 with a := a2, c := c2 } = .agg #[.int .i64 m.fr, .int .i64 m.tt, .int .i64 m.kd, .int .i64 m.vol, .int .i64 m.life, .int .u64 m.id, .int .i64 m.cd, .bool m.has, .int .u64 m.key, .int .u32 m.ck, .bool m.g, .slice a2 m.n c2] from rfl, show errc ((m.bare, 0) : MsgR × Nat).2 = errc 0 from rfl]
    have BA := (Below.refl w11.heap.size w11).alloc (Nat.le_refl _) (.cells #[.int .i64 m.fr, .int .i64 m.tt, .int .i64 m.kd, .int .i64 m.vol, .int .i64 m.life, .int .u64 m.id, .int .i64 m.cd, .bool m.has, .int .u64 m.key, .int .u32 m.ck, .bool m.g, .slice a2 m.n c2] 29)
    have hk11 := HK10.out.below hd11.2.2 HLN.out
    have HK11 := Lib.hid (hk11.below BA hk11.lt)
    have HB11 := Lib.hid ((HB10.out.trans (hd11.2.2.mono (Nat.le_of_lt HLN.out))).trans (BA.mono (Nat.le_trans (Nat.le_of_lt HLN.out) hd11.1.low)))
    have HX11 := Lib.hid (Blk.made w11 29 #[.int .i64 m.fr, .int .i64 m.tt, .int .i64 m.kd, .int .i64 m.vol, .int .i64 m.life, .int .u64 m.id, .int .i64 m.cd, .bool m.has, .int .u64 m.key, .int .u32 m.ck, .bool m.g, .slice a2 m.n c2])
    have HO11 := Lib.hid (row_below ho11 BA (Nat.le_refl _))
    clear hd11 BA ET hk11 ho11
    go_upto_region 13 with fail
    generalize (w11.alloc (.cells #[.int .i64 m.fr, .int .i64 m.tt, .int .i64 m.kd, .int .i64 m.vol, .int .i64 m.life, .int .u64 m.id, .int .i64 m.cd, .bool m.has, .int .u64 m.key, .int .u32 m.ck, .bool m.g, .slice a2 m.n c2] 29)) = W9 at *
    have HC := Lib.hid fun (W : World) (B : Below W9.heap.size W9 W) => And.intro (HK11.out.below B HK11.out.lt).twelve (HX11.out.below B HX11.out.lt).twelve
    have ETo := Lib.hid fun (W : World) => show Calls Try.prog 16 #[.agg #[.int .i64 m.fr, .int .i64 m.tt, .int .i64 m.kd, .int .i64 m.vol, .int .i64 m.life, .int .u64 m.id, .int .i64 m.cd, .bool m.has, .int .u64 m.key, .int .u32 m.ck, .bool m.g, .slice a2 m.n c2]] W fun e w' => e = .returned (.agg #[.int .i64 m.fr, .int .i64 m.tt, .int .i64 m.kd, .int .i64 m.vol, .int .i64 m.life, .int .u64 m.id, .int .i64 m.cd, .bool m.has, .int .u64 m.key, .int .u32 m.ck, .bool m.g, .slice a2 m.n c2]) ∧ Below W.heap.size W w' from tom_any { m.bare with a := a2, c := c2 } W
    have ESm := Lib.hid fun (W : World) (B : Below W9.heap.size W9 W) => show Calls Try.prog 15 #[.agg #[.int .i64 m.fr, .int .i64 m.tt, .int .i64 m.kd, .int .i64 m.vol, .int .i64 m.life, .int .u64 m.id, .int .i64 m.cd, .bool m.has, .int .u64 m.key, .int .u32 m.ck, .bool m.g, .slice a2 m.n c2], .agg #[.int .i64 m.fr, .int .i64 m.tt, .int .i64 m.kd, .int .i64 m.vol, .int .i64 m.life, .int .u64 m.id, .int .i64 m.cd, .bool m.has, .int .u64 m.key, .int .u32 m.ck, .bool m.g, .slice m.a m.n m.c]] W fun e w' => e = .returned (.bool true) ∧ Below W.heap.size W w' from by
      have := rsame_any { m.bare with a := a2, c := c2 } m W (((bsl_own HO11.out).below B).more B.size) ((HI.out.hb.below (HB11.out.trans (B.mono HB11.out.size))).more (HB11.out.trans (B.mono HB11.out.size)).size) (by have := HN.out; show m.n ≤ _; omega)
      rw [show mSame { m.bare with a := a2, c := c2 } m = true from mSame_of rfl] at this
      exact this
    clear z z3 hml
    refine wp_region_held_drew (S := fun W => Below W9.heap.size W9 W) (by kernel_rfl) ((Below.refl _ _).drew) (fun hS => ?_)
    refine wpAnyH_take (i := 0) (v := ?_) rfl (by kernel_rfl) (by kernel_rfl) (by kernel_rfl) (fun _ _ _ h => h) (Or.inl ⟨by kernel_rfl, ?_⟩) hS ?_
    rotate_left
    · intro W hW; go_simp; try with_reducible rfl
    refine wpAnyH_take (i := 2) (v := ?_) rfl (by kernel_rfl) (by kernel_rfl) (by kernel_rfl) (fun _ _ _ h => h) (Or.inl ⟨by kernel_rfl, ?_⟩) hS ?_
    rotate_left
    · intro W hW; go_simp; try with_reducible rfl
    refine wpAnyH_take (i := 5) (v := ?_) rfl (by kernel_rfl) (by kernel_rfl) (by kernel_rfl) (fun _ _ _ h => h) (Or.inl ⟨by kernel_rfl, ?_⟩) hS ?_
    rotate_left
    · intro W hW; go_simp; try with_reducible rfl
    refine wpAnyH_take (i := 8) (v := ?_) rfl (by kernel_rfl) (by kernel_rfl) (by kernel_rfl) (fun _ _ _ h => h) (Or.inl ⟨by kernel_rfl, ?_⟩) hS ?_
    rotate_left
    · intro W hW; go_simp; try with_reducible rfl
    refine wpAnyH_ready (rs := [1]) (by kernel_rfl) (by simp) ?_
    refine AllReadyH.cons (i := 1) rfl ?_ AllReadyH.nil
    intro K hK
    go_simp
    refine (code_c 0 _ (by decide)).mono ?_
    rintro e wa ⟨rfl, rfl⟩
    go_simp
    refine hK.out _ _ ?_ (fun hN => ?_)
    · first | exact hT | exact hS | exact hS.alloc hS.size _ | exact hS.drew
    clear hK K
    try clear hT
    clear hS
    have hS := hN
    clear hN
    refine wpAnyH_ready (rs := [3]) (by kernel_rfl) (by simp) ?_
    refine AllReadyH.cons (i := 3) rfl ?_ AllReadyH.nil
    intro K hK
    go_simp
    refine (code_c 0 _ (by decide)).mono ?_
    rintro e wa ⟨rfl, rfl⟩
    go_simp
    refine hK.out _ _ ?_ (fun hN => ?_)
    · first | exact hT | exact hS | exact hS.alloc hS.size _ | exact hS.drew
    clear hK K
    try clear hT
    clear hS
    have hS := hN
    clear hN
    refine wpAnyH_take (i := 4) (v := ?_) rfl (by kernel_rfl) (by kernel_rfl) (by kernel_rfl) (fun _ _ _ h => h) (Or.inl ⟨by kernel_rfl, ?_⟩) hS ?_
    rotate_left
    · intro W hW; go_simp; try with_reducible rfl
    refine wpAnyH_ready (rs := [6]) (by kernel_rfl) (by simp) ?_
    refine AllReadyH.cons (i := 6) rfl ?_ AllReadyH.nil
    intro K hK
    go_simp
    refine (code_c 0 _ (by decide)).mono ?_
    rintro e wa ⟨rfl, rfl⟩
    go_simp
    refine hK.out _ _ ?_ (fun hN => ?_)
    · first | exact hT | exact hS | exact hS.alloc hS.size _ | exact hS.drew
    clear hK K
    try clear hT
    clear hS
    have hS := hN
    clear hN
    refine wpAnyH_take (i := 7) (v := ?_) rfl (by kernel_rfl) (by kernel_rfl) (by kernel_rfl) (fun _ _ _ h => h) (Or.inl ⟨by kernel_rfl, ?_⟩) hS ?_
    rotate_left
    · intro W hW; go_simp; try with_reducible rfl
    refine wpAnyH_ready (rs := [9]) (by kernel_rfl) (by simp) ?_
    refine AllReadyH.cons (i := 9) rfl ?_ AllReadyH.nil
    intro K hK
    go_simp
    refine (code_c 0 _ (by decide)).mono ?_
    rintro e wa ⟨rfl, rfl⟩
    go_simp
    refine hK.out _ _ ?_ (fun hN => ?_)
    · first | exact hT | exact hS | exact hS.alloc hS.size _ | exact hS.drew
    clear hK K
    try clear hT
    clear hS
    have hS := hN
    clear hN
    refine wpAnyH_take (i := 10) (v := ?_) rfl (by kernel_rfl) (by kernel_rfl) (by kernel_rfl) (fun _ _ _ h => h) (Or.inl ⟨by kernel_rfl, ?_⟩) hS ?_
    rotate_left
    · intro W hW; go_simp; try with_reducible rfl
    refine wpAnyH_take (i := 11) (v := ?_) rfl (by kernel_rfl) (by kernel_rfl) (by kernel_rfl) (fun _ _ _ h => h) (Or.inl ⟨by kernel_rfl, ?_⟩) hS ?_
    rotate_left
    · intro W hW; go_simp; try with_reducible rfl
    refine wpAnyH_take (i := 12) (v := ?_) rfl (by kernel_rfl) (by kernel_rfl) (by kernel_rfl) (fun _ _ _ h => h) (Or.inl ⟨by kernel_rfl, ?_⟩) hS ?_
    rotate_left
    · intro W hW; go_simp; try with_reducible rfl
    refine wpAnyH_take (i := 13) (v := ?_) rfl (by kernel_rfl) (by kernel_rfl) (by kernel_rfl) (fun _ _ _ h => h) (Or.inl ⟨by kernel_rfl, ?_⟩) hS ?_
    rotate_left
    · intro W hW; go_simp; try with_reducible rfl
    refine wpAnyH_ready (rs := [14]) (by kernel_rfl) (by simp) ?_
    refine AllReadyH.cons (i := 14) rfl ?_ AllReadyH.nil
    intro K hK
    go_simp
    refine (code_c 17 _ (by decide)).mono ?_
    rintro e wa ⟨rfl, rfl⟩
    go_simp
    refine hK.out _ _ ?_ (fun hN => ?_)
    · first | exact hT | exact hS | exact hS.alloc hS.size _ | exact hS.drew
    clear hK K
    try clear hT
    clear hS
    have hS := hN
    clear hN
    refine wpAnyH_take (i := 15) (v := ?_) rfl (by kernel_rfl) (by kernel_rfl) (by kernel_rfl) (fun _ _ _ h => h) (Or.inl ⟨by kernel_rfl, ?_⟩) hS ?_
    rotate_left
    · intro W hW; go_simp; try with_reducible rfl
    refine wpAnyH_take (i := 16) (v := ?_) rfl (by kernel_rfl) (by kernel_rfl) (by kernel_rfl) (fun _ _ _ h => h) (Or.inl ⟨by kernel_rfl, ?_⟩) hS ?_
    rotate_left
    · intro W hW; go_simp; try with_reducible rfl
    refine wpAnyH_take (i := 17) (v := ?_) rfl (by kernel_rfl) (by kernel_rfl) (by kernel_rfl) (fun _ _ _ h => h) (Or.inl ⟨by kernel_rfl, ?_⟩) hS ?_
    rotate_left
    · intro W hW; go_simp; try with_reducible rfl
    refine wpAnyH_take (i := 18) (v := ?_) rfl (by kernel_rfl) (by kernel_rfl) (by kernel_rfl) (fun _ _ _ h => h) (Or.inl ⟨by kernel_rfl, ?_⟩) hS ?_
    rotate_left
    · intro W hW; go_simp; try with_reducible rfl
    refine wpAnyH_take (i := 19) (v := ?_) rfl (by kernel_rfl) (by kernel_rfl) (by kernel_rfl) (fun _ _ _ h => h) (Or.inl ⟨by kernel_rfl, ?_⟩) hS ?_
    rotate_left
    · intro W hW; go_simp; try with_reducible rfl
    refine wpAnyH_take (i := 20) (v := ?_) rfl (by kernel_rfl) (by kernel_rfl) (by kernel_rfl) (fun _ _ _ h => h) (Or.inl ⟨by kernel_rfl, ?_⟩) hS ?_
    rotate_left
    · intro W hW; go_simp; try with_reducible rfl
    refine wpAnyH_take (i := 21) (v := ?_) rfl (by kernel_rfl) (by kernel_rfl) (by kernel_rfl) (fun _ _ _ h => h) (Or.inl ⟨by kernel_rfl, ?_⟩) hS ?_
    rotate_left
    · intro W hW; go_simp; try with_reducible rfl
    refine wpAnyH_take (i := 22) (v := ?_) rfl (by kernel_rfl) (by kernel_rfl) (by kernel_rfl) (fun _ _ _ h => h) (Or.inl ⟨by kernel_rfl, ?_⟩) hS ?_
    rotate_left
    · intro W hW; go_simp; try with_reducible rfl
    refine wpAnyH_take (i := 23) (v := ?_) rfl (by kernel_rfl) (by kernel_rfl) (by kernel_rfl) (fun _ _ _ h => h) (Or.inl ⟨by kernel_rfl, ?_⟩) hS ?_
    rotate_left
    · intro W hW; go_simp; try with_reducible rfl
    refine wpAnyH_take (i := 24) (v := ?_) rfl (by kernel_rfl) (by kernel_rfl) (by kernel_rfl) (fun _ _ _ h => h) (Or.inl ⟨by kernel_rfl, ?_⟩) hS ?_
    rotate_left
    · intro W hW; go_simp; try with_reducible rfl
    refine wpAnyH_take (i := 25) (v := ?_) rfl (by kernel_rfl) (by kernel_rfl) (by kernel_rfl) (fun _ _ _ h => h) (Or.inl ⟨by kernel_rfl, ?_⟩) hS ?_
    rotate_left
    · intro W hW; obtain ⟨⟨k0, k1, k2, k3, k4, k5, k6, k7, k8, k9, k10, k11⟩, j0, j1, j2, j3, j4, j5, j6, j7, j8, j9, j10, j11⟩ := HC.out W hW; go_simp; try with_reducible rfl
    refine wpAnyH_take (i := 27) (v := ?_) rfl (by kernel_rfl) (by kernel_rfl) (by kernel_rfl) (fun _ _ _ h => h) (Or.inl ⟨by kernel_rfl, ?_⟩) hS ?_
    rotate_left
    · intro W hW; obtain ⟨⟨k0, k1, k2, k3, k4, k5, k6, k7, k8, k9, k10, k11⟩, j0, j1, j2, j3, j4, j5, j6, j7, j8, j9, j10, j11⟩ := HC.out W hW; go_simp; try with_reducible rfl
    refine wpAnyH_ready (rs := [26]) (by kernel_rfl) (by simp) ?_
    refine AllReadyH.cons (i := 26) rfl ?_ AllReadyH.nil
    intro K hK
    go_simp
    refine (ETo.out _).mono ?_
    rintro e wb ⟨rfl, Bb⟩
    have hT := hS.trans (Bb.mono hS.size)
    go_simp
    refine hK.out _ _ ?_ (fun hN => ?_)
    · first | exact hT | exact hS | exact hS.alloc hS.size _ | exact hS.drew
    clear hK K
    try clear hT
    clear hS
    have hS := hN
    clear hN
    refine wpAnyH_ready (rs := [28]) (by kernel_rfl) (by simp) ?_
    refine AllReadyH.cons (i := 28) rfl ?_ AllReadyH.nil
    intro K hK
    go_simp
    refine (ESm.out _ hS).mono ?_
    rintro e wd ⟨rfl, Bd⟩
    have hT := hS.trans (Bd.mono hS.size)
    go_simp
    refine hK.out _ _ ?_ (fun hN => ?_)
    · first | exact hT | exact hS | exact hS.alloc hS.size _ | exact hS.drew
    clear hK K
    try clear hT
    clear hS
    have hS := hN
    clear hN
    refine wpAnyH_take (i := 29) (v := ?_) rfl (by kernel_rfl) (by kernel_rfl) (by kernel_rfl) (fun _ _ _ h => h) (Or.inl ⟨by kernel_rfl, ?_⟩) hS ?_
    rotate_left
    · intro W hW; go_simp; try with_reducible rfl
    refine wpAnyH_take (i := 30) (v := ?_) rfl (by kernel_rfl) (by kernel_rfl) (by kernel_rfl) (fun _ _ _ h => h) (Or.inl ⟨by kernel_rfl, ?_⟩) hS ?_
    rotate_left
    · intro W hW; go_simp; try with_reducible rfl
    refine wpAnyH_done (by kernel_rfl) ?_ _
    go_simp
    have HF := Lib.hid (HB11.out.trans (hS.mono HB11.out.size))
    clear hS
    go_wp2_with fail
    go_ret
    exact ⟨rfl, HF.out⟩
end Go.Proofs.Ytpkfjnhjcdcoaaa
