/-
  The walk of corncriblaw14.WireApart.
-/
import Derived.Test.YtpkfjnhjcdcoaaaWirAlive
import Derived.Test.YtpkfjnhjcdcoaaaWirLaw
import Derived.Test.YtpkfjnhjcdcoaaaMsl
namespace Go.Proofs.Ytpkfjnhjcdcoaaa
open Go.RowKit
set_option linter.unusedVariables false

set_option maxRecDepth 100000 in
set_option maxHeartbeats 8000000 in
theorem apart_all (m m' : MsgR) (t : Int) (w : World) (h : MIn w w.heap.size m) (h' : MIn w w.heap.size m') (ht0 : 0 ≤ t) (ht1 : t ≤ 65535) :
    Calls Try.prog 5 #[m.vals, m'.vals, .int .u16 t] w fun e w' => e = .returned (.bool true) ∧ Below w.heap.size w w' := by
  have HI := Lib.hid h
  have HI' := Lib.hid h'
  have HV := Lib.hid (show m.vals = .agg #[.int .i64 m.fr, .int .i64 m.tt, .int .i64 m.kd, .int .i64 m.vol, .int .i64 m.life, .int .u64 m.id, .int .i64 m.cd, .bool m.has, .int .u64 m.key, .int .u32 m.ck, .bool m.g, .slice m.a m.n m.c] from rfl)
  have HV' := Lib.hid (show m'.vals = .agg #[.int .i64 m'.fr, .int .i64 m'.tt, .int .i64 m'.kd, .int .i64 m'.vol, .int .i64 m'.life, .int .u64 m'.id, .int .i64 m'.cd, .bool m'.has, .int .u64 m'.key, .int .u32 m'.ck, .bool m'.g, .slice m'.a m'.n m'.c] from rfl)
  rw [HV.out, HV'.out]
  have HB0 := Lib.hid (((Below.refl w.heap.size w).alloc (Nat.le_refl _) (.cells #[.int .i64 m.fr, .int .i64 m.tt, .int .i64 m.kd, .int .i64 m.vol, .int .i64 m.life, .int .u64 m.id, .int .i64 m.cd, .bool m.has, .int .u64 m.key, .int .u32 m.ck, .bool m.g, .slice m.a m.n m.c] 36)).alloc (by simp) (.cells #[.int .i64 m'.fr, .int .i64 m'.tt, .int .i64 m'.kd, .int .i64 m'.vol, .int .i64 m'.life, .int .u64 m'.id, .int .i64 m'.cd, .bool m'.has, .int .u64 m'.key, .int .u32 m'.ck, .bool m'.g, .slice m'.a m'.n m'.c] 36))
  obtain ⟨hK, hJ⟩ := made_two w 36 36 #[.int .i64 m.fr, .int .i64 m.tt, .int .i64 m.kd, .int .i64 m.vol, .int .i64 m.life, .int .u64 m.id, .int .i64 m.cd, .bool m.has, .int .u64 m.key, .int .u32 m.ck, .bool m.g, .slice m.a m.n m.c] #[.int .i64 m'.fr, .int .i64 m'.tt, .int .i64 m'.kd, .int .i64 m'.vol, .int .i64 m'.life, .int .u64 m'.id, .int .i64 m'.cd, .bool m'.has, .int .u64 m'.key, .int .u32 m'.ck, .bool m'.g, .slice m'.a m'.n m'.c]
  have HK0 := Lib.hid hK
  have HJ0 := Lib.hid hJ
  clear h h' hK hJ
  by_cases hbig : 300 < m.n
  · have z : decide ((300 : Int) < (m.n : Int)) = true := decide_eq_true (by omega)
    clear hbig
    go_enter Try.func5, Try.ntmps5
    go_upto_region 1 with fail
    generalize ((w.alloc (.cells #[.int .i64 m.fr, .int .i64 m.tt, .int .i64 m.kd, .int .i64 m.vol, .int .i64 m.life, .int .u64 m.id, .int .i64 m.cd, .bool m.has, .int .u64 m.key, .int .u32 m.ck, .bool m.g, .slice m.a m.n m.c] 36)).alloc (.cells #[.int .i64 m'.fr, .int .i64 m'.tt, .int .i64 m'.kd, .int .i64 m'.vol, .int .i64 m'.life, .int .u64 m'.id, .int .i64 m'.cd, .bool m'.has, .int .u64 m'.key, .int .u32 m'.ck, .bool m'.g, .slice m'.a m'.n m'.c] 36)) = W0 at *
    go_wp2_with fail
    refine (wire_alive _).mono ?_
    rintro e w1 ⟨rfl, B1⟩
    have HB1 := Lib.hid (HB0.out.trans (B1.mono HB0.out.size))
    have HK1 := Lib.hid (HK0.out.below B1 HK0.out.lt)
    have HJ1 := Lib.hid (HJ0.out.below B1 HJ0.out.lt)
    clear B1
    obtain ⟨k0, k1, k2, k3, k4, k5, k6, k7, k8, k9, k10, k11⟩ := HK1.out.twelve
    obtain ⟨j0, j1, j2, j3, j4, j5, j6, j7, j8, j9, j10, j11⟩ := HJ1.out.twelve
    go_wp2_with fail
    go_ret
    exact ⟨rfl, HB1.out⟩
  have z : decide ((300 : Int) < (m.n : Int)) = false := decide_eq_false (by omega)
  have HN := Lib.hid (show m.n ≤ 300 from by omega)
  clear hbig
  by_cases hbig : 300 < m'.n
  · have z' : decide ((300 : Int) < (m'.n : Int)) = true := decide_eq_true (by omega)
    clear hbig
    go_enter Try.func5, Try.ntmps5
    go_upto_region 1 with fail
    generalize ((w.alloc (.cells #[.int .i64 m.fr, .int .i64 m.tt, .int .i64 m.kd, .int .i64 m.vol, .int .i64 m.life, .int .u64 m.id, .int .i64 m.cd, .bool m.has, .int .u64 m.key, .int .u32 m.ck, .bool m.g, .slice m.a m.n m.c] 36)).alloc (.cells #[.int .i64 m'.fr, .int .i64 m'.tt, .int .i64 m'.kd, .int .i64 m'.vol, .int .i64 m'.life, .int .u64 m'.id, .int .i64 m'.cd, .bool m'.has, .int .u64 m'.key, .int .u32 m'.ck, .bool m'.g, .slice m'.a m'.n m'.c] 36)) = W0 at *
    go_wp2_with fail
    refine (wire_alive _).mono ?_
    rintro e w1 ⟨rfl, B1⟩
    have HB1 := Lib.hid (HB0.out.trans (B1.mono HB0.out.size))
    have HK1 := Lib.hid (HK0.out.below B1 HK0.out.lt)
    have HJ1 := Lib.hid (HJ0.out.below B1 HJ0.out.lt)
    clear B1
    obtain ⟨k0, k1, k2, k3, k4, k5, k6, k7, k8, k9, k10, k11⟩ := HK1.out.twelve
    obtain ⟨j0, j1, j2, j3, j4, j5, j6, j7, j8, j9, j10, j11⟩ := HJ1.out.twelve
    go_wp2_with fail
    go_ret
    exact ⟨rfl, HB1.out⟩
  have z' : decide ((300 : Int) < (m'.n : Int)) = false := decide_eq_false (by omega)
  have HN' := Lib.hid (show m'.n ≤ 300 from by omega)
  clear hbig
  obtain ⟨q, hq⟩ : ∃ q, mchk m = q := ⟨_, rfl⟩
  have EK := Lib.hid fun (W : World) (B : Below w.heap.size w W) => rcheck_any m W ((HI.out.hb.below B).more B.size) (by have := HN.out; omega)
  rw [hq, HV.out] at EK
  by_cases hq0 : q ≠ 0
  · have z2 : ((q : Int) != 0) = true := by rw [bne_iff_ne]; omega
    clear hq0 hq
    go_enter Try.func5, Try.ntmps5
    go_upto_region 1 with fail
    generalize ((w.alloc (.cells #[.int .i64 m.fr, .int .i64 m.tt, .int .i64 m.kd, .int .i64 m.vol, .int .i64 m.life, .int .u64 m.id, .int .i64 m.cd, .bool m.has, .int .u64 m.key, .int .u32 m.ck, .bool m.g, .slice m.a m.n m.c] 36)).alloc (.cells #[.int .i64 m'.fr, .int .i64 m'.tt, .int .i64 m'.kd, .int .i64 m'.vol, .int .i64 m'.life, .int .u64 m'.id, .int .i64 m'.cd, .bool m'.has, .int .u64 m'.key, .int .u32 m'.ck, .bool m'.g, .slice m'.a m'.n m'.c] 36)) = W0 at *
    go_wp2_with fail
    refine (wire_alive _).mono ?_
    rintro e w1 ⟨rfl, B1⟩
    have HB1 := Lib.hid (HB0.out.trans (B1.mono HB0.out.size))
    have HK1 := Lib.hid (HK0.out.below B1 HK0.out.lt)
    have HJ1 := Lib.hid (HJ0.out.below B1 HJ0.out.lt)
    clear B1
    obtain ⟨k0, k1, k2, k3, k4, k5, k6, k7, k8, k9, k10, k11⟩ := HK1.out.twelve
    obtain ⟨j0, j1, j2, j3, j4, j5, j6, j7, j8, j9, j10, j11⟩ := HJ1.out.twelve
    go_wp2_with fail
    refine (EK.out _ HB1.out).mono ?_
    rintro e w2 ⟨rfl, B2⟩
    have HB2 := Lib.hid (HB1.out.trans (B2.mono HB1.out.size))
    have HK2 := Lib.hid (HK1.out.below B2 HK1.out.lt)
    have HJ2 := Lib.hid (HJ1.out.below B2 HJ1.out.lt)
    clear B2 k0 k1 k2 k3 k4 k5 k6 k7 k8 k9 k10 k11 j0 j1 j2 j3 j4 j5 j6 j7 j8 j9 j10 j11
    obtain ⟨k0, k1, k2, k3, k4, k5, k6, k7, k8, k9, k10, k11⟩ := HK2.out.twelve
    obtain ⟨j0, j1, j2, j3, j4, j5, j6, j7, j8, j9, j10, j11⟩ := HJ2.out.twelve
    go_wp2_with fail
    go_ret
    exact ⟨rfl, HB2.out⟩
  obtain rfl : q = 0 := Decidable.not_not.1 hq0
  clear hq0
  have HQ := Lib.hid hq
  clear hq
  obtain ⟨q, hq⟩ : ∃ q, mchk m' = q := ⟨_, rfl⟩
  have EK' := Lib.hid fun (W : World) (B : Below w.heap.size w W) => rcheck_any m' W ((HI'.out.hb.below B).more B.size) (by have := HN'.out; omega)
  rw [hq, HV'.out] at EK'
  by_cases hq0 : q ≠ 0
  · have z2 : ((q : Int) != 0) = true := by rw [bne_iff_ne]; omega
    clear hq0 hq
    go_enter Try.func5, Try.ntmps5
    go_upto_region 1 with fail
    generalize ((w.alloc (.cells #[.int .i64 m.fr, .int .i64 m.tt, .int .i64 m.kd, .int .i64 m.vol, .int .i64 m.life, .int .u64 m.id, .int .i64 m.cd, .bool m.has, .int .u64 m.key, .int .u32 m.ck, .bool m.g, .slice m.a m.n m.c] 36)).alloc (.cells #[.int .i64 m'.fr, .int .i64 m'.tt, .int .i64 m'.kd, .int .i64 m'.vol, .int .i64 m'.life, .int .u64 m'.id, .int .i64 m'.cd, .bool m'.has, .int .u64 m'.key, .int .u32 m'.ck, .bool m'.g, .slice m'.a m'.n m'.c] 36)) = W0 at *
    go_wp2_with fail
    refine (wire_alive _).mono ?_
    rintro e w1 ⟨rfl, B1⟩
    have HB1 := Lib.hid (HB0.out.trans (B1.mono HB0.out.size))
    have HK1 := Lib.hid (HK0.out.below B1 HK0.out.lt)
    have HJ1 := Lib.hid (HJ0.out.below B1 HJ0.out.lt)
    clear B1
    obtain ⟨k0, k1, k2, k3, k4, k5, k6, k7, k8, k9, k10, k11⟩ := HK1.out.twelve
    obtain ⟨j0, j1, j2, j3, j4, j5, j6, j7, j8, j9, j10, j11⟩ := HJ1.out.twelve
    go_wp2_with fail
    refine (EK.out _ HB1.out).mono ?_
    rintro e w2 ⟨rfl, B2⟩
    have HB2 := Lib.hid (HB1.out.trans (B2.mono HB1.out.size))
    have HK2 := Lib.hid (HK1.out.below B2 HK1.out.lt)
    have HJ2 := Lib.hid (HJ1.out.below B2 HJ1.out.lt)
    clear B2 k0 k1 k2 k3 k4 k5 k6 k7 k8 k9 k10 k11 j0 j1 j2 j3 j4 j5 j6 j7 j8 j9 j10 j11
    obtain ⟨k0, k1, k2, k3, k4, k5, k6, k7, k8, k9, k10, k11⟩ := HK2.out.twelve
    obtain ⟨j0, j1, j2, j3, j4, j5, j6, j7, j8, j9, j10, j11⟩ := HJ2.out.twelve
    go_wp2_with fail
    refine (EK'.out _ HB2.out).mono ?_
    rintro e w3 ⟨rfl, B3⟩
    have HB3 := Lib.hid (HB2.out.trans (B3.mono HB2.out.size))
    have HK3 := Lib.hid (HK2.out.below B3 HK2.out.lt)
    have HJ3 := Lib.hid (HJ2.out.below B3 HJ2.out.lt)
    clear B3 k0 k1 k2 k3 k4 k5 k6 k7 k8 k9 k10 k11 j0 j1 j2 j3 j4 j5 j6 j7 j8 j9 j10 j11
    obtain ⟨k0, k1, k2, k3, k4, k5, k6, k7, k8, k9, k10, k11⟩ := HK3.out.twelve
    obtain ⟨j0, j1, j2, j3, j4, j5, j6, j7, j8, j9, j10, j11⟩ := HJ3.out.twelve
    go_wp2_with fail
    go_ret
    exact ⟨rfl, HB3.out⟩
  obtain rfl : q = 0 := Decidable.not_not.1 hq0
  clear hq0
  have HQ' := Lib.hid hq
  clear hq
  obtain ⟨k, hk⟩ : ∃ k, msLen m + 4 = k := ⟨_, rfl⟩
  have hk1 : 28 ≤ k := by rw [← hk]; unfold msLen; split <;> omega
  have hk2 : k ≤ 10000 := by rw [← hk]; unfold msLen padn; have := HN.out; split <;> omega
  obtain ⟨k', hk'⟩ : ∃ k, msLen m' + 4 = k := ⟨_, rfl⟩
  have hk3 : k' ≤ 10000 := by rw [← hk']; unfold msLen padn; have := HN'.out; split <;> omega
  have EP := Lib.hid fun (W : World) (B : Below w.heap.size w W) => wbytes_ok m W ((HI.out.hb.below B).more B.size) (by have := HN.out; omega) HI.out.id1 HI.out.key1 HI.out.ck1 HQ.out
  rw [HV.out, hk] at EP
  have EP' := Lib.hid fun (W : World) (B : Below w.heap.size w W) => wbytes_ok m' W ((HI'.out.hb.below B).more B.size) (by have := HN'.out; omega) HI'.out.id1 HI'.out.key1 HI'.out.ck1 HQ'.out
  rw [HV'.out, hk'] at EP'
  have EO := Lib.hid fun (W : World) => ofm_any m W
  rw [HV.out] at EO
  have EO' := Lib.hid fun (W : World) => ofm_any m' W
  rw [HV'.out] at EO'
  have hml : m.l.length = m.n := HI.out.hb.1
  have hml' : m'.l.length = m'.n := HI'.out.hb.1
  have HSM := Lib.hid (msBytes_same m m' hml HI.out.id1 HI.out.key1 HI.out.ck1 HQ.out hml' HI'.out.id1 HI'.out.key1 HI'.out.ck1 HQ'.out)
  obtain ⟨i, hi, hin⟩ : ∃ i : Nat, t % 28 = i ∧ i < 28 := by
    have h1 := Int.emod_nonneg t (show (28 : Int) ≠ 0 by omega)
    have h2 := Int.emod_lt_of_pos t (show (0 : Int) < 28 by omega)
    exact ⟨(t % 28).toNat, by omega, by omega⟩
  have HLL := Lib.hid ((msBytes_length m hml).trans hk)
  generalize msBytes m = L at *
  generalize msBytes m' = L' at *
  obtain ⟨sm, hsm⟩ : ∃ b, mSame m m' = b := ⟨_, rfl⟩
  rw [hsm] at HSM
  have HSS := Lib.hid hsm
  clear hsm
  clear hk hk' hml hml'
  go_enter Try.func5, Try.ntmps5
  go_upto_region 1 with fail
  generalize ((w.alloc (.cells #[.int .i64 m.fr, .int .i64 m.tt, .int .i64 m.kd, .int .i64 m.vol, .int .i64 m.life, .int .u64 m.id, .int .i64 m.cd, .bool m.has, .int .u64 m.key, .int .u32 m.ck, .bool m.g, .slice m.a m.n m.c] 36)).alloc (.cells #[.int .i64 m'.fr, .int .i64 m'.tt, .int .i64 m'.kd, .int .i64 m'.vol, .int .i64 m'.life, .int .u64 m'.id, .int .i64 m'.cd, .bool m'.has, .int .u64 m'.key, .int .u32 m'.ck, .bool m'.g, .slice m'.a m'.n m'.c] 36)) = W0 at *
  go_wp2_with fail
  refine (wire_alive _).mono ?_
  rintro e w1 ⟨rfl, B1⟩
  have HB1 := Lib.hid (HB0.out.trans (B1.mono HB0.out.size))
  have HK1 := Lib.hid (HK0.out.below B1 HK0.out.lt)
  have HJ1 := Lib.hid (HJ0.out.below B1 HJ0.out.lt)
  clear B1
  obtain ⟨k0, k1, k2, k3, k4, k5, k6, k7, k8, k9, k10, k11⟩ := HK1.out.twelve
  obtain ⟨j0, j1, j2, j3, j4, j5, j6, j7, j8, j9, j10, j11⟩ := HJ1.out.twelve
  go_wp2_with fail
  refine (EK.out _ HB1.out).mono ?_
  rintro e w2 ⟨rfl, B2⟩
  have HB2 := Lib.hid (HB1.out.trans (B2.mono HB1.out.size))
  have HK2 := Lib.hid (HK1.out.below B2 HK1.out.lt)
  have HJ2 := Lib.hid (HJ1.out.below B2 HJ1.out.lt)
  clear B2 k0 k1 k2 k3 k4 k5 k6 k7 k8 k9 k10 k11 j0 j1 j2 j3 j4 j5 j6 j7 j8 j9 j10 j11
  obtain ⟨k0, k1, k2, k3, k4, k5, k6, k7, k8, k9, k10, k11⟩ := HK2.out.twelve
  obtain ⟨j0, j1, j2, j3, j4, j5, j6, j7, j8, j9, j10, j11⟩ := HJ2.out.twelve
  go_wp2_with fail
  refine (EK'.out _ HB2.out).mono ?_
  rintro e w3 ⟨rfl, B3⟩
  have HB3 := Lib.hid (HB2.out.trans (B3.mono HB2.out.size))
  have HK3 := Lib.hid (HK2.out.below B3 HK2.out.lt)
  have HJ3 := Lib.hid (HJ2.out.below B3 HJ2.out.lt)
  clear B3 k0 k1 k2 k3 k4 k5 k6 k7 k8 k9 k10 k11 j0 j1 j2 j3 j4 j5 j6 j7 j8 j9 j10 j11
  obtain ⟨k0, k1, k2, k3, k4, k5, k6, k7, k8, k9, k10, k11⟩ := HK3.out.twelve
  obtain ⟨j0, j1, j2, j3, j4, j5, j6, j7, j8, j9, j10, j11⟩ := HJ3.out.twelve
  go_wp2_with fail
  refine (EO.out _).mono ?_
  rintro e w4 ⟨rfl, B4⟩
  have HB4 := Lib.hid (HB3.out.trans (B4.mono HB3.out.size))
  have HK4 := Lib.hid (HK3.out.below B4 HK3.out.lt)
  have HJ4 := Lib.hid (HJ3.out.below B4 HJ3.out.lt)
  clear B4 k0 k1 k2 k3 k4 k5 k6 k7 k8 k9 k10 k11 j0 j1 j2 j3 j4 j5 j6 j7 j8 j9 j10 j11
  obtain ⟨k0, k1, k2, k3, k4, k5, k6, k7, k8, k9, k10, k11⟩ := HK4.out.twelve
  obtain ⟨j0, j1, j2, j3, j4, j5, j6, j7, j8, j9, j10, j11⟩ := HJ4.out.twelve
  go_wp2_with fail
  refine (EP.out _ HB4.out).mono ?_
  rintro e w5 ⟨g, cap, rfl, hcap, ho5, B5⟩
  have HB5 := Lib.hid (HB4.out.trans (B5.mono HB4.out.size))
  have HK5 := Lib.hid (HK4.out.below B5 HK4.out.lt)
  have HJ5 := Lib.hid (HJ4.out.below B5 HJ4.out.lt)
  have HO5 := Lib.hid ho5
  clear B5 ho5 EP k0 k1 k2 k3 k4 k5 k6 k7 k8 k9 k10 k11 j0 j1 j2 j3 j4 j5 j6 j7 j8 j9 j10 j11
  obtain ⟨k0, k1, k2, k3, k4, k5, k6, k7, k8, k9, k10, k11⟩ := HK5.out.twelve
  obtain ⟨j0, j1, j2, j3, j4, j5, j6, j7, j8, j9, j10, j11⟩ := HJ5.out.twelve
  go_wp2_with fail
  refine (EO'.out _).mono ?_
  rintro e w6 ⟨rfl, B6⟩
  have HB6 := Lib.hid (HB5.out.trans (B6.mono HB5.out.size))
  have HK6 := Lib.hid (HK5.out.below B6 HK5.out.lt)
  have HJ6 := Lib.hid (HJ5.out.below B6 HJ5.out.lt)
  have HO6 := Lib.hid (own_below HO5.out B6 (Nat.le_refl _))
  clear B6 k0 k1 k2 k3 k4 k5 k6 k7 k8 k9 k10 k11 j0 j1 j2 j3 j4 j5 j6 j7 j8 j9 j10 j11
  go_wp2_with fail
  refine (EP'.out _ HB6.out).mono ?_
  rintro e w7 ⟨g', cap', rfl, hcap', ho7, B7⟩
  have HB7 := Lib.hid (HB6.out.trans (B7.mono HB6.out.size))
  have HK7 := Lib.hid (HK6.out.below B7 HK6.out.lt)
  have HJ7 := Lib.hid (HJ6.out.below B7 HJ6.out.lt)
  have HO7 := Lib.hid (own_below HO6.out B7 (Nat.le_refl _))
  have HX7 := Lib.hid ho7
  have ER := Lib.hid (wread_any (some ⟨g, 0, none⟩) i cap (L.take i) w7 ((bsl_own HO7.out).prefix (k := i) (by omega)) (by omega) (by omega))
  have HG := Lib.hid (show msGet (L.take i) = (mNone, 3) from by unfold msGet; rw [if_pos (by rw [List.length_take]; omega)])
  clear B7 ho7 EP' HO5 HO6 HB6 HK6 HJ6
  go_wp2_with fail
  refine ER.out.mono ?_
  intro e w8 hms
  obtain ⟨B8, a2, c2, rfl, -, -, -⟩ := hms.is HG.out
  rw [show MsgR.vals { mNone with a := a2, c := c2 } = .agg #[.int .i64 0, .int .i64 0, .int .i64 0, .int .i64 0, .int .i64 0, .int .u64 0, .int .i64 0, .bool false, .int .u64 0, .int .u32 0, .bool false, .slice a2 0 c2] from rfl]
  have BA := (Below.refl w8.heap.size w8).alloc (Nat.le_refl _) (.cells #[.int .i64 0, .int .i64 0, .int .i64 0, .int .i64 0, .int .i64 0, .int .u64 0, .int .i64 0, .bool false, .int .u64 0, .int .u32 0, .bool false, .slice a2 0 c2] 29)
  have BB := B8.trans (BA.mono B8.size)
  have HB9 := Lib.hid (HB7.out.trans (BB.mono HB7.out.size))
  have HK9 := Lib.hid (HK7.out.below BB HK7.out.lt)
  have HJ9 := Lib.hid (HJ7.out.below BB HJ7.out.lt)
  have HO9 := Lib.hid (own_below HO7.out BB (Nat.le_refl _))
  have HX9 := Lib.hid (own_below HX7.out BB (Nat.le_refl _))
  clear hms B8 BA BB HB7 HK7 HJ7 HO7 HX7 HG ER
  go_upto_region 8 with fail
  generalize (w8.alloc (.cells #[.int .i64 0, .int .i64 0, .int .i64 0, .int .i64 0, .int .i64 0, .int .u64 0, .int .i64 0, .bool false, .int .u64 0, .int .u32 0, .bool false, .slice a2 0 c2] 29)) = W9 at *
  have HC := Lib.hid fun (W : World) (B : Below W9.heap.size W9 W) => And.intro (HK9.out.below B HK9.out.lt).twelve (HJ9.out.below B HJ9.out.lt).twelve
  have ES := Lib.hid fun (W : World) (B : Below W9.heap.size W9 W) => wsame_any m m' W ((HI.out.hb.below (HB9.out.trans (B.mono HB9.out.size))).more (HB9.out.trans (B.mono HB9.out.size)).size) ((HI'.out.hb.below (HB9.out.trans (B.mono HB9.out.size))).more (HB9.out.trans (B.mono HB9.out.size)).size)
  have EB := Lib.hid fun (W : World) (B : Below W9.heap.size W9 W) => same_any _ _ _ _ cap cap' _ _ W ((bsl_own HO9.out).below B) ((bsl_own HX9.out).below B) (by omega) |>.mono fun e w' (h : _ ∧ _) => (show e = _ ∧ Below W.heap.size W w' from ⟨h.1, by obtain ⟨q, hq⟩ := h.2; rw [hq]; exact below_drewN (Below.refl _ _) q⟩)
  rw [HSM.out] at EB
  clear HSM hi hin
  rw [HSS.out] at ES
  rw [HV.out, HV'.out] at ES
  have hbb : (sm == sm) = true := by cases sm <;> rfl
  refine wp_region_held_drew (S := fun W => Below W9.heap.size W9 W) (by kernel_rfl) ((Below.refl _ _).drew) (fun hS => ?_)
  refine wpAnyH_take (i := 0) (v := ?_) rfl (by kernel_rfl) (by kernel_rfl) (by kernel_rfl) (fun _ _ _ h => h) (Or.inl ⟨by kernel_rfl, ?_⟩) hS ?_
  rotate_left
  · intro W hW; go_simp; try with_reducible rfl
  refine wpAnyH_take (i := 2) (v := ?_) rfl (by kernel_rfl) (by kernel_rfl) (by kernel_rfl) (fun _ _ _ h => h) (Or.inl ⟨by kernel_rfl, ?_⟩) hS ?_
  rotate_left
  · intro W hW; go_simp; try with_reducible rfl
  refine wpAnyH_ready (rs := [1]) (by kernel_rfl) (by simp) ?_
  refine AllReadyH.cons (i := 1) rfl ?_ AllReadyH.nil
  intro K hK
  go_simp
  refine (code_c 0 _ (by decide)).mono ?_
  rintro e wa ⟨rfl, rfl⟩
  go_simp
  refine hK.out _ _ ?_ (fun hN => ?_)
  · first | exact hT | exact hS | exact hS.alloc hS.size _ | exact hS.drew
  clear hK K
  try clear hT
  clear hS
  have hS := hN
  clear hN
  refine wpAnyH_ready (rs := [3]) (by kernel_rfl) (by simp) ?_
  refine AllReadyH.cons (i := 3) rfl ?_ AllReadyH.nil
  intro K hK
  go_simp
  refine (code_c 0 _ (by decide)).mono ?_
  rintro e wb ⟨rfl, rfl⟩
  go_simp
  refine hK.out _ _ ?_ (fun hN => ?_)
  · first | exact hT | exact hS | exact hS.alloc hS.size _ | exact hS.drew
  clear hK K
  try clear hT
  clear hS
  have hS := hN
  clear hN
  refine wpAnyH_take (i := 4) (v := ?_) rfl (by kernel_rfl) (by kernel_rfl) (by kernel_rfl) (fun _ _ _ h => h) (Or.inl ⟨by kernel_rfl, ?_⟩) hS ?_
  rotate_left
  · intro W hW; go_simp; try with_reducible rfl
  refine wpAnyH_take (i := 5) (v := ?_) rfl (by kernel_rfl) (by kernel_rfl) (by kernel_rfl) (fun _ _ _ h => h) (Or.inl ⟨by kernel_rfl, ?_⟩) hS ?_
  rotate_left
  · intro W hW; go_simp; try with_reducible rfl
  refine wpAnyH_take (i := 6) (v := ?_) rfl (by kernel_rfl) (by kernel_rfl) (by kernel_rfl) (fun _ _ _ h => h) (Or.inl ⟨by kernel_rfl, ?_⟩) hS ?_
  rotate_left
  · intro W hW; go_simp; try with_reducible rfl
  refine wpAnyH_take (i := 7) (v := ?_) rfl (by kernel_rfl) (by kernel_rfl) (by kernel_rfl) (fun _ _ _ h => h) (Or.inl ⟨by kernel_rfl, ?_⟩) hS ?_
  rotate_left
  · intro W hW; go_simp; try with_reducible rfl
  refine wpAnyH_take (i := 8) (v := ?_) rfl (by kernel_rfl) (by kernel_rfl) (by kernel_rfl) (fun _ _ _ h => h) (Or.inl ⟨by kernel_rfl, ?_⟩) hS ?_
  rotate_left
  · intro W hW; go_simp; try with_reducible rfl
  refine wpAnyH_take (i := 10) (v := ?_) rfl (by kernel_rfl) (by kernel_rfl) (by kernel_rfl) (fun _ _ _ h => h) (Or.inl ⟨by kernel_rfl, ?_⟩) hS ?_
  rotate_left
  · intro W hW; obtain ⟨⟨k0, k1, k2, k3, k4, k5, k6, k7, k8, k9, k10, k11⟩, j0, j1, j2, j3, j4, j5, j6, j7, j8, j9, j10, j11⟩ := HC.out W hW; go_simp; try with_reducible rfl
  refine wpAnyH_take (i := 12) (v := ?_) rfl (by kernel_rfl) (by kernel_rfl) (by kernel_rfl) (fun _ _ _ h => h) (Or.inl ⟨by kernel_rfl, ?_⟩) hS ?_
  rotate_left
  · intro W hW; obtain ⟨⟨k0, k1, k2, k3, k4, k5, k6, k7, k8, k9, k10, k11⟩, j0, j1, j2, j3, j4, j5, j6, j7, j8, j9, j10, j11⟩ := HC.out W hW; go_simp; try with_reducible rfl
  refine wpAnyH_ready (rs := [9]) (by kernel_rfl) (by simp) ?_
  refine AllReadyH.cons (i := 9) rfl ?_ AllReadyH.nil
  intro K hK
  go_simp
  refine (EB.out _ hS).mono ?_
  rintro e wc ⟨rfl, Bc⟩
  have hT := hS.trans (Bc.mono hS.size)
  go_simp
  refine hK.out _ _ ?_ (fun hN => ?_)
  · first | exact hT | exact hS | exact hS.alloc hS.size _ | exact hS.drew
  clear hK K
  try clear hT
  clear hS
  have hS := hN
  clear hN
  refine wpAnyH_ready (rs := [11]) (by kernel_rfl) (by simp) ?_
  refine AllReadyH.cons (i := 11) rfl ?_ AllReadyH.nil
  intro K hK
  go_simp
  refine (EO.out _).mono ?_
  rintro e wd ⟨rfl, Bd⟩
  have hT := hS.trans (Bd.mono hS.size)
  go_simp
  refine hK.out _ _ ?_ (fun hN => ?_)
  · first | exact hT | exact hS | exact hS.alloc hS.size _ | exact hS.drew
  clear hK K
  try clear hT
  clear hS
  have hS := hN
  clear hN
  refine wpAnyH_ready (rs := [13]) (by kernel_rfl) (by simp) ?_
  refine AllReadyH.cons (i := 13) rfl ?_ AllReadyH.nil
  intro K hK
  go_simp
  refine (EO'.out _).mono ?_
  rintro e we ⟨rfl, Be⟩
  have hT := hS.trans (Be.mono hS.size)
  go_simp
  refine hK.out _ _ ?_ (fun hN => ?_)
  · first | exact hT | exact hS | exact hS.alloc hS.size _ | exact hS.drew
  clear hK K
  try clear hT
  clear hS
  have hS := hN
  clear hN
  refine wpAnyH_ready (rs := [14]) (by kernel_rfl) (by simp) ?_
  refine AllReadyH.cons (i := 14) rfl ?_ AllReadyH.nil
  intro K hK
  go_simp
  refine (ES.out _ hS).mono ?_
  rintro e wf ⟨rfl, Bf⟩
  have hT := hS.trans (Bf.mono hS.size)
  go_simp
  refine hK.out _ _ ?_ (fun hN => ?_)
  · first | exact hT | exact hS | exact hS.alloc hS.size _ | exact hS.drew
  clear hK K
  try clear hT
  clear hS
  have hS := hN
  clear hN
  refine wpAnyH_take (i := 15) (v := ?_) rfl (by kernel_rfl) (by kernel_rfl) (by kernel_rfl) (fun _ _ _ h => h) (Or.inl ⟨by kernel_rfl, ?_⟩) hS ?_
  rotate_left
  · intro W hW; go_simp; try with_reducible rfl
  refine wpAnyH_take (i := 16) (v := ?_) rfl (by kernel_rfl) (by kernel_rfl) (by kernel_rfl) (fun _ _ _ h => h) (Or.inl ⟨by kernel_rfl, ?_⟩) hS ?_
  rotate_left
  · intro W hW; go_simp; try with_reducible rfl
  refine wpAnyH_take (i := 17) (v := ?_) rfl (by kernel_rfl) (by kernel_rfl) (by kernel_rfl) (fun _ _ _ h => h) (Or.inl ⟨by kernel_rfl, ?_⟩) hS ?_
  rotate_left
  · intro W hW; go_simp; try with_reducible rfl
  refine wpAnyH_take (i := 18) (v := ?_) rfl (by kernel_rfl) (by kernel_rfl) (by kernel_rfl) (fun _ _ _ h => h) (Or.inl ⟨by kernel_rfl, ?_⟩) hS ?_
  rotate_left
  · intro W hW; go_simp; try with_reducible rfl
  refine wpAnyH_ready (rs := [19]) (by kernel_rfl) (by simp) ?_
  refine AllReadyH.cons (i := 19) rfl ?_ AllReadyH.nil
  intro K hK
  go_simp
  refine (code_c 3 _ (by decide)).mono ?_
  rintro e wg ⟨rfl, rfl⟩
  go_simp
  refine hK.out _ _ ?_ (fun hN => ?_)
  · first | exact hT | exact hS | exact hS.alloc hS.size _ | exact hS.drew
  clear hK K
  try clear hT
  clear hS
  have hS := hN
  clear hN
  refine wpAnyH_take (i := 20) (v := ?_) rfl (by kernel_rfl) (by kernel_rfl) (by kernel_rfl) (fun _ _ _ h => h) (Or.inl ⟨by kernel_rfl, ?_⟩) hS ?_
  rotate_left
  · intro W hW; go_simp; try with_reducible rfl
  refine wpAnyH_take (i := 21) (v := ?_) rfl (by kernel_rfl) (by kernel_rfl) (by kernel_rfl) (fun _ _ _ h => h) (Or.inl ⟨by kernel_rfl, ?_⟩) hS ?_
  rotate_left
  · intro W hW; go_simp; try with_reducible rfl
  refine wpAnyH_take (i := 22) (v := ?_) rfl (by kernel_rfl) (by kernel_rfl) (by kernel_rfl) (fun _ _ _ h => h) (Or.inl ⟨by kernel_rfl, ?_⟩) hS ?_
  rotate_left
  · intro W hW; go_simp; try with_reducible rfl
  refine wpAnyH_done (by kernel_rfl) ?_ _
  go_simp
  have HF := Lib.hid (HB9.out.trans (hS.mono HB9.out.size))
  clear hS
  go_wp2_with fail
  go_ret
  exact ⟨rfl, HF.out⟩
end Go.Proofs.Ytpkfjnhjcdcoaaa
