/-
  The walk of corncriblaw14.WireBack.
-/
import Derived.Test.YtpkfjnhjcdcoaaaWirAlive
import Derived.Test.YtpkfjnhjcdcoaaaWirLaw
import Derived.Test.YtpkfjnhjcdcoaaaMsl
namespace Go.Proofs.Ytpkfjnhjcdcoaaa
open Go.RowKit
set_option linter.unusedVariables false

set_option maxRecDepth 100000 in
set_option maxHeartbeats 4000000 in
theorem back_all (m : MsgR) (t : Int) (w : World) (h : MIn w w.heap.size m) (ht0 : 0 ≤ t) (ht1 : t ≤ 65535) :
    Calls Try.prog 4 #[m.vals, .int .u16 t] w fun e w' => e = .returned (.bool true) ∧ Below w.heap.size w w' := by
  have HI := Lib.hid h
  have HV := Lib.hid (show m.vals = .agg #[.int .i64 m.fr, .int .i64 m.tt, .int .i64 m.kd, .int .i64 m.vol, .int .i64 m.life, .int .u64 m.id, .int .i64 m.cd, .bool m.has, .int .u64 m.key, .int .u32 m.ck, .bool m.g, .slice m.a m.n m.c] from rfl)
  rw [HV.out]
  have HB0 := Lib.hid ((Below.refl w.heap.size w).alloc (Nat.le_refl _) (.cells #[.int .i64 m.fr, .int .i64 m.tt, .int .i64 m.kd, .int .i64 m.vol, .int .i64 m.life, .int .u64 m.id, .int .i64 m.cd, .bool m.has, .int .u64 m.key, .int .u32 m.ck, .bool m.g, .slice m.a m.n m.c] 36))
  have HK0 := Lib.hid (Blk.made w 36 #[.int .i64 m.fr, .int .i64 m.tt, .int .i64 m.kd, .int .i64 m.vol, .int .i64 m.life, .int .u64 m.id, .int .i64 m.cd, .bool m.has, .int .u64 m.key, .int .u32 m.ck, .bool m.g, .slice m.a m.n m.c])
  clear h
  by_cases hbig : 3000 < m.n
  · have z : decide ((3000 : Int) < (m.n : Int)) = true := decide_eq_true (by omega)
    clear hbig
    go_enter Try.func4, Try.ntmps4
    go_upto_region 1 with fail
    generalize (w.alloc (.cells #[.int .i64 m.fr, .int .i64 m.tt, .int .i64 m.kd, .int .i64 m.vol, .int .i64 m.life, .int .u64 m.id, .int .i64 m.cd, .bool m.has, .int .u64 m.key, .int .u32 m.ck, .bool m.g, .slice m.a m.n m.c] 36)) = W0 at *
    go_wp2_with fail
    refine (wire_alive _).mono ?_
    rintro e w1 ⟨rfl, B1⟩
    have HB1 := Lib.hid (HB0.out.trans (B1.mono HB0.out.size))
    have hk := HK0.out.below B1 HK0.out.lt
    obtain ⟨k0, k1, k2, k3, k4, k5, k6, k7, k8, k9, k10, k11⟩ := hk.twelve
    clear hk B1
    go_wp2_with fail
    go_ret
    exact ⟨rfl, HB1.out⟩
  have z : decide ((3000 : Int) < (m.n : Int)) = false := decide_eq_false (by omega)
  have HN := Lib.hid (show m.n ≤ 3000 from by omega)
  clear hbig
  obtain ⟨q, hq⟩ : ∃ q, mchk m = q := ⟨_, rfl⟩
  have EK := Lib.hid fun (W : World) (B : Below w.heap.size w W) => rcheck_any m W ((HI.out.hb.below B).more B.size) (by have := HN.out; omega)
  rw [hq, HV.out] at EK
  by_cases hq0 : q ≠ 0
  · have z2 : ((q : Int) != 0) = true := by rw [bne_iff_ne]; omega
    clear hq0 hq
    go_enter Try.func4, Try.ntmps4
    go_upto_region 1 with fail
    generalize (w.alloc (.cells #[.int .i64 m.fr, .int .i64 m.tt, .int .i64 m.kd, .int .i64 m.vol, .int .i64 m.life, .int .u64 m.id, .int .i64 m.cd, .bool m.has, .int .u64 m.key, .int .u32 m.ck, .bool m.g, .slice m.a m.n m.c] 36)) = W0 at *
    go_wp2_with fail
    refine (wire_alive _).mono ?_
    rintro e w1 ⟨rfl, B1⟩
    have HB1 := Lib.hid (HB0.out.trans (B1.mono HB0.out.size))
    have hk := HK0.out.below B1 HK0.out.lt
    obtain ⟨k0, k1, k2, k3, k4, k5, k6, k7, k8, k9, k10, k11⟩ := hk.twelve
    clear hk B1
    go_wp2_with fail
    refine (EK.out _ HB1.out).mono ?_
    rintro e w2 ⟨rfl, B2⟩
    have HB2 := Lib.hid (HB1.out.trans (B2.mono HB1.out.size))
    clear k0 k1 k2 k3 k4 k5 k6 k7 k8 k9 k10 k11 B2
    go_wp2_with fail
    go_ret
    exact ⟨rfl, HB2.out⟩
  obtain rfl : q = 0 := Decidable.not_not.1 hq0
  clear hq0
  have HQ := Lib.hid hq
  clear hq
  obtain ⟨k, hk⟩ : ∃ k, msLen m + 4 = k := ⟨_, rfl⟩
  have hk1 : 28 ≤ k := by rw [← hk]; unfold msLen; split <;> omega
  have hk2 : k ≤ 10000 := by rw [← hk]; unfold msLen padn; have := HN.out; split <;> omega
  have EP := Lib.hid fun (W : World) (B : Below w.heap.size w W) => wbytes_ok m W ((HI.out.hb.below B).more B.size) (by have := HN.out; omega) HI.out.id1 HI.out.key1 HI.out.ck1 HQ.out
  rw [HV.out, hk] at EP
  have EO := Lib.hid fun (W : World) => ofm_any m W
  rw [HV.out] at EO
  have hml : m.l.length = m.n := HI.out.hb.1
  have HG := Lib.hid (msGet_bytes m hml HI.out.id1 HI.out.key1 HI.out.ck1 HQ.out)
  have HGT := Lib.hid fun j c h1 h2 => msGet_turned m hml j c h1 h2
  have HSM := Lib.hid fun (a1 : Option Addr) (c1 : Nat) => show mSame { m.bare with a := a1, c := c1 } m = true from mSame_of rfl
  rw [hk] at HGT
  obtain ⟨i, hi, hin⟩ : ∃ i : Nat, t % (8 * (k : Int)) = i ∧ i < 8 * k := by
    have h1 := Int.emod_nonneg t (show 8 * (k : Int) ≠ 0 by omega)
    have h2 := Int.emod_lt_of_pos t (show (0 : Int) < 8 * (k : Int) by omega)
    exact ⟨(t % (8 * (k : Int))).toNat, by omega, by omega⟩
  generalize msBytes m = L at *
  clear hk hml
  go_enter Try.func4, Try.ntmps4
  go_upto_region 1 with fail
  generalize (w.alloc (.cells #[.int .i64 m.fr, .int .i64 m.tt, .int .i64 m.kd, .int .i64 m.vol, .int .i64 m.life, .int .u64 m.id, .int .i64 m.cd, .bool m.has, .int .u64 m.key, .int .u32 m.ck, .bool m.g, .slice m.a m.n m.c] 36)) = W0 at *
  go_wp2_with fail
  refine (wire_alive _).mono ?_
  rintro e w1 ⟨rfl, B1⟩
  have HB1 := Lib.hid (HB0.out.trans (B1.mono HB0.out.size))
  have hk := HK0.out.below B1 HK0.out.lt
  obtain ⟨k0, k1, k2, k3, k4, k5, k6, k7, k8, k9, k10, k11⟩ := hk.twelve
  have HK1 := Lib.hid hk
  clear hk B1
  go_wp2_with fail
  refine (EK.out _ HB1.out).mono ?_
  rintro e w2 ⟨rfl, B2⟩
  have HB2 := Lib.hid (HB1.out.trans (B2.mono HB1.out.size))
  have hk := HK1.out.below B2 HK1.out.lt
  clear k0 k1 k2 k3 k4 k5 k6 k7 k8 k9 k10 k11 HK1 HB1 B2 EK
  obtain ⟨k0, k1, k2, k3, k4, k5, k6, k7, k8, k9, k10, k11⟩ := hk.twelve
  have HK2 := Lib.hid hk
  clear hk
  go_wp2_with fail
  refine (EO.out _).mono ?_
  rintro e w3 ⟨rfl, B3⟩
  have HB3 := Lib.hid (HB2.out.trans (B3.mono HB2.out.size))
  have HK3 := Lib.hid (HK2.out.below B3 HK2.out.lt)
  clear k0 k1 k2 k3 k4 k5 k6 k7 k8 k9 k10 k11 HK2 HB2 B3
  go_wp2_with fail
  refine (EP.out _ HB3.out).mono ?_
  rintro e w4 ⟨g, cap, rfl, hcap, ho4, B4⟩
  have HB4 := Lib.hid (HB3.out.trans (B4.mono HB3.out.size))
  have HK4 := Lib.hid (HK3.out.below B4 HK3.out.lt)
  have ER := Lib.hid (wread_any (some ⟨g, 0, none⟩) k cap L w4 (bsl_own ho4) hcap (by omega))
  have hg4 := (ho4.lt g rfl)
  have HZ3 := Lib.hid HK3.out.lt
  have HL43 := Lib.hid (show w3.heap.size ≤ w4.heap.size from B4.size)
  have HO4 := Lib.hid ho4
  clear HK3 B4 ho4 EP
  go_wp2_with fail
  refine ER.out.mono ?_
  intro e w5 hms
  obtain ⟨B5, a1, c1, rfl, -, -, ho5⟩ := hms.is HG.out
  rw [show MsgR.vals { m.bare with a := a1, c := c1 } = .agg #[.int .i64 m.fr, .int .i64 m.tt, .int .i64 m.kd, .int .i64 m.vol, .int .i64 m.life, .int .u64 m.id, .int .i64 m.cd, .bool m.has, .int .u64 m.key, .int .u32 m.ck, .bool m.g, .slice a1 m.n c1] from rfl]
  have HS5 := Lib.hid (bsl_own ho5)
  have HB5 := Lib.hid (HB4.out.trans (B5.mono HB4.out.size))
  have HK5 := Lib.hid (HK4.out.below B5 HK4.out.lt)
  have HO5 := Lib.hid (own_below HO4.out B5 (Nat.le_refl _))
  have HX5 := Lib.hid ho5
  have HL5 := Lib.hid (show w4.heap.size ≤ w5.heap.size from B5.size)
  have BA := (Below.refl w5.heap.size w5).alloc (Nat.le_refl _) (.cells #[.int .i64 m.fr, .int .i64 m.tt, .int .i64 m.kd, .int .i64 m.vol, .int .i64 m.life, .int .u64 m.id, .int .i64 m.cd, .bool m.has, .int .u64 m.key, .int .u32 m.ck, .bool m.g, .slice a1 m.n c1] 29)
  have HB6 := Lib.hid (HB5.out.trans (BA.mono HB5.out.size))
  have HK6 := Lib.hid (HK5.out.below BA HK5.out.lt)
  have HM6 := Lib.hid (Blk.made w5 29 #[.int .i64 m.fr, .int .i64 m.tt, .int .i64 m.kd, .int .i64 m.vol, .int .i64 m.life, .int .u64 m.id, .int .i64 m.cd, .bool m.has, .int .u64 m.key, .int .u32 m.ck, .bool m.g, .slice a1 m.n c1])
  have HO6 := Lib.hid (own_below HO5.out BA (Nat.le_refl _))
  have HX6 := Lib.hid (own_below HX5.out BA (Nat.le_refl _))
  have HL6 := Lib.hid BA.size
  clear hms B5 ho5 HS5 HB5 HK5 HO5 HX5 HK4 HO4 ER BA
  go_upto_region 7 with fail
  generalize (w5.alloc (.cells #[.int .i64 m.fr, .int .i64 m.tt, .int .i64 m.kd, .int .i64 m.vol, .int .i64 m.life, .int .u64 m.id, .int .i64 m.cd, .bool m.has, .int .u64 m.key, .int .u32 m.ck, .bool m.g, .slice a1 m.n c1] 29)) = w6 at *
  have hj : i / 8 < k := by omega
  obtain ⟨y, hy⟩ : ∃ y, L.getD (i / 8) 0 = y := ⟨_, rfl⟩
  have hcell : w6.cell? ⟨g, i / 8, none⟩ = some (.int .u8 (y.toNat : Int)) := by
    obtain ⟨b, off, e, -, h1⟩ := (bsl_own HO6.out).at_ hj
    cases e
    rw [Nat.zero_add, hy] at h1
    exact h1
  have hfr : w6.frozen? ⟨g, i / 8, none⟩ = false := HO6.out.frozenAt _
  have HT := Lib.hid (flip_value y (i % 8) (by omega))
  have HNE := Lib.hid (HGT.out (i / 8) (y ^^^ BitVec.ofNat 8 (2 ^ (i % 8))) hj (by rw [hy]; exact flip_ne y (i % 8) (by omega)))
  clear hy HGT
  go_upto_region 8 with fail
  rw [hi]
  go_wp2_with fail
  rw [HT.out]
  have hst := HO6.out.stored (i / 8) (bv (y ^^^ BitVec.ofNat 8 (2 ^ (i % 8))))
  rw [← List.map_set] at hst
  obtain ⟨ho7, hg7⟩ := hst
  have HG7 := Lib.hid hg7
  have HO7 := Lib.hid ho7
  unfold bv at HO7 HG7
  have hox := row_far HX6.out hg7 hg4.2
  have HX7 := Lib.hid hox
  unfold bv at HX7
  have hb7 := HB6.out.grown hg7 HB6.out.size (fun q e => by injection e with e; have := HB3.out.size; omega)
  have HB7 := Lib.hid hb7
  unfold bv at HB7
  have hkk := HK6.out.grown hg7 (by intro e; injection e with e; have := HZ3.out; have := hg4.1; omega)
  have HK7 := Lib.hid hkk
  unfold bv at HK7
  have hmm := HM6.out.grown hg7 (by intro e; injection e with e; have := hg4.2; have := HL5.out; omega)
  have HM7 := Lib.hid hmm
  unfold bv at HM7
  clear hcell hfr HT ho7 hg7 hox hb7 hkk hmm
  generalize w6.setCell ⟨g, i / 8, none⟩ (.int .u8 ((y ^^^ BitVec.ofNat 8 (2 ^ (i % 8))).toNat : Int)) = w7 at *
  have ER := Lib.hid (wread_any (some ⟨g, 0, none⟩) k cap _ w7 (bsl_own HO7.out) hcap (by omega))
  refine ER.out.mono ?_
  intro e w8 hms
  obtain ⟨B8, a2, c2, rfl, -, -, -⟩ := hms.is HNE.out
  rw [show MsgR.vals { mNone with a := a2, c := c2 } = .agg #[.int .i64 0, .int .i64 0, .int .i64 0, .int .i64 0, .int .i64 0, .int .u64 0, .int .i64 0, .bool false, .int .u64 0, .int .u32 0, .bool false, .slice a2 0 c2] from rfl]
  have HB8 := Lib.hid (HB7.out.trans (B8.mono HB7.out.size))
  have HK8 := Lib.hid (HK7.out.below B8 HK7.out.lt)
  have HM8 := Lib.hid (HM7.out.below B8 HM7.out.lt)
  have HX8 := Lib.hid (own_below HX7.out B8 (Nat.le_refl _))
  have BA := (Below.refl w8.heap.size w8).alloc (Nat.le_refl _) (.cells #[.int .i64 0, .int .i64 0, .int .i64 0, .int .i64 0, .int .i64 0, .int .u64 0, .int .i64 0, .bool false, .int .u64 0, .int .u32 0, .bool false, .slice a2 0 c2] 29)
  have HB9 := Lib.hid (HB8.out.trans (BA.mono HB8.out.size))
  have HK9 := Lib.hid (HK8.out.below BA HK8.out.lt)
  have HM9 := Lib.hid (HM8.out.below BA HM8.out.lt)
  have HX9 := Lib.hid (own_below HX8.out BA (Nat.le_refl _))
  have HY9 := Lib.hid (Blk.made w8 29 #[.int .i64 0, .int .i64 0, .int .i64 0, .int .i64 0, .int .i64 0, .int .u64 0, .int .i64 0, .bool false, .int .u64 0, .int .u32 0, .bool false, .slice a2 0 c2])
  clear hms B8 BA HB8 HK8 HM8 HX8 HB7 HK7 HM7 HX7 HO7 HO6 HX6 HK6 HM6 ER HNE
  go_upto_region 10 with fail
  generalize (w8.alloc (.cells #[.int .i64 0, .int .i64 0, .int .i64 0, .int .i64 0, .int .i64 0, .int .u64 0, .int .i64 0, .bool false, .int .u64 0, .int .u32 0, .bool false, .slice a2 0 c2] 29)) = W9 at *
  have HC := Lib.hid fun (W : World) (B : Below W9.heap.size W9 W) => And.intro (HK9.out.below B HK9.out.lt).twelve (And.intro (HM9.out.below B HM9.out.lt).twelve (HY9.out.below B HY9.out.lt).twelve)
  have ES := Lib.hid fun (W : World) (B : Below W9.heap.size W9 W) => wsame_any { m.bare with a := a1, c := c1 } m W (((bsl_own HX9.out).below B).more B.size) ((HI.out.hb.below (HB9.out.trans (B.mono HB9.out.size))).more (HB9.out.trans (B.mono HB9.out.size)).size)
  rw [HSM.out, HV.out] at ES
  unfold MsgR.vals at ES
  have EZ := Lib.hid fun (W : World) => show Calls Try.prog 20 #[.agg #[.int .i64 0, .int .i64 0, .int .i64 0, .int .i64 0, .int .i64 0, .int .u64 0, .int .i64 0, .bool false, .int .u64 0, .int .u32 0, .bool false, .slice a2 0 c2], .agg #[.int .i64 0, .int .i64 0, .int .i64 0, .int .i64 0, .int .i64 0, .int .u64 0, .int .i64 0, .bool false, .int .u64 0, .int .u32 0, .bool false, .slice none 0 0]] W fun e w' => e = .returned (.bool true) ∧ Below W.heap.size W w' from wsame_any ⟨0, 0, 0, 0, 0, 0, 0, false, 0, 0, false, a2, 0, c2, []⟩ mNone W (BSl.nil _ _ a2) (BSl.nil _ _ none)
  clear HG HSM hi hin hcap hg4
  dsimp only [MsgR.bare] at *
  refine wp_region_held_drew (S := fun W => Below W9.heap.size W9 W) (by kernel_rfl) ((Below.refl _ _).drew) (fun hS => ?_)
  refine wpAnyH_take (i := 0) (v := ?_) rfl (by kernel_rfl) (by kernel_rfl) (by kernel_rfl) (fun _ _ _ h => h) (Or.inl ⟨by kernel_rfl, ?_⟩) hS ?_
  rotate_left
  · intro W hW; go_simp; try with_reducible rfl
  refine wpAnyH_ready (rs := [1]) (by kernel_rfl) (by simp) ?_
  refine AllReadyH.cons (i := 1) rfl ?_ AllReadyH.nil
  intro K hK
  go_simp
  refine (code_c 0 _ (by decide)).mono ?_
  rintro e wa ⟨rfl, rfl⟩
  go_simp
  refine hK.out _ _ ?_ (fun hN => ?_)
  · first | exact hT | exact hS | exact hS.alloc hS.size _ | exact hS.drew
  clear hK K
  try clear hT
  clear hS
  have hS := hN
  clear hN
  refine wpAnyH_take (i := 2) (v := ?_) rfl (by kernel_rfl) (by kernel_rfl) (by kernel_rfl) (fun _ _ _ h => h) (Or.inl ⟨by kernel_rfl, ?_⟩) hS ?_
  rotate_left
  · intro W hW; go_simp; try with_reducible rfl
  refine wpAnyH_take (i := 3) (v := ?_) rfl (by kernel_rfl) (by kernel_rfl) (by kernel_rfl) (fun _ _ _ h => h) (Or.inl ⟨by kernel_rfl, ?_⟩) hS ?_
  rotate_left
  · intro W hW; go_simp; try with_reducible rfl
  refine wpAnyH_take (i := 4) (v := ?_) rfl (by kernel_rfl) (by kernel_rfl) (by kernel_rfl) (fun _ _ _ h => h) (Or.inl ⟨by kernel_rfl, ?_⟩) hS ?_
  rotate_left
  · intro W hW; go_simp; try with_reducible rfl
  refine wpAnyH_ready (rs := [5]) (by kernel_rfl) (by simp) ?_
  refine AllReadyH.cons (i := 5) rfl ?_ AllReadyH.nil
  intro K hK
  go_simp
  refine (code_c 0 _ (by decide)).mono ?_
  rintro e wb ⟨rfl, rfl⟩
  go_simp
  refine hK.out _ _ ?_ (fun hN => ?_)
  · first | exact hT | exact hS | exact hS.alloc hS.size _ | exact hS.drew
  clear hK K
  try clear hT
  clear hS
  have hS := hN
  clear hN
  refine wpAnyH_take (i := 6) (v := ?_) rfl (by kernel_rfl) (by kernel_rfl) (by kernel_rfl) (fun _ _ _ h => h) (Or.inl ⟨by kernel_rfl, ?_⟩) hS ?_
  rotate_left
  · intro W hW; go_simp; try with_reducible rfl
  refine wpAnyH_take (i := 7) (v := ?_) rfl (by kernel_rfl) (by kernel_rfl) (by kernel_rfl) (fun _ _ _ h => h) (Or.inl ⟨by kernel_rfl, ?_⟩) hS ?_
  rotate_left
  · intro W hW; go_simp; try with_reducible rfl
  refine wpAnyH_take (i := 8) (v := ?_) rfl (by kernel_rfl) (by kernel_rfl) (by kernel_rfl) (fun _ _ _ h => h) (Or.inl ⟨by kernel_rfl, ?_⟩) hS ?_
  rotate_left
  · intro W hW; go_simp; try with_reducible rfl
  refine wpAnyH_take (i := 9) (v := ?_) rfl (by kernel_rfl) (by kernel_rfl) (by kernel_rfl) (fun _ _ _ h => h) (Or.inl ⟨by kernel_rfl, ?_⟩) hS ?_
  rotate_left
  · intro W hW; obtain ⟨⟨k0, k1, k2, k3, k4, k5, k6, k7, k8, k9, k10, k11⟩, ⟨j0, j1, j2, j3, j4, j5, j6, j7, j8, j9, j10, j11⟩, i0, i1, i2, i3, i4, i5, i6, i7, i8, i9, i10, i11⟩ := HC.out W hW; go_simp; try with_reducible rfl
  refine wpAnyH_take (i := 10) (v := ?_) rfl (by kernel_rfl) (by kernel_rfl) (by kernel_rfl) (fun _ _ _ h => h) (Or.inl ⟨by kernel_rfl, ?_⟩) hS ?_
  rotate_left
  · intro W hW; obtain ⟨⟨k0, k1, k2, k3, k4, k5, k6, k7, k8, k9, k10, k11⟩, ⟨j0, j1, j2, j3, j4, j5, j6, j7, j8, j9, j10, j11⟩, i0, i1, i2, i3, i4, i5, i6, i7, i8, i9, i10, i11⟩ := HC.out W hW; go_simp; try with_reducible rfl
  refine wpAnyH_ready (rs := [11]) (by kernel_rfl) (by simp) ?_
  refine AllReadyH.cons (i := 11) rfl ?_ AllReadyH.nil
  intro K hK
  go_simp
  refine (EO.out _).mono ?_
  rintro e wc ⟨rfl, Bc⟩
  have hT := hS.trans (Bc.mono hS.size)
  go_simp
  refine hK.out _ _ ?_ (fun hN => ?_)
  · first | exact hT | exact hS | exact hS.alloc hS.size _ | exact hS.drew
  clear hK K
  try clear hT
  clear hS
  have hS := hN
  clear hN
  refine wpAnyH_ready (rs := [12]) (by kernel_rfl) (by simp) ?_
  refine AllReadyH.cons (i := 12) rfl ?_ AllReadyH.nil
  intro K hK
  go_simp
  refine (ES.out _ hS).mono ?_
  rintro e wd ⟨rfl, Bd⟩
  have hT := hS.trans (Bd.mono hS.size)
  go_simp
  refine hK.out _ _ ?_ (fun hN => ?_)
  · first | exact hT | exact hS | exact hS.alloc hS.size _ | exact hS.drew
  clear hK K
  try clear hT
  clear hS
  have hS := hN
  clear hN
  refine wpAnyH_take (i := 13) (v := ?_) rfl (by kernel_rfl) (by kernel_rfl) (by kernel_rfl) (fun _ _ _ h => h) (Or.inl ⟨by kernel_rfl, ?_⟩) hS ?_
  rotate_left
  · intro W hW; go_simp; try with_reducible rfl
  refine wpAnyH_take (i := 14) (v := ?_) rfl (by kernel_rfl) (by kernel_rfl) (by kernel_rfl) (fun _ _ _ h => h) (Or.inl ⟨by kernel_rfl, ?_⟩) hS ?_
  rotate_left
  · intro W hW; go_simp; try with_reducible rfl
  refine wpAnyH_take (i := 15) (v := ?_) rfl (by kernel_rfl) (by kernel_rfl) (by kernel_rfl) (fun _ _ _ h => h) (Or.inl ⟨by kernel_rfl, ?_⟩) hS ?_
  rotate_left
  · intro W hW; go_simp; try with_reducible rfl
  refine wpAnyH_ready (rs := [16]) (by kernel_rfl) (by simp) ?_
  refine AllReadyH.cons (i := 16) rfl ?_ AllReadyH.nil
  intro K hK
  go_simp
  refine (code_c 5 _ (by decide)).mono ?_
  rintro e we ⟨rfl, rfl⟩
  go_simp
  refine hK.out _ _ ?_ (fun hN => ?_)
  · first | exact hT | exact hS | exact hS.alloc hS.size _ | exact hS.drew
  clear hK K
  try clear hT
  clear hS
  have hS := hN
  clear hN
  refine wpAnyH_take (i := 17) (v := ?_) rfl (by kernel_rfl) (by kernel_rfl) (by kernel_rfl) (fun _ _ _ h => h) (Or.inl ⟨by kernel_rfl, ?_⟩) hS ?_
  rotate_left
  · intro W hW; go_simp; try with_reducible rfl
  refine wpAnyH_take (i := 18) (v := ?_) rfl (by kernel_rfl) (by kernel_rfl) (by kernel_rfl) (fun _ _ _ h => h) (Or.inl ⟨by kernel_rfl, ?_⟩) hS ?_
  rotate_left
  · intro W hW; go_simp; try with_reducible rfl
  refine wpAnyH_take (i := 19) (v := ?_) rfl (by kernel_rfl) (by kernel_rfl) (by kernel_rfl) (fun _ _ _ h => h) (Or.inl ⟨by kernel_rfl, ?_⟩) hS ?_
  rotate_left
  · intro W hW; go_simp; try with_reducible rfl
  refine wpAnyH_take (i := 20) (v := ?_) rfl (by kernel_rfl) (by kernel_rfl) (by kernel_rfl) (fun _ _ _ h => h) (Or.inl ⟨by kernel_rfl, ?_⟩) hS ?_
  rotate_left
  · intro W hW; obtain ⟨⟨k0, k1, k2, k3, k4, k5, k6, k7, k8, k9, k10, k11⟩, ⟨j0, j1, j2, j3, j4, j5, j6, j7, j8, j9, j10, j11⟩, i0, i1, i2, i3, i4, i5, i6, i7, i8, i9, i10, i11⟩ := HC.out W hW; go_simp; try with_reducible rfl
  refine wpAnyH_take (i := 21) (v := ?_) rfl (by kernel_rfl) (by kernel_rfl) (by kernel_rfl) (fun _ _ _ h => h) (Or.inl ⟨by kernel_rfl, ?_⟩) hS ?_
  rotate_left
  · intro W hW; go_simp; try with_reducible rfl
  refine wpAnyH_ready (rs := [22]) (by kernel_rfl) (by simp) ?_
  refine AllReadyH.cons (i := 22) rfl ?_ AllReadyH.nil
  intro K hK
  go_simp
  refine (EZ.out _).mono ?_
  rintro e wf ⟨rfl, Bf⟩
  have hT := hS.trans (Bf.mono hS.size)
  go_simp
  refine hK.out _ _ ?_ (fun hN => ?_)
  · first | exact hT | exact hS | exact hS.alloc hS.size _ | exact hS.drew
  clear hK K
  try clear hT
  clear hS
  have hS := hN
  clear hN
  refine wpAnyH_take (i := 23) (v := ?_) rfl (by kernel_rfl) (by kernel_rfl) (by kernel_rfl) (fun _ _ _ h => h) (Or.inl ⟨by kernel_rfl, ?_⟩) hS ?_
  rotate_left
  · intro W hW; go_simp; try with_reducible rfl
  refine wpAnyH_take (i := 24) (v := ?_) rfl (by kernel_rfl) (by kernel_rfl) (by kernel_rfl) (fun _ _ _ h => h) (Or.inl ⟨by kernel_rfl, ?_⟩) hS ?_
  rotate_left
  · intro W hW; go_simp; try with_reducible rfl
  refine wpAnyH_done (by kernel_rfl) ?_ _
  go_simp
  have HF := Lib.hid (HB9.out.trans (hS.mono HB9.out.size))
  clear hS
  go_wp2_with fail
  go_ret
  exact ⟨rfl, HF.out⟩
end Go.Proofs.Ytpkfjnhjcdcoaaa
