/-
  The walk of corncriblaw15.NetOwn.
-/
import Derived.Test.YtpkfjnhjcdcoaaaNetAlive
import Derived.Test.YtpkfjnhjcdcoaaaNetNil
import Derived.Test.YtpkfjnhjcdcoaaaMsl
namespace Go.Proofs.Ytpkfjnhjcdcoaaa
open Go.RowKit
set_option linter.unusedVariables false

theorem byte_plus1 (x : BitVec 8) : ((x.toNat : Int) + 1) % 256 = ((x + 1#8).toNat : Int) := by
  have := x.isLt
  rw [BitVec.toNat_add, show (1#8).toNat = 1 from rfl]
  omega
/-- At the first loop's heads. -/
def NOwn1 (w : World) (N X bx : Nat) (pk : Pk) (m : MsgR) (g1 cap1 : Nat) (W : World) : Prop :=
  Below w.heap.size w W ∧ Blk W w.heap.size 36 #[.int .i64 m.fr, .int .i64 m.tt, .int .i64 m.kd, .int .i64 m.vol, .int .i64 m.life, .int .u64 m.id, .int .i64 m.cd, .bool m.has, .int .u64 m.key, .int .u32 m.ck, .bool m.g, .slice m.a m.n m.c] ∧ NetR W N N [pk] [] ∧ Blk W X 29 #[.int .i64 m.fr, .int .i64 m.tt, .int .i64 m.kd, .int .i64 m.vol, .int .i64 m.life, .int .u64 m.id, .int .i64 m.cd, .bool m.has, .int .u64 m.key, .int .u32 m.ck, .bool m.g, .slice (some ⟨g1, 0, none⟩) m.n cap1] ∧ (∃ lx : List (BitVec 8), W.ownsRow bx 5 1 (.slice (some ⟨g1, 0, none⟩) m.n cap1) m.n (lx.map bv))
/-- At the second loop's heads. -/
def NOwn2 (w : World) (Y by_ n : Nat) (cs : Array Value) (ay : Option Addr) (cy : Nat) (W : World) : Prop :=
  Below w.heap.size w W ∧ Blk W Y 29 cs ∧ (∃ ly : List (BitVec 8), W.ownsRow by_ 5 1 (.slice ay n cy) n (ly.map bv))

set_option maxRecDepth 100000 in
set_option maxHeartbeats 8000000 in
theorem nown_all (m : MsgR) (w : World) (h : MIn w w.heap.size m) :
    Calls Try.prog 10 #[m.vals] w fun e w' => e = .returned (.bool true) ∧ Below w.heap.size w w' := by
  have HI := Lib.hid h
  have HV := Lib.hid (show m.vals = .agg #[.int .i64 m.fr, .int .i64 m.tt, .int .i64 m.kd, .int .i64 m.vol, .int .i64 m.life, .int .u64 m.id, .int .i64 m.cd, .bool m.has, .int .u64 m.key, .int .u32 m.ck, .bool m.g, .slice m.a m.n m.c] from rfl)
  rw [HV.out]
  have HB0 := Lib.hid ((Below.refl w.heap.size w).alloc (Nat.le_refl _) (.cells #[.int .i64 m.fr, .int .i64 m.tt, .int .i64 m.kd, .int .i64 m.vol, .int .i64 m.life, .int .u64 m.id, .int .i64 m.cd, .bool m.has, .int .u64 m.key, .int .u32 m.ck, .bool m.g, .slice m.a m.n m.c] 36))
  have HK0 := Lib.hid (Blk.made w 36 #[.int .i64 m.fr, .int .i64 m.tt, .int .i64 m.kd, .int .i64 m.vol, .int .i64 m.life, .int .u64 m.id, .int .i64 m.cd, .bool m.has, .int .u64 m.key, .int .u32 m.ck, .bool m.g, .slice m.a m.n m.c])
  clear h
  by_cases hbig : 300 < m.n
  · have z : decide ((300 : Int) < (m.n : Int)) = true := decide_eq_true (by omega)
    clear hbig
    go_enter Try.func10, Try.ntmps10
    go_upto_region 1 with fail
    generalize (w.alloc (.cells #[.int .i64 m.fr, .int .i64 m.tt, .int .i64 m.kd, .int .i64 m.vol, .int .i64 m.life, .int .u64 m.id, .int .i64 m.cd, .bool m.has, .int .u64 m.key, .int .u32 m.ck, .bool m.g, .slice m.a m.n m.c] 36)) = W0 at *
    go_wp2_with fail
    refine (net_alive _).mono ?_
    rintro e w1 ⟨rfl, B1⟩
    have HB1 := Lib.hid (HB0.out.trans (B1.mono HB0.out.size))
    have HK1 := Lib.hid (HK0.out.below B1 HK0.out.lt)
    clear B1
    obtain ⟨k0, k1, k2, k3, k4, k5, k6, k7, k8, k9, k10, k11⟩ := HK1.out.twelve
    go_wp2_with fail
    go_ret
    exact ⟨rfl, HB1.out⟩
  have z : decide ((300 : Int) < (m.n : Int)) = false := decide_eq_false (by omega)
  have HN := Lib.hid (show m.n ≤ 300 from by omega)
  clear hbig
  obtain ⟨q, hq⟩ : ∃ q, mchk m = q := ⟨_, rfl⟩
  have EK := Lib.hid fun (W : World) (B : Below w.heap.size w W) => rcheck_any m W ((HI.out.hb.below B).more B.size) (by have := HN.out; omega)
  rw [hq, HV.out] at EK
  by_cases hq0 : q ≠ 0
  · have z2 : ((q : Int) != 0) = true := by rw [bne_iff_ne]; omega
    clear hq0 hq
    go_enter Try.func10, Try.ntmps10
    go_upto_region 1 with fail
    generalize (w.alloc (.cells #[.int .i64 m.fr, .int .i64 m.tt, .int .i64 m.kd, .int .i64 m.vol, .int .i64 m.life, .int .u64 m.id, .int .i64 m.cd, .bool m.has, .int .u64 m.key, .int .u32 m.ck, .bool m.g, .slice m.a m.n m.c] 36)) = W0 at *
    go_wp2_with fail
    refine (net_alive _).mono ?_
    rintro e w1 ⟨rfl, B1⟩
    have HB1 := Lib.hid (HB0.out.trans (B1.mono HB0.out.size))
    have HK1 := Lib.hid (HK0.out.below B1 HK0.out.lt)
    clear B1
    obtain ⟨k0, k1, k2, k3, k4, k5, k6, k7, k8, k9, k10, k11⟩ := HK1.out.twelve
    go_wp2_with fail
    refine (EK.out _ HB1.out).mono ?_
    rintro e w2 ⟨rfl, B2⟩
    have HB2 := Lib.hid (HB1.out.trans (B2.mono HB1.out.size))
    have HK2 := Lib.hid (HK1.out.below B2 HK1.out.lt)
    clear B2 k0 k1 k2 k3 k4 k5 k6 k7 k8 k9 k10 k11
    obtain ⟨k0, k1, k2, k3, k4, k5, k6, k7, k8, k9, k10, k11⟩ := HK2.out.twelve
    go_wp2_with fail
    go_ret
    exact ⟨rfl, HB2.out⟩
  obtain rfl : q = 0 := Decidable.not_not.1 hq0
  clear hq0
  have HQ := Lib.hid hq
  clear hq
  have EO := Lib.hid fun (W : World) => ofm_any m W
  rw [HV.out] at EO
  go_enter Try.func10, Try.ntmps10
  go_upto_region 1 with fail
  generalize (w.alloc (.cells #[.int .i64 m.fr, .int .i64 m.tt, .int .i64 m.kd, .int .i64 m.vol, .int .i64 m.life, .int .u64 m.id, .int .i64 m.cd, .bool m.has, .int .u64 m.key, .int .u32 m.ck, .bool m.g, .slice m.a m.n m.c] 36)) = W0 at *
  go_wp2_with fail
  refine (net_alive _).mono ?_
  rintro e w1 ⟨rfl, B1⟩
  have HB1 := Lib.hid (HB0.out.trans (B1.mono HB0.out.size))
  have HK1 := Lib.hid (HK0.out.below B1 HK0.out.lt)
  clear B1
  obtain ⟨k0, k1, k2, k3, k4, k5, k6, k7, k8, k9, k10, k11⟩ := HK1.out.twelve
  go_wp2_with fail
  refine (EK.out _ HB1.out).mono ?_
  rintro e w2 ⟨rfl, B2⟩
  have HB2 := Lib.hid (HB1.out.trans (B2.mono HB1.out.size))
  have HK2 := Lib.hid (HK1.out.below B2 HK1.out.lt)
  clear B2 k0 k1 k2 k3 k4 k5 k6 k7 k8 k9 k10 k11
  obtain ⟨k0, k1, k2, k3, k4, k5, k6, k7, k8, k9, k10, k11⟩ := HK2.out.twelve
  go_wp2_with fail
  refine (new_any w2).mono ?_
  rintro e w3 ⟨rfl, rfl⟩
  have hn0 := new_net w2
  have BA := (Below.refl w2.heap.size w2).alloc (Nat.le_refl _) (.cells #[.slice none 0 0, .slice none 0 0] 99)
  have HB3 := Lib.hid (HB2.out.trans (BA.mono HB2.out.size))
  have HK3 := Lib.hid (HK2.out.below BA HK2.out.lt)
  have HR3 := Lib.hid hn0
  obtain ⟨N, hN⟩ : ∃ N, w2.heap.size = N := ⟨_, rfl⟩
  have HLN := Lib.hid (show w.heap.size < N from by rw [← hN]; exact HK2.out.lt)
  rw [hN] at HR3
  generalize (w2.alloc (.cells #[.slice none 0 0, .slice none 0 0] 99)) = w3 at *
  rw [hN]
  clear hn0 BA hN HB2 HK2 HB1 HK1 HB0 HK0 k0 k1 k2 k3 k4 k5 k6 k7 k8 k9 k10 k11
  obtain ⟨k0, k1, k2, k3, k4, k5, k6, k7, k8, k9, k10, k11⟩ := HK3.out.twelve
  go_wp2_with fail
  refine (EO.out _).mono ?_
  rintro e w4 ⟨rfl, B4⟩
  have HB4 := Lib.hid (HB3.out.trans (B4.mono HB3.out.size))
  have HK4 := Lib.hid (HK3.out.below B4 HK3.out.lt)
  have HR4 := Lib.hid (HR3.out.below B4)
  clear B4 k0 k1 k2 k3 k4 k5 k6 k7 k8 k9 k10 k11
  obtain ⟨k0, k1, k2, k3, k4, k5, k6, k7, k8, k9, k10, k11⟩ := HK4.out.twelve
  have BA := (Below.refl w4.heap.size w4).alloc (Nat.le_refl _) (.cells #[.int .i64 m.fr, .int .i64 m.tt, .int .i64 m.kd, .int .i64 m.vol, .int .i64 m.life, .int .u64 m.id, .int .i64 m.cd, .bool m.has, .int .u64 m.key, .int .u32 m.ck, .bool m.g, .slice m.a m.n m.c] 29)
  have HB5 := Lib.hid (HB4.out.trans (BA.mono HB4.out.size))
  have HK5 := Lib.hid (HK4.out.below BA HK4.out.lt)
  have HR5 := Lib.hid (HR4.out.below BA)
  have HX5 := Lib.hid (Blk.made w4 29 #[.int .i64 m.fr, .int .i64 m.tt, .int .i64 m.kd, .int .i64 m.vol, .int .i64 m.life, .int .u64 m.id, .int .i64 m.cd, .bool m.has, .int .u64 m.key, .int .u32 m.ck, .bool m.g, .slice m.a m.n m.c])
  have HXL := Lib.hid (show N < w4.heap.size from by obtain ⟨_, _, _, _, h1, -⟩ := HR4.out; exact h1.lt)
  clear BA HB4 HK4 HR4 HR3 HB3 HK3 EO k0 k1 k2 k3 k4 k5 k6 k7 k8 k9 k10 k11
  go_upto_region 7 with fail
  generalize (w4.alloc (.cells #[.int .i64 m.fr, .int .i64 m.tt, .int .i64 m.kd, .int .i64 m.vol, .int .i64 m.life, .int .u64 m.id, .int .i64 m.cd, .bool m.has, .int .u64 m.key, .int .u32 m.ck, .bool m.g, .slice m.a m.n m.c] 29)) = w6 at *
  generalize w4.heap.size = X at *
  have HXb := Lib.hid (show w.heap.size < X ∧ X < w6.heap.size from ⟨by have := HLN.out; have := HXL.out; omega, HX5.out.lt⟩)
  have HBA := Lib.hid ((Below.refl w6.heap.size w6).alloc (Nat.le_refl _) (.cells #[] 5))
  obtain ⟨g1, cap1, w7, hr1, ho7, hg7, hat7⟩ := append_bytes (World.ownsRow_made (base := w6.heap.size) w6 #[] 0 (Nat.le_refl _) (Nat.zero_le _) rfl) m.c ((HI.out.hb.below (HB5.out.trans (HBA.out.mono HB5.out.size))).more (HB5.out.trans (HBA.out.mono HB5.out.size)).size) (bsl_nil0 HI.out.hb) (by have := HN.out; omega) (by simp)
  simp only [Nat.zero_add, List.nil_append] at hr1 ho7
  have hB7 : Below w6.heap.size w6 w7 := HBA.out.grown hg7 HBA.out.size (fun k e => by injection e with e; omega)
  have HK7 := Lib.hid (HK5.out.below hB7 HK5.out.lt)
  have HB7 := Lib.hid (HB5.out.trans (hB7.mono HB5.out.size))
  have HR7 := Lib.hid (HR5.out.below hB7)
  have HX7 := Lib.hid (HX5.out.below hB7 HX5.out.lt)
  have HO7 := Lib.hid ho7
  have hk := (HK5.out.below HBA.out HK5.out.lt)
  obtain ⟨k0, k1, k2, k3, k4, k5, k6, k7, k8, k9, k10, k11⟩ := hk.twelve
  have f11 := HX7.out.frozen 11
  have x11 : w7.cell? ⟨X, 11, none⟩ = some (.slice m.a m.n m.c) := HX7.out.cell 11
  clear hB7 ho7 hg7 hat7 HK5 HB5 HR5 HX5 hk
  go_upto_region 8 with (first | (at_builtin; refine list_run (by rfl) _ _ rfl rfl rfl hr1 ?_; clear hr1))
  have hX8 : Blk (w7.setCell ⟨X, 11, none⟩ (.slice (some ⟨g1, 0, none⟩) m.n cap1)) X 29 #[.int .i64 m.fr, .int .i64 m.tt, .int .i64 m.kd, .int .i64 m.vol, .int .i64 m.life, .int .u64 m.id, .int .i64 m.cd, .bool m.has, .int .u64 m.key, .int .u32 m.ck, .bool m.g, .slice (some ⟨g1, 0, none⟩) m.n cap1] := HX7.out.put 11 _
  have hg8 : w7.grownBy (w7.setCell ⟨X, 11, none⟩ (.slice (some ⟨g1, 0, none⟩) m.n cap1)) (some X) := grown_put (grown_refl _ _) 11 _
  have HK8 := Lib.hid (HK7.out.grown hg8 (by intro e; injection e with e; have := HXb.out; omega))
  have HB8 := Lib.hid (HB7.out.grown hg8 HB7.out.size (fun k e => by injection e with e; have := HXb.out; omega))
  have HR8 := Lib.hid (HR7.out.boxed HX7.out hg8)
  have HO8 := Lib.hid (row_far HO7.out hg8 HXb.out.2)
  have HX8 := Lib.hid hX8
  have HG1 := Lib.hid (HO8.out.lt g1 rfl)
  generalize (w7.setCell ⟨X, 11, none⟩ (.slice (some ⟨g1, 0, none⟩) m.n cap1)) = w8 at *
  clear hX8 hg8 HK7 HB7 HR7 HO7 HX7 k0 k1 k2 k3 k4 k5 k6 k7 k8 k9 k10 k11 f11 x11 HBA
  obtain ⟨x0, x1, x2, x3, x4, x5, x6, x7, x8, x9, x10, x11⟩ := HX8.out.twelve
  have ES := Lib.hid (show Calls Try.prog 26 #[.pointer (some ⟨N, 0, none⟩), .agg #[.int .i64 m.fr, .int .i64 m.tt, .int .i64 m.kd, .int .i64 m.vol, .int .i64 m.life, .int .u64 m.id, .int .i64 m.cd, .bool m.has, .int .u64 m.key, .int .u32 m.ck, .bool m.g, .slice (some ⟨g1, 0, none⟩) m.n cap1]] w8 fun e w' => ∃ p : Pk, e = .returned (errc 0) ∧ p.m = { m with a := some ⟨g1, 0, none⟩, c := cap1 } ∧ w8.heap.size ≤ p.g ∧ NDid w8 N N ([] ++ [p]) [] w' from
    send_ok { m with a := some ⟨g1, 0, none⟩, c := cap1 } w8 HR8.out (bsl_own HO8.out) (by have := HN.out; show m.n ≤ _; omega) HI.out.id1 HI.out.key1 HI.out.ck1 HQ.out (by decide))
  go_wp2_with fail
  refine ES.out.mono ?_
  rintro e w9 ⟨pk, rfl, hpm, hpg, hd9⟩
  have HPM := Lib.hid hpm
  have HPG := Lib.hid hpg
  have HK9 := Lib.hid (HK8.out.below hd9.2.2 HLN.out)
  have HB9 := Lib.hid (HB8.out.trans (hd9.2.2.mono (Nat.le_of_lt HLN.out)))
  have HX9 := Lib.hid (HX8.out.nkeep hd9.2.1 (by decide) (by decide) (by decide))
  have HO9 := Lib.hid (row_nkeep HO8.out hd9.2.1 (by decide) (by decide) (by decide))
  have HR9 := Lib.hid (show NetR w9 N N [pk] [] from hd9.1)
  have hn3i : (m.n : Int) ≤ 300 := by have := HN.out; omega
  clear x0 x1 x2 x3 x4 x5 x6 x7 x8 x9 x10 x11 hpm hpg hd9 ES HK8 HB8 HX8 HO8 HR8
  go_wp2_with fail
  go_loopw [6] (fun iv wr => ∃ i : Nat, i ≤ m.n ∧ iv = .int .i64 i ∧ NOwn1 w N X w6.heap.size pk m g1 cap1 wr) (fun iv _ => m.n - (intOf iv).toNat)
  case atStart => exact ⟨0, Nat.zero_le _, rfl, HB9.out, HK9.out, HR9.out, HX9.out, ⟨m.l, HO9.out⟩⟩
  case round =>
    obtain ⟨j, hj, rfl, hB, hK, hR, hX, ⟨lx, hox⟩⟩ := hrel
    have HB := Lib.hid hB
    have HK := Lib.hid hK
    have HR := Lib.hid hR
    have HX := Lib.hid hX
    have HOX := Lib.hid hox
    have x11 : wr.cell? ⟨X, 11, none⟩ = some (.slice (some ⟨g1, 0, none⟩) m.n cap1) := hX.cell 11
    clear hB hK hR hX hox HB9 HK9 HR9 HX9 HO9
    by_cases hlt : j < m.n
    · have hll : lx.length = m.n := by simpa using HOX.out.1
      obtain ⟨y, hy⟩ : ∃ y, lx.getD j 0 = y := ⟨_, rfl⟩
      have hcy : wr.cell? ⟨g1, j, none⟩ = some (.int .u8 (y.toNat : Int)) := by
        rw [HOX.out.cellAt j (by show j < m.n * 1; omega), List.getElem?_map, ← hy]
        simp [List.getD, show j < lx.length by omega, bv]
      have hfy : wr.frozen? ⟨g1, j, none⟩ = false := HOX.out.frozenAt _
      obtain ⟨ho1, hgr⟩ := HOX.out.stored j (bv (y + 1#8))
      rw [← List.map_set] at ho1
      have g1b := HG1.out
      have xb := HXb.out
      obtain ⟨cur, hcur⟩ := row_block HOX.out
      have hBn := HB.out.grown hgr HB.out.size (fun q e => by injection e with e; omega)
      have hKn := HK.out.grown hgr (by intro e; injection e with e; omega)
      have hRn := HR.out.far hcur hgr (by intro p hp; rw [List.mem_singleton] at hp; subst hp; have := HPG.out; omega)
      have hXn := HX.out.grown hgr (by intro e; injection e with e; omega)
      have HNx := Lib.hid (show NOwn1 w N X w6.heap.size pk m g1 cap1 ((wr.setCell ⟨g1, j, none⟩ (bv (y + 1#8))).drew) from ⟨hBn.drew, hKn.drew, hRn.below (Below.refl _ _).drew, hXn.drew, ⟨_, ho1.drew⟩⟩)
      unfold bv at HNx
      have hj0 : (0 : Int) ≤ j := by omega
      have hj1 : (j : Int) < m.n := by omega
      have hlt' : decide ((j : Int) < m.n) = true := decide_eq_true hj1
      have HPL := Lib.hid (byte_plus1 y)
      clear ho1 hgr hBn hKn hRn hXn g1b xb hy hll HB HK HR HX HOX hcur
      go_wp2_with fail
      go_region
      all_goals
        go_wp2_with fail
        rw [HPL.out]
        refine ⟨⟨j + 1, by omega, by go_num, HNx.out⟩, ?_⟩
        simp [intOf]; omega
    · have hje : j = m.n := by omega
      have hlt' : decide ((j : Int) < m.n) = false := decide_eq_false (by omega)
      generalize wr = wf at *
      clear x11
      have x11 : wf.cell? ⟨X, 11, none⟩ = some (.slice (some ⟨g1, 0, none⟩) m.n cap1) := HX.out.cell 11
      have EF := Lib.hid (peek_any 0 wf HR.out)
      rw [show netAt [pk] 0 = (pk.m.bare, 0) from rfl, show pk.m.bare = m.bare from by rw [HPM.out]; rfl] at EF
      clear hje hj
      go_wp2_with fail
      refine EF.out.mono ?_
      rintro e w10 ⟨B10, ay, cy, rfl, -, -, hoy⟩
      rw [show MsgR.vals { ((m.bare, 0) : MsgR × Nat).1 with a := ay, c := cy } = .agg #[.int .i64 m.fr, .int .i64 m.tt, .int .i64 m.kd, .int .i64 m.vol, .int .i64 m.life, .int .u64 m.id, .int .i64 m.cd, .bool m.has, .int .u64 m.key, .int .u32 m.ck, .bool m.g, .slice ay m.n cy] from rfl, show errc ((m.bare, 0) : MsgR × Nat).2 = errc 0 from rfl]
      have BA := (Below.refl w10.heap.size w10).alloc (Nat.le_refl _) (.cells #[.int .i64 m.fr, .int .i64 m.tt, .int .i64 m.kd, .int .i64 m.vol, .int .i64 m.life, .int .u64 m.id, .int .i64 m.cd, .bool m.has, .int .u64 m.key, .int .u32 m.ck, .bool m.g, .slice ay m.n cy] 29)
      have HB11 := Lib.hid (B10.trans (BA.mono B10.size))
      have HGY := Lib.hid fun q (e : (Value.slice ay m.n cy).ownBlock = some q) => hoy.lt q e
      have HY11 := Lib.hid (Blk.made w10 29 #[.int .i64 m.fr, .int .i64 m.tt, .int .i64 m.kd, .int .i64 m.vol, .int .i64 m.life, .int .u64 m.id, .int .i64 m.cd, .bool m.has, .int .u64 m.key, .int .u32 m.ck, .bool m.g, .slice ay m.n cy])
      have HOY11 := Lib.hid (show (w10.alloc (.cells #[.int .i64 m.fr, .int .i64 m.tt, .int .i64 m.kd, .int .i64 m.vol, .int .i64 m.life, .int .u64 m.id, .int .i64 m.cd, .bool m.has, .int .u64 m.key, .int .u32 m.ck, .bool m.g, .slice ay m.n cy] 29)).ownsRow wf.heap.size 5 1 (.slice ay m.n cy) m.n (m.l.map bv) from row_below hoy BA (Nat.le_refl _))
      have HS11 := Lib.hid (show wf.heap.size ≤ w10.heap.size from B10.size)
      clear B10 BA hoy EF x11
      go_upto_region 14 with fail
      clear hlt
      generalize (w10.alloc (.cells #[.int .i64 m.fr, .int .i64 m.tt, .int .i64 m.kd, .int .i64 m.vol, .int .i64 m.life, .int .u64 m.id, .int .i64 m.cd, .bool m.has, .int .u64 m.key, .int .u32 m.ck, .bool m.g, .slice ay m.n cy] 29)) = w11 at *
      generalize w10.heap.size = Y at *
      go_wp2_with fail
      go_loopw [9] (fun iv ws => ∃ i : Nat, i ≤ m.n ∧ iv = .int .i64 i ∧ NOwn2 wf Y wf.heap.size m.n #[.int .i64 m.fr, .int .i64 m.tt, .int .i64 m.kd, .int .i64 m.vol, .int .i64 m.life, .int .u64 m.id, .int .i64 m.cd, .bool m.has, .int .u64 m.key, .int .u32 m.ck, .bool m.g, .slice ay m.n cy] ay cy ws) (fun iv _ => m.n - (intOf iv).toNat)
      case atStart => exact ⟨0, Nat.zero_le _, rfl, HB11.out, HY11.out, ⟨m.l, HOY11.out⟩⟩
      case round =>
        obtain ⟨i, hi, rfl, hB2, hY, ⟨ly, hoy⟩⟩ := hrel
        have HB2 := Lib.hid hB2
        have HY := Lib.hid hY
        have HOY := Lib.hid hoy
        have y11 : wr.cell? ⟨Y, 11, none⟩ = some (.slice ay m.n cy) := hY.cell 11
        clear hB2 hY hoy HB11 HY11 HOY11
        by_cases hlt : i < m.n
        · obtain ⟨gy, cy', e, hgy1, hgy2⟩ := HOY.out.form (by omega)
          injection e with e _ e2
          subst e e2
          have hll : ly.length = m.n := by simpa using HOY.out.1
          obtain ⟨y, hy⟩ : ∃ y, ly.getD i 0 = y := ⟨_, rfl⟩
          have hcy : wr.cell? ⟨gy, i, none⟩ = some (.int .u8 (y.toNat : Int)) := by
            rw [HOY.out.cellAt i (by omega), List.getElem?_map, ← hy]
            simp [List.getD, show i < ly.length by omega, bv]
          have hfy : wr.frozen? ⟨gy, i, none⟩ = false := HOY.out.frozenAt _
          obtain ⟨ho1, hgr⟩ := HOY.out.stored i (bv (y + 1#8))
          rw [← List.map_set] at ho1
          have gyb := HGY.out gy rfl
          have hBn := HB2.out.grown hgr HB2.out.size (fun q e => by injection e with e; omega)
          have hYn := HY.out.grown hgr (by intro e; injection e with e; omega)
          have HNx := Lib.hid (show NOwn2 wf Y wf.heap.size m.n #[.int .i64 m.fr, .int .i64 m.tt, .int .i64 m.kd, .int .i64 m.vol, .int .i64 m.life, .int .u64 m.id, .int .i64 m.cd, .bool m.has, .int .u64 m.key, .int .u32 m.ck, .bool m.g, .slice (some ⟨gy, 0, none⟩) m.n cy] (some ⟨gy, 0, none⟩) cy ((wr.setCell ⟨gy, i, none⟩ (bv (y + 1#8))).drew) from ⟨hBn.drew, hYn.drew, ⟨_, ho1.drew⟩⟩)
          unfold bv at HNx
          have hj0 : (0 : Int) ≤ i := by omega
          have hj1 : (i : Int) < m.n := by omega
          have hlt' : decide ((i : Int) < m.n) = true := decide_eq_true hj1
          have HPL := Lib.hid (byte_plus1 y)
          clear ho1 hgr hBn hYn gyb hy hll HB2 HY HOY hgy1 hgy2
          go_wp2_with fail
          go_region
          all_goals
            go_wp2_with fail
            rw [HPL.out]
            refine ⟨⟨i + 1, by omega, by go_num, HNx.out⟩, ?_⟩
            simp [intOf]; omega
        · have hlt' : decide ((i : Int) < m.n) = false := decide_eq_false (by omega)
          generalize wr = ws at *
          have HBs := Lib.hid (HB.out.trans (HB2.out.mono HB.out.size))
          have HKs := Lib.hid (HK.out.below HB2.out HK.out.lt)
          have HRs := Lib.hid (HR.out.below HB2.out)
          have HXs := Lib.hid (HX.out.below HB2.out HX.out.lt)
          clear hi HB HK HR HX HB2 HY HOY
          have ET := Lib.hid (take_any 0 ws HRs.out (by decide))
          rw [show netTake [pk] [] 0 = ((pk.m.bare, 0), []) from rfl, show pk.m.bare = m.bare from by rw [HPM.out]; rfl] at ET
          go_wp2_with fail
          refine ET.out.mono ?_
          rintro e w12 ⟨hd12, az, cz, rfl, -, -, hoz⟩
          rw [show MsgR.vals { ((m.bare, 0) : MsgR × Nat).1 with a := az, c := cz } = .agg #[.int .i64 m.fr, .int .i64 m.tt, .int .i64 m.kd, .int .i64 m.vol, .int .i64 m.life, .int .u64 m.id, .int .i64 m.cd, .bool m.has, .int .u64 m.key, .int .u32 m.ck, .bool m.g, .slice az m.n cz] from rfl, show errc ((m.bare, 0) : MsgR × Nat).2 = errc 0 from rfl]
          have BA := (Below.refl w12.heap.size w12).alloc (Nat.le_refl _) (.cells #[.int .i64 m.fr, .int .i64 m.tt, .int .i64 m.kd, .int .i64 m.vol, .int .i64 m.life, .int .u64 m.id, .int .i64 m.cd, .bool m.has, .int .u64 m.key, .int .u32 m.ck, .bool m.g, .slice az m.n cz] 29)
          have hk12 := HKs.out.below hd12.2.2 HLN.out
          have hx12 := HXs.out.nkeep hd12.2.1 (by decide) (by decide) (by decide)
          have HB13 := Lib.hid ((HBs.out.trans (hd12.2.2.mono (Nat.le_of_lt HLN.out))).trans (BA.mono (Nat.le_trans (Nat.le_of_lt HLN.out) hd12.1.low)))
          have HK13 := Lib.hid (hk12.below BA hk12.lt)
          have HX13 := Lib.hid (hx12.below BA hx12.lt)
          have HZ13 := Lib.hid (Blk.made w12 29 #[.int .i64 m.fr, .int .i64 m.tt, .int .i64 m.kd, .int .i64 m.vol, .int .i64 m.life, .int .u64 m.id, .int .i64 m.cd, .bool m.has, .int .u64 m.key, .int .u32 m.ck, .bool m.g, .slice az m.n cz])
          have HOZ13 := Lib.hid (bsl_own (row_below hoz BA (Nat.le_refl _)))
          clear hd12 BA hk12 hx12 hoz ET HBs HKs HRs HXs y11
          go_upto_region 19 with fail
          clear hlt hlt'
          generalize (w12.alloc (.cells #[.int .i64 m.fr, .int .i64 m.tt, .int .i64 m.kd, .int .i64 m.vol, .int .i64 m.life, .int .u64 m.id, .int .i64 m.cd, .bool m.has, .int .u64 m.key, .int .u32 m.ck, .bool m.g, .slice az m.n cz] 29)) = w13 at *
          have EN := Lib.hid (take_nil 0 w13)
          go_wp2_with fail
          refine EN.out.mono ?_
          rintro e w14 ⟨B14, a1, c1, rfl, -, -, -⟩
          rw [show MsgR.vals { ((mNone, 15) : MsgR × Nat).1 with a := a1, c := c1 } = .agg #[.int .i64 0, .int .i64 0, .int .i64 0, .int .i64 0, .int .i64 0, .int .u64 0, .int .i64 0, .bool false, .int .u64 0, .int .u32 0, .bool false, .slice a1 0 c1] from rfl, show errc ((mNone, 15) : MsgR × Nat).2 = errc 15 from rfl]
          have BB := B14.trans (((Below.refl w14.heap.size w14).alloc (Nat.le_refl _) (.cells #[.int .i64 0, .int .i64 0, .int .i64 0, .int .i64 0, .int .i64 0, .int .u64 0, .int .i64 0, .bool false, .int .u64 0, .int .u32 0, .bool false, .slice a1 0 c1] 29)).mono B14.size)
          have HB15 := Lib.hid (HB13.out.trans (BB.mono HB13.out.size))
          have HK15 := Lib.hid (HK13.out.below BB HK13.out.lt)
          have HX15 := Lib.hid (HX13.out.below BB HX13.out.lt)
          have HZ15 := Lib.hid (HZ13.out.below BB HZ13.out.lt)
          have HOZ15 := Lib.hid ((HOZ13.out.below BB).more BB.size)
          clear B14 BB EN HB13 HK13 HX13 HZ13 HOZ13
          go_upto_region 21 with fail
          generalize (w14.alloc (.cells #[.int .i64 0, .int .i64 0, .int .i64 0, .int .i64 0, .int .i64 0, .int .u64 0, .int .i64 0, .bool false, .int .u64 0, .int .u32 0, .bool false, .slice a1 0 c1] 29)) = w15 at *
          have EM := Lib.hid (peek_nil 0 w15)
          go_wp2_with fail
          refine EM.out.mono ?_
          rintro e w16 ⟨B16, a2, c2, rfl, -, -, -⟩
          rw [show MsgR.vals { ((mNone, 15) : MsgR × Nat).1 with a := a2, c := c2 } = .agg #[.int .i64 0, .int .i64 0, .int .i64 0, .int .i64 0, .int .i64 0, .int .u64 0, .int .i64 0, .bool false, .int .u64 0, .int .u32 0, .bool false, .slice a2 0 c2] from rfl, show errc ((mNone, 15) : MsgR × Nat).2 = errc 15 from rfl]
          have BB := B16.trans (((Below.refl w16.heap.size w16).alloc (Nat.le_refl _) (.cells #[.int .i64 0, .int .i64 0, .int .i64 0, .int .i64 0, .int .i64 0, .int .u64 0, .int .i64 0, .bool false, .int .u64 0, .int .u32 0, .bool false, .slice a2 0 c2] 29)).mono B16.size)
          have HB18 := Lib.hid (HB15.out.trans (BB.mono HB15.out.size))
          have HK18 := Lib.hid (HK15.out.below BB HK15.out.lt)
          have HX18 := Lib.hid (HX15.out.below BB HX15.out.lt)
          have HZ18 := Lib.hid (HZ15.out.below BB HZ15.out.lt)
          have HOZ18 := Lib.hid ((HOZ15.out.below BB).more BB.size)
          clear B16 BB EM HB15 HK15 HX15 HZ15 HOZ15
          go_upto_region 22 with fail
          generalize (w16.alloc (.cells #[.int .i64 0, .int .i64 0, .int .i64 0, .int .i64 0, .int .i64 0, .int .u64 0, .int .i64 0, .bool false, .int .u64 0, .int .u32 0, .bool false, .slice a2 0 c2] 29)) = w18 at *
          have C1 := Lib.hid fun (W : World) (B : Below w18.heap.size w18 W) => (HK18.out.below B HK18.out.lt).twelve
          have C2 := Lib.hid fun (W : World) (B : Below w18.heap.size w18 W) => (HX18.out.below B HX18.out.lt).twelve
          have C3 := Lib.hid fun (W : World) (B : Below w18.heap.size w18 W) => (HZ18.out.below B HZ18.out.lt).twelve
          have ETo := Lib.hid fun (W : World) => show Calls Try.prog 16 #[.agg #[.int .i64 m.fr, .int .i64 m.tt, .int .i64 m.kd, .int .i64 m.vol, .int .i64 m.life, .int .u64 m.id, .int .i64 m.cd, .bool m.has, .int .u64 m.key, .int .u32 m.ck, .bool m.g, .slice az m.n cz]] W fun e w' => e = .returned (.agg #[.int .i64 m.fr, .int .i64 m.tt, .int .i64 m.kd, .int .i64 m.vol, .int .i64 m.life, .int .u64 m.id, .int .i64 m.cd, .bool m.has, .int .u64 m.key, .int .u32 m.ck, .bool m.g, .slice az m.n cz]) ∧ Below W.heap.size W w' from tom_any { m.bare with a := az, c := cz } W
          have ESm := Lib.hid fun (W : World) (B : Below w18.heap.size w18 W) => show Calls Try.prog 15 #[.agg #[.int .i64 m.fr, .int .i64 m.tt, .int .i64 m.kd, .int .i64 m.vol, .int .i64 m.life, .int .u64 m.id, .int .i64 m.cd, .bool m.has, .int .u64 m.key, .int .u32 m.ck, .bool m.g, .slice az m.n cz], .agg #[.int .i64 m.fr, .int .i64 m.tt, .int .i64 m.kd, .int .i64 m.vol, .int .i64 m.life, .int .u64 m.id, .int .i64 m.cd, .bool m.has, .int .u64 m.key, .int .u32 m.ck, .bool m.g, .slice m.a m.n m.c]] W fun e w' => e = .returned (.bool true) ∧ Below W.heap.size W w' from by
            have := rsame_any { m.bare with a := az, c := cz } m W ((HOZ18.out.below B).more B.size) ((HI.out.hb.below (HB18.out.trans (B.mono HB18.out.size))).more (HB18.out.trans (B.mono HB18.out.size)).size) (by have := HN.out; show m.n ≤ _; omega)
            rw [show mSame { m.bare with a := az, c := cz } m = true from mSame_of rfl] at this
            exact this
          have ESn := Lib.hid fun (W : World) => show Calls Try.prog 26 #[.pointer none, .agg #[.int .i64 m.fr, .int .i64 m.tt, .int .i64 m.kd, .int .i64 m.vol, .int .i64 m.life, .int .u64 m.id, .int .i64 m.cd, .bool m.has, .int .u64 m.key, .int .u32 m.ck, .bool m.g, .slice (some ⟨g1, 0, none⟩) m.n cap1]] W fun e w' => e = .returned (errc 15) ∧ Below W.heap.size W w' from send_nil { m with a := some ⟨g1, 0, none⟩, c := cap1 } W
          clear z hn3i
          refine wp_region_held_drew (S := fun W => Below w18.heap.size w18 W) (by kernel_rfl) ((Below.refl _ _).drew) (fun hS => ?_)
          refine wpAnyH_take (i := 0) (v := ?_) rfl (by kernel_rfl) (by kernel_rfl) (by kernel_rfl) (fun _ _ _ h => h) (Or.inl ⟨by kernel_rfl, ?_⟩) hS ?_
          rotate_left
          · intro W hW; go_simp; try with_reducible rfl
          refine wpAnyH_take (i := 2) (v := ?_) rfl (by kernel_rfl) (by kernel_rfl) (by kernel_rfl) (fun _ _ _ h => h) (Or.inl ⟨by kernel_rfl, ?_⟩) hS ?_
          rotate_left
          · intro W hW; go_simp; try with_reducible rfl
          refine wpAnyH_take (i := 5) (v := ?_) rfl (by kernel_rfl) (by kernel_rfl) (by kernel_rfl) (fun _ _ _ h => h) (Or.inl ⟨by kernel_rfl, ?_⟩) hS ?_
          rotate_left
          · intro W hW; go_simp; try with_reducible rfl
          refine wpAnyH_ready (rs := [1]) (by kernel_rfl) (by simp) ?_
          refine AllReadyH.cons (i := 1) rfl ?_ AllReadyH.nil
          intro K hK
          go_simp
          refine (code_c 0 _ (by decide)).mono ?_
          rintro e wv ⟨rfl, rfl⟩
          have hT := hS
          go_simp
          refine hK.out _ _ ?_ (fun hN => ?_)
          · first | exact hT | exact hS | exact hS.alloc hS.size _ | exact hS.drew
          clear hK K
          try clear hT
          clear hS
          have hS := hN
          clear hN
          refine wpAnyH_ready (rs := [3]) (by kernel_rfl) (by simp) ?_
          refine AllReadyH.cons (i := 3) rfl ?_ AllReadyH.nil
          intro K hK
          go_simp
          refine (code_c 0 _ (by decide)).mono ?_
          rintro e wv ⟨rfl, rfl⟩
          have hT := hS
          go_simp
          refine hK.out _ _ ?_ (fun hN => ?_)
          · first | exact hT | exact hS | exact hS.alloc hS.size _ | exact hS.drew
          clear hK K
          try clear hT
          clear hS
          have hS := hN
          clear hN
          refine wpAnyH_take (i := 4) (v := ?_) rfl (by kernel_rfl) (by kernel_rfl) (by kernel_rfl) (fun _ _ _ h => h) (Or.inl ⟨by kernel_rfl, ?_⟩) hS ?_
          rotate_left
          · intro W hW; go_simp; try with_reducible rfl
          refine wpAnyH_ready (rs := [6]) (by kernel_rfl) (by simp) ?_
          refine AllReadyH.cons (i := 6) rfl ?_ AllReadyH.nil
          intro K hK
          go_simp
          refine (code_c 0 _ (by decide)).mono ?_
          rintro e wv ⟨rfl, rfl⟩
          have hT := hS
          go_simp
          refine hK.out _ _ ?_ (fun hN => ?_)
          · first | exact hT | exact hS | exact hS.alloc hS.size _ | exact hS.drew
          clear hK K
          try clear hT
          clear hS
          have hS := hN
          clear hN
          refine wpAnyH_take (i := 7) (v := ?_) rfl (by kernel_rfl) (by kernel_rfl) (by kernel_rfl) (fun _ _ _ h => h) (Or.inl ⟨by kernel_rfl, ?_⟩) hS ?_
          rotate_left
          · intro W hW; go_simp; try with_reducible rfl
          refine wpAnyH_take (i := 8) (v := ?_) rfl (by kernel_rfl) (by kernel_rfl) (by kernel_rfl) (fun _ _ _ h => h) (Or.inl ⟨by kernel_rfl, ?_⟩) hS ?_
          rotate_left
          · intro W hW; go_simp; try with_reducible rfl
          refine wpAnyH_take (i := 9) (v := ?_) rfl (by kernel_rfl) (by kernel_rfl) (by kernel_rfl) (fun _ _ _ h => h) (Or.inl ⟨by kernel_rfl, ?_⟩) hS ?_
          rotate_left
          · intro W hW; go_simp; try with_reducible rfl
          refine wpAnyH_take (i := 10) (v := ?_) rfl (by kernel_rfl) (by kernel_rfl) (by kernel_rfl) (fun _ _ _ h => h) (Or.inl ⟨by kernel_rfl, ?_⟩) hS ?_
          rotate_left
          · intro W hW; obtain ⟨k0, k1, k2, k3, k4, k5, k6, k7, k8, k9, k10, k11⟩ := C1.out W hW; obtain ⟨x0, x1, x2, x3, x4, x5, x6, x7, x8, x9, x10, x11⟩ := C2.out W hW; obtain ⟨z0, z1, z2, z3, z4, z5, z6, z7, z8, z9, z10, z11⟩ := C3.out W hW; go_simp; try with_reducible rfl
          refine wpAnyH_take (i := 12) (v := ?_) rfl (by kernel_rfl) (by kernel_rfl) (by kernel_rfl) (fun _ _ _ h => h) (Or.inl ⟨by kernel_rfl, ?_⟩) hS ?_
          rotate_left
          · intro W hW; obtain ⟨k0, k1, k2, k3, k4, k5, k6, k7, k8, k9, k10, k11⟩ := C1.out W hW; obtain ⟨x0, x1, x2, x3, x4, x5, x6, x7, x8, x9, x10, x11⟩ := C2.out W hW; obtain ⟨z0, z1, z2, z3, z4, z5, z6, z7, z8, z9, z10, z11⟩ := C3.out W hW; go_simp; try with_reducible rfl
          refine wpAnyH_ready (rs := [11]) (by kernel_rfl) (by simp) ?_
          refine AllReadyH.cons (i := 11) rfl ?_ AllReadyH.nil
          intro K hK
          go_simp
          refine (ETo.out _).mono ?_
          rintro e wv ⟨rfl, Bv⟩
          have hT := hS.trans (Bv.mono hS.size)
          go_simp
          refine hK.out _ _ ?_ (fun hN => ?_)
          · first | exact hT | exact hS | exact hS.alloc hS.size _ | exact hS.drew
          clear hK K
          try clear hT
          clear hS
          have hS := hN
          clear hN
          refine wpAnyH_ready (rs := [13]) (by kernel_rfl) (by simp) ?_
          refine AllReadyH.cons (i := 13) rfl ?_ AllReadyH.nil
          intro K hK
          go_simp
          refine (ESm.out _ hS).mono ?_
          rintro e wv ⟨rfl, Bv⟩
          have hT := hS.trans (Bv.mono hS.size)
          go_simp
          refine hK.out _ _ ?_ (fun hN => ?_)
          · first | exact hT | exact hS | exact hS.alloc hS.size _ | exact hS.drew
          clear hK K
          try clear hT
          clear hS
          have hS := hN
          clear hN
          refine wpAnyH_take (i := 14) (v := ?_) rfl (by kernel_rfl) (by kernel_rfl) (by kernel_rfl) (fun _ _ _ h => h) (Or.inl ⟨by kernel_rfl, ?_⟩) hS ?_
          rotate_left
          · intro W hW; go_simp; try with_reducible rfl
          refine wpAnyH_take (i := 15) (v := ?_) rfl (by kernel_rfl) (by kernel_rfl) (by kernel_rfl) (fun _ _ _ h => h) (Or.inl ⟨by kernel_rfl, ?_⟩) hS ?_
          rotate_left
          · intro W hW; go_simp; try with_reducible rfl
          refine wpAnyH_take (i := 16) (v := ?_) rfl (by kernel_rfl) (by kernel_rfl) (by kernel_rfl) (fun _ _ _ h => h) (Or.inl ⟨by kernel_rfl, ?_⟩) hS ?_
          rotate_left
          · intro W hW; go_simp; try with_reducible rfl
          refine wpAnyH_ready (rs := [17]) (by kernel_rfl) (by simp) ?_
          refine AllReadyH.cons (i := 17) rfl ?_ AllReadyH.nil
          intro K hK
          go_simp
          refine (code_c 15 _ (by decide)).mono ?_
          rintro e wv ⟨rfl, rfl⟩
          have hT := hS
          go_simp
          refine hK.out _ _ ?_ (fun hN => ?_)
          · first | exact hT | exact hS | exact hS.alloc hS.size _ | exact hS.drew
          clear hK K
          try clear hT
          clear hS
          have hS := hN
          clear hN
          refine wpAnyH_take (i := 18) (v := ?_) rfl (by kernel_rfl) (by kernel_rfl) (by kernel_rfl) (fun _ _ _ h => h) (Or.inl ⟨by kernel_rfl, ?_⟩) hS ?_
          rotate_left
          · intro W hW; go_simp; try with_reducible rfl
          refine wpAnyH_take (i := 19) (v := ?_) rfl (by kernel_rfl) (by kernel_rfl) (by kernel_rfl) (fun _ _ _ h => h) (Or.inl ⟨by kernel_rfl, ?_⟩) hS ?_
          rotate_left
          · intro W hW; go_simp; try with_reducible rfl
          refine wpAnyH_take (i := 20) (v := ?_) rfl (by kernel_rfl) (by kernel_rfl) (by kernel_rfl) (fun _ _ _ h => h) (Or.inl ⟨by kernel_rfl, ?_⟩) hS ?_
          rotate_left
          · intro W hW; go_simp; try with_reducible rfl
          refine wpAnyH_take (i := 21) (v := ?_) rfl (by kernel_rfl) (by kernel_rfl) (by kernel_rfl) (fun _ _ _ h => h) (Or.inl ⟨by kernel_rfl, ?_⟩) hS ?_
          rotate_left
          · intro W hW; go_simp; try with_reducible rfl
          refine wpAnyH_ready (rs := [22]) (by kernel_rfl) (by simp) ?_
          refine AllReadyH.cons (i := 22) rfl ?_ AllReadyH.nil
          intro K hK
          go_simp
          refine (code_c 15 _ (by decide)).mono ?_
          rintro e wv ⟨rfl, rfl⟩
          have hT := hS
          go_simp
          refine hK.out _ _ ?_ (fun hN => ?_)
          · first | exact hT | exact hS | exact hS.alloc hS.size _ | exact hS.drew
          clear hK K
          try clear hT
          clear hS
          have hS := hN
          clear hN
          refine wpAnyH_take (i := 23) (v := ?_) rfl (by kernel_rfl) (by kernel_rfl) (by kernel_rfl) (fun _ _ _ h => h) (Or.inl ⟨by kernel_rfl, ?_⟩) hS ?_
          rotate_left
          · intro W hW; go_simp; try with_reducible rfl
          refine wpAnyH_take (i := 24) (v := ?_) rfl (by kernel_rfl) (by kernel_rfl) (by kernel_rfl) (fun _ _ _ h => h) (Or.inl ⟨by kernel_rfl, ?_⟩) hS ?_
          rotate_left
          · intro W hW; go_simp; try with_reducible rfl
          refine wpAnyH_take (i := 25) (v := ?_) rfl (by kernel_rfl) (by kernel_rfl) (by kernel_rfl) (fun _ _ _ h => h) (Or.inl ⟨by kernel_rfl, ?_⟩) hS ?_
          rotate_left
          · intro W hW; go_simp; try with_reducible rfl
          refine wpAnyH_take (i := 26) (v := ?_) rfl (by kernel_rfl) (by kernel_rfl) (by kernel_rfl) (fun _ _ _ h => h) (Or.inl ⟨by kernel_rfl, ?_⟩) hS ?_
          rotate_left
          · intro W hW; go_simp; try with_reducible rfl
          refine wpAnyH_take (i := 27) (v := ?_) rfl (by kernel_rfl) (by kernel_rfl) (by kernel_rfl) (fun _ _ _ h => h) (Or.inl ⟨by kernel_rfl, ?_⟩) hS ?_
          rotate_left
          · intro W hW; obtain ⟨k0, k1, k2, k3, k4, k5, k6, k7, k8, k9, k10, k11⟩ := C1.out W hW; obtain ⟨x0, x1, x2, x3, x4, x5, x6, x7, x8, x9, x10, x11⟩ := C2.out W hW; obtain ⟨z0, z1, z2, z3, z4, z5, z6, z7, z8, z9, z10, z11⟩ := C3.out W hW; go_simp; try with_reducible rfl
          refine wpAnyH_ready (rs := [28]) (by kernel_rfl) (by simp) ?_
          refine AllReadyH.cons (i := 28) rfl ?_ AllReadyH.nil
          intro K hK
          go_simp
          refine (ESn.out _).mono ?_
          rintro e wv ⟨rfl, Bv⟩
          have hT := hS.trans (Bv.mono hS.size)
          go_simp
          refine hK.out _ _ ?_ (fun hN => ?_)
          · first | exact hT | exact hS | exact hS.alloc hS.size _ | exact hS.drew
          clear hK K
          try clear hT
          clear hS
          have hS := hN
          clear hN
          refine wpAnyH_ready (rs := [29]) (by kernel_rfl) (by simp) ?_
          refine AllReadyH.cons (i := 29) rfl ?_ AllReadyH.nil
          intro K hK
          go_simp
          refine (code_c 15 _ (by decide)).mono ?_
          rintro e wv ⟨rfl, rfl⟩
          have hT := hS
          go_simp
          refine hK.out _ _ ?_ (fun hN => ?_)
          · first | exact hT | exact hS | exact hS.alloc hS.size _ | exact hS.drew
          clear hK K
          try clear hT
          clear hS
          have hS := hN
          clear hN
          refine wpAnyH_take (i := 30) (v := ?_) rfl (by kernel_rfl) (by kernel_rfl) (by kernel_rfl) (fun _ _ _ h => h) (Or.inl ⟨by kernel_rfl, ?_⟩) hS ?_
          rotate_left
          · intro W hW; go_simp; try with_reducible rfl
          refine wpAnyH_take (i := 31) (v := ?_) rfl (by kernel_rfl) (by kernel_rfl) (by kernel_rfl) (fun _ _ _ h => h) (Or.inl ⟨by kernel_rfl, ?_⟩) hS ?_
          rotate_left
          · intro W hW; go_simp; try with_reducible rfl
          refine wpAnyH_take (i := 32) (v := ?_) rfl (by kernel_rfl) (by kernel_rfl) (by kernel_rfl) (fun _ _ _ h => h) (Or.inl ⟨by kernel_rfl, ?_⟩) hS ?_
          rotate_left
          · intro W hW; go_simp; try with_reducible rfl
          refine wpAnyH_take (i := 33) (v := ?_) rfl (by kernel_rfl) (by kernel_rfl) (by kernel_rfl) (fun _ _ _ h => h) (Or.inl ⟨by kernel_rfl, ?_⟩) hS ?_
          rotate_left
          · intro W hW; go_simp; try with_reducible rfl
          refine wpAnyH_ready (rs := [34]) (by kernel_rfl) (by simp) ?_
          refine AllReadyH.cons (i := 34) rfl ?_ AllReadyH.nil
          intro K hK
          go_simp
          refine (lose_nil 0 _).mono ?_
          rintro e wv ⟨rfl, Bv⟩
          have hT := hS.trans (Bv.mono hS.size)
          go_simp
          refine hK.out _ _ ?_ (fun hN => ?_)
          · first | exact hT | exact hS | exact hS.alloc hS.size _ | exact hS.drew
          clear hK K
          try clear hT
          clear hS
          have hS := hN
          clear hN
          refine wpAnyH_ready (rs := [35]) (by kernel_rfl) (by simp) ?_
          refine AllReadyH.cons (i := 35) rfl ?_ AllReadyH.nil
          intro K hK
          go_simp
          refine (code_c 15 _ (by decide)).mono ?_
          rintro e wv ⟨rfl, rfl⟩
          have hT := hS
          go_simp
          refine hK.out _ _ ?_ (fun hN => ?_)
          · first | exact hT | exact hS | exact hS.alloc hS.size _ | exact hS.drew
          clear hK K
          try clear hT
          clear hS
          have hS := hN
          clear hN
          refine wpAnyH_take (i := 36) (v := ?_) rfl (by kernel_rfl) (by kernel_rfl) (by kernel_rfl) (fun _ _ _ h => h) (Or.inl ⟨by kernel_rfl, ?_⟩) hS ?_
          rotate_left
          · intro W hW; go_simp; try with_reducible rfl
          refine wpAnyH_take (i := 37) (v := ?_) rfl (by kernel_rfl) (by kernel_rfl) (by kernel_rfl) (fun _ _ _ h => h) (Or.inl ⟨by kernel_rfl, ?_⟩) hS ?_
          rotate_left
          · intro W hW; go_simp; try with_reducible rfl
          refine wpAnyH_take (i := 38) (v := ?_) rfl (by kernel_rfl) (by kernel_rfl) (by kernel_rfl) (fun _ _ _ h => h) (Or.inl ⟨by kernel_rfl, ?_⟩) hS ?_
          rotate_left
          · intro W hW; go_simp; try with_reducible rfl
          refine wpAnyH_take (i := 39) (v := ?_) rfl (by kernel_rfl) (by kernel_rfl) (by kernel_rfl) (fun _ _ _ h => h) (Or.inl ⟨by kernel_rfl, ?_⟩) hS ?_
          rotate_left
          · intro W hW; go_simp; try with_reducible rfl
          refine wpAnyH_ready (rs := [40]) (by kernel_rfl) (by simp) ?_
          refine AllReadyH.cons (i := 40) rfl ?_ AllReadyH.nil
          intro K hK
          go_simp
          refine (twice_nil 0 _).mono ?_
          rintro e wv ⟨rfl, Bv⟩
          have hT := hS.trans (Bv.mono hS.size)
          go_simp
          refine hK.out _ _ ?_ (fun hN => ?_)
          · first | exact hT | exact hS | exact hS.alloc hS.size _ | exact hS.drew
          clear hK K
          try clear hT
          clear hS
          have hS := hN
          clear hN
          refine wpAnyH_ready (rs := [41]) (by kernel_rfl) (by simp) ?_
          refine AllReadyH.cons (i := 41) rfl ?_ AllReadyH.nil
          intro K hK
          go_simp
          refine (code_c 15 _ (by decide)).mono ?_
          rintro e wv ⟨rfl, rfl⟩
          have hT := hS
          go_simp
          refine hK.out _ _ ?_ (fun hN => ?_)
          · first | exact hT | exact hS | exact hS.alloc hS.size _ | exact hS.drew
          clear hK K
          try clear hT
          clear hS
          have hS := hN
          clear hN
          refine wpAnyH_take (i := 42) (v := ?_) rfl (by kernel_rfl) (by kernel_rfl) (by kernel_rfl) (fun _ _ _ h => h) (Or.inl ⟨by kernel_rfl, ?_⟩) hS ?_
          rotate_left
          · intro W hW; go_simp; try with_reducible rfl
          refine wpAnyH_take (i := 43) (v := ?_) rfl (by kernel_rfl) (by kernel_rfl) (by kernel_rfl) (fun _ _ _ h => h) (Or.inl ⟨by kernel_rfl, ?_⟩) hS ?_
          rotate_left
          · intro W hW; go_simp; try with_reducible rfl
          refine wpAnyH_take (i := 44) (v := ?_) rfl (by kernel_rfl) (by kernel_rfl) (by kernel_rfl) (fun _ _ _ h => h) (Or.inl ⟨by kernel_rfl, ?_⟩) hS ?_
          rotate_left
          · intro W hW; go_simp; try with_reducible rfl
          refine wpAnyH_take (i := 45) (v := ?_) rfl (by kernel_rfl) (by kernel_rfl) (by kernel_rfl) (fun _ _ _ h => h) (Or.inl ⟨by kernel_rfl, ?_⟩) hS ?_
          rotate_left
          · intro W hW; go_simp; try with_reducible rfl
          refine wpAnyH_ready (rs := [46]) (by kernel_rfl) (by simp) ?_
          refine AllReadyH.cons (i := 46) rfl ?_ AllReadyH.nil
          intro K hK
          go_simp
          refine (cut_nil 0 1 true _).mono ?_
          rintro e wv ⟨rfl, Bv⟩
          have hT := hS.trans (Bv.mono hS.size)
          go_simp
          refine hK.out _ _ ?_ (fun hN => ?_)
          · first | exact hT | exact hS | exact hS.alloc hS.size _ | exact hS.drew
          clear hK K
          try clear hT
          clear hS
          have hS := hN
          clear hN
          refine wpAnyH_ready (rs := [47]) (by kernel_rfl) (by simp) ?_
          refine AllReadyH.cons (i := 47) rfl ?_ AllReadyH.nil
          intro K hK
          go_simp
          refine (code_c 15 _ (by decide)).mono ?_
          rintro e wv ⟨rfl, rfl⟩
          have hT := hS
          go_simp
          refine hK.out _ _ ?_ (fun hN => ?_)
          · first | exact hT | exact hS | exact hS.alloc hS.size _ | exact hS.drew
          clear hK K
          try clear hT
          clear hS
          have hS := hN
          clear hN
          refine wpAnyH_take (i := 48) (v := ?_) rfl (by kernel_rfl) (by kernel_rfl) (by kernel_rfl) (fun _ _ _ h => h) (Or.inl ⟨by kernel_rfl, ?_⟩) hS ?_
          rotate_left
          · intro W hW; go_simp; try with_reducible rfl
          refine wpAnyH_take (i := 49) (v := ?_) rfl (by kernel_rfl) (by kernel_rfl) (by kernel_rfl) (fun _ _ _ h => h) (Or.inl ⟨by kernel_rfl, ?_⟩) hS ?_
          rotate_left
          · intro W hW; go_simp; try with_reducible rfl
          refine wpAnyH_take (i := 50) (v := ?_) rfl (by kernel_rfl) (by kernel_rfl) (by kernel_rfl) (fun _ _ _ h => h) (Or.inl ⟨by kernel_rfl, ?_⟩) hS ?_
          rotate_left
          · intro W hW; go_simp; try with_reducible rfl
          refine wpAnyH_take (i := 51) (v := ?_) rfl (by kernel_rfl) (by kernel_rfl) (by kernel_rfl) (fun _ _ _ h => h) (Or.inl ⟨by kernel_rfl, ?_⟩) hS ?_
          rotate_left
          · intro W hW; go_simp; try with_reducible rfl
          refine wpAnyH_ready (rs := [52]) (by kernel_rfl) (by simp) ?_
          refine AllReadyH.cons (i := 52) rfl ?_ AllReadyH.nil
          intro K hK
          go_simp
          refine (len_nil _).mono ?_
          rintro e wv ⟨rfl, rfl⟩
          have hT := hS
          go_simp
          refine hK.out _ _ ?_ (fun hN => ?_)
          · first | exact hT | exact hS | exact hS.alloc hS.size _ | exact hS.drew
          clear hK K
          try clear hT
          clear hS
          have hS := hN
          clear hN
          refine wpAnyH_take (i := 53) (v := ?_) rfl (by kernel_rfl) (by kernel_rfl) (by kernel_rfl) (fun _ _ _ h => h) (Or.inl ⟨by kernel_rfl, ?_⟩) hS ?_
          rotate_left
          · intro W hW; go_simp; try with_reducible rfl
          refine wpAnyH_take (i := 54) (v := ?_) rfl (by kernel_rfl) (by kernel_rfl) (by kernel_rfl) (fun _ _ _ h => h) (Or.inl ⟨by kernel_rfl, ?_⟩) hS ?_
          rotate_left
          · intro W hW; go_simp; try with_reducible rfl
          refine wpAnyH_take (i := 55) (v := ?_) rfl (by kernel_rfl) (by kernel_rfl) (by kernel_rfl) (fun _ _ _ h => h) (Or.inl ⟨by kernel_rfl, ?_⟩) hS ?_
          rotate_left
          · intro W hW; go_simp; try with_reducible rfl
          refine wpAnyH_take (i := 56) (v := ?_) rfl (by kernel_rfl) (by kernel_rfl) (by kernel_rfl) (fun _ _ _ h => h) (Or.inl ⟨by kernel_rfl, ?_⟩) hS ?_
          rotate_left
          · intro W hW; go_simp; try with_reducible rfl
          refine wpAnyH_ready (rs := [57]) (by kernel_rfl) (by simp) ?_
          refine AllReadyH.cons (i := 57) rfl ?_ AllReadyH.nil
          intro K hK
          go_simp
          refine (apart_nil 0 1 _).mono ?_
          rintro e wv ⟨rfl, Bv⟩
          have hT := hS.trans (Bv.mono hS.size)
          go_simp
          refine hK.out _ _ ?_ (fun hN => ?_)
          · first | exact hT | exact hS | exact hS.alloc hS.size _ | exact hS.drew
          clear hK K
          try clear hT
          clear hS
          have hS := hN
          clear hN
          refine wpAnyH_take (i := 58) (v := ?_) rfl (by kernel_rfl) (by kernel_rfl) (by kernel_rfl) (fun _ _ _ h => h) (Or.inl ⟨by kernel_rfl, ?_⟩) hS ?_
          rotate_left
          · intro W hW; go_simp; try with_reducible rfl
          refine wpAnyH_take (i := 59) (v := ?_) rfl (by kernel_rfl) (by kernel_rfl) (by kernel_rfl) (fun _ _ _ h => h) (Or.inl ⟨by kernel_rfl, ?_⟩) hS ?_
          rotate_left
          · intro W hW; go_simp; try with_reducible rfl
          refine wpAnyH_take (i := 60) (v := ?_) rfl (by kernel_rfl) (by kernel_rfl) (by kernel_rfl) (fun _ _ _ h => h) (Or.inl ⟨by kernel_rfl, ?_⟩) hS ?_
          rotate_left
          · intro W hW; go_simp; try with_reducible rfl
          refine wpAnyH_done (by kernel_rfl) ?_ _
          go_simp
          have HB19 := Lib.hid (HB18.out.trans (hS.mono HB18.out.size))
          clear hS
          go_wp2_with fail
          go_ret
          exact ⟨rfl, HB19.out⟩
end Go.Proofs.Ytpkfjnhjcdcoaaa
