/-
  The walk of corncriblaw04.HeadsKinds.
-/
import Derived.Test.YtcdlmpiihcopaaaDoorHdAlive
import Derived.Test.YtcdlmpiihcopaaaDoorHdLaw
import Derived.Test.YtcdlmpiihcopaaaDoorJoin
namespace Go.Proofs.YtcdlmpiihcopaaaDoor
open Go.RowKit
set_option linter.unusedVariables false

theorem super_eql (w : World) (v g : Int) : (binOp .eql 33 (.agg #[.int .i64 v, .int .i64 g]) (.agg #[.int .i64 v, .int .i64 g])).run Tryd.prog w = .ok (.bool true) w := by
  simp [go_sem]
theorem PhP.is {ws : List Nat} {w w' : World} {e : Ending} (h : PhP ws w e w') {n : Nat} (hn : 4 * ws.length + 4 = n) :
    Below w.heap.size w w' ∧ ∃ g cap, e = .returned (.tuple #[.slice (some ⟨g, 0, none⟩) n cap, .nilIface]) ∧ n ≤ cap ∧ w'.ownsRow w.heap.size 5 1 (.slice (some ⟨g, 0, none⟩) n cap) n ((hdBytes ws).map bv) := by
  subst hn
  exact h
set_option maxRecDepth 100000 in
set_option maxHeartbeats 8000000 in
theorem hkinds_walk (m k : Nat) (a : Option Addr) (n c : Nat) (l : List (BitVec 8)) (w : World) (h : BSl w w.heap.size a n l) (hc : n ≤ c) (hm : m ≤ 65535) (hk : k ≤ 4294967295) :
    Calls Tryd.prog 7 #[.int .u16 (m : Int), .int .u32 (k : Int), .slice a n c] w fun e w' => e = .returned (.bool true) ∧ Below w.heap.size w w' := by
  have HBS := Lib.hid fun (W : World) (B0 : Below w.heap.size w W) => (show BSl W W.heap.size a n l from (h.below B0).more B0.size)
  have HC := Lib.hid hc
  clear h hc
  by_cases hbig : 300 < n
  · have b0 : decide ((300 : Int) < (n : Int)) = true := decide_eq_true (by omega)
    clear hm hk
    go_enter Tryd.func7, Tryd.ntmps7
    go_wp2_with fail
    refine (hd_alive _).mono ?_
    rintro e w1 ⟨rfl, B1⟩
    have HB1 := Lib.hid B1
    clear B1
    go_wp2_with fail
    go_ret
    exact ⟨rfl, HB1.out⟩
  have b0 : decide ((300 : Int) < (n : Int)) = false := decide_eq_false (by omega)
  have HN := Lib.hid (show n ≤ 300 from by omega)
  clear hbig
  obtain ⟨v, hv⟩ : ∃ v : Nat, 1 + m % 65535 = v := ⟨_, rfl⟩
  obtain ⟨g, hg⟩ : ∃ g : Nat, 1 + k % 2147483647 = g := ⟨_, rfl⟩
  have hvz : (1 : Int) + (m : Int) % 65535 = (v : Int) := by omega
  have hvt : (1 : Int) + (m : Int).tmod 65535 = (v : Int) := by rw [Int.tmod_eq_emod_of_nonneg (by omega)]; exact hvz
  have hgz : (1 : Int) + (k : Int) % 2147483647 = (g : Int) := by omega
  have hgt : (1 : Int) + (k : Int).tmod 2147483647 = (g : Int) := by rw [Int.tmod_eq_emod_of_nonneg (by omega)]; exact hgz
  have hmz : (m : Int) ≤ 65535 := by omega
  have hkz : (k : Int) ≤ 4294967295 := by omega
  have HR := Lib.hid (show hdRight (v : Int) (g : Int) 0 = true from decide_eq_true ⟨by omega, by omega, by omega, by omega, by omega, by omega⟩)
  clear hv hg hm hk
  go_enter Tryd.func7, Tryd.ntmps7
  go_wp2_with fail
  refine (hd_alive _).mono ?_
  rintro e w1 ⟨rfl, B1⟩
  obtain ⟨w2, hw2, hP2, hB2⟩ : ∃ w2, w1.alloc (.cells #[.int .i64 (v : Int), .int .i64 (g : Int)] 33) = w2 ∧ Blk w2 w1.heap.size 33 #[.int .i64 (v : Int), .int .i64 (g : Int)] ∧ Below w1.heap.size w1 w2 := ⟨_, rfl, Blk.made _ _ _, (Below.refl _ w1).alloc (Nat.le_refl _) _⟩
  have HB2 := Lib.hid (B1.trans (hB2.mono B1.size))
  have HP2 := Lib.hid hP2
  obtain ⟨⟨q0, q1⟩, -, -⟩ := hP2.two
  have E2 := Lib.hid (psuper_ok v g w2 HR.out)
  clear B1 hB2 hP2
  go_upto_region 6 with fail
  clear hw2
  generalize w1.heap.size = P at *
  go_wp2_with fail
  refine E2.out.mono ?_
  intro e w3 h3
  obtain ⟨B3, ga, ca, rfl, hca, ho3⟩ := h3.is (n := 16) rfl
  have HB3 := Lib.hid (HB2.out.trans (B3.mono HB2.out.size))
  have HO3 := Lib.hid ho3
  have HP3 := Lib.hid (HP2.out.below B3 HP2.out.lt)
  have E3 := Lib.hid (show Calls Tryd.prog 11 #[.agg #[.int .i64 (v : Int), .int .i64 (g : Int), .int .i64 0, .bool false]] w3 (PhP [1296125513, v, g, 0, 0] w3) from pman_ok v g 0 false w3 HR.out)
  clear h3 B3 ho3 E2 HP2 HB2 q0 q1 hvz hvt hgz hgt
  obtain ⟨⟨q0, q1⟩, -, -⟩ := HP3.out.two
  go_wp2_with fail
  refine E3.out.mono ?_
  intro e w4 h4
  obtain ⟨B4, gb, cb, rfl, hcb, ho4⟩ := h4.is (n := 24) rfl
  have HB4 := Lib.hid (HB3.out.trans (B4.mono HB3.out.size))
  have HO4 := Lib.hid ho4
  have HA4 := Lib.hid (own_belowH4 HO3.out B4 (Nat.le_refl _))
  have HP4 := Lib.hid (HP3.out.below B4 HP3.out.lt)
  obtain ⟨g1, k1, V1, g2, k2, V2, hr1, hr2, hb2, hc2, BV⟩ := join_two (c := ca) (c' := c) (bsl_own HA4.out) (HBS.out _ HB4.out) (Nat.le_refl _) (Nat.le_refl _) (by omega) (by have := HN.out; omega)
  have HBV := Lib.hid (HB4.out.trans (BV.mono HB4.out.size))
  have HBVs := Lib.hid BV
  have E4 := Lib.hid (gsuper_any (some ⟨g2, 0, none⟩) (16 + n) k2 _ V2 hb2 hc2 (by have := HN.out; omega))
  clear h4 B4 ho4 E3 HP3 HO3 HB3 BV hb2 hc2 q0 q1
  go_wp2_with (first | (at_builtin; refine list_run (by rfl) _ _ rfl rfl rfl hr1 ?_; clear hr1) | (at_builtin; refine list_run (by rfl) _ _ rfl rfl rfl hr2 ?_; clear hr2))
  refine E4.out.mono ?_
  intro e w5 h5
  obtain ⟨B5, rfl⟩ := h5.is (super_bytes v g l HR.out)
  obtain ⟨w6, hw6, hP6, hB6⟩ : ∃ w6, w5.alloc (.cells #[.int .i64 (v : Int), .int .i64 (g : Int)] 33) = w6 ∧ Blk w6 w5.heap.size 33 #[.int .i64 (v : Int), .int .i64 (g : Int)] ∧ Below w5.heap.size w5 w6 := ⟨_, rfl, Blk.made _ _ _, (Below.refl _ w5).alloc (Nat.le_refl _) _⟩
  have hB46 := HBVs.out.trans ((B5.trans (hB6.mono B5.size)).mono HBVs.out.size)
  have HB6 := Lib.hid (HB4.out.trans (hB46.mono HB4.out.size))
  have HX6 := Lib.hid hP6
  have HA6 := Lib.hid (own_belowH4 HA4.out hB46 (Nat.le_refl _))
  have HO6 := Lib.hid (own_belowH4 HO4.out hB46 (Nat.le_refl _))
  have HP6 := Lib.hid (HP4.out.below hB46 HP4.out.lt)
  have E6 := Lib.hid (gsuper_any (some ⟨gb, 0, none⟩) 24 cb _ w6 (bsl_own HO6.out) hcb (by omega))
  rw [show errc 0 = Value.nilIface from rfl]
  clear h5 B5 hB6 hP6 hB46 E4 HBV HBVs HB4 HA4 HO4 HP4
  go_upto_region 9 with fail
  clear hw6
  generalize w5.heap.size = PX at *
  go_wp2_with fail
  refine E6.out.mono ?_
  intro e w7 h7
  obtain ⟨B7, rfl⟩ := h7.is (super_man v g 0 0)
  obtain ⟨w8, hw8, hB8⟩ : ∃ w8, w7.alloc (.cells #[.int .i64 0, .int .i64 0] 33) = w8 ∧ Below w7.heap.size w7 w8 := ⟨_, rfl, (Below.refl _ w7).alloc (Nat.le_refl _) _⟩
  have HWw8 := Lib.hid hw8
  clear hw8
  have hB68 := B7.trans (hB8.mono B7.size)
  have HB8 := Lib.hid (HB6.out.trans (hB68.mono HB6.out.size))
  have HX8 := Lib.hid (HX6.out.below hB68 HX6.out.lt)
  have HA8 := Lib.hid (own_belowH4 HA6.out hB68 (Nat.le_refl _))
  have HP8 := Lib.hid (HP6.out.below hB68 HP6.out.lt)
  obtain ⟨g3, k3, V3, g4, k4, V4, hr3, hr4, hb4, hc4, BV⟩ := join_zeros (c := ca) 8 (bsl_own HA8.out) (Nat.le_refl _) (by omega) (by omega)
  have HBV := Lib.hid BV
  have E8 := Lib.hid (gman_any (some ⟨g4, 0, none⟩) (16 + 8) k4 _ V4 hb4 hc4 (by omega))
  have hr4 : (Builtin.append_ #[27, 3] 27 #[.slice (some ⟨g3, 0, none⟩) 16 k3, .int .i64 8]).run Tryd.prog V3 = .ok (.slice (some ⟨g4, 0, none⟩) (16 + 8) k4) V4 := hr4
  rw [show errc 4 = er 4 from rfl]
  clear h7 B7 hB8 hB68 BV hb4 hc4 E6 HX6 HA6 HO6 HP6 HB6
  go_upto_region 10 with fail
  rw [HWw8.out]
  clear HWw8
  go_wp2_with (first | (at_builtin; refine list_run (by rfl) _ _ rfl rfl rfl hr3 ?_; clear hr3) | (at_builtin; refine list_run2 (by rfl) _ _ rfl rfl rfl hr4 ?_; clear hr4))
  refine E8.out.mono ?_
  intro e w9 h9
  obtain ⟨B9, rfl⟩ := h9.is (man_super v g (List.replicate 8 0#8) rfl)
  obtain ⟨wa, hwa, hBa⟩ : ∃ wa, w9.alloc (.cells #[.int .i64 0, .int .i64 0, .int .i64 0, .bool false] 36) = wa ∧ Below w9.heap.size w9 wa := ⟨_, rfl, (Below.refl _ w9).alloc (Nat.le_refl _) _⟩
  have HWwa := Lib.hid hwa
  clear hwa
  have hB8a := HBV.out.trans ((B9.trans (hBa.mono B9.size)).mono HBV.out.size)
  have HBa := Lib.hid (HB8.out.trans (hB8a.mono HB8.out.size))
  have HXa := Lib.hid (HX8.out.below hB8a HX8.out.lt)
  have HAa := Lib.hid (own_belowH4 HA8.out hB8a (Nat.le_refl _))
  have HPa := Lib.hid (HP8.out.below hB8a HP8.out.lt)
  have Ea := Lib.hid (gman_any (some ⟨ga, 0, none⟩) 16 ca _ wa (bsl_own HAa.out) hca (by omega))
  rw [show errc 4 = er 4 from rfl]
  clear h9 B9 hBa hB8a E8 HX8 HA8 HP8 HB8 HBV
  go_upto_region 11 with fail
  rw [HWwa.out]
  clear HWwa
  go_wp2_with fail
  refine Ea.out.mono ?_
  intro e wb hb
  obtain ⟨Bb, rfl⟩ := hb.is (man_short v g)
  obtain ⟨wd, hwd, hBd⟩ : ∃ wd, wb.alloc (.cells #[.int .i64 0, .int .i64 0, .int .i64 0, .bool false] 36) = wd ∧ Below wb.heap.size wb wd := ⟨_, rfl, (Below.refl _ wb).alloc (Nat.le_refl _) _⟩
  have HWwd := Lib.hid hwd
  clear hwd
  have hBad := Bb.trans (hBd.mono Bb.size)
  have HBd := Lib.hid (HBa.out.trans (hBad.mono HBa.out.size))
  obtain ⟨⟨q0, q1⟩, -, -⟩ := (HXa.out.below hBad HXa.out.lt).two
  obtain ⟨⟨p0, p1⟩, -, -⟩ := (HPa.out.below hBad HPa.out.lt).two
  have heq := fun W => super_eql W (v : Int) (g : Int)
  rw [show errc 3 = er 3 from rfl]
  clear hb Bb hBd hBad Ea HXa HAa HPa HBa
  go_upto_region 12 with fail
  rw [HWwd.out]
  clear HWwd
  go_wp2_with fail
  refine (code_nil _).mono ?_
  rintro e we ⟨rfl, rfl⟩
  go_wp2_with fail
  refine (code_er 4 _ (by decide) (by decide)).mono ?_
  rintro e we ⟨rfl, rfl⟩
  go_wp2_with fail
  refine (code_er 4 _ (by decide) (by decide)).mono ?_
  rintro e we ⟨rfl, rfl⟩
  go_wp2_with fail
  refine (code_er 3 _ (by decide) (by decide)).mono ?_
  rintro e we ⟨rfl, rfl⟩
  go_wp2_with fail
  go_ret
  exact ⟨rfl, HBd.out⟩
theorem hkinds_all (m k : Int) (a : Option Addr) (n c : Nat) (l : List (BitVec 8)) (w : World) (h : BSl w w.heap.size a n l) (hc : n ≤ c) (h0 : 0 ≤ m) (h1 : m ≤ 65535) (h2 : 0 ≤ k) (h3 : k ≤ 4294967295) :
    Calls Tryd.prog 7 #[.int .u16 m, .int .u32 k, .slice a n c] w fun e w' => e = .returned (.bool true) ∧ Below w.heap.size w w' := by
  obtain ⟨mn, rfl⟩ : ∃ mn : Nat, m = mn := ⟨m.toNat, by omega⟩
  obtain ⟨kn, rfl⟩ : ∃ kn : Nat, k = kn := ⟨k.toNat, by omega⟩
  exact hkinds_walk mn kn a n c l w h hc (by omega) (by omega)
end Go.Proofs.YtcdlmpiihcopaaaDoor
