/-
  The walk of corncriblaw04.HeadsBack.
-/
import Derived.Test.YtcdlmpiihcopaaaDoorHeadsKindsWalk
namespace Go.Proofs.YtcdlmpiihcopaaaDoor
open Go.RowKit
set_option linter.unusedVariables false

theorem super_neqs (w : World) (v g : Int) : (binOp .neq 33 (.agg #[.int .i64 v, .int .i64 g]) (.agg #[.int .i64 v, .int .i64 g])).run Tryd.prog w = .ok (.bool false) w := by
  simp [go_sem]
theorem man_neqs (w : World) (v g u : Int) (s : Bool) : (binOp .neq 36 (.agg #[.int .i64 v, .int .i64 g, .int .i64 u, .bool s]) (.agg #[.int .i64 v, .int .i64 g, .int .i64 u, .bool s])).run Tryd.prog w = .ok (.bool false) w := by
  simp [go_sem]
theorem flip4 (x : BitVec 8) : bits .xor .u8 (x.toNat : Int) 4 = ((x ^^^ 4#8).toNat : Int) := flip_valueH x 2 (by decide)
theorem flip4_ne (x : BitVec 8) : x ^^^ 4#8 ≠ x := flip_neH x 2 (by decide)
/-- One byte is put among bytes: the cell ahead, what is there then. -/
theorem byte_put {W : World} {base g n c : Nat} {L : List (BitVec 8)} (h : W.ownsRow base 5 1 (.slice (some ⟨g, 0, none⟩) n c) n (L.map bv)) (i : Nat) (hi : i < n) :
    W.cell? ⟨g, i, none⟩ = some (.int .u8 ((L.getD i 0).toNat : Int)) ∧ W.frozen? ⟨g, i, none⟩ = false ∧
      ∀ x : BitVec 8, (W.setCell ⟨g, i, none⟩ (.int .u8 (x.toNat : Int))).ownsRow base 5 1 (.slice (some ⟨g, 0, none⟩) n c) n ((L.set i x).map bv) ∧ W.grownBy (W.setCell ⟨g, i, none⟩ (.int .u8 (x.toNat : Int))) (some g) := by
  refine ⟨?_, h.frozenAt _, fun x => ?_⟩
  · obtain ⟨b, off, e, -, h1⟩ := (BSl.row h _ rfl).at_ hi
    cases e
    rw [Nat.zero_add] at h1
    exact h1
  · have hst := h.stored i (bv x)
    rw [← List.map_set] at hst
    exact hst
set_option maxRecDepth 100000 in
set_option maxHeartbeats 8000000 in
theorem hback_walk (m k j t : Nat) (sl : Bool) (w : World) (hm : m ≤ 65535) (hk : k ≤ 4294967295) (hj : j ≤ 4294967295) (ht : t ≤ 255) :
    Calls Tryd.prog 6 #[.int .u16 (m : Int), .int .u32 (k : Int), .int .u32 (j : Int), .bool sl, .int .u8 (t : Int)] w fun e w' => e = .returned (.bool true) ∧ Below w.heap.size w w' := by
  obtain ⟨v, hv⟩ : ∃ v : Nat, 1 + m % 65535 = v := ⟨_, rfl⟩
  obtain ⟨g, hg⟩ : ∃ g : Nat, 1 + k % 2147483647 = g := ⟨_, rfl⟩
  obtain ⟨u, hu⟩ : ∃ u : Nat, j % 2147483648 = u := ⟨_, rfl⟩
  obtain ⟨i, hi⟩ : ∃ i : Nat, t % 16 = i := ⟨_, rfl⟩
  obtain ⟨i2, hi2⟩ : ∃ i2 : Nat, t % 24 = i2 := ⟨_, rfl⟩
  have hvz : (1 : Int) + (m : Int) % 65535 = (v : Int) := by omega
  have hvt : (1 : Int) + (m : Int).tmod 65535 = (v : Int) := by rw [Int.tmod_eq_emod_of_nonneg (by omega)]; exact hvz
  have hgz : (1 : Int) + (k : Int) % 2147483647 = (g : Int) := by omega
  have hgt : (1 : Int) + (k : Int).tmod 2147483647 = (g : Int) := by rw [Int.tmod_eq_emod_of_nonneg (by omega)]; exact hgz
  have huz : (j : Int) % 2147483648 = (u : Int) := by omega
  have hut : (j : Int).tmod 2147483648 = (u : Int) := by rw [Int.tmod_eq_emod_of_nonneg (by omega)]; exact huz
  have HIZ := Lib.hid (show (t : Int) % 16 = (i : Int) from by omega)
  have HIT := Lib.hid (show (t : Int).tmod 16 = (i : Int) from by rw [Int.tmod_eq_emod_of_nonneg (by omega)]; exact HIZ.out)
  have HI2Z := Lib.hid (show (t : Int) % 24 = (i2 : Int) from by omega)
  have HI2T := Lib.hid (show (t : Int).tmod 24 = (i2 : Int) from by rw [Int.tmod_eq_emod_of_nonneg (by omega)]; exact HI2Z.out)
  have hmz : (m : Int) ≤ 65535 := by omega
  have hkz : (k : Int) ≤ 4294967295 := by omega
  have hjz : (j : Int) ≤ 4294967295 := by omega
  have htz : (t : Int) ≤ 255 := by omega
  have HR := Lib.hid (show hdRight (v : Int) (g : Int) 0 = true from decide_eq_true ⟨by omega, by omega, by omega, by omega, by omega, by omega⟩)
  have HRU := Lib.hid (show hdRight (v : Int) (g : Int) (u : Int) = true from decide_eq_true ⟨by omega, by omega, by omega, by omega, by omega, by omega⟩)
  have HII := Lib.hid (show i < 16 ∧ i2 < 24 from by omega)
  obtain ⟨q, hq⟩ : ∃ q : Nat, (if sl then 1 else 0) = q := ⟨_, rfl⟩
  have HQ := Lib.hid hq
  clear hv hg hu hi hi2 hm hk hj ht hq
  go_enter Tryd.func6, Tryd.ntmps6
  go_wp2_with fail
  refine (hd_alive _).mono ?_
  rintro e w1 ⟨rfl, B1⟩
  obtain ⟨w2, hw2, hP2, hB2⟩ : ∃ w2, w1.alloc (.cells #[.int .i64 (v : Int), .int .i64 (g : Int)] 33) = w2 ∧ Blk w2 w1.heap.size 33 #[.int .i64 (v : Int), .int .i64 (g : Int)] ∧ Below w1.heap.size w1 w2 := ⟨_, rfl, Blk.made _ _ _, (Below.refl _ w1).alloc (Nat.le_refl _) _⟩
  have HB2 := Lib.hid (B1.trans (hB2.mono B1.size))
  have HP2 := Lib.hid hP2
  obtain ⟨⟨q0, q1⟩, -, -⟩ := hP2.two
  clear B1 hB2 hP2
  go_upto_region 4 with fail
  clear hw2
  generalize w1.heap.size = P at *
  obtain ⟨w3, hw3, hP3, hB3⟩ : ∃ w3, w2.alloc (.cells #[.int .i64 (v : Int), .int .i64 (g : Int), .int .i64 (u : Int), .bool sl] 36) = w3 ∧ Blk w3 w2.heap.size 36 #[.int .i64 (v : Int), .int .i64 (g : Int), .int .i64 (u : Int), .bool sl] ∧ Below w2.heap.size w2 w3 := ⟨_, rfl, Blk.made _ _ _, (Below.refl _ w2).alloc (Nat.le_refl _) _⟩
  have HB3 := Lib.hid (HB2.out.trans (hB3.mono HB2.out.size))
  have HZ3 := Lib.hid HB3.out.size
  have HP3 := Lib.hid (HP2.out.below hB3 HP2.out.lt)
  have HM3 := Lib.hid hP3
  go_upto_region 5 with fail
  clear hw3 q0 q1
  generalize w2.heap.size = M at *
  obtain ⟨⟨q0, q1⟩, -, -⟩ := HP3.out.two
  have E2 := Lib.hid (psuper_ok v g w3 HR.out)
  clear hB3 hP3 HB2 HP2 hvz hvt hgz hgt huz hut
  go_wp2_with fail
  refine E2.out.mono ?_
  intro e w4 h4
  obtain ⟨B4, ga, ca, rfl, hca, ho4⟩ := h4.is (n := 16) rfl
  have HB4 := Lib.hid (HB3.out.trans (B4.mono HB3.out.size))
  have HO4 := Lib.hid ho4
  have HP4 := Lib.hid (HP3.out.below B4 HP3.out.lt)
  have HM4 := Lib.hid (HM3.out.below B4 HM3.out.lt)
  have E4 := Lib.hid (show Calls Tryd.prog 11 #[.agg #[.int .i64 (v : Int), .int .i64 (g : Int), .int .i64 (u : Int), .bool sl]] w4 (PhP [1296125513, v, g, u, q] w4) from by
    have := pman_ok v g u sl w4 HRU.out
    rwa [HQ.out] at this)
  clear h4 B4 ho4 E2 HP3 HM3 HB3 q0 q1
  obtain ⟨⟨m0, m1, m2, m3⟩, -, -, -, -⟩ := HM4.out.fourM
  go_wp2_with fail
  refine E4.out.mono ?_
  intro e w5 h5
  obtain ⟨B5, gb, cb, rfl, hcb, ho5⟩ := h5.is (n := 24) rfl
  have HB5 := Lib.hid (HB4.out.trans (B5.mono HB4.out.size))
  have HO5 := Lib.hid ho5
  have HA5 := Lib.hid (own_belowH4 HO4.out B5 (Nat.le_refl _))
  have HGG := Lib.hid (show ga ≠ gb from by have h1 := (HO4.out.lt ga rfl).2; have h2 := (ho5.lt gb rfl).1; omega)
  have HG0 := Lib.hid (show w.heap.size ≤ ga ∧ w.heap.size ≤ gb from by have h1 := (HO4.out.lt ga rfl).1; have h2 := (ho5.lt gb rfl).1; have h3 := HZ3.out; have h4 := HB4.out.size; omega)
  have HP5 := Lib.hid (HP4.out.below B5 HP4.out.lt)
  have HM5 := Lib.hid (HM4.out.below B5 HM4.out.lt)
  obtain ⟨g1, k1, V1, g2, k2, V2, hr1, hr2, hb2, hc2, BV⟩ := join_byte (c := ca) 7#8 (bsl_own HA5.out) (Nat.le_refl _) (by omega)
  have HBV := Lib.hid BV
  have hr2 : (Builtin.append_ #[27, 27] 27 #[.slice (some ⟨g1, 0, none⟩) 16 k1, .slice (some ⟨V1.heap.size, 0, none⟩) 1 1]).run Tryd.prog (V1.alloc (.cells #[.int .u8 7] 5)) = .ok (.slice (some ⟨g2, 0, none⟩) (16 + 1) k2) V2 := hr2
  have E5 := Lib.hid (gsuper_any (some ⟨g2, 0, none⟩) (16 + 1) k2 _ V2 hb2 hc2 (by omega))
  clear h5 B5 ho5 E4 HP4 HM4 HO4 HB4 BV hb2 hc2 m0 m1 m2 m3 HZ3
  go_wp2_with (first | (at_builtin; refine list_run (by rfl) _ _ rfl rfl rfl hr1 ?_; clear hr1) | (at_builtin; refine list_run (by rfl) _ _ rfl rfl rfl hr2 ?_; clear hr2))
  refine E5.out.mono ?_
  intro e w6 h6
  obtain ⟨B6, rfl⟩ := h6.is (super_bytes v g [7#8] HR.out)
  obtain ⟨w7, hw7, hX7, hB7⟩ : ∃ w7, w6.alloc (.cells #[.int .i64 (v : Int), .int .i64 (g : Int)] 33) = w7 ∧ Blk w7 w6.heap.size 33 #[.int .i64 (v : Int), .int .i64 (g : Int)] ∧ Below w6.heap.size w6 w7 := ⟨_, rfl, Blk.made _ _ _, (Below.refl _ w6).alloc (Nat.le_refl _) _⟩
  have hB57 := HBV.out.trans ((B6.trans (hB7.mono B6.size)).mono HBV.out.size)
  have HB7 := Lib.hid (HB5.out.trans (hB57.mono HB5.out.size))
  have HX7 := Lib.hid hX7
  have HA7 := Lib.hid (own_belowH4 HA5.out hB57 (Nat.le_refl _))
  have HO7 := Lib.hid (own_belowH4 HO5.out hB57 (Nat.le_refl _))
  have HP7 := Lib.hid (HP5.out.below hB57 HP5.out.lt)
  have HM7 := Lib.hid (HM5.out.below hB57 HM5.out.lt)
  have E7 := Lib.hid (gman_any (some ⟨gb, 0, none⟩) 24 cb _ w7 (bsl_own HO7.out) hcb (by omega))
  rw [show errc 0 = Value.nilIface from rfl]
  clear h6 B6 hX7 hB7 hB57 E5 HBV HA5 HO5 HP5 HM5 HB5
  go_upto_region 8 with fail
  clear hw7
  generalize w6.heap.size = X at *
  go_wp2_with fail
  refine E7.out.mono ?_
  intro e w8 h8
  obtain ⟨B8, rfl⟩ := h8.is (show hdMan (hdBytes [1296125513, v, g, u, q]) = (v, g, u, sl, 0) from by rw [← HQ.out]; exact man_bytes v g u sl HRU.out)
  obtain ⟨w9, hw9, hY9, hB9⟩ : ∃ w9, w8.alloc (.cells #[.int .i64 (v : Int), .int .i64 (g : Int), .int .i64 (u : Int), .bool sl] 36) = w9 ∧ Blk w9 w8.heap.size 36 #[.int .i64 (v : Int), .int .i64 (g : Int), .int .i64 (u : Int), .bool sl] ∧ Below w8.heap.size w8 w9 := ⟨_, rfl, Blk.made _ _ _, (Below.refl _ w8).alloc (Nat.le_refl _) _⟩
  have hB79 := B8.trans (hB9.mono B8.size)
  have HB9 := Lib.hid (HB7.out.trans (hB79.mono HB7.out.size))
  have HA9 := Lib.hid (own_belowH4 HA7.out hB79 (Nat.le_refl _))
  have HO9 := Lib.hid (own_belowH4 HO7.out hB79 (Nat.le_refl _))
  obtain ⟨⟨p0, p1⟩, -, -⟩ := (HP7.out.below hB79 HP7.out.lt).two
  obtain ⟨⟨x0, x1⟩, -, -⟩ := (HX7.out.below hB79 HX7.out.lt).two
  obtain ⟨⟨m0, m1, m2, m3⟩, -, -, -, -⟩ := (HM7.out.below hB79 HM7.out.lt).fourM
  obtain ⟨⟨y0, y1, y2, y3⟩, -, -, -, -⟩ := hY9.fourM
  have hn1 := fun W => super_neqs W (v : Int) (g : Int)
  have hn2 := fun W => man_neqs W (v : Int) (g : Int) (u : Int) sl
  rw [show errc 0 = Value.nilIface from rfl]
  clear h8 B8 hY9 hB9 hB79 E7 HA7 HO7 HP7 HM7 HX7 HB7
  go_upto_region 9 with fail
  clear hw9
  generalize w8.heap.size = Y at *
  go_wp2_with fail
  refine (code_nil _).mono ?_
  rintro e wx ⟨rfl, rfl⟩
  go_wp2_with fail
  refine (code_nil _).mono ?_
  rintro e wx ⟨rfl, rfl⟩
  go_wp2_with fail
  refine (code_nil _).mono ?_
  rintro e wx ⟨rfl, rfl⟩
  go_wp2_with fail
  refine (code_nil _).mono ?_
  rintro e wx ⟨rfl, rfl⟩
  go_upto_region 11 with fail
  clear p0 p1 x0 x1 m0 m1 m2 m3 y0 y1 y2 y3 hn1 hn2
  obtain ⟨hcell, hfr, hput⟩ := byte_put HA9.out i HII.out.1
  obtain ⟨y, hy⟩ : ∃ y, (hdBytes [1129466178, v, g]).getD i 0 = y := ⟨_, rfl⟩
  rw [hy] at hcell
  obtain ⟨hoA, hgA⟩ := hput (y ^^^ 4#8)
  have HFV := Lib.hid (flip4 y)
  have HTU := Lib.hid (super_turned v g i (y ^^^ 4#8) HII.out.1 (by rw [hy]; exact flip4_ne y))
  have hiz := HIZ.out
  have hit := HIT.out
  have hi16 : (i : Int) < 16 := by have := HII.out.1; omega
  have HBA := Lib.hid (HB9.out.grown hgA HB9.out.size (fun q e => by injection e with e; have := HG0.out.1; omega))
  have HOA := Lib.hid hoA
  have HOB := Lib.hid (HO9.out.kept hgA (.inr (by intro e; injection e with e; exact HGG.out e.symm)))
  have HXOR := Lib.hid (show ∀ W : World, True from fun _ => trivial)
  clear hy hput hoA hgA HXOR
  go_upto_region 12 with fail
  rw [HFV.out]
  clear hcell hfr hiz hit hi16 HFV
  generalize w9.setCell ⟨ga, i, none⟩ (.int .u8 ((y ^^^ 4#8).toNat : Int)) = wA at *
  obtain ⟨hcell, hfr, hput⟩ := byte_put HOB.out i2 HII.out.2
  obtain ⟨z, hz⟩ : ∃ z, (hdBytes [1296125513, v, g, u, q]).getD i2 0 = z := ⟨_, rfl⟩
  rw [hz] at hcell
  obtain ⟨hoB, hgB⟩ := hput (z ^^^ 4#8)
  have HFV := Lib.hid (flip4 z)
  have HTM := Lib.hid (man_turned v g u q i2 (z ^^^ 4#8) HII.out.2 (by rw [hz]; exact flip4_ne z))
  have hiz := HI2Z.out
  have hit := HI2T.out
  have hi24 : (i2 : Int) < 24 := by have := HII.out.2; omega
  have HBB := Lib.hid (HBA.out.grown hgB HBA.out.size (fun q e => by injection e with e; have := HG0.out.2; omega))
  have HOB2 := Lib.hid hoB
  have HOA2 := Lib.hid (HOA.out.kept hgB (.inr (by intro e; injection e with e; exact HGG.out e)))
  clear hz hput hoB hgB
  go_upto_region 13 with fail
  rw [HFV.out]
  clear hcell hfr hiz hit hi24 HFV
  generalize wA.setCell ⟨gb, i2, none⟩ (.int .u8 ((z ^^^ 4#8).toNat : Int)) = wB at *
  obtain ⟨cs, hcs, hcs2⟩ := HTU.out
  obtain ⟨cm, hcm, hcm2⟩ := HTM.out
  have EB := Lib.hid (gsuper_any (some ⟨ga, 0, none⟩) 16 ca _ wB (bsl_own HOA2.out) hca (by omega))
  have HCS := Lib.hid hcs
  have HCM := Lib.hid hcm
  have HC2 := Lib.hid (And.intro hcs2 hcm2)
  clear hcs hcm hcs2 hcm2 HTU HTM HOA HOB
  go_wp2_with fail
  refine EB.out.mono ?_
  intro e wC hC
  obtain ⟨BC, rfl⟩ := hC.is HCS.out
  have hBD : Below wC.heap.size wC (wC.alloc (.cells #[.int .i64 0, .int .i64 0] 33)) := (Below.refl _ _).alloc (Nat.le_refl _) _
  have hBCD := BC.trans (hBD.mono BC.size)
  have HBD := Lib.hid (HBB.out.trans (hBCD.mono HBB.out.size))
  have HOD := Lib.hid (own_belowH4 HOB2.out hBCD (Nat.le_refl _))
  clear hC BC hBD hBCD EB HOA2 HOB2
  have hes : errc cs = er cs := by unfold errc; rw [if_neg (by have := HC2.out.1; omega)]
  rw [hes]
  clear hes
  go_upto_region 14 with fail
  generalize wC.alloc (.cells #[.int .i64 0, .int .i64 0] 33) = wD at *
  have ED := Lib.hid (gman_any (some ⟨gb, 0, none⟩) 24 cb _ wD (bsl_own HOD.out) hcb (by omega))
  go_wp2_with fail
  refine ED.out.mono ?_
  intro e wE hE
  obtain ⟨BE, rfl⟩ := hE.is HCM.out
  have HBF := Lib.hid ((HBD.out.trans (BE.mono HBD.out.size)).alloc (HBD.out.trans (BE.mono HBD.out.size)).size (.cells #[.int .i64 0, .int .i64 0, .int .i64 0, .bool false] 36))
  clear hE BE ED
  have hem : errc cm = er cm := by unfold errc; rw [if_neg (by have := HC2.out.2; omega)]
  rw [hem]
  clear hem
  have hs4 : decide ((4 : Int) ≤ (cs : Int)) = true := decide_eq_true (by have := HC2.out.1; omega)
  have hm4 : decide ((4 : Int) ≤ (cm : Int)) = true := decide_eq_true (by have := HC2.out.2; omega)
  go_wp2_with fail
  refine (code_er cs _ (by have := HC2.out.1; omega) (by have := HC2.out.1; omega)).mono ?_
  rintro e wx ⟨rfl, rfl⟩
  go_wp2_with fail
  refine (code_er cm _ (by have := HC2.out.2; omega) (by have := HC2.out.2; omega)).mono ?_
  rintro e wx ⟨rfl, rfl⟩
  go_wp2_with fail
  go_ret
  exact ⟨rfl, HBF.out⟩
theorem hback_all (m k j : Int) (sl : Bool) (t : Int) (w : World) (m0 : 0 ≤ m) (m1 : m ≤ 65535) (k0 : 0 ≤ k) (k1 : k ≤ 4294967295) (j0 : 0 ≤ j) (j1 : j ≤ 4294967295) (t0 : 0 ≤ t) (t1 : t ≤ 255) :
    Calls Tryd.prog 6 #[.int .u16 m, .int .u32 k, .int .u32 j, .bool sl, .int .u8 t] w fun e w' => e = .returned (.bool true) ∧ Below w.heap.size w w' := by
  obtain ⟨mn, rfl⟩ : ∃ mn : Nat, m = mn := ⟨m.toNat, by omega⟩
  obtain ⟨kn, rfl⟩ : ∃ kn : Nat, k = kn := ⟨k.toNat, by omega⟩
  obtain ⟨jn, rfl⟩ : ∃ jn : Nat, j = jn := ⟨j.toNat, by omega⟩
  obtain ⟨tn, rfl⟩ : ∃ tn : Nat, t = tn := ⟨t.toNat, by omega⟩
  exact hback_walk mn kn jn tn sl w (by omega) (by omega) (by omega) (by omega)
end Go.Proofs.YtcdlmpiihcopaaaDoor
