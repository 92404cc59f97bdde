/-
  The walk of corncriblaw02.SumParts.
-/
import Derived.Test.YtalpeldjdmfnjaaOpen
import Derived.Deep.DeepCutAuto
namespace Go.Proofs.Ytalpeldjdmfnjaa
open Go.RowKit

set_option maxRecDepth 100000 in
set_option maxHeartbeats 4000000 in
theorem parts_walk (a : Option Addr) (na ca : Nat) (la : List (BitVec 8)) (b : Option Addr) (nb cb : Nat) (lb : List (BitVec 8)) (c : Option Addr) (nc cc : Nat) (lc : List (BitVec 8)) (w : World)
    (ha : BSl w w.heap.size a na la) (hb : BSl w w.heap.size b nb lb) (hc : BSl w w.heap.size c nc lc) :
    Calls Try.prog 14 #[.slice a na ca, .slice b nb cb, .slice c nc cc] w fun e w' => e = .returned (.bool true) ∧ Below w.heap.size w w' := by
  have big : (600 < na ∨ 600 < nb ∨ 600 < nc) → Calls Try.prog 14 #[.slice a na ca, .slice b nb cb, .slice c nc cc] w fun e w' => e = .returned (.bool true) ∧ Below w.heap.size w w' := by
    intro hbig
    have hd : (decide (600 < (na : Int)) = true) ∨ (decide (600 < (na : Int)) = false ∧ decide (600 < (nb : Int)) = true) ∨ (decide (600 < (na : Int)) = false ∧ decide (600 < (nb : Int)) = false ∧ decide (600 < (nc : Int)) = true) := by
      simp only [decide_eq_true_eq, decide_eq_false_iff_not]
      omega
    rcases hd with h1 | ⟨h1, h2⟩ | ⟨h1, h2, h3⟩
    all_goals
      go_enter Try.func14, Try.ntmps14
      go_wp2_with fail
      refine (sum_alive _).mono ?_
      rintro e w1 ⟨rfl, B1⟩
      go_wp2_with fail
      go_ret
      exact ⟨rfl, B1⟩
  by_cases hbig : 600 < na ∨ 600 < nb ∨ 600 < nc
  · exact big hbig
  clear big
  obtain ⟨hna, hnb, hnc⟩ : na ≤ 600 ∧ nb ≤ 600 ∧ nc ≤ 600 := by omega
  clear hbig
  go_enter Try.func14, Try.ntmps14
  go_wp2_with fail
  refine (sum_alive _).mono ?_
  rintro e w1 ⟨rfl, B1⟩
  have ha1 := (ha.below B1).more B1.size
  have hb1 := (hb.below B1).more B1.size
  have hc1 := (hc.below B1).more B1.size
  obtain ⟨g1, cap1, W1, g2, cap2, W2, hr1, hr2, ho2, Bw⟩ := append_two ca ha1 (Nat.le_refl _) (bsl_nil0 ha) (by omega) cb hb1 (Nat.le_refl _) (bsl_nil0 hb) (by omega)
  obtain ⟨g3, cap3, W3, hr3, ho3, hg3, -⟩ := append_bytes ho2 cc ((hc1.below Bw).more Bw.size) (bsl_nil0 hc) (by omega) Bw.size
  rw [← List.map_append] at ho3
  have B3 : Below w.heap.size w W3 := (B1.trans (Bw.mono B1.size)).grown hg3 (B1.trans (Bw.mono B1.size)).size (fun k e => by injection e with e; have := (ho2.lt g2 rfl).1; have := B1.size; omega)
  have HA := Lib.hid ha
  have HB := Lib.hid hb
  have HC := Lib.hid hc
  clear ha1 hb1 hc1 ho2 Bw hg3 B1 ha hb hc
  go_wp2_with (first
    | (at_builtin; refine list_run (by rfl) _ _ rfl rfl rfl hr1 ?_; clear hr1)
    | (at_builtin; refine list_run (by rfl) _ _ rfl rfl rfl hr2 ?_; clear hr2)
    | (at_builtin; refine list_run (by rfl) _ _ rfl rfl rfl hr3 ?_; clear hr3))
  obtain ⟨m, hm⟩ : ∃ m, na + nb + nc = m := ⟨_, rfl⟩
  have hm2 : m ≤ 1800 := by omega
  rw [hm] at ho3
  rw [hm]
  clear hm
  obtain ⟨L, hL⟩ : ∃ L, la ++ lb ++ lc = L := ⟨_, rfl⟩
  rw [hL] at ho3
  have HL := Lib.hid hL
  clear hL
  have hn3 : (some ⟨g3, 0, none⟩ : Option Addr) = none → m = 0 := fun e => by cases e
  refine (of_any (some ⟨g3, 0, none⟩) m cap3 L W3 (bsl_own ho3) (by omega)).mono ?_
  rintro e W4 ⟨rfl, B4⟩
  have ho4 := own_below ho3 B4 (Nat.le_refl _)
  have B4 := B3.trans (B4.mono B3.size)
  have hx := (Crc.of L).isLt
  have M1 := Lib.hid fun (W : World) (B : Below w.heap.size w W) => more_any (Crc.of la) b nb cb lb W ((HB.out.below B).more B.size) (by omega)
  have M2 := Lib.hid fun (W : World) (B : Below w.heap.size w W) => more_any (Crc.more (Crc.of la) lb) c nc cc lc W ((HC.out.below B).more B.size) (by omega)
  have e1 : Crc.more (Crc.more (Crc.of la) lb) lc = Crc.of L := by
    rw [← HL.out]
    show Crc.more (Crc.more (Crc.more 0#32 la) lb) lc = Crc.more 0#32 _
    rw [Crc.more_append, Crc.more_append, List.append_assoc]
  rw [e1] at M2
  have M3 := Lib.hid fun (a' : Option Addr) (n' c' : Nat) (W : World) (h : BSl W W.heap.size a' n' (lb ++ lc)) (hn : n' ≤ 1099511627776) => more_any (Crc.of la) a' n' c' (lb ++ lc) W h hn
  have e2 : Crc.more (Crc.of la) (lb ++ lc) = Crc.of L := by
    rw [← e1]
    exact (Crc.more_append _ _ _).symm
  rw [e2] at M3
  have M4 := Lib.hid fun (W : World) => more_any (Crc.of L) none 0 0 [] W (BSl.nil _ _ _) (by decide)
  rw [Crc.more_nil] at M4
  clear e1 e2
  clear B3 ho3
  go_wp2_with fail
  refine (seal_any (some ⟨g3, 0, none⟩) m cap3 L W4 (bsl_own ho4) (by omega)).mono ?_
  rintro e W5 ⟨g5, cap5, rfl, hcap5, ho5, B5⟩
  have ho4 := own_below ho4 B5 (Nat.le_refl _)
  have B5 := B4.trans (B5.mono B4.size)
  clear B4
  go_wp2_with fail
  refine (seal_any (some ⟨g5, 0, none⟩) (m + 4) cap5 _ W5 (bsl_own ho5) (by omega)).mono ?_
  rintro e W6 ⟨g6, cap6, rfl, hcap6, ho6, B6⟩
  have ho4 := own_below ho4 B6 (Nat.le_refl _)
  have B6 := B5.trans (B6.mono B5.size)
  clear B5 ho5
  go_wp2_with fail
  refine (open_sealed (some ⟨g6, 0, none⟩) (m + 4) cap6 _ _ W6 ho6 (by omega)).mono ?_
  rintro e W7 ⟨a7, c7, rfl, B7, hc7, ho7⟩
  have ho4 := own_below ho4 B7 (Nat.le_refl _)
  have B7 := B6.trans (B7.mono B6.size)
  clear B6 ho6
  go_wp2_with fail
  refine (open_sealed a7 m c7 _ _ W7 ho7 (by omega)).mono ?_
  rintro e W8 ⟨a8, c8, rfl, B8, hc8, ho8⟩
  have ho4 := own_below ho4 B8 (Nat.le_refl _)
  have B8 := B7.trans (B8.mono B7.size)
  clear B7 ho7
  have HA8 := Lib.hid fun (W : World) (B : Below w.heap.size w W) => (HA.out.below B).more B.size
  have HB8 := Lib.hid fun (W : World) (B : Below w.heap.size w W) => (HB.out.below B).more B.size
  have HC8 := Lib.hid fun (W : World) (B : Below w.heap.size w W) => (HC.out.below B).more B.size
  have H4 := Lib.hid ho4
  have H8 := Lib.hid ho8
  clear ho4 ho8
  go_wp2_with fail
  refine (of_any a na ca la W8 (HA8.out W8 B8) (by omega)).mono ?_
  rintro e W9 ⟨rfl, B9⟩
  have H4 := Lib.hid (own_below H4.out B9 (Nat.le_refl _))
  have H8 := Lib.hid (own_below H8.out B9 (Nat.le_refl _))
  have B9 := B8.trans (B9.mono B8.size)
  clear B8
  go_wp2_with fail
  refine (M1.out W9 B9).mono ?_
  rintro e W10 ⟨rfl, B10⟩
  have H4 := Lib.hid (own_below H4.out B10 (Nat.le_refl _))
  have H8 := Lib.hid (own_below H8.out B10 (Nat.le_refl _))
  have B10 := B9.trans (B10.mono B9.size)
  clear B9 M1
  go_wp2_with fail
  refine (M2.out W10 B10).mono ?_
  rintro e W11 ⟨rfl, B11⟩
  have H4 := Lib.hid (own_below H4.out B11 (Nat.le_refl _))
  have H8 := Lib.hid (own_below H8.out B11 (Nat.le_refl _))
  have B11 := B10.trans (B11.mono B10.size)
  clear B10 M2
  go_wp2_with fail
  refine (of_any a na ca la W11 (HA8.out W11 B11) (by omega)).mono ?_
  rintro e W12 ⟨rfl, B12⟩
  have H4 := Lib.hid (own_below H4.out B12 (Nat.le_refl _))
  have H8 := Lib.hid (own_below H8.out B12 (Nat.le_refl _))
  have B12 := B11.trans (B12.mono B11.size)
  clear B11
  obtain ⟨q1, cq1, V1, q2, cq2, V2, hr1, hr2, ho2, Bw⟩ := append_two cb (HB8.out W12 B12) (Nat.le_refl _) (bsl_nil0 HB.out) (by omega) cc (HC8.out W12 B12) (Nat.le_refl _) (bsl_nil0 HC.out) (by omega)
  have H4 := Lib.hid (own_below H4.out Bw (Nat.le_refl _))
  have H8 := Lib.hid (own_below H8.out Bw (Nat.le_refl _))
  have B13 := B12.trans (Bw.mono B12.size)
  clear B12 Bw
  go_wp2_with (first
    | (at_builtin; refine list_run_g (by rfl) _ _ rfl rfl rfl hr1 ?_; clear hr1)
    | (at_builtin; refine list_run_g (by rfl) _ _ rfl rfl rfl hr2 ?_; clear hr2))
  refine (M3.out _ _ _ V2 (bsl_own ho2) (by omega)).mono ?_
  rintro e W14 ⟨rfl, B14⟩
  have H4 := Lib.hid (own_below H4.out B14 (Nat.le_refl _))
  have H8 := Lib.hid (own_below H8.out B14 (Nat.le_refl _))
  have B14 := B13.trans (B14.mono B13.size)
  clear B13 ho2 M3
  go_wp2_with fail
  refine (M4.out W14).mono ?_
  rintro e W15 ⟨rfl, B15⟩
  have H4 := Lib.hid (own_below H4.out B15 (Nat.le_refl _))
  have H8 := Lib.hid (own_below H8.out B15 (Nat.le_refl _))
  have B15 := B14.trans (B15.mono B14.size)
  clear B14 M4
  go_wp2_with fail
  refine (code_c 0 _ (by decide)).mono ?_
  rintro e w6 ⟨rfl, rfl⟩
  go_wp2_with fail
  refine (code_c 0 _ (by decide)).mono ?_
  rintro e w6 ⟨rfl, rfl⟩
  go_wp2_with fail
  refine (same_any _ _ _ _ _ _ _ _ _ (bsl_own H8.out) (bsl_own H4.out) (by omega)).mono ?_
  rintro e w6 ⟨rfl, q, rfl⟩
  rw [decide_eq_true rfl]
  go_wp2_with fail
  go_ret
  exact ⟨rfl, below_drewN B15 q⟩

end Go.Proofs.Ytalpeldjdmfnjaa
