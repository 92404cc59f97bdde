/-
  The walk of corncriblaw02.SumIs.
-/
import Derived.Test.YtalpeldjdmfnjaaRef02
import Derived.Test.YtalpeldjdmfnjaaOpen
import Derived.Deep.RegionLaw
import Derived.Deep.DeepCutAuto
namespace Go.Proofs.Ytalpeldjdmfnjaa
open Go.RowKit

set_option maxRecDepth 100000 in
set_option maxHeartbeats 2000000 in
theorem sumis_walk (a : Option Addr) (n c : Nat) (l : List (BitVec 8)) (t : Int) (w : World) (h : BSl w w.heap.size a n l) (hc : n ≤ c) (ht0 : 0 ≤ t) (ht1 : t ≤ 255) :
    Calls Try.prog 12 #[.slice a n c, .int .u8 t] w fun e w' => e = .returned (.bool true) ∧ Below w.heap.size w w' := by
  by_cases hbig : 2000 < n
  · go_enter Try.func12, Try.ntmps12
    go_wp2_with fail
    refine (sum_alive _).mono ?_
    rintro e w1 ⟨rfl, B1⟩
    go_wp2_with fail
    go_ret
    exact ⟨rfl, B1⟩
  have hn : n ≤ 2000 := by omega
  clear hbig
  have hlen := h.1
  obtain ⟨k, hk, hkn⟩ : ∃ k : Nat, t % ((n : Int) + 1) = k ∧ k ≤ n := by
    have h1 := Int.emod_nonneg t (show (n : Int) + 1 ≠ 0 by omega)
    have h2 := Int.emod_lt_of_pos t (show (0 : Int) < (n : Int) + 1 by omega)
    exact ⟨(t % ((n : Int) + 1)).toNat, by omega, by omega⟩
  go_enter Try.func12, Try.ntmps12
  go_wp2_with fail
  refine (sum_alive _).mono ?_
  rintro e w1 ⟨rfl, B1⟩
  go_wp2_with fail
  refine (of_ref a n c l w1 (h.below B1) (by omega)).mono ?_
  rintro e w2 ⟨rfl, rfl⟩
  have hx := (Crc.of l).isLt
  obtain ⟨x, hxe⟩ : ∃ x, (Crc.of l).toNat = x := ⟨_, rfl⟩
  rw [hxe] at hx
  go_wp2_with fail
  refine (seal_any a n c l w1 ((h.below B1).more B1.size) (by omega)).mono ?_
  rintro e w3 ⟨g, cap, rfl, hcap, hown, B3⟩
  have B3 := B1.trans (B3.mono B1.size)
  go_wp2_with fail
  refine (open_all a n c l w3 ((h.below B3).more B3.size) hc (by omega)).mono ?_
  rintro e w4 ⟨av, kx, cv, cf, rfl, B4, hkc, hkx, hcf, lx, hox, hop⟩
  have hown := own_below hown B4 (Nat.le_refl _)
  have B5 := B3.trans (B4.mono B3.size)
  obtain ⟨a1, -, -, s3, hc1⟩ := cut_bytes h hc 0 k (by omega)
  obtain ⟨a2, -, s2, -, hc2⟩ := cut_bytes h hc k (n - k) (by omega)
  rw [List.drop_zero] at hc1
  rw [List.take_of_length_le (by rw [List.length_drop]; omega)] at hc2
  have hs3 := fun W => s3 (k : Int) W rfl rfl
  have hs2 := fun W => s2 (k : Int) W rfl (by omega)
  have hmore : (Crc.more (Crc.of (l.take k)) (l.drop k)).toNat = x := by
    rw [← hxe]
    show (Crc.more (Crc.more 0#32 (l.take k)) (l.drop k)).toNat = _
    rw [Crc.more_append, List.take_append_drop]
    rfl
  have BW : ∀ W, Below w4.heap.size w4 W → Below w.heap.size w W := fun W B => B5.trans (B.mono B5.size)
  have O1 := Lib.hid fun (W : World) (B : Below w4.heap.size w4 W) => of_any a n c l W ((h.below (BW W B)).more (BW W B).size) (by omega)
  rw [hxe] at O1 hown
  have O2 := Lib.hid fun (W : World) (B : Below w4.heap.size w4 W) => of_any a1 k c (l.take k) W ((hc1.below (BW W B)).more (BW W B).size) (by omega)
  have O3 := Lib.hid fun (W : World) (B : Below w4.heap.size w4 W) => more_any (Crc.of (l.take k)) a2 (n - k) (c - k) (l.drop k) W ((hc2.below (BW W B)).more (BW W B).size) (by omega)
  rw [hmore] at O3
  have O4 := Lib.hid fun (W : World) => tail_ref x W hx
  have hz := (Crc.of (l.take k)).isLt
  generalize (Crc.of (l.take k)).toNat = z at *
  have BB : Below w4.heap.size w4 w4.drew := (Below.refl _ _).drew
  have H0 := Lib.hid (bsl_nil0 h)
  have HB := Lib.hid fun (W : World) (B : Below w4.heap.size w4 W) => (h.below (BW W B)).more (BW W B).size
  have HS := Lib.hid hown
  have HBW := Lib.hid BW
  clear B1 B3 B4 s3 s2 hmore hc1 hc2 hown BW B5 hk ht0 ht1
  go_wp2_with fail
  go_cut [57] (fun v wx => v = .bool false ∧ Below w4.heap.size w4 wx)
  case first =>
    refine wp_region_any (by kernel_rfl) ?_
    change wpAny _ _ _ _ _ _ _ (World.drew _)
    refine wpAny_take (i := 0) (v := ?_) rfl (by kernel_rfl) (by kernel_rfl) (by kernel_rfl) (fun _ _ _ h => h) (Or.inl ⟨by kernel_rfl, ?_⟩) ?_
    rotate_left
    · intro w; go_simp; try with_reducible rfl
    refine wpAny_take (i := 2) (v := ?_) rfl (by kernel_rfl) (by kernel_rfl) (by kernel_rfl) (fun _ _ _ h => h) (Or.inl ⟨by kernel_rfl, ?_⟩) ?_
    rotate_left
    · intro w; go_simp; try with_reducible rfl
    refine wpAny_ready (rs := [1]) (by kernel_rfl) (by simp) ?_
    refine AllReady.cons rfl (fun K hK => ?_) AllReady.nil
    go_simp
    with_reducible_and_instances refine (O1.out _ BB).mono ?_
    rintro e w5 ⟨rfl, B5⟩
    replace BB := BB.trans (B5.mono BB.size)
    go_simp
    refine hK _ _ ?_
    clear hK K
    refine wpAny_take (i := 3) (v := ?_) rfl (by kernel_rfl) (by kernel_rfl) (by kernel_rfl) (fun _ _ _ h => h) (Or.inl ⟨by kernel_rfl, ?_⟩) ?_
    rotate_left
    · intro w; go_simp; try with_reducible rfl
    refine wpAny_take (i := 4) (v := ?_) rfl (by kernel_rfl) (by kernel_rfl) (by kernel_rfl) (fun _ _ _ h => h) (Or.inl ⟨by kernel_rfl, ?_⟩) ?_
    rotate_left
    · intro w; go_simp; try with_reducible rfl
    refine wpAny_take (i := 5) (v := ?_) rfl (by kernel_rfl) (by kernel_rfl) (by kernel_rfl) (fun _ _ _ h => h) (Or.inl ⟨by kernel_rfl, ?_⟩) ?_
    rotate_left
    · intro w; go_simp; try with_reducible rfl
    refine wpAny_take (i := 6) (v := ?_) rfl (by kernel_rfl) (by kernel_rfl) (by kernel_rfl) (fun _ _ _ h => h) (Or.inl ⟨by kernel_rfl, ?_⟩) ?_
    rotate_left
    · intro w; go_simp; try with_reducible rfl
    refine wpAny_take (i := 7) (v := ?_) rfl (by kernel_rfl) (by kernel_rfl) (by kernel_rfl) (fun _ _ _ h => h) (Or.inl ⟨by kernel_rfl, ?_⟩) ?_
    rotate_left
    · intro w; go_simp; try with_reducible rfl
    refine wpAny_take (i := 9) (v := ?_) rfl (by kernel_rfl) (by kernel_rfl) (by kernel_rfl) (fun _ _ _ h => h) (Or.inl ⟨by kernel_rfl, ?_⟩) ?_
    rotate_left
    · intro w; go_simp; try with_reducible rfl
    refine wpAny_take (i := 10) (v := ?_) rfl (by kernel_rfl) (by kernel_rfl) (by kernel_rfl) (fun _ _ _ h => h) (Or.inl ⟨by kernel_rfl, ?_⟩) ?_
    rotate_left
    · intro w; go_simp; try with_reducible rfl
    refine wpAny_take (i := 11) (v := ?_) rfl (by kernel_rfl) (by kernel_rfl) (by kernel_rfl) (fun _ _ _ h => h) (Or.inl ⟨by kernel_rfl, ?_⟩) ?_
    rotate_left
    · intro w; go_simp; try with_reducible rfl
    refine wpAny_take (i := 13) (v := ?_) rfl (by kernel_rfl) (by kernel_rfl) (by kernel_rfl) (fun _ _ _ h => h) (Or.inl ⟨by kernel_rfl, ?_⟩) ?_
    rotate_left
    · intro w; go_simp; try with_reducible rfl
    refine wpAny_ready (rs := [8]) (by kernel_rfl) (by simp) ?_
    refine AllReady.cons rfl (fun K hK => ?_) AllReady.nil
    go_simp
    with_reducible_and_instances refine (O2.out _ BB).mono ?_
    rintro e w6 ⟨rfl, B6⟩
    replace BB := BB.trans (B6.mono BB.size)
    go_simp
    refine hK _ _ ?_
    clear hK K
    refine wpAny_ready (rs := [12]) (by kernel_rfl) (by simp) ?_
    refine AllReady.cons rfl (fun K hK => ?_) AllReady.nil
    go_simp
    with_reducible_and_instances refine (O3.out _ BB).mono ?_
    rintro e w7 ⟨rfl, B7⟩
    replace BB := BB.trans (B7.mono BB.size)
    have B7s := BB.size
    go_simp
    refine hK _ _ ?_
    clear hK K
    refine wpAny_take (i := 14) (v := ?_) rfl (by kernel_rfl) (by kernel_rfl) (by kernel_rfl) (fun _ _ _ h => h) (Or.inl ⟨by kernel_rfl, ?_⟩) ?_
    rotate_left
    · intro w; go_simp; try with_reducible rfl
    refine wpAny_take (i := 15) (v := ?_) rfl (by kernel_rfl) (by kernel_rfl) (by kernel_rfl) (fun _ _ _ h => h) (Or.inl ⟨by kernel_rfl, ?_⟩) ?_
    rotate_left
    · intro w; go_simp; try with_reducible rfl
    refine wpAny_take (i := 16) (v := ?_) rfl (by kernel_rfl) (by kernel_rfl) (by kernel_rfl) (fun _ _ _ h => h) (Or.inl ⟨by kernel_rfl, ?_⟩) ?_
    rotate_left
    · intro w; go_simp; try with_reducible rfl
    refine wpAny_take (i := 17) (v := ?_) rfl (by kernel_rfl) (by kernel_rfl) (by kernel_rfl) (fun _ _ _ h => h) (Or.inl ⟨by kernel_rfl, ?_⟩) ?_
    rotate_left
    · intro w; go_simp; try with_reducible rfl
    refine wpAny_take (i := 19) (v := ?_) rfl (by kernel_rfl) (by kernel_rfl) (by kernel_rfl) (fun _ _ _ h => h) (Or.inl ⟨by kernel_rfl, ?_⟩) ?_
    rotate_left
    · intro w; go_simp; try with_reducible rfl
    refine wpAny_take (i := 21) (v := ?_) rfl (by kernel_rfl) (by kernel_rfl) (by kernel_rfl) (fun _ _ _ h => h) (Or.inl ⟨by kernel_rfl, ?_⟩) ?_
    rotate_left
    · intro w; go_simp; try with_reducible rfl
    refine wpAny_ready (rs := [18]) (by kernel_rfl) (by simp) ?_
    refine AllReady.cons rfl (fun K hK => ?_) AllReady.nil
    go_simp
    refine hK _ _ ?_
    clear hK K
    refine wpAny_ready (rs := [20]) (by kernel_rfl) (by simp) ?_
    refine AllReady.cons rfl (fun K hK => ?_) AllReady.nil
    obtain ⟨g1, cap1, w8, hr1, ho1, hg1, hat1⟩ := append_bytes (World.ownsRow_made (base := w7.heap.size) w7 #[] 0 (Nat.le_refl _) (Nat.zero_le _) rfl) c ((HB.out _ BB).below ((Below.refl _ w7).alloc (Nat.le_refl _) _)) H0.out (by omega) (by simp)
    simp only [Nat.zero_add, List.nil_append] at hr1 ho1
    have B8 : Below w7.heap.size w7 w8 := ((Below.refl _ w7).alloc (Nat.le_refl _) _).grown hg1 (by simp) (fun k e => by injection e with e; omega)
    replace BB := BB.trans (B8.mono BB.size)
    refine step_run_g (by kernel_rfl) _ _ (by rfl) (by rfl) (by rfl) hr1 ?_
    clear hr1
    refine hK _ _ ?_
    clear hK K
    refine wpAny_ready (rs := [22]) (by kernel_rfl) (by simp) ?_
    refine AllReady.cons rfl (fun K hK => ?_) AllReady.nil
    go_simp
    refine (O4.out _).mono ?_
    rintro e w9 ⟨gt, rfl, hot, B9⟩
    have ho9 := own_below ho1 B9 (Nat.le_refl _)
    replace BB := BB.trans (B9.mono BB.size)
    go_simp
    refine hK _ _ ?_
    clear hK K
    refine wpAny_ready (rs := [23]) (by kernel_rfl) (by simp) ?_
    refine AllReady.cons rfl (fun K hK => ?_) AllReady.nil
    obtain ⟨g2, cap2, w10, hr2, ho2, hg2, hat2⟩ := append_bytes ho9 4 (BSl.row hot _ rfl) (fun e => by cases e) (by omega) (by have := B8.size; have := B9.size; omega)
    have hz1 := (ho9.lt g1 rfl).1
    have B10 : Below w7.heap.size w9 w10 := (Below.refl _ w9).mono (by have := B8.size; have := B9.size; omega) |>.grown hg2 (by have := B8.size; have := B9.size; omega) (fun k e => by injection e with e; omega)
    have B11 := BB.trans (B10.mono B7s)
    refine step_run_g (by kernel_rfl) _ _ (by rfl) (by rfl) (by rfl) hr2 ?_
    clear hr2
    refine hK _ _ ?_
    clear hK K
    refine wpAny_ready (rs := [24]) (by kernel_rfl) (by simp) ?_
    refine AllReady.cons rfl (fun K hK => ?_) AllReady.nil
    go_simp
    refine (same_any _ _ _ _ _ _ _ _ _ (BSl.row (own_below HS.out B11 (Nat.le_refl _)) _ rfl) (BSl.row ho2 (l ++ Num.le x 4) (by simp)) (by omega)).mono ?_
    rintro e w11 ⟨rfl, q, rfl⟩
    rw [decide_eq_true rfl]
    go_simp
    refine hK _ _ ?_
    clear hK K
    refine wpAny_take (i := 25) (v := ?_) rfl (by kernel_rfl) (by kernel_rfl) (by kernel_rfl) (fun _ _ _ h => h) (Or.inl ⟨by kernel_rfl, ?_⟩) ?_
    rotate_left
    · intro w; go_simp; try with_reducible rfl
    refine wpAny_take (i := 26) (v := ?_) rfl (by kernel_rfl) (by kernel_rfl) (by kernel_rfl) (fun _ _ _ h => h) (Or.inl ⟨by kernel_rfl, ?_⟩) ?_
    rotate_left
    · intro w; go_simp; try with_reducible rfl
    refine wpAny_done (by kernel_rfl) ?_ _
    go_wp2_with fail
    go_meet
    exact ⟨rfl, below_drewN B11 q⟩
  case rest =>
    obtain ⟨rfl, BC⟩ := hcut
    have B5 := HBW.out _ BC
    have HX := Lib.hid (own_below hox BC (Nat.le_refl _))
    have C := Lib.hid fun W => code_c cf W hcf
    clear hox O1 O2 O3 O4 BC
    have hb := HB.out
    rcases Nat.lt_or_ge n 4 with h4 | h4
    · obtain ⟨rfl, rfl⟩ : kx = 0 ∧ cf = 3 := by
        rcases hop with ⟨_, h1, h2⟩ | ⟨h1, _⟩ | ⟨h1, _⟩
        · exact ⟨h1, h2⟩
        · omega
        · omega
      clear hop
      go_wp2_with fail
      refine (C.out _).mono ?_
      rintro e w5 ⟨rfl, rfl⟩
      go_wp2_with fail
      go_ret
      exact ⟨rfl, B5⟩
    · obtain ⟨a4, -, s2, -, htail⟩ := cut_bytes ((h.below B5).more B5.size) hc (n - 4) 4 (by omega)
      have hbody := ((h.below B5).more B5.size).prefix (k := n - 4) (by omega)
      have hs2 := fun W => s2 (IntKind.i64.wrap ((n : Int) - 4)) W (by rw [IntWalk.i64_in _ (by omega)]; omega) (by omega)
      have hn4 : 0 ≤ (n : Int) - 4 := by omega
      rw [List.take_of_length_le (by rw [List.length_drop]; omega)] at htail
      have hld : (l.drop (n - 4)).length = 4 := by rw [List.length_drop]; omega
      obtain ⟨y, hye⟩ : ∃ y, (Crc.of (l.take (n - 4))).toNat = y := ⟨_, rfl⟩
      have hy : y < 4294967296 := by rw [← hye]; exact (Crc.of (l.take (n - 4))).isLt
      rw [hye] at hop
      have hle : ∀ z : Nat, Num.num (l.drop (n - 4)) = z → Num.le z 4 = l.drop (n - 4) := fun z hz => by have := Num.le_num (l.drop (n - 4)); rw [hld, hz] at this; exact this
      have hnl : Num.le y 4 = l.drop (n - 4) → Num.num (l.drop (n - 4)) = y := fun e => by rw [← e]; exact Num.num_le_of_lt (by omega)
      clear s2
      have BD : Below wc.heap.size wc wc.drew := (Below.refl _ _).drew
      rcases hop with ⟨h5, -⟩ | ⟨_, hne, rfl, rfl⟩ | ⟨_, heq, rfl, rfl, rfl⟩
      · omega
      · have hsame := Lib.hid (show decide (Num.le y 4 = l.drop (n - 4)) = false from by rw [decide_eq_false_iff_not]; exact fun e => hne (hnl e))
        have HYE := Lib.hid hye
        have HN := Lib.hid hne
        clear hle hnl hne hld hye
        go_wp2_with fail
        refine wp_region_any (by kernel_rfl) ?_
        change wpAny _ _ _ _ _ _ _ (World.drew _)
        refine wpAny_take (i := 0) (v := ?_) rfl (by kernel_rfl) (by kernel_rfl) (by kernel_rfl) (fun _ _ _ h => h) (Or.inl ⟨by kernel_rfl, ?_⟩) ?_
        rotate_left
        · intro w; go_simp; try with_reducible rfl
        refine wpAny_take (i := 3) (v := ?_) rfl (by kernel_rfl) (by kernel_rfl) (by kernel_rfl) (fun _ _ _ h => h) (Or.inl ⟨by kernel_rfl, ?_⟩) ?_
        rotate_left
        · intro w; go_simp; try with_reducible rfl
        refine wpAny_take (i := 4) (v := ?_) rfl (by kernel_rfl) (by kernel_rfl) (by kernel_rfl) (fun _ _ _ h => h) (Or.inl ⟨by kernel_rfl, ?_⟩) ?_
        rotate_left
        · intro w; go_simp; try with_reducible rfl
        refine wpAny_take (i := 5) (v := ?_) rfl (by kernel_rfl) (by kernel_rfl) (by kernel_rfl) (fun _ _ _ h => h) (Or.inl ⟨by kernel_rfl, ?_⟩) ?_
        rotate_left
        · intro w; go_simp; try with_reducible rfl
        refine wpAny_take (i := 6) (v := ?_) rfl (by kernel_rfl) (by kernel_rfl) (by kernel_rfl) (fun _ _ _ h => h) (Or.inl ⟨by kernel_rfl, ?_⟩) ?_
        rotate_left
        · intro w; go_simp; try with_reducible rfl
        refine wpAny_take (i := 7) (v := ?_) rfl (by kernel_rfl) (by kernel_rfl) (by kernel_rfl) (fun _ _ _ h => h) (Or.inl ⟨by kernel_rfl, ?_⟩) ?_
        rotate_left
        · intro w; go_simp; try with_reducible rfl
        refine wpAny_ready (rs := [1]) (by kernel_rfl) (by simp) ?_
        refine AllReady.cons rfl (fun K hK => ?_) AllReady.nil
        go_simp
        refine (of_ref a (n - 4) c _ _ (hbody.below BD) (by omega)).mono ?_
        rintro e w5 ⟨rfl, rfl⟩
        rw [HYE.out]
        go_simp
        refine hK _ _ ?_
        clear hK K
        refine wpAny_ready (rs := [2]) (by kernel_rfl) (by simp) ?_
        refine AllReady.cons rfl (fun K hK => ?_) AllReady.nil
        go_simp
        refine (tail_ref y _ hy).mono ?_
        rintro e w5 ⟨gt, rfl, hot, B6⟩
        go_simp
        refine hK _ _ ?_
        clear hK K
        refine wpAny_ready (rs := [8]) (by kernel_rfl) (by simp) ?_
        refine AllReady.cons rfl (fun K hK => ?_) AllReady.nil
        go_simp
        refine (same_any _ _ _ _ _ _ _ _ _ (BSl.row hot _ rfl) (htail.below (below_more BD B6)) (by omega)).mono ?_
        rintro e w6 ⟨rfl, q, rfl⟩
        rw [hsame.out]
        go_simp
        refine hK _ _ ?_
        clear hK K
        refine wpAny_take (i := 9) (v := ?_) rfl (by kernel_rfl) (by kernel_rfl) (by kernel_rfl) (fun _ _ _ h => h) (Or.inl ⟨by kernel_rfl, ?_⟩) ?_
        rotate_left
        · intro w; go_simp; try with_reducible rfl
        refine wpAny_done (by kernel_rfl) ?_ _
        go_wp2_with fail
        refine (C.out _).mono ?_
        rintro e w5 ⟨rfl, rfl⟩
        go_wp2_with fail
        go_ret
        exact ⟨rfl, below_drewN (below_more2 B5 B6 B5.size) q⟩
      · have hsame := Lib.hid (show decide (Num.le y 4 = l.drop (n - 4)) = true from by rw [decide_eq_true_eq]; exact hle y heq)
        have HYE := Lib.hid hye
        have HN := Lib.hid heq
        clear hle hnl heq hld hye
        go_wp2_with fail
        refine wp_region_any (by kernel_rfl) ?_
        change wpAny _ _ _ _ _ _ _ (World.drew _)
        refine wpAny_take (i := 0) (v := ?_) rfl (by kernel_rfl) (by kernel_rfl) (by kernel_rfl) (fun _ _ _ h => h) (Or.inl ⟨by kernel_rfl, ?_⟩) ?_
        rotate_left
        · intro w; go_simp; try with_reducible rfl
        refine wpAny_take (i := 3) (v := ?_) rfl (by kernel_rfl) (by kernel_rfl) (by kernel_rfl) (fun _ _ _ h => h) (Or.inl ⟨by kernel_rfl, ?_⟩) ?_
        rotate_left
        · intro w; go_simp; try with_reducible rfl
        refine wpAny_take (i := 4) (v := ?_) rfl (by kernel_rfl) (by kernel_rfl) (by kernel_rfl) (fun _ _ _ h => h) (Or.inl ⟨by kernel_rfl, ?_⟩) ?_
        rotate_left
        · intro w; go_simp; try with_reducible rfl
        refine wpAny_take (i := 5) (v := ?_) rfl (by kernel_rfl) (by kernel_rfl) (by kernel_rfl) (fun _ _ _ h => h) (Or.inl ⟨by kernel_rfl, ?_⟩) ?_
        rotate_left
        · intro w; go_simp; try with_reducible rfl
        refine wpAny_take (i := 6) (v := ?_) rfl (by kernel_rfl) (by kernel_rfl) (by kernel_rfl) (fun _ _ _ h => h) (Or.inl ⟨by kernel_rfl, ?_⟩) ?_
        rotate_left
        · intro w; go_simp; try with_reducible rfl
        refine wpAny_take (i := 7) (v := ?_) rfl (by kernel_rfl) (by kernel_rfl) (by kernel_rfl) (fun _ _ _ h => h) (Or.inl ⟨by kernel_rfl, ?_⟩) ?_
        rotate_left
        · intro w; go_simp; try with_reducible rfl
        refine wpAny_ready (rs := [1]) (by kernel_rfl) (by simp) ?_
        refine AllReady.cons rfl (fun K hK => ?_) AllReady.nil
        go_simp
        refine (of_ref a (n - 4) c _ _ (hbody.below BD) (by omega)).mono ?_
        rintro e w5 ⟨rfl, rfl⟩
        rw [HYE.out]
        go_simp
        refine hK _ _ ?_
        clear hK K
        refine wpAny_ready (rs := [2]) (by kernel_rfl) (by simp) ?_
        refine AllReady.cons rfl (fun K hK => ?_) AllReady.nil
        go_simp
        refine (tail_ref y _ hy).mono ?_
        rintro e w5 ⟨gt, rfl, hot, B6⟩
        go_simp
        refine hK _ _ ?_
        clear hK K
        refine wpAny_ready (rs := [8]) (by kernel_rfl) (by simp) ?_
        refine AllReady.cons rfl (fun K hK => ?_) AllReady.nil
        go_simp
        refine (same_any _ _ _ _ _ _ _ _ _ (BSl.row hot _ rfl) (htail.below (below_more BD B6)) (by omega)).mono ?_
        rintro e w6 ⟨rfl, q, rfl⟩
        rw [hsame.out]
        go_simp
        refine hK _ _ ?_
        clear hK K
        refine wpAny_take (i := 9) (v := ?_) rfl (by kernel_rfl) (by kernel_rfl) (by kernel_rfl) (fun _ _ _ h => h) (Or.inl ⟨by kernel_rfl, ?_⟩) ?_
        rotate_left
        · intro w; go_simp; try with_reducible rfl
        refine wpAny_done (by kernel_rfl) ?_ _
        go_wp2_with fail
        refine (C.out _).mono ?_
        rintro e w5 ⟨rfl, rfl⟩
        have B7 : Below wc.heap.size wc w5 := below_more2 (Below.refl _ wc) B6 (Nat.le_refl _)
        have HZ := own_below HX.out B7 (Nat.le_refl _)
        go_wp2_with fail
        refine (same_any _ _ _ _ _ _ _ _ _ ((bsl_own HZ).below (below_drewN (Below.refl _ _) q)) ((hbody.below B7).below (below_drewN (Below.refl _ _) q)) (by omega)).mono ?_
        rintro e w6 ⟨rfl, q2, rfl⟩
        rw [decide_eq_true rfl]
        go_wp2_with fail
        go_ret
        exact ⟨rfl, below_drewN (B5.trans (B7.mono B5.size)) (q + q2)⟩

theorem sumis_at (a : Option Addr) (n c : Nat) (l : List (BitVec 8)) (t : Int) (w : World) (h : BSl w w.heap.size a n l) (hc : n ≤ c) (ht0 : 0 ≤ t) (ht1 : t ≤ 255) :
    Calls Try.prog 12 #[.slice a n c, .int .u8 t] w fun e w' => e = .returned (.bool true) ∧ Below w.heap.size w w' :=
  sumis_walk a n c l t w h hc ht0 ht1

end Go.Proofs.Ytalpeldjdmfnjaa
