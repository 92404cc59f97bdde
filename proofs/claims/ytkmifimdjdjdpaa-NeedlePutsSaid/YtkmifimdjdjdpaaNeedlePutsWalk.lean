/-
  The walk of corncriblaw03.NeedlePuts.
-/
import Derived.Test.YtkmifimdjdjdpaaNdlRefPut
namespace Go.Proofs.Ytkmifimdjdjdpaa
open Go.RowKit

set_option maxRecDepth 100000 in
set_option maxHeartbeats 4000000 in
theorem nputs_walk (key ck : Nat) (g : Bool) (a : Option Addr) (n c : Nat) (l : List (BitVec 8)) (key' ck' : Nat) (g' : Bool) (a' : Option Addr) (n' c' : Nat) (l' : List (BitVec 8)) (sz : Int) (w : World) (h : BSl w w.heap.size a n l) (h' : BSl w w.heap.size a' n' l')
    (hk : key < 18446744073709551616) (hck : ck < 4294967296) (hn : n ≤ 9223372036854775807) (hn' : n' ≤ 9223372036854775807) (hs0 : -9223372036854775808 ≤ sz) (hs1 : sz ≤ 9223372036854775807) :
    Calls Try.prog 9 #[.agg #[.int .u64 key, .int .u32 ck, .bool g, .slice a n c], .agg #[.int .u64 key', .int .u32 ck', .bool g', .slice a' n' c'], .int .i64 sz] w fun e w' => e = .returned (.bool true) ∧ Below w.heap.size w w' := by
  obtain ⟨W0, hW0⟩ : ∃ W0, (w.alloc (.cells #[.int .u64 key, .int .u32 ck, .bool g, .slice a n c] 32)).alloc (.cells #[.int .u64 key', .int .u32 ck', .bool g', .slice a' n' c'] 32) = W0 := ⟨_, rfl⟩
  have hK1 : Blk W0 w.heap.size 32 #[.int .u64 key, .int .u32 ck, .bool g, .slice a n c] := by rw [← hW0]; exact (Blk.made w _ _).alloc _
  have hK2 : Blk W0 (w.heap.size + 1) 32 #[.int .u64 key', .int .u32 ck', .bool g', .slice a' n' c'] := by
    rw [← hW0]
    have := Blk.made (w.alloc (.cells #[.int .u64 key, .int .u32 ck, .bool g, .slice a n c] 32)) 32 #[.int .u64 key', .int .u32 ck', .bool g', .slice a' n' c']
    simpa using this
  have BA : Below w.heap.size w W0 := by rw [← hW0]; exact ((Below.refl _ _).alloc (Nat.le_refl _) _).alloc (by simp) _
  have C1 := Lib.hid fun (W : World) (B : Below W0.heap.size W0 W) => (hK1.below B hK1.lt).four
  have C2 := Lib.hid fun (W : World) (B : Below W0.heap.size W0 W) => (hK2.below B hK2.lt).four
  have H1 := Lib.hid fun (W : World) (B : Below W0.heap.size W0 W) => (h.below (BA.trans (B.mono BA.size))).more (BA.trans (B.mono BA.size)).size
  have H2 := Lib.hid fun (W : World) (B : Below W0.heap.size W0 W) => (h'.below (BA.trans (B.mono BA.size))).more (BA.trans (B.mono BA.size)).size
  have BW := Lib.hid fun (W : World) (B : Below W0.heap.size W0 W) => BA.trans (B.mono BA.size)
  clear hK1 hK2 BA h h'
  have big : (6000 < n ∨ 6000 < n') → Calls Try.prog 9 #[.agg #[.int .u64 key, .int .u32 ck, .bool g, .slice a n c], .agg #[.int .u64 key', .int .u32 ck', .bool g', .slice a' n' c'], .int .i64 sz] w fun e w' => e = .returned (.bool true) ∧ Below w.heap.size w w' := by
    intro hbig
    have hd : (decide (6000 < (n : Int)) = true) ∨ (decide (6000 < (n : Int)) = false ∧ decide (6000 < (n' : Int)) = true) := by
      simp only [decide_eq_true_eq, decide_eq_false_iff_not]
      omega
    rcases hd with h1 | ⟨h1, h2⟩
    all_goals
      go_enter Try.func9, Try.ntmps9
      go_wp2_with fail
      clear hW0
      refine (needle_alive _).mono ?_
      rintro e W1 ⟨rfl, B1⟩
      obtain ⟨p0, p1, p2, p3⟩ := C1.out W1 B1
      obtain ⟨q0, q1, q2, q3⟩ := C2.out W1 B1
      go_wp2_with fail
      go_ret
      exact ⟨rfl, BW.out _ B1⟩
  by_cases hbig : 6000 < n ∨ 6000 < n'
  · exact big hbig
  clear big
  obtain ⟨hn6, hn6'⟩ : n ≤ 6000 ∧ n' ≤ 6000 := by omega
  clear hbig
  have hd1 : decide (6000 < (n : Int)) = false := by rw [decide_eq_false_iff_not]; omega
  have hd2 : decide (6000 < (n' : Int)) = false := by rw [decide_eq_false_iff_not]; omega
  go_enter Try.func9, Try.ntmps9
  go_wp2_with fail
  clear hW0
  refine (needle_alive _).mono ?_
  rintro e W1 ⟨rfl, B1⟩
  obtain ⟨p0, p1, p2, p3⟩ := C1.out W1 B1
  obtain ⟨q0, q1, q2, q3⟩ := C2.out W1 B1
  go_wp2_with fail
  refine (ref3_check key ck g a n c W1 hn).mono ?_
  rintro e W2 ⟨rfl, B2⟩
  have B2 := B1.trans (B2.mono B1.size)
  clear p0 p1 p2 p3 q0 q1 q2 q3 B1 hd1 hd2
  have hc17 := chk_le g n
  have h12 : chk g n = 0 ∨ chk g n = 1 ∨ chk g n = 2 := by unfold chk; split <;> (try split) <;> simp
  rcases h12 with hok | h12 | h12
  · obtain ⟨p0, p1, p2, p3⟩ := C1.out W2 B2
    have P1 := Lib.hid (nput_ok key ck g a n c l W2 (H1.out W2 B2) hk hck hok)
    have P2 := Lib.hid fun (W : World) (B : Below W0.heap.size W0 W) => rput_any key ck g a n c l W (H1.out W B) hk hck hok
    have CK := Lib.hid fun (W : World) => needle_check key ck g a n c W hn
    rw [hok] at CK ⊢
    have hn4 := (chk_ok hok).1
    have hszv : sizev (n : Int) = ((32 + n + padn n : Nat) : Int) := by unfold sizev; rw [if_pos (by omega), padv_nat]; omega
    have SN := Lib.hid fun W => size_any (n : Int) W (by omega) (by omega)
    rw [hszv] at SN
    have hm5 : 32 + n + padn n ≤ 5000 := by unfold padn; omega
    generalize 32 + n + padn n = m at *
    clear hok hszv
    go_wp2_with fail
    refine P1.out.mono ?_
    rintro e W3 ⟨b3, c3, rfl, ho3, B3⟩
    have B3 := B2.trans (B3.mono B2.size)
    clear p0 p1 p2 p3
    obtain ⟨p0, p1, p2, p3⟩ := C1.out W3 B3
    go_wp2_with fail
    refine (CK.out W3).mono ?_
    rintro e W4 ⟨rfl, B4⟩
    have ho4 := own_below ho3 B4 (Nat.le_refl _)
    have B4 := B3.trans (B4.mono B3.size)
    clear p0 p1 p2 p3 ho3
    go_wp2_with fail
    refine (code_c 0 _ (by decide)).mono ?_
    rintro e w6 ⟨rfl, rfl⟩
    go_wp2_with fail
    refine (code_c 0 _ (by decide)).mono ?_
    rintro e w6 ⟨rfl, rfl⟩
    obtain ⟨p0, p1, p2, p3⟩ := C1.out W4 B4
    go_wp2_with fail
    refine (P2.out W4 B4).mono ?_
    rintro e W5 ⟨b5, c5, rfl, ho5, B5⟩
    have ho5' := own_below ho4 B5 (Nat.le_refl _)
    have B5 := B4.trans (B5.mono B4.size)
    clear p0 p1 p2 p3 ho4
    go_wp2_with fail
    refine (same_any _ _ _ _ _ _ _ _ _ (bsl_own ho5') (bsl_own ho5) (by omega)).mono ?_
    rintro e w6 ⟨rfl, q, rfl⟩
    rw [decide_eq_true rfl]
    have BX := below_drewN B5 q
    generalize W5.drewN q = WX at *
    obtain ⟨p0, p1, p2, p3⟩ := C1.out WX BX
    clear ho5 ho5' B4 B5 B3
    go_wp2_with fail
    refine (SN.out _).mono ?_
    rintro e w6 ⟨rfl, rfl⟩
    clear p0 p1 p2 p3
    have HNS := Lib.hid fun (W : World) (B : Below WX.heap.size WX W) => needle_same key ck g a n c l key' ck' g' a' n' c' l' W (H1.out W (BX.trans (B.mono BX.size))) (H2.out W (BX.trans (B.mono BX.size)))
    have HRS := Lib.hid fun (W : World) (B : Below WX.heap.size WX W) => ref3_same key ck g a n c l key' ck' g' a' n' c' l' W (H1.out W (BX.trans (B.mono BX.size))) (H2.out W (BX.trans (B.mono BX.size))) (by omega)
    have D1 := Lib.hid fun (W : World) (B : Below WX.heap.size WX W) => C1.out W (BX.trans (B.mono BX.size))
    have D2 := Lib.hid fun (W : World) (B : Below WX.heap.size WX W) => C2.out W (BX.trans (B.mono BX.size))
    generalize ndSame key ck g l key' ck' g' l' = sm at *
    have hpv : 0 ≤ sz → sz ≤ 4096 → 0 ≤ padv sz ∧ padv sz < 8 := fun h1 h2 => by unfold padv; rw [if_neg (by omega)]; omega
    rcases Int.lt_or_le sz 0 with hz | hz
    · have hz' : decide (0 ≤ sz) = false := by rw [decide_eq_false_iff_not]; omega
      have SZ := Lib.hid (size_any sz)
      rw [show sizev sz = 0 from if_neg (by omega)] at SZ
      clear hpv
      go_wp2_with fail
      refine wp_region_held_drew (S := fun W => Below WX.heap.size WX W) (by kernel_rfl) ((Below.refl _ _).drew) (fun hS => ?_)
      refine wpAnyH_take (i := 0) (v := ?_) rfl (by kernel_rfl) (by kernel_rfl) (by kernel_rfl) (fun _ _ _ h => h) (Or.inl ⟨by kernel_rfl, ?_⟩) hS ?_
      rotate_left
      · intro W hW; go_simp; try with_reducible rfl
      refine wpAnyH_take (i := 2) (v := ?_) rfl (by kernel_rfl) (by kernel_rfl) (by kernel_rfl) (fun _ _ _ h => h) (Or.inl ⟨by kernel_rfl, ?_⟩) hS ?_
      rotate_left
      · intro W hW; go_simp; try with_reducible rfl
      refine wpAnyH_ready (rs := [1]) (by kernel_rfl) (by simp) ?_
      refine AllReadyH.cons rfl (fun K hK => ?_) AllReadyH.nil
      go_simp
      refine (SZ.out _ hs0 hs1).mono ?_
      rintro e w9 ⟨rfl, rfl⟩
      go_simp
      refine hK.out _ _ ?_ (fun hN => ?_)
      · first | exact hT | exact hS | exact hS.alloc hS.size _ | exact hS.drew
      clear hK K
      try clear hT
      clear hS
      have hS := hN
      clear hN
      refine wpAnyH_take (i := 3) (v := ?_) rfl (by kernel_rfl) (by kernel_rfl) (by kernel_rfl) (fun _ _ _ h => h) (Or.inl ⟨by kernel_rfl, ?_⟩) hS ?_
      rotate_left
      · intro W hW; go_simp; try with_reducible rfl
      refine wpAnyH_take (i := 4) (v := ?_) rfl (by kernel_rfl) (by kernel_rfl) (by kernel_rfl) (fun _ _ _ h => h) (Or.inl ⟨by kernel_rfl, ?_⟩) hS ?_
      rotate_left
      · intro W hW; go_simp; try with_reducible rfl
      refine wpAnyH_take (i := 5) (v := ?_) rfl (by kernel_rfl) (by kernel_rfl) (by kernel_rfl) (fun _ _ _ h => h) (Or.inl ⟨by kernel_rfl, ?_⟩) hS ?_
      rotate_left
      · intro W hW; obtain ⟨p0, p1, p2, p3⟩ := D1.out W hW; obtain ⟨q0, q1, q2, q3⟩ := D2.out W hW; go_simp; try with_reducible rfl
      refine wpAnyH_take (i := 6) (v := ?_) rfl (by kernel_rfl) (by kernel_rfl) (by kernel_rfl) (fun _ _ _ h => h) (Or.inl ⟨by kernel_rfl, ?_⟩) hS ?_
      rotate_left
      · intro W hW; obtain ⟨p0, p1, p2, p3⟩ := D1.out W hW; obtain ⟨q0, q1, q2, q3⟩ := D2.out W hW; go_simp; try with_reducible rfl
      refine wpAnyH_take (i := 8) (v := ?_) rfl (by kernel_rfl) (by kernel_rfl) (by kernel_rfl) (fun _ _ _ h => h) (Or.inl ⟨by kernel_rfl, ?_⟩) hS ?_
      rotate_left
      · intro W hW; obtain ⟨p0, p1, p2, p3⟩ := D1.out W hW; obtain ⟨q0, q1, q2, q3⟩ := D2.out W hW; go_simp; try with_reducible rfl
      refine wpAnyH_take (i := 9) (v := ?_) rfl (by kernel_rfl) (by kernel_rfl) (by kernel_rfl) (fun _ _ _ h => h) (Or.inl ⟨by kernel_rfl, ?_⟩) hS ?_
      rotate_left
      · intro W hW; obtain ⟨p0, p1, p2, p3⟩ := D1.out W hW; obtain ⟨q0, q1, q2, q3⟩ := D2.out W hW; go_simp; try with_reducible rfl
      refine wpAnyH_ready (rs := [7]) (by kernel_rfl) (by simp) ?_
      refine AllReadyH.cons rfl (fun K hK => ?_) AllReadyH.nil
      go_simp
      refine (HNS.out _ hS).mono ?_
      rintro e w10 ⟨rfl, B10⟩
      have hT := hS.trans (B10.mono hS.size)
      go_simp
      refine hK.out _ _ ?_ (fun hN => ?_)
      · first | exact hT | exact hS | exact hS.alloc hS.size _ | exact hS.drew
      clear hK K
      try clear hT
      clear hS
      have hS := hN
      clear hN
      refine wpAnyH_ready (rs := [10]) (by kernel_rfl) (by simp) ?_
      refine AllReadyH.cons rfl (fun K hK => ?_) AllReadyH.nil
      go_simp
      refine (HRS.out _ hS).mono ?_
      rintro e w11 ⟨rfl, B11⟩
      have hT := hS.trans (B11.mono hS.size)
      go_simp
      refine hK.out _ _ ?_ (fun hN => ?_)
      · first | exact hT | exact hS | exact hS.alloc hS.size _ | exact hS.drew
      clear hK K
      try clear hT
      clear hS
      have hS := hN
      clear hN
      refine wpAnyH_take (i := 11) (v := ?_) rfl (by kernel_rfl) (by kernel_rfl) (by kernel_rfl) (fun _ _ _ h => h) (Or.inl ⟨by kernel_rfl, ?_⟩) hS ?_
      rotate_left
      · intro W hW; go_simp; try with_reducible rfl
      refine wpAnyH_take (i := 12) (v := ?_) rfl (by kernel_rfl) (by kernel_rfl) (by kernel_rfl) (fun _ _ _ h => h) (Or.inl ⟨by kernel_rfl, ?_⟩) hS ?_
      rotate_left
      · intro W hW; go_simp; try with_reducible rfl
      refine wpAnyH_take (i := 13) (v := ?_) rfl (by kernel_rfl) (by kernel_rfl) (by kernel_rfl) (fun _ _ _ h => h) (Or.inl ⟨by kernel_rfl, ?_⟩) hS ?_
      rotate_left
      · intro W hW; go_simp; try with_reducible rfl
      refine wpAnyH_done (by kernel_rfl) ?_ _
      go_wp2_with fail
      go_ret
      exact ⟨ret_bool (by cases sm <;> rfl), BW.out _ (BX.trans (hS.mono BX.size))⟩
    · rcases Int.lt_or_le 4096 sz with hy | hy
      · have hz' : decide (0 ≤ sz) = true := by rw [decide_eq_true_eq]; omega
        have hy' : decide (sz ≤ 4096) = false := by rw [decide_eq_false_iff_not]; omega
        have SZ := Lib.hid (size_any sz)
        rw [show sizev sz = 0 from if_neg (by omega)] at SZ
        clear hpv
        go_wp2_with fail
        refine wp_region_held_drew (S := fun W => Below WX.heap.size WX W) (by kernel_rfl) ((Below.refl _ _).drew) (fun hS => ?_)
        refine wpAnyH_take (i := 0) (v := ?_) rfl (by kernel_rfl) (by kernel_rfl) (by kernel_rfl) (fun _ _ _ h => h) (Or.inl ⟨by kernel_rfl, ?_⟩) hS ?_
        rotate_left
        · intro W hW; go_simp; try with_reducible rfl
        refine wpAnyH_take (i := 2) (v := ?_) rfl (by kernel_rfl) (by kernel_rfl) (by kernel_rfl) (fun _ _ _ h => h) (Or.inl ⟨by kernel_rfl, ?_⟩) hS ?_
        rotate_left
        · intro W hW; go_simp; try with_reducible rfl
        refine wpAnyH_ready (rs := [1]) (by kernel_rfl) (by simp) ?_
        refine AllReadyH.cons rfl (fun K hK => ?_) AllReadyH.nil
        go_simp
        refine (SZ.out _ hs0 hs1).mono ?_
        rintro e w9 ⟨rfl, rfl⟩
        go_simp
        refine hK.out _ _ ?_ (fun hN => ?_)
        · first | exact hT | exact hS | exact hS.alloc hS.size _ | exact hS.drew
        clear hK K
        try clear hT
        clear hS
        have hS := hN
        clear hN
        refine wpAnyH_take (i := 3) (v := ?_) rfl (by kernel_rfl) (by kernel_rfl) (by kernel_rfl) (fun _ _ _ h => h) (Or.inl ⟨by kernel_rfl, ?_⟩) hS ?_
        rotate_left
        · intro W hW; go_simp; try with_reducible rfl
        refine wpAnyH_take (i := 4) (v := ?_) rfl (by kernel_rfl) (by kernel_rfl) (by kernel_rfl) (fun _ _ _ h => h) (Or.inl ⟨by kernel_rfl, ?_⟩) hS ?_
        rotate_left
        · intro W hW; go_simp; try with_reducible rfl
        refine wpAnyH_take (i := 5) (v := ?_) rfl (by kernel_rfl) (by kernel_rfl) (by kernel_rfl) (fun _ _ _ h => h) (Or.inl ⟨by kernel_rfl, ?_⟩) hS ?_
        rotate_left
        · intro W hW; obtain ⟨p0, p1, p2, p3⟩ := D1.out W hW; obtain ⟨q0, q1, q2, q3⟩ := D2.out W hW; go_simp; try with_reducible rfl
        refine wpAnyH_take (i := 6) (v := ?_) rfl (by kernel_rfl) (by kernel_rfl) (by kernel_rfl) (fun _ _ _ h => h) (Or.inl ⟨by kernel_rfl, ?_⟩) hS ?_
        rotate_left
        · intro W hW; obtain ⟨p0, p1, p2, p3⟩ := D1.out W hW; obtain ⟨q0, q1, q2, q3⟩ := D2.out W hW; go_simp; try with_reducible rfl
        refine wpAnyH_take (i := 8) (v := ?_) rfl (by kernel_rfl) (by kernel_rfl) (by kernel_rfl) (fun _ _ _ h => h) (Or.inl ⟨by kernel_rfl, ?_⟩) hS ?_
        rotate_left
        · intro W hW; obtain ⟨p0, p1, p2, p3⟩ := D1.out W hW; obtain ⟨q0, q1, q2, q3⟩ := D2.out W hW; go_simp; try with_reducible rfl
        refine wpAnyH_take (i := 9) (v := ?_) rfl (by kernel_rfl) (by kernel_rfl) (by kernel_rfl) (fun _ _ _ h => h) (Or.inl ⟨by kernel_rfl, ?_⟩) hS ?_
        rotate_left
        · intro W hW; obtain ⟨p0, p1, p2, p3⟩ := D1.out W hW; obtain ⟨q0, q1, q2, q3⟩ := D2.out W hW; go_simp; try with_reducible rfl
        refine wpAnyH_ready (rs := [7]) (by kernel_rfl) (by simp) ?_
        refine AllReadyH.cons rfl (fun K hK => ?_) AllReadyH.nil
        go_simp
        refine (HNS.out _ hS).mono ?_
        rintro e w10 ⟨rfl, B10⟩
        have hT := hS.trans (B10.mono hS.size)
        go_simp
        refine hK.out _ _ ?_ (fun hN => ?_)
        · first | exact hT | exact hS | exact hS.alloc hS.size _ | exact hS.drew
        clear hK K
        try clear hT
        clear hS
        have hS := hN
        clear hN
        refine wpAnyH_ready (rs := [10]) (by kernel_rfl) (by simp) ?_
        refine AllReadyH.cons rfl (fun K hK => ?_) AllReadyH.nil
        go_simp
        refine (HRS.out _ hS).mono ?_
        rintro e w11 ⟨rfl, B11⟩
        have hT := hS.trans (B11.mono hS.size)
        go_simp
        refine hK.out _ _ ?_ (fun hN => ?_)
        · first | exact hT | exact hS | exact hS.alloc hS.size _ | exact hS.drew
        clear hK K
        try clear hT
        clear hS
        have hS := hN
        clear hN
        refine wpAnyH_take (i := 11) (v := ?_) rfl (by kernel_rfl) (by kernel_rfl) (by kernel_rfl) (fun _ _ _ h => h) (Or.inl ⟨by kernel_rfl, ?_⟩) hS ?_
        rotate_left
        · intro W hW; go_simp; try with_reducible rfl
        refine wpAnyH_take (i := 12) (v := ?_) rfl (by kernel_rfl) (by kernel_rfl) (by kernel_rfl) (fun _ _ _ h => h) (Or.inl ⟨by kernel_rfl, ?_⟩) hS ?_
        rotate_left
        · intro W hW; go_simp; try with_reducible rfl
        refine wpAnyH_take (i := 13) (v := ?_) rfl (by kernel_rfl) (by kernel_rfl) (by kernel_rfl) (fun _ _ _ h => h) (Or.inl ⟨by kernel_rfl, ?_⟩) hS ?_
        rotate_left
        · intro W hW; go_simp; try with_reducible rfl
        refine wpAnyH_done (by kernel_rfl) ?_ _
        go_wp2_with fail
        go_ret
        exact ⟨ret_bool (by cases sm <;> rfl), BW.out _ (BX.trans (hS.mono BX.size))⟩
      · have hz' : decide (0 ≤ sz) = true := by rw [decide_eq_true_eq]; omega
        have hy' : decide (sz ≤ 4096) = true := by rw [decide_eq_true_eq]; omega
        obtain ⟨hp0, hp1⟩ := hpv hz hy
        have SZ := Lib.hid (size_any sz)
        rw [show sizev sz = 32 + sz + padv sz from if_pos ⟨hz, hy⟩] at SZ
        clear hpv
        go_wp2_with fail
        refine (refpad_any sz _ hs0 hs1).mono ?_
        rintro e w9 ⟨rfl, rfl⟩
        go_wp2_with fail
        refine wp_region_held_drew (S := fun W => Below WX.heap.size WX W) (by kernel_rfl) ((Below.refl _ _).drew) (fun hS => ?_)
        refine wpAnyH_take (i := 0) (v := ?_) rfl (by kernel_rfl) (by kernel_rfl) (by kernel_rfl) (fun _ _ _ h => h) (Or.inl ⟨by kernel_rfl, ?_⟩) hS ?_
        rotate_left
        · intro W hW; go_simp; try with_reducible rfl
        refine wpAnyH_take (i := 2) (v := ?_) rfl (by kernel_rfl) (by kernel_rfl) (by kernel_rfl) (fun _ _ _ h => h) (Or.inl ⟨by kernel_rfl, ?_⟩) hS ?_
        rotate_left
        · intro W hW; go_simp; try with_reducible rfl
        refine wpAnyH_ready (rs := [1]) (by kernel_rfl) (by simp) ?_
        refine AllReadyH.cons rfl (fun K hK => ?_) AllReadyH.nil
        go_simp
        refine (SZ.out _ hs0 hs1).mono ?_
        rintro e w9 ⟨rfl, rfl⟩
        go_simp
        refine hK.out _ _ ?_ (fun hN => ?_)
        · first | exact hT | exact hS | exact hS.alloc hS.size _ | exact hS.drew
        clear hK K
        try clear hT
        clear hS
        have hS := hN
        clear hN
        refine wpAnyH_take (i := 3) (v := ?_) rfl (by kernel_rfl) (by kernel_rfl) (by kernel_rfl) (fun _ _ _ h => h) (Or.inl ⟨by kernel_rfl, ?_⟩) hS ?_
        rotate_left
        · intro W hW; go_simp; try with_reducible rfl
        refine wpAnyH_take (i := 4) (v := ?_) rfl (by kernel_rfl) (by kernel_rfl) (by kernel_rfl) (fun _ _ _ h => h) (Or.inl ⟨by kernel_rfl, ?_⟩) hS ?_
        rotate_left
        · intro W hW; go_simp; try with_reducible rfl
        refine wpAnyH_take (i := 5) (v := ?_) rfl (by kernel_rfl) (by kernel_rfl) (by kernel_rfl) (fun _ _ _ h => h) (Or.inl ⟨by kernel_rfl, ?_⟩) hS ?_
        rotate_left
        · intro W hW; obtain ⟨p0, p1, p2, p3⟩ := D1.out W hW; obtain ⟨q0, q1, q2, q3⟩ := D2.out W hW; go_simp; try with_reducible rfl
        refine wpAnyH_take (i := 6) (v := ?_) rfl (by kernel_rfl) (by kernel_rfl) (by kernel_rfl) (fun _ _ _ h => h) (Or.inl ⟨by kernel_rfl, ?_⟩) hS ?_
        rotate_left
        · intro W hW; obtain ⟨p0, p1, p2, p3⟩ := D1.out W hW; obtain ⟨q0, q1, q2, q3⟩ := D2.out W hW; go_simp; try with_reducible rfl
        refine wpAnyH_take (i := 8) (v := ?_) rfl (by kernel_rfl) (by kernel_rfl) (by kernel_rfl) (fun _ _ _ h => h) (Or.inl ⟨by kernel_rfl, ?_⟩) hS ?_
        rotate_left
        · intro W hW; obtain ⟨p0, p1, p2, p3⟩ := D1.out W hW; obtain ⟨q0, q1, q2, q3⟩ := D2.out W hW; go_simp; try with_reducible rfl
        refine wpAnyH_take (i := 9) (v := ?_) rfl (by kernel_rfl) (by kernel_rfl) (by kernel_rfl) (fun _ _ _ h => h) (Or.inl ⟨by kernel_rfl, ?_⟩) hS ?_
        rotate_left
        · intro W hW; obtain ⟨p0, p1, p2, p3⟩ := D1.out W hW; obtain ⟨q0, q1, q2, q3⟩ := D2.out W hW; go_simp; try with_reducible rfl
        refine wpAnyH_ready (rs := [7]) (by kernel_rfl) (by simp) ?_
        refine AllReadyH.cons rfl (fun K hK => ?_) AllReadyH.nil
        go_simp
        refine (HNS.out _ hS).mono ?_
        rintro e w10 ⟨rfl, B10⟩
        have hT := hS.trans (B10.mono hS.size)
        go_simp
        refine hK.out _ _ ?_ (fun hN => ?_)
        · first | exact hT | exact hS | exact hS.alloc hS.size _ | exact hS.drew
        clear hK K
        try clear hT
        clear hS
        have hS := hN
        clear hN
        refine wpAnyH_ready (rs := [10]) (by kernel_rfl) (by simp) ?_
        refine AllReadyH.cons rfl (fun K hK => ?_) AllReadyH.nil
        go_simp
        refine (HRS.out _ hS).mono ?_
        rintro e w11 ⟨rfl, B11⟩
        have hT := hS.trans (B11.mono hS.size)
        go_simp
        refine hK.out _ _ ?_ (fun hN => ?_)
        · first | exact hT | exact hS | exact hS.alloc hS.size _ | exact hS.drew
        clear hK K
        try clear hT
        clear hS
        have hS := hN
        clear hN
        refine wpAnyH_take (i := 11) (v := ?_) rfl (by kernel_rfl) (by kernel_rfl) (by kernel_rfl) (fun _ _ _ h => h) (Or.inl ⟨by kernel_rfl, ?_⟩) hS ?_
        rotate_left
        · intro W hW; go_simp; try with_reducible rfl
        refine wpAnyH_take (i := 12) (v := ?_) rfl (by kernel_rfl) (by kernel_rfl) (by kernel_rfl) (fun _ _ _ h => h) (Or.inl ⟨by kernel_rfl, ?_⟩) hS ?_
        rotate_left
        · intro W hW; go_simp; try with_reducible rfl
        refine wpAnyH_take (i := 13) (v := ?_) rfl (by kernel_rfl) (by kernel_rfl) (by kernel_rfl) (fun _ _ _ h => h) (Or.inl ⟨by kernel_rfl, ?_⟩) hS ?_
        rotate_left
        · intro W hW; go_simp; try with_reducible rfl
        refine wpAnyH_done (by kernel_rfl) ?_ _
        go_wp2_with fail
        go_ret
        exact ⟨ret_bool (by cases sm <;> rfl), BW.out _ (BX.trans (hS.mono BX.size))⟩
  · obtain ⟨p0, p1, p2, p3⟩ := C1.out W2 B2
    have P1 := Lib.hid (nput_bad key ck g a n c W2 hn (by rw [h12]; decide))
    have CK := Lib.hid fun (W : World) => needle_check key ck g a n c W hn
    rw [h12] at P1 CK ⊢
    clear h12
    go_wp2_with fail
    refine P1.out.mono ?_
    rintro e W3 ⟨rfl, B3⟩
    have B3 := B2.trans (B3.mono B2.size)
    clear p0 p1 p2 p3
    obtain ⟨p0, p1, p2, p3⟩ := C1.out W3 B3
    go_wp2_with fail
    refine (CK.out W3).mono ?_
    rintro e WX ⟨rfl, B4⟩
    have BX := B3.trans (B4.mono B3.size)
    clear p0 p1 p2 p3 B4 B3
    go_wp2_with fail
    refine (code_c 1 _ (by decide)).mono ?_
    rintro e w6 ⟨rfl, rfl⟩
    go_wp2_with fail
    refine (code_c 1 _ (by decide)).mono ?_
    rintro e w6 ⟨rfl, rfl⟩
    have HNS := Lib.hid fun (W : World) (B : Below WX.heap.size WX W) => needle_same key ck g a n c l key' ck' g' a' n' c' l' W (H1.out W (BX.trans (B.mono BX.size))) (H2.out W (BX.trans (B.mono BX.size)))
    have HRS := Lib.hid fun (W : World) (B : Below WX.heap.size WX W) => ref3_same key ck g a n c l key' ck' g' a' n' c' l' W (H1.out W (BX.trans (B.mono BX.size))) (H2.out W (BX.trans (B.mono BX.size))) (by omega)
    have D1 := Lib.hid fun (W : World) (B : Below WX.heap.size WX W) => C1.out W (BX.trans (B.mono BX.size))
    have D2 := Lib.hid fun (W : World) (B : Below WX.heap.size WX W) => C2.out W (BX.trans (B.mono BX.size))
    generalize ndSame key ck g l key' ck' g' l' = sm at *
    have hpv : 0 ≤ sz → sz ≤ 4096 → 0 ≤ padv sz ∧ padv sz < 8 := fun h1 h2 => by unfold padv; rw [if_neg (by omega)]; omega
    rcases Int.lt_or_le sz 0 with hz | hz
    · have hz' : decide (0 ≤ sz) = false := by rw [decide_eq_false_iff_not]; omega
      have SZ := Lib.hid (size_any sz)
      rw [show sizev sz = 0 from if_neg (by omega)] at SZ
      clear hpv
      go_wp2_with fail
      refine wp_region_held_drew (S := fun W => Below WX.heap.size WX W) (by kernel_rfl) ((Below.refl _ _).drew) (fun hS => ?_)
      refine wpAnyH_take (i := 0) (v := ?_) rfl (by kernel_rfl) (by kernel_rfl) (by kernel_rfl) (fun _ _ _ h => h) (Or.inl ⟨by kernel_rfl, ?_⟩) hS ?_
      rotate_left
      · intro W hW; go_simp; try with_reducible rfl
      refine wpAnyH_take (i := 2) (v := ?_) rfl (by kernel_rfl) (by kernel_rfl) (by kernel_rfl) (fun _ _ _ h => h) (Or.inl ⟨by kernel_rfl, ?_⟩) hS ?_
      rotate_left
      · intro W hW; go_simp; try with_reducible rfl
      refine wpAnyH_ready (rs := [1]) (by kernel_rfl) (by simp) ?_
      refine AllReadyH.cons rfl (fun K hK => ?_) AllReadyH.nil
      go_simp
      refine (SZ.out _ hs0 hs1).mono ?_
      rintro e w9 ⟨rfl, rfl⟩
      go_simp
      refine hK.out _ _ ?_ (fun hN => ?_)
      · first | exact hT | exact hS | exact hS.alloc hS.size _ | exact hS.drew
      clear hK K
      try clear hT
      clear hS
      have hS := hN
      clear hN
      refine wpAnyH_take (i := 3) (v := ?_) rfl (by kernel_rfl) (by kernel_rfl) (by kernel_rfl) (fun _ _ _ h => h) (Or.inl ⟨by kernel_rfl, ?_⟩) hS ?_
      rotate_left
      · intro W hW; go_simp; try with_reducible rfl
      refine wpAnyH_take (i := 4) (v := ?_) rfl (by kernel_rfl) (by kernel_rfl) (by kernel_rfl) (fun _ _ _ h => h) (Or.inl ⟨by kernel_rfl, ?_⟩) hS ?_
      rotate_left
      · intro W hW; go_simp; try with_reducible rfl
      refine wpAnyH_take (i := 5) (v := ?_) rfl (by kernel_rfl) (by kernel_rfl) (by kernel_rfl) (fun _ _ _ h => h) (Or.inl ⟨by kernel_rfl, ?_⟩) hS ?_
      rotate_left
      · intro W hW; obtain ⟨p0, p1, p2, p3⟩ := D1.out W hW; obtain ⟨q0, q1, q2, q3⟩ := D2.out W hW; go_simp; try with_reducible rfl
      refine wpAnyH_take (i := 6) (v := ?_) rfl (by kernel_rfl) (by kernel_rfl) (by kernel_rfl) (fun _ _ _ h => h) (Or.inl ⟨by kernel_rfl, ?_⟩) hS ?_
      rotate_left
      · intro W hW; obtain ⟨p0, p1, p2, p3⟩ := D1.out W hW; obtain ⟨q0, q1, q2, q3⟩ := D2.out W hW; go_simp; try with_reducible rfl
      refine wpAnyH_take (i := 8) (v := ?_) rfl (by kernel_rfl) (by kernel_rfl) (by kernel_rfl) (fun _ _ _ h => h) (Or.inl ⟨by kernel_rfl, ?_⟩) hS ?_
      rotate_left
      · intro W hW; obtain ⟨p0, p1, p2, p3⟩ := D1.out W hW; obtain ⟨q0, q1, q2, q3⟩ := D2.out W hW; go_simp; try with_reducible rfl
      refine wpAnyH_take (i := 9) (v := ?_) rfl (by kernel_rfl) (by kernel_rfl) (by kernel_rfl) (fun _ _ _ h => h) (Or.inl ⟨by kernel_rfl, ?_⟩) hS ?_
      rotate_left
      · intro W hW; obtain ⟨p0, p1, p2, p3⟩ := D1.out W hW; obtain ⟨q0, q1, q2, q3⟩ := D2.out W hW; go_simp; try with_reducible rfl
      refine wpAnyH_ready (rs := [7]) (by kernel_rfl) (by simp) ?_
      refine AllReadyH.cons rfl (fun K hK => ?_) AllReadyH.nil
      go_simp
      refine (HNS.out _ hS).mono ?_
      rintro e w10 ⟨rfl, B10⟩
      have hT := hS.trans (B10.mono hS.size)
      go_simp
      refine hK.out _ _ ?_ (fun hN => ?_)
      · first | exact hT | exact hS | exact hS.alloc hS.size _ | exact hS.drew
      clear hK K
      try clear hT
      clear hS
      have hS := hN
      clear hN
      refine wpAnyH_ready (rs := [10]) (by kernel_rfl) (by simp) ?_
      refine AllReadyH.cons rfl (fun K hK => ?_) AllReadyH.nil
      go_simp
      refine (HRS.out _ hS).mono ?_
      rintro e w11 ⟨rfl, B11⟩
      have hT := hS.trans (B11.mono hS.size)
      go_simp
      refine hK.out _ _ ?_ (fun hN => ?_)
      · first | exact hT | exact hS | exact hS.alloc hS.size _ | exact hS.drew
      clear hK K
      try clear hT
      clear hS
      have hS := hN
      clear hN
      refine wpAnyH_take (i := 11) (v := ?_) rfl (by kernel_rfl) (by kernel_rfl) (by kernel_rfl) (fun _ _ _ h => h) (Or.inl ⟨by kernel_rfl, ?_⟩) hS ?_
      rotate_left
      · intro W hW; go_simp; try with_reducible rfl
      refine wpAnyH_take (i := 12) (v := ?_) rfl (by kernel_rfl) (by kernel_rfl) (by kernel_rfl) (fun _ _ _ h => h) (Or.inl ⟨by kernel_rfl, ?_⟩) hS ?_
      rotate_left
      · intro W hW; go_simp; try with_reducible rfl
      refine wpAnyH_take (i := 13) (v := ?_) rfl (by kernel_rfl) (by kernel_rfl) (by kernel_rfl) (fun _ _ _ h => h) (Or.inl ⟨by kernel_rfl, ?_⟩) hS ?_
      rotate_left
      · intro W hW; go_simp; try with_reducible rfl
      refine wpAnyH_done (by kernel_rfl) ?_ _
      go_wp2_with fail
      go_ret
      exact ⟨ret_bool (by cases sm <;> rfl), BW.out _ (BX.trans (hS.mono BX.size))⟩
    · rcases Int.lt_or_le 4096 sz with hy | hy
      · have hz' : decide (0 ≤ sz) = true := by rw [decide_eq_true_eq]; omega
        have hy' : decide (sz ≤ 4096) = false := by rw [decide_eq_false_iff_not]; omega
        have SZ := Lib.hid (size_any sz)
        rw [show sizev sz = 0 from if_neg (by omega)] at SZ
        clear hpv
        go_wp2_with fail
        refine wp_region_held_drew (S := fun W => Below WX.heap.size WX W) (by kernel_rfl) ((Below.refl _ _).drew) (fun hS => ?_)
        refine wpAnyH_take (i := 0) (v := ?_) rfl (by kernel_rfl) (by kernel_rfl) (by kernel_rfl) (fun _ _ _ h => h) (Or.inl ⟨by kernel_rfl, ?_⟩) hS ?_
        rotate_left
        · intro W hW; go_simp; try with_reducible rfl
        refine wpAnyH_take (i := 2) (v := ?_) rfl (by kernel_rfl) (by kernel_rfl) (by kernel_rfl) (fun _ _ _ h => h) (Or.inl ⟨by kernel_rfl, ?_⟩) hS ?_
        rotate_left
        · intro W hW; go_simp; try with_reducible rfl
        refine wpAnyH_ready (rs := [1]) (by kernel_rfl) (by simp) ?_
        refine AllReadyH.cons rfl (fun K hK => ?_) AllReadyH.nil
        go_simp
        refine (SZ.out _ hs0 hs1).mono ?_
        rintro e w9 ⟨rfl, rfl⟩
        go_simp
        refine hK.out _ _ ?_ (fun hN => ?_)
        · first | exact hT | exact hS | exact hS.alloc hS.size _ | exact hS.drew
        clear hK K
        try clear hT
        clear hS
        have hS := hN
        clear hN
        refine wpAnyH_take (i := 3) (v := ?_) rfl (by kernel_rfl) (by kernel_rfl) (by kernel_rfl) (fun _ _ _ h => h) (Or.inl ⟨by kernel_rfl, ?_⟩) hS ?_
        rotate_left
        · intro W hW; go_simp; try with_reducible rfl
        refine wpAnyH_take (i := 4) (v := ?_) rfl (by kernel_rfl) (by kernel_rfl) (by kernel_rfl) (fun _ _ _ h => h) (Or.inl ⟨by kernel_rfl, ?_⟩) hS ?_
        rotate_left
        · intro W hW; go_simp; try with_reducible rfl
        refine wpAnyH_take (i := 5) (v := ?_) rfl (by kernel_rfl) (by kernel_rfl) (by kernel_rfl) (fun _ _ _ h => h) (Or.inl ⟨by kernel_rfl, ?_⟩) hS ?_
        rotate_left
        · intro W hW; obtain ⟨p0, p1, p2, p3⟩ := D1.out W hW; obtain ⟨q0, q1, q2, q3⟩ := D2.out W hW; go_simp; try with_reducible rfl
        refine wpAnyH_take (i := 6) (v := ?_) rfl (by kernel_rfl) (by kernel_rfl) (by kernel_rfl) (fun _ _ _ h => h) (Or.inl ⟨by kernel_rfl, ?_⟩) hS ?_
        rotate_left
        · intro W hW; obtain ⟨p0, p1, p2, p3⟩ := D1.out W hW; obtain ⟨q0, q1, q2, q3⟩ := D2.out W hW; go_simp; try with_reducible rfl
        refine wpAnyH_take (i := 8) (v := ?_) rfl (by kernel_rfl) (by kernel_rfl) (by kernel_rfl) (fun _ _ _ h => h) (Or.inl ⟨by kernel_rfl, ?_⟩) hS ?_
        rotate_left
        · intro W hW; obtain ⟨p0, p1, p2, p3⟩ := D1.out W hW; obtain ⟨q0, q1, q2, q3⟩ := D2.out W hW; go_simp; try with_reducible rfl
        refine wpAnyH_take (i := 9) (v := ?_) rfl (by kernel_rfl) (by kernel_rfl) (by kernel_rfl) (fun _ _ _ h => h) (Or.inl ⟨by kernel_rfl, ?_⟩) hS ?_
        rotate_left
        · intro W hW; obtain ⟨p0, p1, p2, p3⟩ := D1.out W hW; obtain ⟨q0, q1, q2, q3⟩ := D2.out W hW; go_simp; try with_reducible rfl
        refine wpAnyH_ready (rs := [7]) (by kernel_rfl) (by simp) ?_
        refine AllReadyH.cons rfl (fun K hK => ?_) AllReadyH.nil
        go_simp
        refine (HNS.out _ hS).mono ?_
        rintro e w10 ⟨rfl, B10⟩
        have hT := hS.trans (B10.mono hS.size)
        go_simp
        refine hK.out _ _ ?_ (fun hN => ?_)
        · first | exact hT | exact hS | exact hS.alloc hS.size _ | exact hS.drew
        clear hK K
        try clear hT
        clear hS
        have hS := hN
        clear hN
        refine wpAnyH_ready (rs := [10]) (by kernel_rfl) (by simp) ?_
        refine AllReadyH.cons rfl (fun K hK => ?_) AllReadyH.nil
        go_simp
        refine (HRS.out _ hS).mono ?_
        rintro e w11 ⟨rfl, B11⟩
        have hT := hS.trans (B11.mono hS.size)
        go_simp
        refine hK.out _ _ ?_ (fun hN => ?_)
        · first | exact hT | exact hS | exact hS.alloc hS.size _ | exact hS.drew
        clear hK K
        try clear hT
        clear hS
        have hS := hN
        clear hN
        refine wpAnyH_take (i := 11) (v := ?_) rfl (by kernel_rfl) (by kernel_rfl) (by kernel_rfl) (fun _ _ _ h => h) (Or.inl ⟨by kernel_rfl, ?_⟩) hS ?_
        rotate_left
        · intro W hW; go_simp; try with_reducible rfl
        refine wpAnyH_take (i := 12) (v := ?_) rfl (by kernel_rfl) (by kernel_rfl) (by kernel_rfl) (fun _ _ _ h => h) (Or.inl ⟨by kernel_rfl, ?_⟩) hS ?_
        rotate_left
        · intro W hW; go_simp; try with_reducible rfl
        refine wpAnyH_take (i := 13) (v := ?_) rfl (by kernel_rfl) (by kernel_rfl) (by kernel_rfl) (fun _ _ _ h => h) (Or.inl ⟨by kernel_rfl, ?_⟩) hS ?_
        rotate_left
        · intro W hW; go_simp; try with_reducible rfl
        refine wpAnyH_done (by kernel_rfl) ?_ _
        go_wp2_with fail
        go_ret
        exact ⟨ret_bool (by cases sm <;> rfl), BW.out _ (BX.trans (hS.mono BX.size))⟩
      · have hz' : decide (0 ≤ sz) = true := by rw [decide_eq_true_eq]; omega
        have hy' : decide (sz ≤ 4096) = true := by rw [decide_eq_true_eq]; omega
        obtain ⟨hp0, hp1⟩ := hpv hz hy
        have SZ := Lib.hid (size_any sz)
        rw [show sizev sz = 32 + sz + padv sz from if_pos ⟨hz, hy⟩] at SZ
        clear hpv
        go_wp2_with fail
        refine (refpad_any sz _ hs0 hs1).mono ?_
        rintro e w9 ⟨rfl, rfl⟩
        go_wp2_with fail
        refine wp_region_held_drew (S := fun W => Below WX.heap.size WX W) (by kernel_rfl) ((Below.refl _ _).drew) (fun hS => ?_)
        refine wpAnyH_take (i := 0) (v := ?_) rfl (by kernel_rfl) (by kernel_rfl) (by kernel_rfl) (fun _ _ _ h => h) (Or.inl ⟨by kernel_rfl, ?_⟩) hS ?_
        rotate_left
        · intro W hW; go_simp; try with_reducible rfl
        refine wpAnyH_take (i := 2) (v := ?_) rfl (by kernel_rfl) (by kernel_rfl) (by kernel_rfl) (fun _ _ _ h => h) (Or.inl ⟨by kernel_rfl, ?_⟩) hS ?_
        rotate_left
        · intro W hW; go_simp; try with_reducible rfl
        refine wpAnyH_ready (rs := [1]) (by kernel_rfl) (by simp) ?_
        refine AllReadyH.cons rfl (fun K hK => ?_) AllReadyH.nil
        go_simp
        refine (SZ.out _ hs0 hs1).mono ?_
        rintro e w9 ⟨rfl, rfl⟩
        go_simp
        refine hK.out _ _ ?_ (fun hN => ?_)
        · first | exact hT | exact hS | exact hS.alloc hS.size _ | exact hS.drew
        clear hK K
        try clear hT
        clear hS
        have hS := hN
        clear hN
        refine wpAnyH_take (i := 3) (v := ?_) rfl (by kernel_rfl) (by kernel_rfl) (by kernel_rfl) (fun _ _ _ h => h) (Or.inl ⟨by kernel_rfl, ?_⟩) hS ?_
        rotate_left
        · intro W hW; go_simp; try with_reducible rfl
        refine wpAnyH_take (i := 4) (v := ?_) rfl (by kernel_rfl) (by kernel_rfl) (by kernel_rfl) (fun _ _ _ h => h) (Or.inl ⟨by kernel_rfl, ?_⟩) hS ?_
        rotate_left
        · intro W hW; go_simp; try with_reducible rfl
        refine wpAnyH_take (i := 5) (v := ?_) rfl (by kernel_rfl) (by kernel_rfl) (by kernel_rfl) (fun _ _ _ h => h) (Or.inl ⟨by kernel_rfl, ?_⟩) hS ?_
        rotate_left
        · intro W hW; obtain ⟨p0, p1, p2, p3⟩ := D1.out W hW; obtain ⟨q0, q1, q2, q3⟩ := D2.out W hW; go_simp; try with_reducible rfl
        refine wpAnyH_take (i := 6) (v := ?_) rfl (by kernel_rfl) (by kernel_rfl) (by kernel_rfl) (fun _ _ _ h => h) (Or.inl ⟨by kernel_rfl, ?_⟩) hS ?_
        rotate_left
        · intro W hW; obtain ⟨p0, p1, p2, p3⟩ := D1.out W hW; obtain ⟨q0, q1, q2, q3⟩ := D2.out W hW; go_simp; try with_reducible rfl
        refine wpAnyH_take (i := 8) (v := ?_) rfl (by kernel_rfl) (by kernel_rfl) (by kernel_rfl) (fun _ _ _ h => h) (Or.inl ⟨by kernel_rfl, ?_⟩) hS ?_
        rotate_left
        · intro W hW; obtain ⟨p0, p1, p2, p3⟩ := D1.out W hW; obtain ⟨q0, q1, q2, q3⟩ := D2.out W hW; go_simp; try with_reducible rfl
        refine wpAnyH_take (i := 9) (v := ?_) rfl (by kernel_rfl) (by kernel_rfl) (by kernel_rfl) (fun _ _ _ h => h) (Or.inl ⟨by kernel_rfl, ?_⟩) hS ?_
        rotate_left
        · intro W hW; obtain ⟨p0, p1, p2, p3⟩ := D1.out W hW; obtain ⟨q0, q1, q2, q3⟩ := D2.out W hW; go_simp; try with_reducible rfl
        refine wpAnyH_ready (rs := [7]) (by kernel_rfl) (by simp) ?_
        refine AllReadyH.cons rfl (fun K hK => ?_) AllReadyH.nil
        go_simp
        refine (HNS.out _ hS).mono ?_
        rintro e w10 ⟨rfl, B10⟩
        have hT := hS.trans (B10.mono hS.size)
        go_simp
        refine hK.out _ _ ?_ (fun hN => ?_)
        · first | exact hT | exact hS | exact hS.alloc hS.size _ | exact hS.drew
        clear hK K
        try clear hT
        clear hS
        have hS := hN
        clear hN
        refine wpAnyH_ready (rs := [10]) (by kernel_rfl) (by simp) ?_
        refine AllReadyH.cons rfl (fun K hK => ?_) AllReadyH.nil
        go_simp
        refine (HRS.out _ hS).mono ?_
        rintro e w11 ⟨rfl, B11⟩
        have hT := hS.trans (B11.mono hS.size)
        go_simp
        refine hK.out _ _ ?_ (fun hN => ?_)
        · first | exact hT | exact hS | exact hS.alloc hS.size _ | exact hS.drew
        clear hK K
        try clear hT
        clear hS
        have hS := hN
        clear hN
        refine wpAnyH_take (i := 11) (v := ?_) rfl (by kernel_rfl) (by kernel_rfl) (by kernel_rfl) (fun _ _ _ h => h) (Or.inl ⟨by kernel_rfl, ?_⟩) hS ?_
        rotate_left
        · intro W hW; go_simp; try with_reducible rfl
        refine wpAnyH_take (i := 12) (v := ?_) rfl (by kernel_rfl) (by kernel_rfl) (by kernel_rfl) (fun _ _ _ h => h) (Or.inl ⟨by kernel_rfl, ?_⟩) hS ?_
        rotate_left
        · intro W hW; go_simp; try with_reducible rfl
        refine wpAnyH_take (i := 13) (v := ?_) rfl (by kernel_rfl) (by kernel_rfl) (by kernel_rfl) (fun _ _ _ h => h) (Or.inl ⟨by kernel_rfl, ?_⟩) hS ?_
        rotate_left
        · intro W hW; go_simp; try with_reducible rfl
        refine wpAnyH_done (by kernel_rfl) ?_ _
        go_wp2_with fail
        go_ret
        exact ⟨ret_bool (by cases sm <;> rfl), BW.out _ (BX.trans (hS.mono BX.size))⟩
  · obtain ⟨p0, p1, p2, p3⟩ := C1.out W2 B2
    have P1 := Lib.hid (nput_bad key ck g a n c W2 hn (by rw [h12]; decide))
    have CK := Lib.hid fun (W : World) => needle_check key ck g a n c W hn
    rw [h12] at P1 CK ⊢
    clear h12
    go_wp2_with fail
    refine P1.out.mono ?_
    rintro e W3 ⟨rfl, B3⟩
    have B3 := B2.trans (B3.mono B2.size)
    clear p0 p1 p2 p3
    obtain ⟨p0, p1, p2, p3⟩ := C1.out W3 B3
    go_wp2_with fail
    refine (CK.out W3).mono ?_
    rintro e WX ⟨rfl, B4⟩
    have BX := B3.trans (B4.mono B3.size)
    clear p0 p1 p2 p3 B4 B3
    go_wp2_with fail
    refine (code_c 2 _ (by decide)).mono ?_
    rintro e w6 ⟨rfl, rfl⟩
    go_wp2_with fail
    refine (code_c 2 _ (by decide)).mono ?_
    rintro e w6 ⟨rfl, rfl⟩
    have HNS := Lib.hid fun (W : World) (B : Below WX.heap.size WX W) => needle_same key ck g a n c l key' ck' g' a' n' c' l' W (H1.out W (BX.trans (B.mono BX.size))) (H2.out W (BX.trans (B.mono BX.size)))
    have HRS := Lib.hid fun (W : World) (B : Below WX.heap.size WX W) => ref3_same key ck g a n c l key' ck' g' a' n' c' l' W (H1.out W (BX.trans (B.mono BX.size))) (H2.out W (BX.trans (B.mono BX.size))) (by omega)
    have D1 := Lib.hid fun (W : World) (B : Below WX.heap.size WX W) => C1.out W (BX.trans (B.mono BX.size))
    have D2 := Lib.hid fun (W : World) (B : Below WX.heap.size WX W) => C2.out W (BX.trans (B.mono BX.size))
    generalize ndSame key ck g l key' ck' g' l' = sm at *
    have hpv : 0 ≤ sz → sz ≤ 4096 → 0 ≤ padv sz ∧ padv sz < 8 := fun h1 h2 => by unfold padv; rw [if_neg (by omega)]; omega
    rcases Int.lt_or_le sz 0 with hz | hz
    · have hz' : decide (0 ≤ sz) = false := by rw [decide_eq_false_iff_not]; omega
      have SZ := Lib.hid (size_any sz)
      rw [show sizev sz = 0 from if_neg (by omega)] at SZ
      clear hpv
      go_wp2_with fail
      refine wp_region_held_drew (S := fun W => Below WX.heap.size WX W) (by kernel_rfl) ((Below.refl _ _).drew) (fun hS => ?_)
      refine wpAnyH_take (i := 0) (v := ?_) rfl (by kernel_rfl) (by kernel_rfl) (by kernel_rfl) (fun _ _ _ h => h) (Or.inl ⟨by kernel_rfl, ?_⟩) hS ?_
      rotate_left
      · intro W hW; go_simp; try with_reducible rfl
      refine wpAnyH_take (i := 2) (v := ?_) rfl (by kernel_rfl) (by kernel_rfl) (by kernel_rfl) (fun _ _ _ h => h) (Or.inl ⟨by kernel_rfl, ?_⟩) hS ?_
      rotate_left
      · intro W hW; go_simp; try with_reducible rfl
      refine wpAnyH_ready (rs := [1]) (by kernel_rfl) (by simp) ?_
      refine AllReadyH.cons rfl (fun K hK => ?_) AllReadyH.nil
      go_simp
      refine (SZ.out _ hs0 hs1).mono ?_
      rintro e w9 ⟨rfl, rfl⟩
      go_simp
      refine hK.out _ _ ?_ (fun hN => ?_)
      · first | exact hT | exact hS | exact hS.alloc hS.size _ | exact hS.drew
      clear hK K
      try clear hT
      clear hS
      have hS := hN
      clear hN
      refine wpAnyH_take (i := 3) (v := ?_) rfl (by kernel_rfl) (by kernel_rfl) (by kernel_rfl) (fun _ _ _ h => h) (Or.inl ⟨by kernel_rfl, ?_⟩) hS ?_
      rotate_left
      · intro W hW; go_simp; try with_reducible rfl
      refine wpAnyH_take (i := 4) (v := ?_) rfl (by kernel_rfl) (by kernel_rfl) (by kernel_rfl) (fun _ _ _ h => h) (Or.inl ⟨by kernel_rfl, ?_⟩) hS ?_
      rotate_left
      · intro W hW; go_simp; try with_reducible rfl
      refine wpAnyH_take (i := 5) (v := ?_) rfl (by kernel_rfl) (by kernel_rfl) (by kernel_rfl) (fun _ _ _ h => h) (Or.inl ⟨by kernel_rfl, ?_⟩) hS ?_
      rotate_left
      · intro W hW; obtain ⟨p0, p1, p2, p3⟩ := D1.out W hW; obtain ⟨q0, q1, q2, q3⟩ := D2.out W hW; go_simp; try with_reducible rfl
      refine wpAnyH_take (i := 6) (v := ?_) rfl (by kernel_rfl) (by kernel_rfl) (by kernel_rfl) (fun _ _ _ h => h) (Or.inl ⟨by kernel_rfl, ?_⟩) hS ?_
      rotate_left
      · intro W hW; obtain ⟨p0, p1, p2, p3⟩ := D1.out W hW; obtain ⟨q0, q1, q2, q3⟩ := D2.out W hW; go_simp; try with_reducible rfl
      refine wpAnyH_take (i := 8) (v := ?_) rfl (by kernel_rfl) (by kernel_rfl) (by kernel_rfl) (fun _ _ _ h => h) (Or.inl ⟨by kernel_rfl, ?_⟩) hS ?_
      rotate_left
      · intro W hW; obtain ⟨p0, p1, p2, p3⟩ := D1.out W hW; obtain ⟨q0, q1, q2, q3⟩ := D2.out W hW; go_simp; try with_reducible rfl
      refine wpAnyH_take (i := 9) (v := ?_) rfl (by kernel_rfl) (by kernel_rfl) (by kernel_rfl) (fun _ _ _ h => h) (Or.inl ⟨by kernel_rfl, ?_⟩) hS ?_
      rotate_left
      · intro W hW; obtain ⟨p0, p1, p2, p3⟩ := D1.out W hW; obtain ⟨q0, q1, q2, q3⟩ := D2.out W hW; go_simp; try with_reducible rfl
      refine wpAnyH_ready (rs := [7]) (by kernel_rfl) (by simp) ?_
      refine AllReadyH.cons rfl (fun K hK => ?_) AllReadyH.nil
      go_simp
      refine (HNS.out _ hS).mono ?_
      rintro e w10 ⟨rfl, B10⟩
      have hT := hS.trans (B10.mono hS.size)
      go_simp
      refine hK.out _ _ ?_ (fun hN => ?_)
      · first | exact hT | exact hS | exact hS.alloc hS.size _ | exact hS.drew
      clear hK K
      try clear hT
      clear hS
      have hS := hN
      clear hN
      refine wpAnyH_ready (rs := [10]) (by kernel_rfl) (by simp) ?_
      refine AllReadyH.cons rfl (fun K hK => ?_) AllReadyH.nil
      go_simp
      refine (HRS.out _ hS).mono ?_
      rintro e w11 ⟨rfl, B11⟩
      have hT := hS.trans (B11.mono hS.size)
      go_simp
      refine hK.out _ _ ?_ (fun hN => ?_)
      · first | exact hT | exact hS | exact hS.alloc hS.size _ | exact hS.drew
      clear hK K
      try clear hT
      clear hS
      have hS := hN
      clear hN
      refine wpAnyH_take (i := 11) (v := ?_) rfl (by kernel_rfl) (by kernel_rfl) (by kernel_rfl) (fun _ _ _ h => h) (Or.inl ⟨by kernel_rfl, ?_⟩) hS ?_
      rotate_left
      · intro W hW; go_simp; try with_reducible rfl
      refine wpAnyH_take (i := 12) (v := ?_) rfl (by kernel_rfl) (by kernel_rfl) (by kernel_rfl) (fun _ _ _ h => h) (Or.inl ⟨by kernel_rfl, ?_⟩) hS ?_
      rotate_left
      · intro W hW; go_simp; try with_reducible rfl
      refine wpAnyH_take (i := 13) (v := ?_) rfl (by kernel_rfl) (by kernel_rfl) (by kernel_rfl) (fun _ _ _ h => h) (Or.inl ⟨by kernel_rfl, ?_⟩) hS ?_
      rotate_left
      · intro W hW; go_simp; try with_reducible rfl
      refine wpAnyH_done (by kernel_rfl) ?_ _
      go_wp2_with fail
      go_ret
      exact ⟨ret_bool (by cases sm <;> rfl), BW.out _ (BX.trans (hS.mono BX.size))⟩
    · rcases Int.lt_or_le 4096 sz with hy | hy
      · have hz' : decide (0 ≤ sz) = true := by rw [decide_eq_true_eq]; omega
        have hy' : decide (sz ≤ 4096) = false := by rw [decide_eq_false_iff_not]; omega
        have SZ := Lib.hid (size_any sz)
        rw [show sizev sz = 0 from if_neg (by omega)] at SZ
        clear hpv
        go_wp2_with fail
        refine wp_region_held_drew (S := fun W => Below WX.heap.size WX W) (by kernel_rfl) ((Below.refl _ _).drew) (fun hS => ?_)
        refine wpAnyH_take (i := 0) (v := ?_) rfl (by kernel_rfl) (by kernel_rfl) (by kernel_rfl) (fun _ _ _ h => h) (Or.inl ⟨by kernel_rfl, ?_⟩) hS ?_
        rotate_left
        · intro W hW; go_simp; try with_reducible rfl
        refine wpAnyH_take (i := 2) (v := ?_) rfl (by kernel_rfl) (by kernel_rfl) (by kernel_rfl) (fun _ _ _ h => h) (Or.inl ⟨by kernel_rfl, ?_⟩) hS ?_
        rotate_left
        · intro W hW; go_simp; try with_reducible rfl
        refine wpAnyH_ready (rs := [1]) (by kernel_rfl) (by simp) ?_
        refine AllReadyH.cons rfl (fun K hK => ?_) AllReadyH.nil
        go_simp
        refine (SZ.out _ hs0 hs1).mono ?_
        rintro e w9 ⟨rfl, rfl⟩
        go_simp
        refine hK.out _ _ ?_ (fun hN => ?_)
        · first | exact hT | exact hS | exact hS.alloc hS.size _ | exact hS.drew
        clear hK K
        try clear hT
        clear hS
        have hS := hN
        clear hN
        refine wpAnyH_take (i := 3) (v := ?_) rfl (by kernel_rfl) (by kernel_rfl) (by kernel_rfl) (fun _ _ _ h => h) (Or.inl ⟨by kernel_rfl, ?_⟩) hS ?_
        rotate_left
        · intro W hW; go_simp; try with_reducible rfl
        refine wpAnyH_take (i := 4) (v := ?_) rfl (by kernel_rfl) (by kernel_rfl) (by kernel_rfl) (fun _ _ _ h => h) (Or.inl ⟨by kernel_rfl, ?_⟩) hS ?_
        rotate_left
        · intro W hW; go_simp; try with_reducible rfl
        refine wpAnyH_take (i := 5) (v := ?_) rfl (by kernel_rfl) (by kernel_rfl) (by kernel_rfl) (fun _ _ _ h => h) (Or.inl ⟨by kernel_rfl, ?_⟩) hS ?_
        rotate_left
        · intro W hW; obtain ⟨p0, p1, p2, p3⟩ := D1.out W hW; obtain ⟨q0, q1, q2, q3⟩ := D2.out W hW; go_simp; try with_reducible rfl
        refine wpAnyH_take (i := 6) (v := ?_) rfl (by kernel_rfl) (by kernel_rfl) (by kernel_rfl) (fun _ _ _ h => h) (Or.inl ⟨by kernel_rfl, ?_⟩) hS ?_
        rotate_left
        · intro W hW; obtain ⟨p0, p1, p2, p3⟩ := D1.out W hW; obtain ⟨q0, q1, q2, q3⟩ := D2.out W hW; go_simp; try with_reducible rfl
        refine wpAnyH_take (i := 8) (v := ?_) rfl (by kernel_rfl) (by kernel_rfl) (by kernel_rfl) (fun _ _ _ h => h) (Or.inl ⟨by kernel_rfl, ?_⟩) hS ?_
        rotate_left
        · intro W hW; obtain ⟨p0, p1, p2, p3⟩ := D1.out W hW; obtain ⟨q0, q1, q2, q3⟩ := D2.out W hW; go_simp; try with_reducible rfl
        refine wpAnyH_take (i := 9) (v := ?_) rfl (by kernel_rfl) (by kernel_rfl) (by kernel_rfl) (fun _ _ _ h => h) (Or.inl ⟨by kernel_rfl, ?_⟩) hS ?_
        rotate_left
        · intro W hW; obtain ⟨p0, p1, p2, p3⟩ := D1.out W hW; obtain ⟨q0, q1, q2, q3⟩ := D2.out W hW; go_simp; try with_reducible rfl
        refine wpAnyH_ready (rs := [7]) (by kernel_rfl) (by simp) ?_
        refine AllReadyH.cons rfl (fun K hK => ?_) AllReadyH.nil
        go_simp
        refine (HNS.out _ hS).mono ?_
        rintro e w10 ⟨rfl, B10⟩
        have hT := hS.trans (B10.mono hS.size)
        go_simp
        refine hK.out _ _ ?_ (fun hN => ?_)
        · first | exact hT | exact hS | exact hS.alloc hS.size _ | exact hS.drew
        clear hK K
        try clear hT
        clear hS
        have hS := hN
        clear hN
        refine wpAnyH_ready (rs := [10]) (by kernel_rfl) (by simp) ?_
        refine AllReadyH.cons rfl (fun K hK => ?_) AllReadyH.nil
        go_simp
        refine (HRS.out _ hS).mono ?_
        rintro e w11 ⟨rfl, B11⟩
        have hT := hS.trans (B11.mono hS.size)
        go_simp
        refine hK.out _ _ ?_ (fun hN => ?_)
        · first | exact hT | exact hS | exact hS.alloc hS.size _ | exact hS.drew
        clear hK K
        try clear hT
        clear hS
        have hS := hN
        clear hN
        refine wpAnyH_take (i := 11) (v := ?_) rfl (by kernel_rfl) (by kernel_rfl) (by kernel_rfl) (fun _ _ _ h => h) (Or.inl ⟨by kernel_rfl, ?_⟩) hS ?_
        rotate_left
        · intro W hW; go_simp; try with_reducible rfl
        refine wpAnyH_take (i := 12) (v := ?_) rfl (by kernel_rfl) (by kernel_rfl) (by kernel_rfl) (fun _ _ _ h => h) (Or.inl ⟨by kernel_rfl, ?_⟩) hS ?_
        rotate_left
        · intro W hW; go_simp; try with_reducible rfl
        refine wpAnyH_take (i := 13) (v := ?_) rfl (by kernel_rfl) (by kernel_rfl) (by kernel_rfl) (fun _ _ _ h => h) (Or.inl ⟨by kernel_rfl, ?_⟩) hS ?_
        rotate_left
        · intro W hW; go_simp; try with_reducible rfl
        refine wpAnyH_done (by kernel_rfl) ?_ _
        go_wp2_with fail
        go_ret
        exact ⟨ret_bool (by cases sm <;> rfl), BW.out _ (BX.trans (hS.mono BX.size))⟩
      · have hz' : decide (0 ≤ sz) = true := by rw [decide_eq_true_eq]; omega
        have hy' : decide (sz ≤ 4096) = true := by rw [decide_eq_true_eq]; omega
        obtain ⟨hp0, hp1⟩ := hpv hz hy
        have SZ := Lib.hid (size_any sz)
        rw [show sizev sz = 32 + sz + padv sz from if_pos ⟨hz, hy⟩] at SZ
        clear hpv
        go_wp2_with fail
        refine (refpad_any sz _ hs0 hs1).mono ?_
        rintro e w9 ⟨rfl, rfl⟩
        go_wp2_with fail
        refine wp_region_held_drew (S := fun W => Below WX.heap.size WX W) (by kernel_rfl) ((Below.refl _ _).drew) (fun hS => ?_)
        refine wpAnyH_take (i := 0) (v := ?_) rfl (by kernel_rfl) (by kernel_rfl) (by kernel_rfl) (fun _ _ _ h => h) (Or.inl ⟨by kernel_rfl, ?_⟩) hS ?_
        rotate_left
        · intro W hW; go_simp; try with_reducible rfl
        refine wpAnyH_take (i := 2) (v := ?_) rfl (by kernel_rfl) (by kernel_rfl) (by kernel_rfl) (fun _ _ _ h => h) (Or.inl ⟨by kernel_rfl, ?_⟩) hS ?_
        rotate_left
        · intro W hW; go_simp; try with_reducible rfl
        refine wpAnyH_ready (rs := [1]) (by kernel_rfl) (by simp) ?_
        refine AllReadyH.cons rfl (fun K hK => ?_) AllReadyH.nil
        go_simp
        refine (SZ.out _ hs0 hs1).mono ?_
        rintro e w9 ⟨rfl, rfl⟩
        go_simp
        refine hK.out _ _ ?_ (fun hN => ?_)
        · first | exact hT | exact hS | exact hS.alloc hS.size _ | exact hS.drew
        clear hK K
        try clear hT
        clear hS
        have hS := hN
        clear hN
        refine wpAnyH_take (i := 3) (v := ?_) rfl (by kernel_rfl) (by kernel_rfl) (by kernel_rfl) (fun _ _ _ h => h) (Or.inl ⟨by kernel_rfl, ?_⟩) hS ?_
        rotate_left
        · intro W hW; go_simp; try with_reducible rfl
        refine wpAnyH_take (i := 4) (v := ?_) rfl (by kernel_rfl) (by kernel_rfl) (by kernel_rfl) (fun _ _ _ h => h) (Or.inl ⟨by kernel_rfl, ?_⟩) hS ?_
        rotate_left
        · intro W hW; go_simp; try with_reducible rfl
        refine wpAnyH_take (i := 5) (v := ?_) rfl (by kernel_rfl) (by kernel_rfl) (by kernel_rfl) (fun _ _ _ h => h) (Or.inl ⟨by kernel_rfl, ?_⟩) hS ?_
        rotate_left
        · intro W hW; obtain ⟨p0, p1, p2, p3⟩ := D1.out W hW; obtain ⟨q0, q1, q2, q3⟩ := D2.out W hW; go_simp; try with_reducible rfl
        refine wpAnyH_take (i := 6) (v := ?_) rfl (by kernel_rfl) (by kernel_rfl) (by kernel_rfl) (fun _ _ _ h => h) (Or.inl ⟨by kernel_rfl, ?_⟩) hS ?_
        rotate_left
        · intro W hW; obtain ⟨p0, p1, p2, p3⟩ := D1.out W hW; obtain ⟨q0, q1, q2, q3⟩ := D2.out W hW; go_simp; try with_reducible rfl
        refine wpAnyH_take (i := 8) (v := ?_) rfl (by kernel_rfl) (by kernel_rfl) (by kernel_rfl) (fun _ _ _ h => h) (Or.inl ⟨by kernel_rfl, ?_⟩) hS ?_
        rotate_left
        · intro W hW; obtain ⟨p0, p1, p2, p3⟩ := D1.out W hW; obtain ⟨q0, q1, q2, q3⟩ := D2.out W hW; go_simp; try with_reducible rfl
        refine wpAnyH_take (i := 9) (v := ?_) rfl (by kernel_rfl) (by kernel_rfl) (by kernel_rfl) (fun _ _ _ h => h) (Or.inl ⟨by kernel_rfl, ?_⟩) hS ?_
        rotate_left
        · intro W hW; obtain ⟨p0, p1, p2, p3⟩ := D1.out W hW; obtain ⟨q0, q1, q2, q3⟩ := D2.out W hW; go_simp; try with_reducible rfl
        refine wpAnyH_ready (rs := [7]) (by kernel_rfl) (by simp) ?_
        refine AllReadyH.cons rfl (fun K hK => ?_) AllReadyH.nil
        go_simp
        refine (HNS.out _ hS).mono ?_
        rintro e w10 ⟨rfl, B10⟩
        have hT := hS.trans (B10.mono hS.size)
        go_simp
        refine hK.out _ _ ?_ (fun hN => ?_)
        · first | exact hT | exact hS | exact hS.alloc hS.size _ | exact hS.drew
        clear hK K
        try clear hT
        clear hS
        have hS := hN
        clear hN
        refine wpAnyH_ready (rs := [10]) (by kernel_rfl) (by simp) ?_
        refine AllReadyH.cons rfl (fun K hK => ?_) AllReadyH.nil
        go_simp
        refine (HRS.out _ hS).mono ?_
        rintro e w11 ⟨rfl, B11⟩
        have hT := hS.trans (B11.mono hS.size)
        go_simp
        refine hK.out _ _ ?_ (fun hN => ?_)
        · first | exact hT | exact hS | exact hS.alloc hS.size _ | exact hS.drew
        clear hK K
        try clear hT
        clear hS
        have hS := hN
        clear hN
        refine wpAnyH_take (i := 11) (v := ?_) rfl (by kernel_rfl) (by kernel_rfl) (by kernel_rfl) (fun _ _ _ h => h) (Or.inl ⟨by kernel_rfl, ?_⟩) hS ?_
        rotate_left
        · intro W hW; go_simp; try with_reducible rfl
        refine wpAnyH_take (i := 12) (v := ?_) rfl (by kernel_rfl) (by kernel_rfl) (by kernel_rfl) (fun _ _ _ h => h) (Or.inl ⟨by kernel_rfl, ?_⟩) hS ?_
        rotate_left
        · intro W hW; go_simp; try with_reducible rfl
        refine wpAnyH_take (i := 13) (v := ?_) rfl (by kernel_rfl) (by kernel_rfl) (by kernel_rfl) (fun _ _ _ h => h) (Or.inl ⟨by kernel_rfl, ?_⟩) hS ?_
        rotate_left
        · intro W hW; go_simp; try with_reducible rfl
        refine wpAnyH_done (by kernel_rfl) ?_ _
        go_wp2_with fail
        go_ret
        exact ⟨ret_bool (by cases sm <;> rfl), BW.out _ (BX.trans (hS.mono BX.size))⟩

end Go.Proofs.Ytkmifimdjdjdpaa
