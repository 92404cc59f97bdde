/-
  needle.Put: the bytes of a needle.
-/
import Derived.Test.YtpkfjnhjcdcoaaaNdl
import Derived.Deep.RegionHeld3
namespace Go.Proofs.Ytpkfjnhjcdcoaaa
open Go.RowKit

set_option maxRecDepth 100000 in
set_option maxHeartbeats 2000000 in
theorem nput_bad (key ck : Nat) (g : Bool) (a : Option Addr) (n c : Nat) (w : World) (hn : n ≤ 9223372036854775807) (hbad : chk g n ≠ 0) :
    Calls Try.prog 47 #[.agg #[.int .u64 key, .int .u32 ck, .bool g, .slice a n c]] w fun e w' => e = .returned (.tuple #[.slice none 0 0, errc (chk g n)]) ∧ Below w.heap.size w w' := by
  have BA := (Below.refl w.heap.size w).alloc (Nat.le_refl _) (.cells #[.int .u64 key, .int .u32 ck, .bool g, .slice a n c] 27)
  have CK := Lib.hid fun (W : World) => needle_check key ck g a n c W hn
  have h12 : chk g n = 1 ∨ chk g n = 2 := by unfold chk at hbad ⊢; split <;> (try split) <;> simp_all
  have HB := Lib.hid BA
  rcases h12 with h12 | h12
  all_goals
    have HC := Lib.hid h12
    rw [h12] at CK ⊢
    clear h12 hbad BA
    go_enter Try.func47, Try.ntmps47
    go_wp2_with fail
    refine (CK.out _).mono ?_
    rintro e w1 ⟨rfl, B1⟩
    unfold errc er
    go_wp2_with fail
    go_ret2
    exact ⟨rfl, HB.out.trans (B1.mono HB.out.size)⟩

set_option maxRecDepth 100000 in
set_option maxHeartbeats 2000000 in
theorem nput_ok (key ck : Nat) (g : Bool) (a : Option Addr) (n c : Nat) (l : List (BitVec 8)) (w : World) (h : BSl w w.heap.size a n l) (hk : key < 18446744073709551616) (hck : ck < 4294967296) (hok : chk g n = 0) :
    Calls Try.prog 47 #[.agg #[.int .u64 key, .int .u32 ck, .bool g, .slice a n c]] w fun e w' => ∃ b cap, e = .returned (.tuple #[.slice (some ⟨b, 0, none⟩) (32 + n + padn n) cap, errc 0]) ∧
      w'.ownsRow w.heap.size 5 1 (.slice (some ⟨b, 0, none⟩) (32 + n + padn n) cap) (32 + n + padn n) ((ndBytes key ck g l).map bv) ∧ Below w.heap.size w w' := by
  have hn := (chk_ok hok).1
  have hK := Blk.made w 27 #[.int .u64 key, .int .u32 ck, .bool g, .slice a n c]
  have BA := (Below.refl w.heap.size w).alloc (Nat.le_refl _) (.cells #[.int .u64 key, .int .u32 ck, .bool g, .slice a n c] 27)
  have hlt := hK.lt
  have hlen := h.1
  have CK := Lib.hid fun (W : World) => needle_check key ck g a n c W (by omega)
  rw [hok] at CK
  have HD := Lib.hid fun (W : World) => head_any key ck g a n c W hk hck (by omega)
  have HL := Lib.hid fun (W : World) (B : Below w.heap.size w W) => (h.below B).more B.size
  have H0 := Lib.hid (bsl_nil0 h)
  have HN := Lib.hid hlen
  clear hlen
  go_enter Try.func47, Try.ntmps47
  go_wp2_with fail
  refine (CK.out _).mono ?_
  rintro e w1 ⟨rfl, B1⟩
  have hK1 := Lib.hid (hK.below B1 hlt)
  have B1 := BA.trans (B1.mono BA.size)
  obtain ⟨k0, k1, k2, k3⟩ := hK1.out.four
  unfold errc
  go_wp2_with fail
  refine (HD.out _).mono ?_
  rintro e w2 ⟨b2, c2, rfl, ho2, B2⟩
  have hK2 := Lib.hid (hK1.out.below B2 (hK1.out.lt))
  have B2 := B1.trans (B2.mono B1.size)
  have hz2 := (ho2.lt b2 rfl)
  have hs12 := B1.size
  clear k0 k1 k2 k3 B1 hK1
  have O1 := Lib.hid fun (W : World) (B : Below w2.heap.size w2 W) => of_any (some ⟨b2, 0, none⟩) 24 c2 _ W (bsl_own (own_below ho2 B (Nat.le_refl _))) (by decide)
  have O2 := Lib.hid fun (W : World) (B : Below w2.heap.size w2 W) => more_any (Crc.of (ndHead key ck g n)) a n c l W (HL.out W (B2.trans (B.mono B2.size))) (by omega)
  have e1 : (Crc.more (Crc.of (ndHead key ck g n)) l).toNat = ndSum key ck g l := by
    unfold ndSum
    rw [HN.out]
    exact congrArg BitVec.toNat (Crc.more_append 0#32 _ _)
  rw [e1] at O2
  have hsum : ndSum key ck g l < 4294967296 := (Crc.of _).isLt
  have HSB := Lib.hid (show ndBytes key ck g l = ndHead key ck g n ++ Num.le (ndSum key ck g l) 4 ++ zs 4 ++ l ++ zs (padn n) from by unfold ndBytes; rw [HN.out])
  generalize ndSum key ck g l = s at *
  have O3 := Lib.hid fun (W : World) (B : Below w2.heap.size w2 W) => put_ok (some ⟨b2, 0, none⟩) 24 c2 _ s 4 W (bsl_own (own_below ho2 B (Nat.le_refl _))) (by decide) (fun e => by cases e) rfl (by omega)
  have HW := Lib.hid (show IntKind.u64.wrap (s : Int) = s from IntWalk.u64_in _ (by omega))
  have hx := (Crc.of (ndHead key ck g n)).isLt
  generalize (Crc.of (ndHead key ck g n)).toNat = x at *
  have HC := Lib.hid fun (W : World) (B : Below w2.heap.size w2 W) => (hK2.out.below B hK2.out.lt).four
  have HB2 := Lib.hid B2
  clear e1 B2 ho2
  go_wp2_with fail
  go_cut [5] (fun v wx => ∃ b4 c4, v = .slice (some ⟨b4, 0, none⟩) 28 c4 ∧ wx.ownsRow w2.heap.size 5 1 (.slice (some ⟨b4, 0, none⟩) 28 c4) 28 ((ndHead key ck g n ++ Num.le s 4).map bv) ∧ Below w2.heap.size w2 wx)
  case first =>
    refine wp_region_held_drew (S := fun W => Below w2.heap.size w2 W) (by kernel_rfl) ((Below.refl _ _).drew) (fun hS => ?_)
    refine wpAnyH_take (i := 0) (v := ?_) rfl (by kernel_rfl) (by kernel_rfl) (by kernel_rfl) (fun _ _ _ h => h) (Or.inl ⟨by kernel_rfl, ?_⟩) hS ?_
    rotate_left
    · intro W hW; go_simp; try with_reducible rfl
    refine wpAnyH_take (i := 1) (v := ?_) rfl (by kernel_rfl) (by kernel_rfl) (by kernel_rfl) (fun _ _ _ h => h) (Or.inl ⟨by kernel_rfl, ?_⟩) hS ?_
    rotate_left
    · intro W hW; go_simp; try with_reducible rfl
    refine wpAnyH_take (i := 3) (v := ?_) rfl (by kernel_rfl) (by kernel_rfl) (by kernel_rfl) (fun _ _ _ h => h) (Or.inl ⟨by kernel_rfl, ?_⟩) hS ?_
    rotate_left
    · intro W hW; go_simp; try with_reducible rfl
    refine wpAnyH_take (i := 4) (v := ?_) rfl (by kernel_rfl) (by kernel_rfl) (by kernel_rfl) (fun _ _ _ h => h) (Or.inl ⟨by kernel_rfl, ?_⟩) hS ?_
    rotate_left
    · intro W hW; obtain ⟨k0, k1, k2, k3⟩ := HC.out W hW; go_simp; try with_reducible rfl
    refine wpAnyH_ready (rs := [2]) (by kernel_rfl) (by simp) ?_
    refine AllReadyH.cons (i := 2) rfl ?_ AllReadyH.nil
    intro K hK
    go_simp
    refine (O1.out _ hS).mono ?_
    rintro e w3 ⟨rfl, B3⟩
    have hT := hS.trans (B3.mono hS.size)
    go_simp
    refine hK.out _ _ ?_ (fun hN => ?_)
    · first | exact hT | exact hS | exact hS.alloc hS.size _ | exact hS.drew
    clear hK K
    try clear hT
    clear hS
    have hS := hN
    clear hN
    refine wpAnyH_ready (rs := [5]) (by kernel_rfl) (by simp) ?_
    refine AllReadyH.cons (i := 5) rfl ?_ AllReadyH.nil
    intro K hK
    go_simp
    refine (O2.out _ hS).mono ?_
    rintro e w4 ⟨rfl, B4⟩
    have hT := hS.trans (B4.mono hS.size)
    go_simp
    refine hK.out _ _ ?_ (fun hN => ?_)
    · first | exact hT | exact hS | exact hS.alloc hS.size _ | exact hS.drew
    clear hK K
    try clear hT
    clear hS
    have hS := hN
    clear hN
    refine wpAnyH_take (i := 6) (v := ?_) rfl (by kernel_rfl) (by kernel_rfl) (by kernel_rfl) (fun _ _ _ h => h) (Or.inl ⟨by kernel_rfl, ?_⟩) hS ?_
    rotate_left
    · intro W hW; go_simp; rw [HW.out]; try with_reducible rfl
    refine wpAnyH_ready (rs := [7]) (by kernel_rfl) (by simp) ?_
    refine AllReadyH.cons (i := 7) rfl ?_ AllReadyH.nil
    intro K hK
    go_simp
    have hz4 := hS.size
    refine (O3.out _ hS).mono ?_
    rintro e w5 ⟨b5, c5, rfl, ho5, B5⟩
    have hT := hS.trans (B5.mono hS.size)
    go_simp
    refine hK.out _ _ ?_ (fun hN => ?_)
    · first | exact hT | exact hS | exact hS.alloc hS.size _ | exact hS.drew
    clear hK K
    try clear hT
    clear hS
    have hS := hN
    clear hN
    refine wpAnyH_take (i := 8) (v := ?_) rfl (by kernel_rfl) (by kernel_rfl) (by kernel_rfl) (fun _ _ _ h => h) (Or.inl ⟨by kernel_rfl, ?_⟩) hS ?_
    rotate_left
    · intro W hW; go_simp; try with_reducible rfl
    refine wpAnyH_take (i := 9) (v := ?_) rfl (by kernel_rfl) (by kernel_rfl) (by kernel_rfl) (fun _ _ _ h => h) (Or.inl ⟨by kernel_rfl, ?_⟩) hS ?_
    rotate_left
    · intro W hW; go_simp; try with_reducible rfl
    refine wpAnyH_take (i := 10) (v := ?_) rfl (by kernel_rfl) (by kernel_rfl) (by kernel_rfl) (fun _ _ _ h => h) (Or.inl ⟨by kernel_rfl, ?_⟩) hS ?_
    rotate_left
    · intro W hW; go_simp; try with_reducible rfl
    refine wpAnyH_take (i := 11) (v := ?_) rfl (by kernel_rfl) (by kernel_rfl) (by kernel_rfl) (fun _ _ _ h => h) (Or.inl ⟨by kernel_rfl, ?_⟩) hS ?_
    rotate_left
    · intro W hW; go_simp; try with_reducible rfl
    refine wpAnyH_done (by kernel_rfl) ?_ _
    go_wp2_with fail
    go_meet
    exact ⟨b5, c5, rfl, own_more ho5 hz4, hS⟩
  case rest =>
    obtain ⟨b4, c4, rfl, ho4, B4⟩ := hcut
    have HB4 := Lib.hid B4
    obtain ⟨k0, k1, k2, k3⟩ := HC.out wc B4
    obtain ⟨b6, c6, W6, hr6, ho6, hg6, -⟩ := append_zeros ho4 4 (by omega) B4.size
    have B6 : Below w2.heap.size w2 W6 := B4.grown hg6 B4.size (fun k e => by injection e with e; have := (ho4.lt b4 rfl).1; omega)
    obtain ⟨b7, c7, W7, hr7, ho7, hg7, -⟩ := append_bytes ho6 c (HL.out W6 (HB2.out.trans (B6.mono HB2.out.size))) H0.out (by omega) B6.size
    have B7 : Below w2.heap.size w2 W7 := B6.grown hg7 B6.size (fun k e => by injection e with e; have := (ho6.lt b6 rfl).1; omega)
    obtain ⟨b8, c8, W8, hr8, ho8, hg8, -⟩ := append_zeros ho7 (padn n) (by unfold padn; omega) B7.size
    have B8 : Below w2.heap.size w2 W8 := B7.grown hg8 B7.size (fun k e => by injection e with e; have := (ho7.lt b7 rfl).1; omega)
    obtain ⟨k60, k61, k62, k63⟩ := HC.out W6 B6
    have HO := Lib.hid (own_more ho8 HB2.out.size)
    have HB8 := Lib.hid (HB2.out.trans (B8.mono HB2.out.size))
    clear B4 ho4 ho6 ho7 ho8 hg6 hg7 hg8 B6 B7 B8
    have hpv : padv (32 + (n : Int)) = ((padn n : Nat) : Int) := by unfold padv padn; rw [if_neg (by omega)]; omega
    have HP := Lib.hid hpv
    clear hpv
    go_wp2_with (first
      | (at_builtin; refine list_run2 (by rfl) _ _ rfl rfl rfl hr6 ?_; clear hr6)
      | (at_builtin; refine list_run (by rfl) _ _ rfl rfl rfl hr7 ?_; clear hr7))
    refine (pad_any _ _ (by omega) (by omega)).mono ?_
    rintro e w9 ⟨rfl, rfl⟩
    rw [HP.out]
    go_wp2_with (at_builtin; refine list_run2 (by rfl) _ _ rfl rfl rfl hr8 ?_; clear hr8)
    go_ret2
    refine ⟨b8, c8, rfl, ?_, HB8.out⟩
    rw [HSB.out]
    have h8 := HO.out
    rw [← zs_bv, ← zs_bv, ← List.map_append, ← List.map_append, ← List.map_append] at h8
    exact h8

end Go.Proofs.Ytpkfjnhjcdcoaaa
