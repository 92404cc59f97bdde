/-
  The document's bytes of a needle.
-/
import Derived.Test.YtkmifimdjdjdpaaNdlAlive
import Derived.Test.YtkmifimdjdjdpaaElem
import Derived.Deep.RegionHeld3
namespace Go.Proofs.Ytkmifimdjdjdpaa
open Go.RowKit

/-- One byte laid and appended, as the loop does it. -/
theorem append_byte {W : World} {base g k cap : Nat} {l : List (BitVec 8)} (hown : W.ownsRow base 5 1 (.slice (some ⟨g, 0, none⟩) k cap) k (l.map bv)) (hk : k ≤ 1099511627776) (hbase : base ≤ W.heap.size) :
    ∃ g2 cap2 W2, (Builtin.append_ #[22, 22] 22 #[.slice (some ⟨g, 0, none⟩) k cap, .slice (some ⟨W.heap.size, 0, none⟩) 1 1]).run Try.prog (W.alloc (.cells #[.int .u8 0] 5)) = .ok (.slice (some ⟨g2, 0, none⟩) (k + 1) cap2) W2 ∧
      W2.ownsRow base 5 1 (.slice (some ⟨g2, 0, none⟩) (k + 1) cap2) (k + 1) ((l ++ zs 1).map bv) ∧ W.grownBy W2 (some g) := by
  obtain ⟨i0, hi, hz0, hz1, hz2⟩ := info_parts info_u8
  obtain ⟨g2, cap2, W2, h1, h2, h3, -, -⟩ := append_elem (P := Try.prog) Try.underlying22 hi hz0 hz1 hz2 rfl (by decide) hown [.int .u8 0] rfl (fun u hu => by obtain rfl := List.mem_singleton.1 hu; rfl) (by omega) (by unfold maxLen; omega) hbase
  refine ⟨g2, cap2, W2, h1, ?_, h3⟩
  rw [List.map_append]
  exact h2

set_option maxRecDepth 100000 in
set_option maxHeartbeats 4000000 in
theorem rput_any (key ck : Nat) (g : Bool) (a : Option Addr) (n c : Nat) (l : List (BitVec 8)) (w : World) (h : BSl w w.heap.size a n l) (hk : key < 18446744073709551616) (hck : ck < 4294967296) (hok : chk g n = 0) :
    Calls Try.prog 31 #[.agg #[.int .u64 key, .int .u32 ck, .bool g, .slice a n c]] w fun e w' => ∃ b cap, e = .returned (.slice (some ⟨b, 0, none⟩) (32 + n + padn n) cap) ∧
      w'.ownsRow w.heap.size 5 1 (.slice (some ⟨b, 0, none⟩) (32 + n + padn n) cap) (32 + n + padn n) ((ndBytes key ck g l).map bv) ∧ Below w.heap.size w w' := by
  have hn := (chk_ok hok).1
  obtain ⟨W0, hW0⟩ : ∃ W0, w.alloc (.cells #[.int .u64 key, .int .u32 ck, .bool g, .slice a n c] 32) = W0 := ⟨_, rfl⟩
  have hK : Blk W0 w.heap.size 32 #[.int .u64 key, .int .u32 ck, .bool g, .slice a n c] := by rw [← hW0]; exact Blk.made w _ _
  have BA : Below w.heap.size w W0 := by rw [← hW0]; exact (Below.refl _ _).alloc (Nat.le_refl _) _
  have HC := Lib.hid fun (W : World) (B : Below W0.heap.size W0 W) => (hK.below B hK.lt).four
  have HL := Lib.hid fun (W : World) (B : Below W0.heap.size W0 W) => (h.below (BA.trans (B.mono BA.size))).more (BA.trans (B.mono BA.size)).size
  have H0 := Lib.hid (bsl_nil0 h)
  have HN := Lib.hid h.1
  have HBA := Lib.hid BA
  have HB := Lib.hid (show ndBytes key ck g l = ndHead key ck g n ++ Num.le (ndSum key ck g l) 4 ++ zs 4 ++ l ++ zs (padn n) from by unfold ndBytes; rw [h.1])
  have HSM := Lib.hid (show ndSum key ck g l = (Crc.of (ndHead key ck g n ++ l)).toNat from by unfold ndSum; rw [h.1])
  have hp8 : padn n < 8 := by unfold padn; omega
  have hpm : (n + padn n) % 8 = 0 := by unfold padn; omega
  have hpj : ∀ j, j < padn n → (n + j) % 8 ≠ 0 := by intro j hj; unfold padn at hj; omega
  have hsum : ndSum key ck g l < 4294967296 := (Crc.of _).isLt
  generalize ndSum key ck g l = s at *
  generalize padn n = pn at *
  have HPJ := Lib.hid hpj
  have hc00 := HC.out W0 (Below.refl _ _)
  obtain ⟨c0, c1, c2, c3⟩ := hc00
  have hf2 : flagN g < 256 ^ 4 := flagN_lt g
  have HHD := Lib.hid (show ndHead key ck g n = Num.le 1313162572 4 ++ Num.le (flagN g) 4 ++ Num.le key 8 ++ Num.le ck 4 ++ Num.le n 4 from rfl)
  have hfl : flagN g = (if g then 1 else 0) := rfl
  generalize flagN g = f at *
  have B0 : Below W0.heap.size W0 W0 := Below.refl _ _
  clear h BA hK hpj
  have HF := Lib.hid fun W => num3_any f 4 W (by omega) (by decide) (by decide)
  cases g
  all_goals
    simp only [if_true, Bool.false_eq_true, if_false] at hfl
    subst hfl
    go_enter Try.func31, Try.ntmps31
    go_wp2_with fail
    clear hW0 c0 c1 c2 c3
    refine (num3_any 1313162572 4 W0 (by decide) (by decide) (by decide)).mono ?_
    rintro e W1 ⟨b1, rfl, ho1, B1⟩
    have B1 := B0.trans (B1.mono B0.size)
    go_wp2_with fail
    refine (HF.out W1).mono ?_
    rintro e W2 ⟨b2, rfl, ho2, B2⟩
    have ho1 := own_below ho1 B2 (Nat.le_refl _)
    have hbase := B1.size
    have B2 := B1.trans (B2.mono B1.size)
    obtain ⟨b3, cp3, W3, hr3, ho3, hg3, -⟩ := append_bytes ho1 4 (BSl.row ho2 _ rfl) (fun e => by cases e) (by omega) B2.size
    have B3 := B2.grown hg3 B2.size (fun q e => by injection e with e; have := (ho1.lt b1 rfl).1; omega)
    rw [← List.map_append] at ho3
    obtain ⟨c0, c1, c2, c3⟩ := HC.out W3 B3
    clear ho1 ho2 hg3 B1 B2
    go_wp2_with (at_builtin; refine list_run (by rfl) _ _ rfl rfl rfl hr3 ?_; clear hr3)
    refine (num3_any key 8 W3 (by omega) (by decide) (by decide)).mono ?_
    rintro e W4 ⟨b4, rfl, ho4, B4⟩
    have ho3 := own_below ho3 B4 (Nat.le_refl _)
    have B4 := B3.trans (B4.mono B3.size)
    obtain ⟨b5, cp5, W5, hr5, ho5, hg5, -⟩ := append_bytes ho3 8 (BSl.row ho4 _ rfl) (fun e => by cases e) (by omega) (by have := B4.size; omega)
    have B5 := B4.grown hg5 B4.size (fun q e => by injection e with e; have := (ho3.lt b3 rfl).1; omega)
    rw [← List.map_append] at ho5
    clear c0 c1 c2 c3 ho3 ho4 hg5 B3 B4
    obtain ⟨c0, c1, c2, c3⟩ := HC.out W5 B5
    go_wp2_with (at_builtin; refine list_run (by rfl) _ _ rfl rfl rfl hr5 ?_; clear hr5)
    refine (num3_any ck 4 W5 (by omega) (by decide) (by decide)).mono ?_
    rintro e W6 ⟨b6, rfl, ho6, B6⟩
    have ho5 := own_below ho5 B6 (Nat.le_refl _)
    have B6 := B5.trans (B6.mono B5.size)
    obtain ⟨b7, cp7, W7, hr7, ho7, hg7, -⟩ := append_bytes ho5 4 (BSl.row ho6 _ rfl) (fun e => by cases e) (by omega) (by have := B6.size; omega)
    have B7 := B6.grown hg7 B6.size (fun q e => by injection e with e; have := (ho5.lt b5 rfl).1; omega)
    rw [← List.map_append] at ho7
    clear c0 c1 c2 c3 ho5 ho6 hg7 B5 B6
    obtain ⟨c0, c1, c2, c3⟩ := HC.out W7 B7
    go_wp2_with (at_builtin; refine list_run (by rfl) _ _ rfl rfl rfl hr7 ?_; clear hr7)
    refine (num3_any n 4 W7 (by omega) (by decide) (by decide)).mono ?_
    rintro e W8 ⟨b8, rfl, ho8, B8⟩
    have ho7 := own_below ho7 B8 (Nat.le_refl _)
    have B8 := B7.trans (B8.mono B7.size)
    obtain ⟨b9, cp9, W9, hr9, ho9, hg9, -⟩ := append_bytes ho7 4 (BSl.row ho8 _ rfl) (fun e => by cases e) (by omega) (by have := B8.size; omega)
    have B9 := B8.grown hg9 B8.size (fun q e => by injection e with e; have := (ho7.lt b7 rfl).1; omega)
    rw [← List.map_append] at ho9
    clear c0 c1 c2 c3 ho7 ho8 hg9 B7 B8
    obtain ⟨c0, c1, c2, c3⟩ := HC.out W9 B9
    go_wp2_with (at_builtin; refine list_run (by rfl) _ _ rfl rfl rfl hr9 ?_; clear hr9)
    rw [← HHD.out] at ho9
    have HO9 := Lib.hid ho9
    have HB9 := Lib.hid B9
    have HW := Lib.hid (show IntKind.u64.wrap (s : Int) = s from IntWalk.u64_in _ (by omega))
    clear c0 c1 c2 c3 ho9 B9
    have HCC := Lib.hid fun (W : World) (B : Below W9.heap.size W9 W) => HC.out W (HB9.out.trans (B.mono HB9.out.size))
    refine wp_region_held_drew (S := fun W => Below W9.heap.size W9 W) (by kernel_rfl) ((Below.refl _ _).drew) (fun hS => ?_)
    refine wpAnyH_take (i := 1) (v := ?_) rfl (by kernel_rfl) (by kernel_rfl) (by kernel_rfl) (fun _ _ _ h => h) (Or.inl ⟨by kernel_rfl, ?_⟩) hS ?_
    rotate_left
    · intro W hW; go_simp; try with_reducible rfl
    refine wpAnyH_take (i := 3) (v := ?_) rfl (by kernel_rfl) (by kernel_rfl) (by kernel_rfl) (fun _ _ _ h => h) (Or.inl ⟨by kernel_rfl, ?_⟩) hS ?_
    rotate_left
    · intro W hW; go_simp; try with_reducible rfl
    refine wpAnyH_take (i := 4) (v := ?_) rfl (by kernel_rfl) (by kernel_rfl) (by kernel_rfl) (fun _ _ _ h => h) (Or.inl ⟨by kernel_rfl, ?_⟩) hS ?_
    rotate_left
    · intro W hW; obtain ⟨c0, c1, c2, c3⟩ := HCC.out W hW; go_simp; try with_reducible rfl
    refine wpAnyH_ready (rs := [0]) (by kernel_rfl) (by simp) ?_
    refine AllReadyH.cons rfl (fun K hK => ?_) AllReadyH.nil
    go_simp
    refine hK.out _ _ ?_ (fun hN => ?_)
    · first | exact hT | exact hS | exact hS.alloc hS.size _ | exact hS.drew
    clear hK K
    try clear hT
    clear hS
    have hS := hN
    clear hN
    refine wpAnyH_ready (rs := [2]) (by kernel_rfl) (by simp) ?_
    refine AllReadyH.cons rfl (fun K hK => ?_) AllReadyH.nil
    obtain ⟨g1, cap1, V1, hr1, ho1, hg1, -⟩ := append_bytes (World.ownsRow_made (base := W9.heap.size) W9.drew #[] 0 (Nat.le_refl _) (Nat.zero_le _) rfl) cp9 ((bsl_own HO9.out).below ((Below.refl _ W9).drew.alloc (Nat.le_refl _) _)) (fun e => by cases e) (by omega) (by simp)
    simp only [Nat.zero_add, List.nil_append] at hr1 ho1
    have hT : Below W9.heap.size W9 V1 := ((Below.refl _ W9).drew.alloc (Nat.le_refl _) _).grown hg1 (by simp) (fun k e => by injection e with e; have e : W9.heap.size = k := e; omega)
    refine step_run_g (by kernel_rfl) _ _ (by rfl) (by rfl) (by rfl) hr1 ?_
    clear hr1
    refine hK.out _ _ ?_ (fun hN => ?_)
    · first | exact hT | exact hS | exact hS.alloc hS.size _ | exact hS.drew
    clear hK K
    try clear hT
    clear hS
    have hS := hN
    clear hN
    refine wpAnyH_ready (rs := [5]) (by kernel_rfl) (by simp) ?_
    refine AllReadyH.cons rfl (fun K hK => ?_) AllReadyH.nil
    obtain ⟨g2, cap2, W10, hr2, ho2, hg2, -⟩ := append_bytes ho1 c (HL.out V1 (HB9.out.trans (hS.mono HB9.out.size))) H0.out (by omega) hS.size
    have hT : Below W9.heap.size W9 W10 := hS.grown hg2 hS.size (fun k e => by injection e with e; have := (ho1.lt g1 rfl).1; omega)
    rw [← List.map_append] at ho2
    refine step_run_g (by kernel_rfl) _ _ (by rfl) (by rfl) (by rfl) hr2 ?_
    clear hr2
    refine hK.out _ _ ?_ (fun hN => ?_)
    · first | exact hT | exact hS | exact hS.alloc hS.size _ | exact hS.drew
    clear hK K
    try clear hT
    clear hS
    have hS := hN
    clear hN
    refine wpAnyH_ready (rs := [6]) (by kernel_rfl) (by simp) ?_
    refine AllReadyH.cons rfl (fun K hK => ?_) AllReadyH.nil
    go_simp
    refine (of_ref (some ⟨g2, 0, none⟩) (24 + n) cap2 _ W10 (bsl_own ho2) (by omega)).mono ?_
    rintro e w11 ⟨rfl, rfl⟩
    rw [← HSM.out]
    go_simp
    refine hK.out _ _ ?_ (fun hN => ?_)
    · first | exact hT | exact hS | exact hS.alloc hS.size _ | exact hS.drew
    clear hK K
    try clear hT
    clear hS
    have hS := hN
    clear hN
    refine wpAnyH_take (i := 7) (v := ?_) rfl (by kernel_rfl) (by kernel_rfl) (by kernel_rfl) (fun _ _ _ h => h) (Or.inl ⟨by kernel_rfl, ?_⟩) hS ?_
    rotate_left
    · intro W hW; go_simp; try with_reducible rfl
    refine wpAnyH_done (by kernel_rfl) ?_ _
    have ho10 := own_below HO9.out hS (Nat.le_refl _)
    have B10 := HB9.out.trans (hS.mono HB9.out.size)
    clear ho1 ho2 hg1 hg2 hS HO9 HB9 HCC
    go_wp2_with fail
    refine (num3_any s 4 W10 (by omega) (by decide) (by decide)).mono ?_
    rintro e W11 ⟨b11, rfl, ho11, B11⟩
    have ho10 := own_below ho10 B11 (Nat.le_refl _)
    have B11 := B10.trans (B11.mono B10.size)
    obtain ⟨b12, cp12, W12, hr12, ho12, hg12, -⟩ := append_bytes ho10 4 (BSl.row ho11 _ rfl) (fun e => by cases e) (by omega) (by have := B11.size; omega)
    have B12 := B11.grown hg12 B11.size (fun q e => by injection e with e; have := (ho10.lt b9 rfl).1; omega)
    rw [← List.map_append] at ho12
    clear ho10 ho11 hg12 B10 B11
    have BZ : Below W12.heap.size W12 (W12.alloc (.cells #[.int .u8 0, .int .u8 0, .int .u8 0, .int .u8 0] 5)) := (Below.refl _ W12).alloc (Nat.le_refl _) _
    have BZ2 := B12.trans (BZ.mono B12.size)
    have hzb : BSl (W12.alloc (.cells #[.int .u8 0, .int .u8 0, .int .u8 0, .int .u8 0] 5)) (W12.alloc (.cells #[.int .u8 0, .int .u8 0, .int .u8 0, .int .u8 0] 5)).heap.size (some ⟨W12.heap.size, 0, none⟩) 4 (zs 4) := blk_bytes (zs 4) (Blk.made W12 5 #[.int .u8 0, .int .u8 0, .int .u8 0, .int .u8 0]) rfl (Blk.made W12 5 #[.int .u8 0, .int .u8 0, .int .u8 0, .int .u8 0]).lt rfl
    obtain ⟨b13, cp13, W13, hr13, ho13, hg13, -⟩ := append_bytes (ho12.alloc (.cells #[.int .u8 0, .int .u8 0, .int .u8 0, .int .u8 0] 5)) 4 hzb (fun e => by cases e) (by omega) (by have := BZ2.size; exact this)
    have B13 : Below W0.heap.size W0 W13 := BZ2.grown hg13 BZ2.size (fun q e => by injection e with e; have := (ho12.lt b12 rfl).1; omega)
    obtain ⟨c0, c1, c2, c3⟩ := HC.out W13 B13
    obtain ⟨b14, cp14, W14, hr14, ho14, hg14, -⟩ := append_bytes ho13 c (HL.out W13 B13) H0.out (by omega) B13.size
    have B14 : Below W0.heap.size W0 W14 := B13.grown hg14 B13.size (fun q e => by injection e with e; have := (ho13.lt b13 rfl).1; omega)
    rw [← List.map_append, ← List.map_append] at ho14
    have HO14 := Lib.hid ho14
    have HB14 := Lib.hid B14
    clear BZ BZ2 hzb ho12 ho13 hg13 ho14 hg14 B13 B14 B12
    go_wp2_with (first
      | (at_builtin; refine list_run (by rfl) _ _ rfl rfl rfl hr12 ?_; clear hr12)
      | (at_builtin; refine list_run (by rfl) _ _ rfl rfl rfl hr13 ?_; clear hr13)
      | (at_builtin; refine list_run (by rfl) _ _ rfl rfl rfl hr14 ?_; clear hr14))
    clear c0 c1 c2 c3
    go_loopw [4] (fun v wr => ∃ j b cap, j ≤ pn ∧ v = .slice (some ⟨b, 0, none⟩) (32 + n + j) cap ∧ wr.ownsRow w.heap.size 5 1 (.slice (some ⟨b, 0, none⟩) (32 + n + j) cap) (32 + n + j) ((ndHead key ck _ n ++ Num.le s 4 ++ zs 4 ++ l ++ zs j).map bv) ∧ Below w.heap.size w wr) (fun v _ => 8 - (match v with | .slice _ k _ => k - 32 - n | _ => 0))
    case atStart => exact ⟨0, b14, cp14, by omega, rfl, by have := own_more HO14.out (base' := w.heap.size) HBA.out.size; simpa [zs] using this, HBA.out.trans (HB14.out.mono HBA.out.size)⟩
    case round =>
      obtain ⟨j, b, cap, hj, rfl, hown, B⟩ := hrel
      have HO := Lib.hid hown
      by_cases hlt : j < pn
      · have hne : (((32 + n + j : Nat) : Int) % 8 != 0) = true := by rw [bne_iff_ne]; have := HPJ.out j hlt; omega
        obtain ⟨b2', cap2', W2', hr', ho', hg'⟩ := append_byte hown (by omega) B.size
        have B' := B.grown hg' B.size (fun q e => by injection e with e; have := (hown.lt b rfl).1; omega)
        rw [List.append_assoc, zs_add] at ho'
        have HO' := Lib.hid ho'
        obtain ⟨m, hm⟩ : ∃ m, 32 + n + j = m := ⟨_, rfl⟩
        rw [hm] at hne hr' ⊢
        have HM := Lib.hid hm
        clear hown ho' hg' hm
        go_wp2_with (at_builtin; refine list_run (by rfl) _ _ rfl rfl rfl hr' ?_; clear hr')
        have e1 : 32 + n + (j + 1) = m + 1 := by have := HM.out; omega
        refine ⟨⟨j + 1, b2', cap2', by omega, by rw [e1], by rw [e1, ← HM.out]; exact HO'.out, B'⟩, ?_⟩
        have := HM.out
        dsimp only
        omega
      · obtain rfl : j = pn := by omega
        have hne : (((32 + n + j : Nat) : Int) % 8 != 0) = false := by rw [bne_eq_false_iff_eq]; omega
        obtain ⟨m, hm⟩ : ∃ m, 32 + n + j = m := ⟨_, rfl⟩
        rw [hm] at hne ⊢
        have HM := Lib.hid hm
        clear hown hm
        go_wp2_with fail
        go_ret
        refine ⟨b, cap, by rw [HM.out]; rfl, ?_, B⟩
        rw [HB.out]
        exact HO.out

end Go.Proofs.Ytkmifimdjdjdpaa
