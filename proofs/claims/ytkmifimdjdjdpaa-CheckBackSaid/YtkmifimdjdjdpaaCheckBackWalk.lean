/-
  The walk of corncriblaw05.CheckBack.
-/
import Derived.Test.YtkmifimdjdjdpaaChkBack
import Derived.Test.YtkmifimdjdjdpaaChkAlive
import Derived.Test.YtkmifimdjdjdpaaChkRefRight
import Derived.Test.YtkmifimdjdjdpaaChkSame
namespace Go.Proofs.Ytkmifimdjdjdpaa
open Go.RowKit

/-- append of the byte nought. -/
theorem append_zero1 {W : World} {base g k cap : Nat} {l : List (BitVec 8)} (hown : W.ownsRow base 5 1 (.slice (some ⟨g, 0, none⟩) k cap) k (l.map bv)) (hk : k ≤ 1099511627776) (hbase : base ≤ W.heap.size) :
    ∃ g2 cap2 W2, (Builtin.append_ #[22, 22] 22 #[.slice (some ⟨g, 0, none⟩) k cap, .slice (some ⟨W.heap.size, 0, none⟩) 1 1]).run Try.prog (W.alloc (.cells #[.int .u8 0] 5)) = .ok (.slice (some ⟨g2, 0, none⟩) (k + 1) cap2) W2 ∧
      W2.ownsRow base 5 1 (.slice (some ⟨g2, 0, none⟩) (k + 1) cap2) (k + 1) ((l ++ [0#8]).map bv) ∧ W.grownBy W2 (some g) := by
  obtain ⟨i0, hi, hz0, hz1, hz2⟩ := info_parts info_u8
  obtain ⟨g2, cap2, W2, h1, h2, h3, -, -⟩ := append_elem (P := Try.prog) Try.underlying22 hi hz0 hz1 hz2 rfl (by decide) hown [.int .u8 0] rfl (fun u hu => by obtain rfl := List.mem_singleton.1 hu; rfl) (by omega) (by unfold maxLen; omega) hbase
  refine ⟨g2, cap2, W2, h1, ?_, h3⟩
  rw [List.map_append]
  exact h2

set_option maxRecDepth 100000 in
set_option maxHeartbeats 4000000 in
theorem cback_walk (v g u : Int) (a : Option Addr) (n c : Nat) (ps : List PosR) (t : Int) (w : World) (h : PSl w w.heap.size a n ps) (hn : n ≤ 9223372036854775807) (ht0 : 0 ≤ t) (ht1 : t ≤ 65535) :
    Calls Try.prog 6 #[.agg #[.int .i64 v, .int .i64 g, .int .i64 u, .slice a n c], .int .u16 t] w fun e w' => e = .returned (.bool true) ∧ Below w.heap.size w w' := by
  obtain ⟨W0, hW0⟩ : ∃ W0, w.alloc (.cells #[.int .i64 v, .int .i64 g, .int .i64 u, .slice a n c] 40) = W0 := ⟨_, rfl⟩
  have hK1 : Blk W0 w.heap.size 40 #[.int .i64 v, .int .i64 g, .int .i64 u, .slice a n c] := by rw [← hW0]; exact Blk.made w _ _
  have BA : Below w.heap.size w W0 := by rw [← hW0]; exact (Below.refl _ _).alloc (Nat.le_refl _) _
  have C1 := Lib.hid fun (W : World) (B : Below W0.heap.size W0 W) => (hK1.below B hK1.lt).four
  have H1 := Lib.hid fun (W : World) (B : Below W0.heap.size W0 W) => (h.below (BA.trans (B.mono BA.size))).more (BA.trans (B.mono BA.size)).size
  have BW := Lib.hid fun (W : World) (B : Below W0.heap.size W0 W) => BA.trans (B.mono BA.size)
  have HL := Lib.hid h.1
  have HF := Lib.hid h.2.1
  clear hK1 BA h
  by_cases hbig : 60 < n
  · go_enter Try.func6, Try.ntmps6
    go_wp2_with fail
    clear hW0
    refine (chk_alive _).mono ?_
    rintro e W1 ⟨rfl, B1⟩
    obtain ⟨p0, p1, p2, p3⟩ := C1.out W1 B1
    go_wp2_with fail
    go_ret
    exact ⟨rfl, BW.out _ B1⟩
  have hn60 : n ≤ 60 := by omega
  clear hbig
  go_enter Try.func6, Try.ntmps6
  go_wp2_with fail
  clear hW0
  refine (chk_alive _).mono ?_
  rintro e W1 ⟨rfl, B1⟩
  obtain ⟨p0, p1, p2, p3⟩ := C1.out W1 B1
  go_wp2_with fail
  refine (rright_any v g u a n c ps W1 (H1.out W1 B1) hn).mono ?_
  rintro e W2 ⟨rfl, B2⟩
  clear p0 p1 p2 p3
  have B2 := B1.trans (B2.mono B1.size)
  clear B1
  have hcs := ck_cases v g u ps
  by_cases hok : ckR v g u ps = 0
  · obtain ⟨-, ⟨a1, a2, a3, a4, a5, a6⟩, -⟩ := ck_ok hok
    obtain ⟨v, rfl⟩ : ∃ k : Nat, v = k := ⟨v.toNat, by omega⟩
    obtain ⟨g, rfl⟩ : ∃ k : Nat, g = k := ⟨g.toNat, by omega⟩
    obtain ⟨u, rfl⟩ : ∃ k : Nat, u = k := ⟨u.toNat, by omega⟩
    rw [hok]
    have P1 := Lib.hid fun (ax : Option Addr) (cx : Nat) (W : World) (hp : PSl W W.heap.size ax n ps) => pput_ok v g u ax n cx ps W hp hok
    have hLlen : (ckBytes v g u ps).length = 24 + 24 * n := by rw [ckBytes, List.length_append, ckBody_length, Num.le_length, HL.out]; omega
    obtain ⟨E0, E4, E8, E12, E16, EP⟩ := ckGet_bytes hok HF.out
    rw [HL.out] at E16 EP
    have HC := Lib.hid fun (k : Nat) (hk : k < (ckBytes v g u ps).length) => ckGet_cut hok k hk
    have HM := Lib.hid (ckGet_more hok 0#8)
    have hm1 : 24 + 24 * n ≤ 1464 := by omega
    have hm2 : 24 ≤ 24 + 24 * n := by omega
    generalize ckBytes v g u ps = L at *
    generalize 24 + 24 * n = m at *
    have E0 := Lib.hid E0
    have E4 := Lib.hid E4
    have E8 := Lib.hid E8
    have E12 := Lib.hid E12
    have E16 := Lib.hid E16
    have EP := Lib.hid EP
    obtain ⟨i, hi, him⟩ : ∃ i : Nat, t % (m : Int) = i ∧ i < m := by
      have h1 := Int.emod_nonneg t (show (m : Int) ≠ 0 by omega)
      have h2 := Int.emod_lt_of_pos t (show (0 : Int) < (m : Int) by omega)
      exact ⟨(t % (m : Int)).toNat, by omega, by omega⟩
    obtain ⟨p0, p1, p2, p3⟩ := C1.out W2 B2
    have HLL := Lib.hid hLlen
    clear hLlen hok hcs a1 a2 a3 a4 a5 a6
    go_wp2_with fail
    refine (ofc_any v g u a n c ps W2 (H1.out W2 B2) (by omega)).mono ?_
    rintro e W3 ⟨x, rfl, hx, B3⟩
    obtain ⟨ax, cx, rfl, hcx⟩ := own_form_any hx
    have B3 := B2.trans (B3.mono B2.size)
    have hpx := psl_own hx HF.out
    clear p0 p1 p2 p3 B2 hx
    go_wp2_with fail
    refine (P1.out ax cx W3 hpx).mono ?_
    rintro e W4 ⟨b4, c4, rfl, ho4, B4⟩
    have hc4 := own_cap ho4
    have B4 := B3.trans (B4.mono B3.size)
    have HO4 := Lib.hid fun (W : World) (B : Below W4.heap.size W4 W) => own_below ho4 B (Nat.le_refl _)
    have HB4 := Lib.hid fun (W : World) (B : Below W4.heap.size W4 W) => B4.trans (B.mono B4.size)
    clear hpx B3 ho4 B4
    go_wp2_with fail
    refine (cget_any (some ⟨b4, 0, none⟩) m c4 L W4 (bsl_own (HO4.out W4 (Below.refl _ _))) hc4 (by omega)).mono ?_
    rintro e W5 ⟨B5, v5, rfl, hv5⟩
    have hv5 := hv5.resolve_left (fun h => h.1 E0.out)
    obtain ⟨-, a5, c5, rfl, hc5, ho5⟩ := hv5
    rw [E16.out] at hc5 ho5
    rw [EP.out] at ho5
    rw [E0.out, E4.out, E8.out, E12.out, E16.out]
    have HK5 := Blk.made W5 46 #[.int .i64 (v : Nat), .int .i64 (g : Nat), .int .i64 (u : Nat), .slice a5 n c5]
    have B6 := B5.alloc B5.size (.cells #[.int .i64 (v : Nat), .int .i64 (g : Nat), .int .i64 (u : Nat), .slice a5 n c5] 46)
    have ho6 := ho5.alloc (.cells #[.int .i64 (v : Nat), .int .i64 (g : Nat), .int .i64 (u : Nat), .slice a5 n c5] 46)
    have HX := Lib.hid fun (W : World) (B : Below (W5.alloc (.cells #[.int .i64 (v : Nat), .int .i64 (g : Nat), .int .i64 (u : Nat), .slice a5 n c5] 46)).heap.size (W5.alloc (.cells #[.int .i64 (v : Nat), .int .i64 (g : Nat), .int .i64 (u : Nat), .slice a5 n c5] 46)) W) =>
      (⟨(HK5.below B HK5.lt).four, psl_own (own_belowN ho6 B (Nat.le_refl _)) HF.out⟩ : _ ∧ _)
    have HB6 := Lib.hid B6
    clear HK5 B5 ho5 ho6 B6
    unfold errc
    go_wp2_with fail
    clear hi
    refine (cget_any (some ⟨b4, 0, none⟩) i c4 (L.take i) _ ((bsl_own (HO4.out _ HB6.out)).prefix (by omega)) (by omega) (by omega)).mono ?_
    rintro e W7 ⟨B7, v7, rfl, hv7⟩
    have hc7 := HC.out i (by rw [HLL.out]; exact him)
    obtain ⟨-, rfl⟩ := hv7.resolve_right (fun h => by rw [hc7] at h; exact absurd h.1 (by decide))
    rw [hc7]
    have B8 := B7.alloc B7.size (.cells #[.int .i64 0, .int .i64 0, .int .i64 0, .slice none 0 0] 46)
    unfold errc er
    clear hv7 B7
    go_upto_region 8 with fail
    generalize W7.alloc (.cells #[.int .i64 0, .int .i64 0, .int .i64 0, .slice none 0 0] 46) = W8 at *
    have B8' := HB6.out.trans (B8.mono HB6.out.size)
    obtain ⟨g1, cap1, V1, hr1, ho1, hg1, -⟩ := append_bytes (World.ownsRow_made (base := W8.heap.size) W8 #[] 0 (Nat.le_refl _) (Nat.zero_le _) rfl) c4 ((bsl_own (HO4.out _ B8')).below ((Below.refl _ _).alloc (Nat.le_refl _) _)) (fun e => by cases e) (by omega) (by simp)
    simp only [Nat.zero_add, List.nil_append] at hr1 ho1
    have B9 : Below W8.heap.size W8 V1 := ((Below.refl _ _).alloc (Nat.le_refl _) _).grown hg1 (by simp) (fun k e => by injection e with e; omega)
    obtain ⟨g2, cap2, V2, hr2, ho2, hg2⟩ := append_zero1 ho1 (by omega) B9.size
    have B10 := B9.grown hg2 B9.size (fun k e => by injection e with e; have := (ho1.lt g1 rfl).1; omega)
    have HBX := Lib.hid (B8.trans (B10.mono B8.size))
    have HOX := Lib.hid ho2
    clear hc7 B8 B8' ho1 hg1 B9 hg2 B10 ho2
    go_wp2_with (first
      | (at_builtin; refine list_run (by rfl) _ _ rfl rfl rfl hr1 ?_; clear hr1)
      | (at_builtin; refine list_run (by rfl) _ _ rfl rfl rfl hr2 ?_; clear hr2))
    refine (cget_any (some ⟨g2, 0, none⟩) (m + 1) cap2 (L ++ [0#8]) V2 (bsl_own HOX.out) (own_cap HOX.out) (by omega)).mono ?_
    rintro e W11 ⟨B11, v11, rfl, hv11⟩
    obtain ⟨-, rfl⟩ := hv11.resolve_right (fun h => by rw [HM.out] at h; exact absurd h.1 (by decide))
    rw [HM.out]
    have B12 := (HBX.out.trans (B11.mono HBX.out.size)).alloc (HBX.out.trans (B11.mono HBX.out.size)).size (.cells #[.int .i64 0, .int .i64 0, .int .i64 0, .slice none 0 0] 46)
    have HB12 := Lib.hid B12
    obtain ⟨⟨q0, q1, q2, q3⟩, hp5⟩ := HX.out _ B12
    have B13 := HB4.out _ (HB6.out.trans (B12.mono HB6.out.size))
    obtain ⟨p0, p1, p2, p3⟩ := C1.out _ B13
    have HP5 := Lib.hid hp5
    have HB13 := Lib.hid B13
    clear hv11 B11 B12 hp5 B13
    unfold errc er
    go_wp2_with fail
    refine (code_c 0 _ (by decide)).mono ?_
    rintro e w6 ⟨rfl, rfl⟩
    go_wp2_with fail
    refine (code_c 0 _ (by decide)).mono ?_
    rintro e w6 ⟨rfl, rfl⟩
    go_wp2_with fail
    have SM := csame_any v g u v g u a5 a n c5 n c ps ps _ HP5.out (H1.out _ HB13.out) (by omega)
    rw [decide_eq_true (by exact ⟨rfl, rfl, rfl, rfl⟩)] at SM
    refine SM.mono ?_
    rintro e W14 ⟨rfl, B14⟩
    have B14 := Lib.hid (BW.out _ (HB13.out.trans (B14.mono HB13.out.size)))
    clear SM
    go_wp2_with fail
    refine (code_c 3 _ (by decide)).mono ?_
    rintro e w6 ⟨rfl, rfl⟩
    go_wp2_with fail
    refine (code_c 4 _ (by decide)).mono ?_
    rintro e w6 ⟨rfl, rfl⟩
    go_wp2_with fail
    go_ret
    exact ⟨rfl, B14.out⟩
  · rcases hcs.resolve_left hok with h12 | h12
    all_goals
      rw [h12]
      clear h12 hok hcs
      go_wp2_with fail
      go_ret
      exact ⟨rfl, BW.out _ B2⟩

end Go.Proofs.Ytkmifimdjdjdpaa
