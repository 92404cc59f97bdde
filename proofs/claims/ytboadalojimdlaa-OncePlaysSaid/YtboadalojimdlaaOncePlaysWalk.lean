/-
  The walk of corncriblaw16.OncePlays.
-/
import Derived.Test.YtboadalojimdlaaOncePlaysLaw
import Derived.Deep.DeepCutAuto
namespace Go.Proofs.Ytboadalojimdlaa
open Go.RowKit

set_option maxRecDepth 100000 in
set_option maxHeartbeats 8000000 in
theorem plays_walk (most : Int) (a : Option Addr) (n c : Nat) (l : List MsgR) (frm : Int) (id : Nat) (at_ : Int) (w : World) (h : MSl w w.heap.size a n l) (hn : n ≤ 9223372036854775807) :
    Calls Try.prog 9 #[.int .i64 most, .slice a n c, .int .i64 frm, .int .u64 id, .int .i64 at_] w fun e w' => e = .returned (.bool true) ∧ Below w.heap.size w w' := by
  by_cases hbig : 60 < n
  · clear h
    go_enter Try.func9, Try.ntmps9
    go_wp2_with fail
    refine (once_alive _).mono ?_
    rintro e w1 ⟨rfl, B1⟩
    have HB := Lib.hid B1
    clear B1
    go_wp2_with fail
    go_ret
    exact ⟨rfl, HB.out⟩
  have hn60 : n ≤ 60 := by omega
  have HH := Lib.hid h
  have HN := Lib.hid hn60
  clear h hbig hn
  by_cases hm : 1 ≤ most ∧ most ≤ 4096
  rotate_left
  · have E := Lib.hid fun (W : World) => new_bad most W hm
    by_cases h1 : most < 1
    · have b0 : decide (most < 1) = true := decide_eq_true h1
      clear h1 hm
      go_enter Try.func9, Try.ntmps9
      go_wp2_with fail
      refine (once_alive _).mono ?_
      rintro e w1 ⟨rfl, B1⟩
      have HB := Lib.hid B1
      clear B1
      go_wp2_with fail
      refine (E.out _).mono ?_
      rintro e w2 ⟨rfl, rfl⟩
      go_wp2_with fail
      refine (code_c 1 _ (by decide)).mono ?_
      rintro e w2 ⟨rfl, rfl⟩
      go_wp2_with fail
      go_ret
      exact ⟨rfl, HB.out⟩
    · have b0 : decide (most < 1) = false := decide_eq_false h1
      have b1 : decide (4096 < most) = true := decide_eq_true (by omega)
      clear h1 hm
      go_enter Try.func9, Try.ntmps9
      go_wp2_with fail
      refine (once_alive _).mono ?_
      rintro e w1 ⟨rfl, B1⟩
      have HB := Lib.hid B1
      clear B1
      go_wp2_with fail
      refine (E.out _).mono ?_
      rintro e w2 ⟨rfl, rfl⟩
      go_wp2_with fail
      refine (code_c 1 _ (by decide)).mono ?_
      rintro e w2 ⟨rfl, rfl⟩
      go_wp2_with fail
      go_ret
      exact ⟨rfl, HB.out⟩
  obtain ⟨hm1, hm2⟩ := hm
  have b0 : decide (most < 1) = false := decide_eq_false (by omega)
  have b1 : decide (4096 < most) = false := decide_eq_false (by omega)
  have b2 : decide (60 < (n : Int)) = false := decide_eq_false (by omega)
  have HM1 := Lib.hid hm1
  have HM2 := Lib.hid hm2
  clear hm1 hm2
  go_enter Try.func9, Try.ntmps9
  go_wp2_with fail
  refine (once_alive _).mono ?_
  rintro e w1 ⟨rfl, B1⟩
  have HB1 := Lib.hid B1
  clear B1
  go_wp2_with fail
  refine (new_ok most _ HM1.out HM2.out).mono ?_
  rintro e w2 ⟨rfl, hT2, B2⟩
  have HB2 := Lib.hid (HB1.out.trans (B2.mono HB1.out.size))
  have HG := Lib.hid HB1.out.size
  have HT2 := Lib.hid hT2
  clear B2 hT2 HB1
  generalize w1.heap.size = b at *
  go_wp2_with fail
  refine (code_c 0 _ (by decide)).mono ?_
  rintro e w3 ⟨rfl, rfl⟩
  go_wp2_with fail
  go_loopw [13, 14, 15] (fun v iv _ wr => ∃ i : Nat, i ≤ n ∧ iv = .int .i64 i ∧ PSt w b most i v wr)
    (fun _ iv _ _ => n - (intOf iv).toNat)
  case atStart => exact ⟨0, by omega, rfl, [], [], none, 0, rfl, MSl.nil _ _ _, rfl, fun m hm => absurd hm (by simp), HT2.out, HB2.out, Nat.le_refl _⟩
  case round =>
    obtain ⟨i, hi, rfl, L, D, da, dc, rfl, hD, hA, hL, hT, hB, hDi⟩ := hrel
    have HD := Lib.hid hD
    have HA := Lib.hid hA
    have HL := Lib.hid hL
    have HT := Lib.hid hT
    have HB := Lib.hid hB
    have HDi := Lib.hid hDi
    clear hD hA hL hT hB hDi HT2 HB2
    by_cases hlt : i < n
    · obtain ⟨m, hm⟩ : ∃ m, l.getD i mNone = m := ⟨_, rfl⟩
      have HM := Lib.hid (show MIn w w.heap.size m from by rw [← hm]; exact HH.out.2.1 i hlt)
      have HAT := Lib.hid fun (W : World) (B : Below w.heap.size w W) => (HH.out.below B).at_ hlt hm
      obtain ⟨ab, off, rfl, hab, k0, k1, k2, k3, k4, k5, k6, k7, k8, k9, k10, k11⟩ := HAT.out _ HB.out
      have HAB := Lib.hid hab
      clear hab k0 k1 k2 k3 k4 k5 k6 k7 k8 k9 k10
      by_cases hbig : 300 < m.n
      · go_wp2_with fail
        go_ret
        exact ⟨rfl, HB.out⟩
      have hm300 : m.n ≤ 300 := by omega
      clear hbig
      have HAT := Lib.hid fun (W : World) (B : Below w.heap.size w W) => (HH.out.below B).at_some (i := i) hlt rfl
      go_upto_region 16 with fail
      clear k11
      obtain ⟨q, hq⟩ : ∃ q, ((i : Int) == at_) = q := ⟨_, rfl⟩
      have HP0 := Lib.hid (show PSt w b most i (.slice da D.length dc) wr from ⟨L, D, da, dc, rfl, HD.out, HA.out, HL.out, HT.out, HB.out, HDi.out⟩)
      go_cut [61] (fun v wx => v = .bool q ∧ wr = wx)
      case first =>
        go_wp2_with fail
        go_meet
        exact ⟨rfl, rfl⟩
      obtain ⟨rfl, rfl⟩ := hcut
      clear hq
      rename_i hKq
      refine hKq _ _ ?_
      clear hKq
      go_cut [13] (fun v wx => PSt w b most i v wx)
      case first =>
        cases q with
        | true =>
          go_wp2_with fail
          refine (clear_any _ HT.out).mono ?_
          rintro e w3 ⟨rfl, hT3, hg3⟩
          have hB3 := HB.out.grown hg3 HB.out.size (fun j e => by injection e with e; have := HG.out; omega)
          have HP := Lib.hid (show PSt w b most i (.slice none 0 0) w3 from ⟨[], [], none, 0, rfl, MSl.nil _ _ _, rfl, fun m hm => absurd hm (by simp), hT3, hB3, Nat.zero_le _⟩)
          clear hT3 hg3 hB3
          go_wp2_with fail
          go_meet
          exact HP.out
        | false =>
          go_wp2_with fail
          go_meet
          exact HP0.out
      case rest =>
        obtain ⟨L1, D1, da1, dc1, rfl, hD, hA, hL, hT, hB, hDi⟩ := hcut
        clear HD HA HL HT HB HDi HP0
        have E1 := Lib.hid (rkeep_any da1 D1.length dc1 D1 most m wc hD (by omega) ((HM.out.hb.below hB).more hB.size) (by omega))
        have HKP := Lib.hid (kpCode_le D1 most m)
        have HKE := Lib.hid (alike_code hA most m)
        obtain ⟨k0, k1, k2, k3, k4, k5, k6, k7, k8, k9, k10, k11⟩ := HAT.out _ hB
        rw [hm] at k0 k1 k2 k3 k4 k5 k6 k7 k8 k9 k10 k11
        have HA := Lib.hid hA
        have HD := Lib.hid hD
        have HL := Lib.hid hL
        have HT := Lib.hid hT
        have HB := Lib.hid hB
        have HDi := Lib.hid hDi
        clear hA hD hL hT hB hDi
        unfold MsgR.vals at E1
        generalize kpCode D1 most m = kp at *
        go_wp2_with fail
        refine E1.out.mono ?_
        clear E1 k0 k1 k2 k3 k4 k5 k6 k7 k8 k9 k10 k11
        rintro e w3 (⟨hk, rfl, B3⟩ | ⟨rfl, g3, cap3, rfl, ho3, B3⟩)
        · have HB3 := Lib.hid (HB.out.trans (B3.mono HB.out.size))
          have HD3 := Lib.hid (HD.out.on B3)
          have HL3 := Lib.hid (HL.out.on B3)
          have HT3 := Lib.hid (HT.out.on B3)
          have HK := Lib.hid hk
          clear B3 HB HD HL HT hk
          obtain ⟨k0, k1, k2, k3, k4, k5, k6, k7, k8, k9, k10, k11⟩ := HAT.out _ HB3.out
          rw [hm] at k0 k1 k2 k3 k4 k5 k6 k7 k8 k9 k10 k11
          have E2 := Lib.hid (ofm_any m w3)
          unfold MsgR.vals at E2
          go_wp2_with fail
          refine E2.out.mono ?_
          rintro e w4 ⟨rfl, B4⟩
          have HB4 := Lib.hid (HB3.out.trans (B4.mono HB3.out.size))
          have HD4 := Lib.hid (HD3.out.on B4)
          have HL4 := Lib.hid (HL3.out.on B4)
          have HT4 := Lib.hid (HT3.out.on B4)
          have E3 := Lib.hid (keep_any w4 m HT4.out ((HM.out.hb.below HB4.out).more HB4.out.size) HM.out.hc (by omega))
          rw [HKE.out] at E3
          unfold MsgR.vals at E3
          clear B4 HB3 HD3 HL3 HT3 E2 k0 k1 k2 k3 k4 k5 k6 k7 k8 k9 k10 k11
          go_wp2_with fail
          refine E3.out.mono ?_
          rintro e w5 (⟨_, rfl, B5⟩ | ⟨hk0, _⟩)
          rotate_left
          · exact absurd hk0 HK.out
          have HB5 := Lib.hid (HB4.out.trans (B5.mono HB4.out.size))
          have HD5 := Lib.hid (HD4.out.on B5)
          have HL5 := Lib.hid (HL4.out.on B5)
          have HT5 := Lib.hid (HT4.out.on B5)
          clear B5 HB4 HD4 HL4 HT4 E3
          go_wp2_with fail
          refine (code_c kp _ HKP.out).mono ?_
          rintro e w6 ⟨rfl, rfl⟩
          go_wp2_with fail
          refine (len_any _ HT5.out).mono ?_
          rintro e w6 ⟨rfl, rfl⟩
          rw [alike_len HA.out]
          go_wp2_with fail
          refine (room_any _ HT5.out).mono ?_
          rintro e w6 ⟨rfl, B6⟩
          rw [alike_len HA.out]
          have HP := Lib.hid (show PSt w b most (i + 1) (.slice da1 D1.length dc1) w6 from ⟨L1, D1, da1, dc1, rfl, HD5.out.on B6, HA.out, HL5.out.on B6, HT5.out.on B6, HB5.out.trans (B6.mono HB5.out.size), by have := HDi.out; omega⟩)
          clear B6 HB5 HD5 HL5 HT5
          go_wp2_with fail
          go_roundw
          case rel => exact ⟨i + 1, by omega, by go_num, HP.out⟩
          case measure => simp [intOf]; omega
        · have HB3 := Lib.hid (HB.out.trans (B3.mono HB.out.size))
          have HD3 := Lib.hid (msl_snoc HD.out B3 ho3 ((HM.out.below HB3.out).more HB3.out.size))
          have HL3 := Lib.hid (HL.out.on B3)
          have HT3 := Lib.hid (HT.out.on B3)
          clear B3 ho3 HB HD HL HT
          obtain ⟨k0, k1, k2, k3, k4, k5, k6, k7, k8, k9, k10, k11⟩ := HAT.out _ HB3.out
          rw [hm] at k0 k1 k2 k3 k4 k5 k6 k7 k8 k9 k10 k11
          have E2 := Lib.hid (ofm_any m w3)
          unfold MsgR.vals at E2
          go_wp2_with fail
          refine E2.out.mono ?_
          rintro e w4 ⟨rfl, B4⟩
          have HB4 := Lib.hid (HB3.out.trans (B4.mono HB3.out.size))
          have HD4 := Lib.hid (HD3.out.on B4)
          have HL4 := Lib.hid (HL3.out.on B4)
          have HT4 := Lib.hid (HT3.out.on B4)
          have E3 := Lib.hid (keep_any w4 m HT4.out ((HM.out.hb.below HB4.out).more HB4.out.size) HM.out.hc (by omega))
          rw [HKE.out] at E3
          unfold MsgR.vals at E3
          clear B4 HB3 HD3 HL3 HT3 E2 k0 k1 k2 k3 k4 k5 k6 k7 k8 k9 k10 k11
          go_wp2_with fail
          refine E3.out.mono ?_
          rintro e w5 (⟨hk0, _⟩ | ⟨_, rfl, hg5, av, cv, hcv, ho5, hT5⟩)
          · exact absurd rfl hk0
          have HB5 := Lib.hid (HB4.out.grown hg5 HB4.out.size (fun j e => by injection e with e; have := HG.out; omega))
          have HD5 := Lib.hid ((HD4.out.kept_map HT4.out.m hg5 (Nat.le_refl _)).more hg5.size)
          have HL5 := Lib.hid ((HL4.out.kept_map HT4.out.m hg5).snoc (m := { m with a := av, c := cv }) ⟨bsl_own ho5, hcv, hm300⟩)
          have HT5 := Lib.hid hT5
          have HA5 := Lib.hid (alike_snoc HA.out m av cv)
          have HDl := Lib.hid (show (D1 ++ [m]).length = D1.length + 1 from by simp)
          have HLl := Lib.hid (show (L1 ++ [({ m with a := av, c := cv } : MsgR)]).length = D1.length + 1 from by simp [alike_len HA.out])
          generalize L1 ++ [({ m with a := av, c := cv } : MsgR)] = L2 at *
          generalize D1 ++ [m] = D2 at *
          clear hg5 ho5 hT5 hcv HB4 HD4 HL4 HT4 E3
          go_wp2_with fail
          refine (code_c 0 _ (by decide)).mono ?_
          rintro e w6 ⟨rfl, rfl⟩
          go_wp2_with fail
          refine (len_any _ HT5.out).mono ?_
          rintro e w6 ⟨rfl, rfl⟩
          rw [HLl.out]
          go_wp2_with fail
          refine (room_any _ HT5.out).mono ?_
          rintro e w6 ⟨rfl, B6⟩
          rw [HLl.out]
          have HP := Lib.hid (show PSt w b most (i + 1) (.slice (some ⟨g3, 0, none⟩) (D1.length + 1) cap3) w6 from ⟨L2, D2, _, cap3, by rw [HDl.out], by rw [HDl.out]; exact HD5.out.on B6, HA5.out, HL5.out.on B6, HT5.out.on B6, HB5.out.trans (B6.mono HB5.out.size), by have := HDi.out; have := HDl.out; omega⟩)
          clear B6 HB5 HD5 HL5 HT5
          go_wp2_with fail
          go_roundw
          case rel => exact ⟨i + 1, by omega, by go_num, HP.out⟩
          case measure => simp [intOf]; omega
    · obtain rfl : i = n := by omega
      have E1 := Lib.hid (rfind_any da D.length dc D frm id _ HD.out (by have := HDi.out; have := HN.out; omega))
      go_wp2_with fail
      refine E1.out.mono ?_
      rintro e w3 ⟨r, rfl, hr, rfl⟩
      clear E1
      rcases hr with ⟨rfl, hf⟩ | ⟨kk, rfl, hkk, hf⟩
      · have E2 := Lib.hid (find_no _ frm id HT.out (alike_no HA.out hf))
        rw [show mNone.vals = .agg #[.int .i64 0, .int .i64 0, .int .i64 0, .int .i64 0, .int .i64 0, .int .u64 0, .int .i64 0, .bool false, .int .u64 0, .int .u32 0, .bool false, .slice none 0 0] from rfl] at E2
        clear hf
        go_wp2_with fail
        refine E2.out.mono ?_
        rintro e w4 ⟨rfl, B4⟩
        have HB4 := Lib.hid (HB.out.trans (B4.mono HB.out.size))
        clear B4 HB HT HL HD HA HDi E2
        go_upto_region 26 with fail
        obtain ⟨w5, hw5, hB5, hk5⟩ : ∃ X, w4.alloc (.cells #[.int .i64 0, .int .i64 0, .int .i64 0, .int .i64 0, .int .i64 0, .int .u64 0, .int .i64 0, .bool false, .int .u64 0, .int .u32 0, .bool false, .slice none 0 0] 53) = X ∧ Below w4.heap.size w4 X ∧ Blk X w4.heap.size 53 #[.int .i64 0, .int .i64 0, .int .i64 0, .int .i64 0, .int .i64 0, .int .u64 0, .int .i64 0, .bool false, .int .u64 0, .int .u32 0, .bool false, .slice none 0 0] := ⟨_, rfl, (Below.refl _ _).alloc (Nat.le_refl _) _, Blk.made _ _ _⟩
        have HB5 := Lib.hid (HB4.out.trans (hB5.mono HB4.out.size))
        rw [hw5]
        clear hw5 hB5 HB4
        obtain ⟨k0, k1, k2, k3, k4, k5, k6, k7, k8, k9, k10, k11⟩ := hk5.twelve
        have E3 := Lib.hid (show Calls Try.prog 34 #[.agg #[.int .i64 0, .int .i64 0, .int .i64 0, .int .i64 0, .int .i64 0, .int .u64 0, .int .i64 0, .bool false, .int .u64 0, .int .u32 0, .bool false, .slice none 0 0], .agg #[.int .i64 0, .int .i64 0, .int .i64 0, .int .i64 0, .int .i64 0, .int .u64 0, .int .i64 0, .bool false, .int .u64 0, .int .u32 0, .bool false, .slice none 0 0]] w5 fun e w' => e = .returned (.bool true) ∧ Below w5.heap.size w5 w' from wsame_any mNone mNone w5 (BSl.nil _ _ _) (BSl.nil _ _ _))
        clear hk5
        go_wp2_with fail
        refine (code_c 6 _ (by decide)).mono ?_
        rintro e w6 ⟨rfl, rfl⟩
        go_wp2_with fail
        refine E3.out.mono ?_
        rintro e w6 ⟨rfl, B6⟩
        have HB6 := Lib.hid (HB5.out.trans (B6.mono HB5.out.size))
        clear B6 E3 HB5
        go_wp2_with fail
        go_ret
        exact ⟨rfl, HB6.out⟩
      · obtain ⟨x, hx, hxl, hst⟩ := alike_at HA.out hf
        obtain ⟨hx1, hx2, hx3⟩ := HL.out x hxl
        have E2 := Lib.hid (find_yes _ frm id HT.out hx hx1 hx2 (by omega))
        have HST := Lib.hid hst
        have HX3 := Lib.hid hx3
        have HKK := Lib.hid hkk
        unfold MsgR.vals at E2
        dsimp only at E2
        clear hf hx hxl hst hx1 hx2 hx3
        go_wp2_with fail
        refine E2.out.mono ?_
        rintro e w4 ⟨av, cv, rfl, hcv, ho, B4⟩
        have HB4 := Lib.hid (HB.out.trans (B4.mono HB.out.size))
        have HD4 := Lib.hid (HD.out.on B4)
        have HO4 := Lib.hid (bsl_own ho)
        clear B4 HB HT HL HD HA HDi E2 ho hcv
        go_upto_region 27 with fail
        obtain ⟨w5, hw5, hB5, hk5⟩ : ∃ X, w4.alloc (.cells #[.int .i64 x.fr, .int .i64 x.tt, .int .i64 x.kd, .int .i64 x.vol, .int .i64 x.life, .int .u64 x.id, .int .i64 x.cd, .bool x.has, .int .u64 x.key, .int .u32 x.ck, .bool x.g, .slice av x.n cv] 53) = X ∧ Below w4.heap.size w4 X ∧ Blk X w4.heap.size 53 #[.int .i64 x.fr, .int .i64 x.tt, .int .i64 x.kd, .int .i64 x.vol, .int .i64 x.life, .int .u64 x.id, .int .i64 x.cd, .bool x.has, .int .u64 x.key, .int .u32 x.ck, .bool x.g, .slice av x.n cv] := ⟨_, rfl, (Below.refl _ _).alloc (Nat.le_refl _) _, Blk.made _ _ _⟩
        have HB5 := Lib.hid (HB4.out.trans (hB5.mono HB4.out.size))
        have HD5 := Lib.hid (HD4.out.on hB5)
        have HO5 := Lib.hid ((HO4.out.below hB5).more hB5.size)
        have HK5 := Lib.hid hk5
        rw [hw5]
        clear hw5 hB5 HB4 HD4 HO4 hk5
        obtain ⟨y, hy⟩ : ∃ y, D.getD kk mNone = y := ⟨_, rfl⟩
        have HY := Lib.hid (show MIn w5 w5.heap.size y from by rw [← hy]; exact HD5.out.2.1 kk HKK.out)
        obtain ⟨db, doff, rfl, hdb, -⟩ := HD5.out.at_ HKK.out hy
        have HC5 := Lib.hid fun (W : World) (B : Below w5.heap.size w5 W) => (HD5.out.below B).at_some HKK.out hy
        have HX5 := Lib.hid fun (W : World) (B : Below w5.heap.size w5 W) => (HK5.out.below B HK5.out.lt).twelve
        have ET := Lib.hid fun (W : World) => tom_any { x with a := av, c := cv } W
        have HSM := Lib.hid (show mSame { x with a := av, c := cv } y = true from alike_same (by rw [hy] at HST; rw [← HST.out]; rfl))
        have ES := Lib.hid fun (W : World) (B : Below w5.heap.size w5 W) => rsame_any { x with a := av, c := cv } y W ((HO5.out.below B).more B.size) ((HY.out.hb.below B).more B.size) (by have := HX3.out; show x.n ≤ _; omega)
        rw [HSM.out] at ES
        unfold MsgR.vals at ET ES
        dsimp only at ET ES
        clear hy hdb HST HSM
        refine wp_region_held_drew (S := fun W => Below w5.heap.size w5 W) (by kernel_rfl) ((Below.refl _ _).drew) (fun hS => ?_)
        refine wpAnyH_take (i := 0) (v := ?_) rfl (by kernel_rfl) (by kernel_rfl) (by kernel_rfl) (fun _ _ _ h => h) (Or.inl ⟨by kernel_rfl, ?_⟩) hS ?_
        rotate_left
        · intro W hW; go_simp; try with_reducible rfl
        refine wpAnyH_ready (rs := [1]) (by kernel_rfl) (by simp) ?_
        refine AllReadyH.cons rfl (fun K hK => ?_) AllReadyH.nil
        go_simp
        refine (code_c 0 _ (by decide)).mono ?_
        rintro e w6 ⟨rfl, rfl⟩
        have hT := hS
        go_simp
        refine hK.out _ _ ?_ (fun hN => ?_)
        · first | exact hT | exact hS | exact hS.alloc hS.size _ | exact hS.drew
        clear hK K
        try clear hT
        clear hS
        have hS := hN
        clear hN
        refine wpAnyH_take (i := 2) (v := ?_) rfl (by kernel_rfl) (by kernel_rfl) (by kernel_rfl) (fun _ _ _ h => h) (Or.inl ⟨by kernel_rfl, ?_⟩) hS ?_
        rotate_left
        · intro W hW; go_simp; try with_reducible rfl
        refine wpAnyH_take (i := 3) (v := ?_) rfl (by kernel_rfl) (by kernel_rfl) (by kernel_rfl) (fun _ _ _ h => h) (Or.inl ⟨by kernel_rfl, ?_⟩) hS ?_
        rotate_left
        · intro W hW; go_simp; try with_reducible rfl
        refine wpAnyH_take (i := 4) (v := ?_) rfl (by kernel_rfl) (by kernel_rfl) (by kernel_rfl) (fun _ _ _ h => h) (Or.inl ⟨by kernel_rfl, ?_⟩) hS ?_
        rotate_left
        · intro W hW; obtain ⟨k0, k1, k2, k3, k4, k5, k6, k7, k8, k9, k10, k11⟩ := HX5.out W hW; obtain ⟨q0, q1, q2, q3, q4, q5, q6, q7, q8, q9, q10, q11⟩ := HC5.out W hW; go_simp; try with_reducible rfl
        refine wpAnyH_take (i := 6) (v := ?_) rfl (by kernel_rfl) (by kernel_rfl) (by kernel_rfl) (fun _ _ _ h => h) (Or.inl ⟨by kernel_rfl, ?_⟩) hS ?_
        rotate_left
        · intro W hW; go_simp; try with_reducible rfl
        refine wpAnyH_take (i := 7) (v := ?_) rfl (by kernel_rfl) (by kernel_rfl) (by kernel_rfl) (fun _ _ _ h => h) (Or.inl ⟨by kernel_rfl, ?_⟩) hS ?_
        rotate_left
        · intro W hW; go_simp; try with_reducible rfl
        refine wpAnyH_take (i := 8) (v := ?_) rfl (by kernel_rfl) (by kernel_rfl) (by kernel_rfl) (fun _ _ _ h => h) (Or.inl ⟨by kernel_rfl, ?_⟩) hS ?_
        rotate_left
        · intro W hW; go_simp; try with_reducible rfl
        refine wpAnyH_take (i := 9) (v := ?_) rfl (by kernel_rfl) (by kernel_rfl) (by kernel_rfl) (fun _ _ _ h => h) (Or.inl ⟨by kernel_rfl, ?_⟩) hS ?_
        rotate_left
        · intro W hW; obtain ⟨k0, k1, k2, k3, k4, k5, k6, k7, k8, k9, k10, k11⟩ := HX5.out W hW; obtain ⟨q0, q1, q2, q3, q4, q5, q6, q7, q8, q9, q10, q11⟩ := HC5.out W hW; go_simp; try with_reducible rfl
        refine wpAnyH_ready (rs := [5]) (by kernel_rfl) (by simp) ?_
        refine AllReadyH.cons rfl (fun K hK => ?_) AllReadyH.nil
        go_simp
        refine (ET.out _).mono ?_
        rintro e w6 ⟨rfl, B6⟩
        have hT := hS.trans (B6.mono hS.size)
        go_simp
        refine hK.out _ _ ?_ (fun hN => ?_)
        · first | exact hT | exact hS | exact hS.alloc hS.size _ | exact hS.drew
        clear hK K
        try clear hT
        clear hS
        have hS := hN
        clear hN
        refine wpAnyH_ready (rs := [10]) (by kernel_rfl) (by simp) ?_
        refine AllReadyH.cons rfl (fun K hK => ?_) AllReadyH.nil
        go_simp
        refine (ES.out _ hS).mono ?_
        rintro e w6 ⟨rfl, B6⟩
        have hT := hS.trans (B6.mono hS.size)
        go_simp
        refine hK.out _ _ ?_ (fun hN => ?_)
        · first | exact hT | exact hS | exact hS.alloc hS.size _ | exact hS.drew
        clear hK K
        try clear hT
        clear hS
        have hS := hN
        clear hN
        refine wpAnyH_take (i := 11) (v := ?_) rfl (by kernel_rfl) (by kernel_rfl) (by kernel_rfl) (fun _ _ _ h => h) (Or.inl ⟨by kernel_rfl, ?_⟩) hS ?_
        rotate_left
        · intro W hW; go_simp; try with_reducible rfl
        refine wpAnyH_take (i := 12) (v := ?_) rfl (by kernel_rfl) (by kernel_rfl) (by kernel_rfl) (fun _ _ _ h => h) (Or.inl ⟨by kernel_rfl, ?_⟩) hS ?_
        rotate_left
        · intro W hW; go_simp; try with_reducible rfl
        refine wpAnyH_done (by kernel_rfl) ?_ _
        go_simp
        have HB9 := Lib.hid (HB5.out.trans (hS.mono HB5.out.size))
        go_wp2_with fail
        go_ret
        exact ⟨rfl, HB9.out⟩
theorem plays_all (most : Int) (a : Option Addr) (n c : Nat) (l : List MsgR) (frm id at_ : Int) (w : World) (h : MSl w w.heap.size a n l) (hn : n ≤ 9223372036854775807) (h0 : 0 ≤ id) :
    Calls Try.prog 9 #[.int .i64 most, .slice a n c, .int .i64 frm, .int .u64 id, .int .i64 at_] w fun e w' => e = .returned (.bool true) ∧ Below w.heap.size w w' := by
  obtain ⟨k, rfl⟩ := Int.eq_ofNat_of_zero_le h0
  exact plays_walk most a n c l frm k at_ w h hn
end Go.Proofs.Ytboadalojimdlaa
