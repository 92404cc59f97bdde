/-
  The walk of corncriblaw23.HistEnds.
-/
import Derived.Test.YtboadalojimdlaaHstAlive
import Derived.Test.YtboadalojimdlaaHstSteps
namespace Go.Proofs.Ytboadalojimdlaa
open Go.RowKit

/-- The four counts. -/
theorem cnt_step {f : CallR → Bool} {l : List CallR} {i : Nat} {c : CallR} (hc : l.getD i dC = c) : Hst.cnt f l (i + 1) = Hst.cnt f l i + if f c = true then 1 else 0 := by rw [Hst.cnt, hc]

set_option maxRecDepth 100000 in
set_option maxHeartbeats 4000000 in
theorem ends_walk (a : Option Addr) (n c : Nat) (l : List CallR) (w : World) (h : CSl w w.heap.size a n l) (hn : n ≤ 9223372036854775807) :
    Calls Try.prog 5 #[.slice a n c] w fun e w' => e = .returned (.bool true) ∧ Below w.heap.size w w' := by
  have HH := Lib.hid fun (W : World) (B : Below w.heap.size w W) => (h.below B).more B.size
  have HL := Lib.hid h.1
  have HA := Lib.hid fun (hpos : 0 < n) => (h.at_ hpos).imp fun b h => h.imp fun off h => h.1
  have hl := h.1
  clear h
  go_enter Try.func5, Try.ntmps5
  go_wp2_with fail
  refine (hist_alive w).mono ?_
  rintro e w1 ⟨rfl, B1⟩
  have FA := far_any a n c l 40 w1 (HH.out w1 B1) (by decide) hn
  cases hf : far l 40 with
  | true =>
    rw [hf] at FA
    have FA := Lib.hid FA
    clear hf hl
    go_wp2_with fail
    refine FA.out.mono ?_
    rintro e w2 ⟨rfl, rfl⟩
    go_wp2_with fail
    go_ret
    exact ⟨rfl, B1⟩
  | false =>
    rw [hf] at FA
    have FA := Lib.hid FA
    have hn40 : n ≤ 40 := by
      unfold far at hf
      rw [Bool.or_eq_false_iff] at hf
      have := of_decide_eq_false hf.1
      omega
    have HB1 := Lib.hid B1
    clear hf hl B1
    go_wp2_with fail
    refine FA.out.mono ?_
    rintro e w2 ⟨rfl, rfl⟩
    clear FA
    go_wp2_with fail
    go_loopw [3, 4, 5, 6, 7] (fun v3 v4 v5 v6 iw wr => ∃ i : Nat, i ≤ n ∧ iw = .int .i64 i ∧ v3 = .int .i64 (Hst.cnt Hst.isPut l i) ∧ v4 = .int .i64 (Hst.cnt Hst.isDel l i) ∧ v5 = .int .i64 (Hst.cnt Hst.isAsk l i) ∧ v6 = .int .i64 (Hst.cnt Hst.isMay l i) ∧ Below w.heap.size w wr) (fun _ _ _ _ iw _ => n - (intOf iw).toNat)
    case atStart => exact ⟨0, by omega, rfl, rfl, rfl, rfl, rfl, HB1.out⟩
    case round =>
      obtain ⟨i, hi, rfl, rfl, rfl, rfl, rfl, B⟩ := hrel
      have q1 := Hst.cnt_le Hst.isPut l i
      have q2 := Hst.cnt_le Hst.isDel l i
      have q3 := Hst.cnt_le Hst.isAsk l i
      have q4 := Hst.cnt_le Hst.isMay l i
      by_cases hlt : i < n
      · obtain ⟨b, off, ha⟩ := HA.out (by omega)
        subst ha
        obtain ⟨ci, hci⟩ : ∃ c, l.getD i dC = c := ⟨_, rfl⟩
        obtain ⟨k0, k1, k2, k3, k4, k5, k6⟩ := (HH.out wr B).at_some hlt hci
        have S1 := Lib.hid (cnt_step (f := Hst.isPut) hci)
        have S2 := Lib.hid (cnt_step (f := Hst.isDel) hci)
        have S3 := Lib.hid (cnt_step (f := Hst.isAsk) hci)
        have S4 := Lib.hid (cnt_step (f := Hst.isMay) hci)
        generalize Hst.cnt Hst.isPut l i = c1 at *
        generalize Hst.cnt Hst.isDel l i = c2 at *
        generalize Hst.cnt Hst.isAsk l i = c3 at *
        generalize Hst.cnt Hst.isMay l i = c4 at *
        have hi0 : (0 : Int) ≤ i := by omega
        have hi1 : (i : Int) < n := by omega
        have g1 : (c1 : Int) ≤ 40 := by omega
        have g2 : (c2 : Int) ≤ 40 := by omega
        have g3 : (c3 : Int) ≤ 40 := by omega
        have g4 : (c4 : Int) ≤ 40 := by omega
        have hB2 := B.alloc B.size (.cells #[.int .i64 ci.op, .int .u32 ci.ck, .slice ci.da ci.dn ci.dc, .int .i64 ci.bg, .int .i64 ci.en, .int .i64 ci.cd, .slice ci.ga ci.gn ci.gc] 30)
        have hbx := Blk.made wr 30 #[.int .i64 ci.op, .int .u32 ci.ck, .slice ci.da ci.dn ci.dc, .int .i64 ci.bg, .int .i64 ci.en, .int .i64 ci.cd, .slice ci.ga ci.gn ci.gc]
        clear hci B q1 q2 q3 q4
        go_upto_region 10 with fail
        clear k0 k1 k2 k3 k4 k5 k6
        generalize wr.alloc (.cells #[.int .i64 ci.op, .int .u32 ci.ck, .slice ci.da ci.dn ci.dc, .int .i64 ci.bg, .int .i64 ci.en, .int .i64 ci.cd, .slice ci.ga ci.gn ci.gc] 30) = V at *
        generalize wr.heap.size = gx at *
        have HV := Lib.hid fun (W : World) (B : Below V.heap.size V W) => And.intro (hbx.below B hbx.lt).seven (hB2.trans (B.mono hB2.size))
        obtain ⟨k0, k1, k2, k3, k4, k5, k6⟩ := (HV.out V (Below.refl _ _)).1
        have RO := Lib.hid fun (W : World) => ropen_any ci W
        have RA := Lib.hid fun (W : World) => asks_any ci W
        have HM : Hst.isMay ci = (decide (ci.op = 1) && (decide (Hst.told ci = 4) || Hst.opn ci)) := rfl
        have HP : Hst.isPut ci = decide (Hst.told ci = 4) := rfl
        have HD : Hst.isDel ci = decide (Hst.told ci = 5) := rfl
        have HK : Hst.isAsk ci = decide (2 ≤ Hst.told ci) := rfl
        have HAS : asks ci = decide (Hst.told ci ≠ 0) := rfl
        clear hbx hB2
        go_wp2_with fail
        refine (RO.out V).mono ?_
        rintro e V2 ⟨rfl, BV⟩
        clear k0 k1 k2 k3 k4 k5 k6
        obtain ⟨k0, k1, k2, k3, k4, k5, k6⟩ := (HV.out V2 BV).1
        cases ho : Hst.opn ci with
        | true =>
          have ht : Hst.told ci = 0 := told_open ho
          rw [ht] at HP HD HK HAS HM
          rw [ho] at HM
          rw [HAS] at RA
          rw [HP] at S1
          rw [HD] at S2
          rw [HK] at S3
          by_cases h1 : ci.op = 1
          · have hb1 := beq_t h1
            rw [HM, h1] at S4
            clear HM HP HD HK HAS ho ht h1
            go_wp2_with fail
            refine (RA.out V2).mono ?_
            rintro e V3 ⟨rfl, BV3⟩
            have HE := Lib.hid (HV.out V3 (BV.trans (BV3.mono BV.size))).2
            clear BV3 BV
            go_wp2_with fail
            go_roundw
            case rel => exact ⟨i + 1, by omega, by go_num, vint (by rw [S1.out]; rfl), vint (by rw [S2.out]; rfl), vint (by rw [S3.out]; rfl), vint (by rw [S4.out]; rfl), HE.out⟩
            case measure => simp [intOf]; omega
          · have hb1 := beq_f h1
            rw [HM, decide_eq_false h1] at S4
            clear HM HP HD HK HAS ho ht h1
            go_wp2_with fail
            refine (RA.out V2).mono ?_
            rintro e V3 ⟨rfl, BV3⟩
            have HE := Lib.hid (HV.out V3 (BV.trans (BV3.mono BV.size))).2
            clear BV3 BV
            go_wp2_with fail
            go_roundw
            case rel => exact ⟨i + 1, by omega, by go_num, vint (by rw [S1.out]; rfl), vint (by rw [S2.out]; rfl), vint (by rw [S3.out]; rfl), vint (by rw [S4.out]; rfl), HE.out⟩
            case measure => simp [intOf]; omega
        | false =>
          by_cases ht : Hst.told ci = 0
          · rw [ht] at HP HD HK HAS HM
            rw [ho] at HM
            rw [HAS] at RA
            rw [HP] at S1
            rw [HD] at S2
            rw [HK] at S3
            rw [HM, show (decide (ci.op = 1) && (decide ((0 : Nat) = 4) || false)) = false from by simp] at S4
            clear HM HP HD HK HAS ho ht
            go_wp2_with fail
            refine (RA.out V2).mono ?_
            rintro e V3 ⟨rfl, BV3⟩
            have HE := Lib.hid (HV.out V3 (BV.trans (BV3.mono BV.size))).2
            clear BV3 BV
            go_wp2_with fail
            go_roundw
            case rel => exact ⟨i + 1, by omega, by go_num, vint (by rw [S1.out]; rfl), vint (by rw [S2.out]; rfl), vint (by rw [S3.out]; rfl), vint (by rw [S4.out]; rfl), HE.out⟩
            case measure => simp [intOf]; omega
          · have htr := (Hst.told_of rfl ht).2.2
            have hnz := Hst.toldR_nz (show Hst.toldR ci.op ci.cd ≠ 0 by rw [htr]; exact ht)
            rw [decide_eq_true ht] at HAS
            rw [HAS] at RA
            rw [HP] at S1
            rw [HD] at S2
            rw [HK] at S3
            rw [HM, ho] at S4
            rw [← htr] at S1 S2 S3 S4
            clear HM HP HD HK HAS ho ht htr
            go_wp2_with fail
            refine (RA.out V2).mono ?_
            rintro e V3 ⟨rfl, BV3⟩
            clear k0 k1 k2 k3 k4 k5 k6
            obtain ⟨k0, k1, k2, k3, k4, k5, k6⟩ := (HV.out V3 (BV.trans (BV3.mono BV.size))).1
            have HE := Lib.hid (HV.out V3 (BV.trans (BV3.mono BV.size))).2
            clear BV3 BV RO RA HV
            generalize ci.op = op at *
            generalize ci.cd = cd at *
            rcases hnz with ⟨rfl, rfl | rfl | rfl⟩ | ⟨rfl, rfl | rfl | rfl | rfl⟩ | ⟨rfl, rfl | rfl | rfl | rfl⟩
            all_goals
              go_wp2_with fail
              go_roundw
              case rel => exact ⟨i + 1, by omega, by go_num, vint (by rw [S1.out]; simp [Hst.toldR]), vint (by rw [S2.out]; simp [Hst.toldR]), vint (by rw [S3.out]; simp [Hst.toldR]), vint (by rw [S4.out]; simp [Hst.toldR]), HE.out⟩
              case measure => simp [intOf]; omega
      · obtain rfl : i = n := by omega
        have E1 := fun h => Lib.hid (Hst.ends_false (l := l) h)
        have E2 := fun h => Lib.hid (Hst.ends_true (l := l) h)
        rw [HL.out] at E1 E2
        have OF := of23_any a i c l wr (HH.out wr B) (by omega)
        have OF := Lib.hid OF
        have hB := Lib.hid B
        generalize Hst.cnt Hst.isPut l i = c1 at *
        generalize Hst.cnt Hst.isDel l i = c2 at *
        generalize Hst.cnt Hst.isAsk l i = c3 at *
        generalize Hst.cnt Hst.isMay l i = c4 at *
        clear B
        go_wp2_with fail
        refine OF.out.mono ?_
        rintro e w3 ⟨v, rfl, ho, B3⟩
        have B3 := hB.out.trans (B3.mono hB.out.size)
        have hl := HL.out
        rw [← hl] at ho
        obtain ⟨a3, c3', rfl, -, hc⟩ := csl_own ho (fun j hj => (HH.out w3 B3).2.1 j (by rw [← hl]; exact hj))
        rw [hl] at hc ⊢
        have LI := Lib.hid (linear_any a3 i c3' l w3 hc (by omega))
        have HB3 := Lib.hid B3
        clear ho hc hl B3 OF
        go_wp2_with fail
        refine LI.out.mono ?_
        rintro e w4 ⟨rfl, B4⟩
        have HB4 := Lib.hid (HB3.out.trans (B4.mono HB3.out.size))
        clear B4 LI
        generalize Hst.linear l = r at *
        by_cases x1 : 1 < c1
        · have hr := (E1 (.inl x1)).out
          subst hr
          have y1 : (1 : Int) < c1 := by omega
          clear E1 E2 x1
          go_wp2_with fail
          go_ret
          exact ⟨rfl, HB4.out⟩
        · have y1 : ¬ ((1 : Int) < c1) := by omega
          by_cases x2 : 1 < c2
          · have hr := (E1 (.inr (.inl x2))).out
            subst hr
            have y2 : (1 : Int) < c2 := by omega
            clear E1 E2 x1 x2
            go_wp2_with fail
            go_ret
            exact ⟨rfl, HB4.out⟩
          · have y2 : ¬ ((1 : Int) < c2) := by omega
            by_cases x3 : 0 < c3
            · have y3 : (0 : Int) < c3 := by omega
              by_cases x4 : c4 = 0
              · have hr := (E1 (.inr (.inr ⟨x3, x4⟩))).out
                subst hr
                have y4 := beq_t (show (c4 : Int) = 0 by omega)
                clear E1 E2 x1 x2 x3 x4
                go_wp2_with fail
                go_ret
                exact ⟨rfl, HB4.out⟩
              · have y4 := beq_f (show (c4 : Int) ≠ 0 by omega)
                clear E1 E2 x1 x2 x3 x4
                go_wp2_with fail
                go_ret
                exact ⟨rfl, HB4.out⟩
            · have hr := (E2 (by omega)).out
              subst hr
              have y3 : ¬ ((0 : Int) < c3) := by omega
              clear E1 E2 x1 x2 x3
              go_wp2_with fail
              go_ret
              exact ⟨rfl, HB4.out⟩

end Go.Proofs.Ytboadalojimdlaa
