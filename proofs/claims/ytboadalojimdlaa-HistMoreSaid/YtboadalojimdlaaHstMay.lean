/-
  hist: may, the question whether something is told.
-/
import Derived.Test.YtboadalojimdlaaHstChosen
namespace Go.Proofs.Ytboadalojimdlaa
open Go.RowKit

theorem info_int : (Try.prog.info? 3).map (fun i => (i.zero, i.size, i.bytes)) = some (some (.int .i64 0), 1, 8) := by kernel_rfl
theorem own_belowH {w w' : World} {B base size : Nat} {e : TypeId} {v : Value} {k : Nat} {xs : List Value} (h : w.ownsRow base e size v k xs) (hb : Below B w w') (hB : w.heap.size ≤ B) : w'.ownsRow base e size v k xs := by
  refine ⟨h.1, ?_⟩
  rcases h.2 with h2 | ⟨g, cap, cur, e1, e2, e3, e4⟩
  · exact .inl h2
  · exact .inr ⟨g, cap, cur, e1, e2, (hb.block g (Nat.lt_of_lt_of_le (Array.getElem?_eq_some_iff.1 e3).1 hB)).trans e3, e4⟩

/-- A number as a value. -/
def iv (i : Nat) : Value := .int .i64 (i : Int)
def mayI (l : List CallR) (op : Int) (t : Nat) (i : Nat) : List Nat := (List.range i).filter (Hst.mayP l op t)
theorem mayI_yes {l : List CallR} {op : Int} {t i : Nat} (h : Hst.mayP l op t i = true) : mayI l op t (i + 1) = mayI l op t i ++ [i] := by
  unfold mayI; rw [List.range_succ, List.filter_append]; simp [h]
theorem mayI_no {l : List CallR} {op : Int} {t i : Nat} (h : Hst.mayP l op t i = false) : mayI l op t (i + 1) = mayI l op t i := by
  unfold mayI; rw [List.range_succ, List.filter_append]; simp [h]
theorem mayI_len (l : List CallR) (op : Int) (t i : Nat) : (mayI l op t i).length ≤ i := by
  unfold mayI; exact Nat.le_trans (List.length_filter_le _ _) (by simp)
theorem mayP_no {l : List CallR} {op : Int} {t i : Nat} {c : CallR} (hc : l.getD i dC = c) (h : c.op ≠ op) : Hst.mayP l op t i = false := by unfold Hst.mayP; rw [hc]; simp [h]
theorem mayP_op {l : List CallR} {op : Int} {t i : Nat} {c : CallR} (hc : l.getD i dC = c) (h : c.op = op) : Hst.mayP l op t i = (decide (Hst.told c = t) || Hst.opn c) := by unfold Hst.mayP; rw [hc]; simp [h]

/-- What the loop of may keeps. -/
def MyS (w : World) (l : List CallR) (op : Int) (t : Nat) (i : Nat) (v : Value) (W : World) : Prop :=
  W.ownsRow w.heap.size 3 1 v (mayI l op t i).length ((mayI l op t i).map iv) ∧ Below w.heap.size w W

set_option maxRecDepth 100000 in
set_option maxHeartbeats 2000000 in
theorem may_any (a : Option Addr) (n c : Nat) (l : List CallR) (op : Int) (t : Nat) (w : World) (h : CSl w w.heap.size a n l) (hn : n ≤ 1000000) (ht : t ≤ 5) :
    Calls Try.prog 50 #[.slice a n c, .int .i64 op, .int .i64 t] w fun e w' => ∃ v, e = .returned v ∧ w'.ownsRow w.heap.size 3 1 v (Hst.may l op t).length ((Hst.may l op t).map iv) ∧ Below w.heap.size w w' := by
  have HH := Lib.hid fun (W : World) (B : Below w.heap.size w W) => (h.below B).more B.size
  have HL := Lib.hid h.1
  have HE := Lib.hid (show Hst.may l op t = mayI l op t n from by unfold Hst.may mayI; rw [h.1])
  obtain ⟨i0, hi, hz0, hz1, hz2⟩ := info_parts info_int
  have HI := Lib.hid hi
  have HZ0 := Lib.hid hz0
  have HZ1 := Lib.hid hz1
  have HZ2 := Lib.hid hz2
  have HA := Lib.hid fun (hpos : 0 < n) => (h.at_ hpos).imp fun b h => h.imp fun off h => h.1
  clear hi hz0 hz1 hz2 h
  have ht0 : (0 : Int) ≤ t := by omega
  go_enter Try.func50, Try.ntmps50
  go_wp2_with fail
  go_loopw [7, 12] (fun v iw wr => ∃ i : Nat, i ≤ n ∧ iw = .int .i64 i ∧ MyS w l op t i v wr) (fun _ iw _ => n - (intOf iw).toNat)
  case atStart => exact ⟨0, by omega, rfl, ⟨rfl, .inl ⟨rfl, rfl⟩⟩, Below.refl _ _⟩
  case round =>
    obtain ⟨i, hi, rfl, hown, B⟩ := hrel
    by_cases hlt : i < n
    · obtain ⟨b, off, ha⟩ := HA.out (by omega)
      subst ha
      obtain ⟨ci, hci⟩ : ∃ c, l.getD i dC = c := ⟨_, rfl⟩
      obtain ⟨k0, k1, k2, k3, k4, k5, k6⟩ := (HH.out wr B).at_some hlt hci
      have HCI := Lib.hid hci
      have hi0 : (0 : Int) ≤ i := by omega
      have hi1 : (i : Int) < n := by omega
      have hB2 := B.alloc B.size (.cells #[.int .i64 ci.op, .int .u32 ci.ck, .slice ci.da ci.dn ci.dc, .int .i64 ci.bg, .int .i64 ci.en, .int .i64 ci.cd, .slice ci.ga ci.gn ci.gc] 39)
      have ho2 := hown.alloc (.cells #[.int .i64 ci.op, .int .u32 ci.ck, .slice ci.da ci.dn ci.dc, .int .i64 ci.bg, .int .i64 ci.en, .int .i64 ci.cd, .slice ci.ga ci.gn ci.gc] 39)
      have hbx := Blk.made wr 39 #[.int .i64 ci.op, .int .u32 ci.ck, .slice ci.da ci.dn ci.dc, .int .i64 ci.bg, .int .i64 ci.en, .int .i64 ci.cd, .slice ci.ga ci.gn ci.gc]
      clear hci B hown
      go_upto_region 5 with fail
      clear k0 k1 k2 k3 k4 k5 k6
      generalize wr.alloc (.cells #[.int .i64 ci.op, .int .u32 ci.ck, .slice ci.da ci.dn ci.dc, .int .i64 ci.bg, .int .i64 ci.en, .int .i64 ci.cd, .slice ci.ga ci.gn ci.gc] 39) = V at *
      generalize wr.heap.size = gx at *
      have HV := Lib.hid fun (W : World) (B : Below V.heap.size V W) => And.intro (hbx.below B hbx.lt).seven (And.intro (own_belowH ho2 B (Nat.le_refl _)) (hB2.trans (B.mono hB2.size)))
      obtain ⟨k0, k1, k2, k3, k4, k5, k6⟩ := (HV.out V (Below.refl _ _)).1
      -- the end of a round, by whether it may
      have HNO := Lib.hid fun (W : World) (v : Value) (hno : Hst.mayP l op t i = false) (ho : W.ownsRow w.heap.size 3 1 v (mayI l op t i).length ((mayI l op t i).map iv)) (hB : Below w.heap.size w W) => (show MyS w l op t (i + 1) v W from ⟨by rw [mayI_no hno]; exact ho, hB⟩)
      have hml := mayI_len l op t i
      have HAP := Lib.hid fun (W : World) (v : Value) (hyes : Hst.mayP l op t i = true) (ho : W.ownsRow w.heap.size 3 1 v (mayI l op t i).length ((mayI l op t i).map iv)) (hB : Below w.heap.size w W) =>
        (show ∃ g cap W2, (Builtin.append_ #[36, 36] 36 #[v, .slice (some ⟨W.heap.size, 0, none⟩) 1 1]).run Try.prog (W.alloc (.cells #[.int .i64 i] 3)) = .ok (.slice (some ⟨g, 0, none⟩) ((mayI l op t i).length + 1) cap) W2 ∧ MyS w l op t (i + 1) (.slice (some ⟨g, 0, none⟩) ((mayI l op t i).length + 1) cap) W2 from by
          obtain ⟨g, cap, W2, h1, h2, h3, -, -⟩ := append_elem (P := Try.prog) Try.underlying36 HI.out HZ0.out HZ1.out HZ2.out rfl (by decide) ho [.int .i64 i] rfl (fun u hu => by obtain rfl := List.mem_singleton.1 hu; rfl) (by omega) (by unfold maxLen; omega) hB.size
          refine ⟨g, cap, W2, h1, ⟨?_, hB.grown h3 hB.size (fun q e => (ho.lt q e).1)⟩⟩
          rw [mayI_yes hyes, List.map_append, List.length_append]
          exact h2)
      have HT := Lib.hid fun (W : World) => told_any ci W
      have HO := Lib.hid fun (W : World) => hopen_any ci W
      have HM1 := Lib.hid fun (e : ci.op = op) => mayP_op (l := l) (t := t) HCI.out e
      have HM0 := Lib.hid fun (e : ci.op ≠ op) => mayP_no (l := l) (t := t) HCI.out e
      have ht5 := Hst.told_le ci
      generalize Hst.told ci = tc at *
      generalize Hst.opn ci = oc at *
      generalize Hst.mayP l op t i = may at *
      generalize (mayI l op t i).length = ml at *
      clear hbx ho2 hB2
      by_cases hop : ci.op = op
      · have HM := Lib.hid (HM1.out hop)
        have hbop := beq_t hop
        clear hop HM0 HM1
        go_wp2_with fail
        refine (HT.out V).mono ?_
        rintro e V2 ⟨rfl, BV⟩
        clear k0 k1 k2 k3 k4 k5 k6
        obtain ⟨⟨k0, k1, k2, k3, k4, k5, k6⟩, ho, hB⟩ := HV.out V2 BV
        by_cases htt : tc = t
        · have hbt := beq_t (show (tc : Int) = t by omega)
          obtain ⟨g, cap, W2, hr, hs⟩ := HAP.out V2 _ (by rw [HM.out, htt]; simp) ho hB
          have HS := Lib.hid hs
          clear hs ho hB htt
          go_wp2_with (at_builtin; refine list_run (by rfl) _ _ rfl rfl rfl hr ?_; clear hr)
          go_roundw
          case rel => exact ⟨i + 1, by omega, by go_num, HS.out⟩
          case measure => simp [intOf]; omega
        · have hbt := beq_f (show (tc : Int) ≠ t by omega)
          have HMF := Lib.hid (show may = oc from by rw [HM.out]; simp [htt])
          clear htt ho hB
          go_wp2_with fail
          refine (HO.out V2).mono ?_
          rintro e V3 ⟨rfl, BV3⟩
          obtain ⟨-, ho, hB⟩ := HV.out V3 (BV.trans (BV3.mono BV.size))
          cases oc with
          | true =>
            obtain ⟨g, cap, W2, hr, hs⟩ := HAP.out V3 _ HMF.out ho hB
            have HS := Lib.hid hs
            clear hs ho hB BV BV3
            go_wp2_with (at_builtin; refine list_run (by rfl) _ _ rfl rfl rfl hr ?_; clear hr)
            go_roundw
            case rel => exact ⟨i + 1, by omega, by go_num, HS.out⟩
            case measure => simp [intOf]; omega
          | false =>
            have HS := Lib.hid (HNO.out V3 _ HMF.out ho hB)
            clear ho hB BV BV3
            go_wp2_with fail
            go_roundw
            case rel => exact ⟨i + 1, by omega, by go_num, HS.out⟩
            case measure => simp [intOf]; omega
      · have HS := Lib.hid (HNO.out V _ (HM0.out hop) (HV.out V (Below.refl _ _)).2.1 (HV.out V (Below.refl _ _)).2.2)
        have hbop := beq_f hop
        clear hop HM0 HM1
        go_wp2_with fail
        go_roundw
        case rel => exact ⟨i + 1, by omega, by go_num, HS.out⟩
        case measure => simp [intOf]; omega
    · obtain rfl : i = n := by omega
      have HO := Lib.hid hown
      have HB := Lib.hid B
      clear hown B
      go_wp2_with fail
      go_ret
      exact ⟨_, rfl, by rw [HE.out]; exact HO.out, HB.out⟩

theorem askf_any (c : CallR) (w : World) : Calls Try.prog 48 #[c.vals] w fun e w' => e = .returned (.bool (decide (2 ≤ Hst.told c))) ∧ Below w.heap.size w w' := by
  have HT := Lib.hid fun (W : World) => told_any c W
  generalize Hst.told c = t at *
  obtain ⟨op, ck, da, dn, dc, dl, bg, en, cd, ga, gn, gc, gl⟩ := c
  unfold CallR.vals at *
  dsimp only at *
  have HB := Lib.hid ((Below.refl w.heap.size w).alloc (Nat.le_refl _) (.cells #[.int .i64 op, .int .u32 ck, .slice da dn dc, .int .i64 bg, .int .i64 en, .int .i64 cd, .slice ga gn gc] 39))
  go_enter Try.func48, Try.ntmps48
  go_wp2_with fail
  refine (HT.out _).mono ?_
  rintro e w1 ⟨rfl, B1⟩
  by_cases h : 2 ≤ t
  · have hb : decide ((2 : Int) ≤ t) = true := decide_eq_true (by omega)
    have HR := Lib.hid (show decide (2 ≤ t) = true from decide_eq_true h)
    clear h
    go_wp2_with fail
    go_ret
    exact ⟨by rw [HR.out]; rfl, HB.out.trans (B1.mono HB.out.size)⟩
  · have hb : decide ((2 : Int) ≤ t) = false := decide_eq_false (by omega)
    have HR := Lib.hid (show decide (2 ≤ t) = false from decide_eq_false h)
    clear h
    go_wp2_with fail
    go_ret
    exact ⟨by rw [HR.out]; rfl, HB.out.trans (B1.mono HB.out.size)⟩

end Go.Proofs.Ytboadalojimdlaa
