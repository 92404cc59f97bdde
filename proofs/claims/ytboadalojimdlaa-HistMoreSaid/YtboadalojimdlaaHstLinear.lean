/-
  hist.Linear.
-/
import Derived.Test.YtboadalojimdlaaHstMay
namespace Go.Proofs.Ytboadalojimdlaa
open Go.RowKit

/-- The question as a value. -/
def askF : Value := .func (.func 48) #[] #[]
def asksI (l : List CallR) (i : Nat) : Bool := (l.take i).any fun c => decide (2 ≤ Hst.told c)
theorem asksI_succ {l : List CallR} {i : Nat} {c : CallR} (hi : i < l.length) (hc : l.getD i dC = c) : asksI l (i + 1) = (asksI l i || decide (2 ≤ Hst.told c)) := by
  unfold asksI
  have : l[i] = c := by rw [← hc, List.getD, List.getElem?_eq_getElem hi]; rfl
  rw [List.take_succ_eq_append_getElem hi, List.any_append, this]; simp
theorem asksI_yes {l : List CallR} {i : Nat} (h : asksI l i = true) : asksI l l.length = true := by
  unfold asksI at *
  rw [List.take_length]
  rw [List.any_eq_true] at *
  obtain ⟨c, hc, h⟩ := h
  exact ⟨c, List.mem_of_mem_take hc, h⟩

set_option maxRecDepth 100000 in
set_option maxHeartbeats 2000000 in
theorem ixf_any (a : Option Addr) (n c : Nat) (l : List CallR) (w : World) (h : CSl w w.heap.size a n l) (hn : n ≤ 1000000) :
    Calls Try.prog 64 #[.slice a n c, askF] w fun e w' => (∃ r : Int, e = .returned (.int .i64 r) ∧ decide (0 ≤ r) = asksI l n) ∧ Below w.heap.size w w' := by
  have HH := Lib.hid fun (W : World) (B : Below w.heap.size w W) => (h.below B).more B.size
  have HL := Lib.hid h.1
  have HA := Lib.hid fun (hpos : 0 < n) => (h.at_ hpos).imp fun b h => h.imp fun off h => h.1
  clear h
  unfold askF
  go_enter Try.func64, Try.ntmps64
  go_wp2_with fail
  go_loopw [8] (fun iw wr => ∃ i : Nat, i ≤ n ∧ iw = .int .i64 i ∧ asksI l i = false ∧ Below w.heap.size w wr) (fun iw _ => n - (intOf iw).toNat)
  case atStart => exact ⟨0, by omega, rfl, rfl, Below.refl _ _⟩
  case round =>
    obtain ⟨i, hi, rfl, hno, B⟩ := hrel
    have HNO := Lib.hid hno
    clear hno
    by_cases hlt : i < n
    · obtain ⟨b, off, ha⟩ := HA.out (by omega)
      subst ha
      obtain ⟨ci, hci⟩ : ∃ c, l.getD i dC = c := ⟨_, rfl⟩
      obtain ⟨k0, k1, k2, k3, k4, k5, k6⟩ := (HH.out wr B).at_some hlt hci
      have HS := Lib.hid (asksI_succ (by rw [HL.out]; exact hlt) hci)
      have hi0 : (0 : Int) ≤ i := by omega
      have hi1 : (i : Int) < n := by omega
      have HB := Lib.hid B
      clear hci B
      go_wp2_with fail
      refine (askf_any ci wr).mono ?_
      rintro e w1 ⟨rfl, B1⟩
      have HB1 := Lib.hid (HB.out.trans (B1.mono HB.out.size))
      clear B1
      cases hd : decide (2 ≤ Hst.told ci) with
      | true =>
        have HY := Lib.hid (asksI_yes (l := l) (i := i + 1) (by rw [HS.out, hd]; simp))
        clear hd
        go_wp2_with fail
        go_ret
        exact ⟨⟨i, rfl, by rw [← HL.out, HY.out]; exact decide_eq_true hi0⟩, HB1.out⟩
      | false =>
        have HN := Lib.hid (show asksI l (i + 1) = false from by rw [HS.out, hd, HNO.out]; rfl)
        clear hd
        go_wp2_with fail
        go_roundw
        case rel => exact ⟨i + 1, by omega, by go_num, HN.out, HB1.out⟩
        case measure => simp [intOf]; omega
    · obtain rfl : i = n := by omega
      have HB := Lib.hid B
      clear B
      go_wp2_with fail
      go_ret
      exact ⟨⟨-1, rfl, by rw [HNO.out]; rfl⟩, HB.out⟩

theorem ctf_any (a : Option Addr) (n c : Nat) (l : List CallR) (w : World) (h : CSl w w.heap.size a n l) (hn : n ≤ 1000000) :
    Calls Try.prog 47 #[.slice a n c, askF] w fun e w' => e = .returned (.bool (asksI l n)) ∧ Below w.heap.size w w' := by
  have HC := Lib.hid (ixf_any a n c l w h hn)
  clear h
  go_enter Try.func47, Try.ntmps47
  go_wp2_with fail
  refine HC.out.mono ?_
  rintro e w1 ⟨⟨r, rfl, hr⟩, B⟩
  have HB := Lib.hid B
  clear B HC
  go_wp2_with fail
  go_ret
  exact ⟨by rw [← hr]; rfl, HB.out⟩

/-- A slice of numbers that reads as l. -/
def ISl (w : World) (B : Nat) (a : Option Addr) (n : Nat) (l : List Nat) : Prop :=
  l.length = n ∧ (0 < n → ∃ b off, a = some ⟨b, off, none⟩ ∧ b < B ∧ ∀ k, k < n → w.cell? ⟨b, off + k, none⟩ = some (iv (l.getD k 0)))
theorem ISl.below {w w' : World} {B n : Nat} {a : Option Addr} {l : List Nat} (h : ISl w B a n l) (hb : Below B w w') : ISl w' B a n l :=
  ⟨h.1, fun hn => by obtain ⟨b, off, e, hlt, hc⟩ := h.2 hn; exact ⟨b, off, e, hlt, fun k hk => (hb.cell (p := ⟨b, off + k, none⟩) hlt).trans (hc k hk)⟩⟩
theorem isl_own {W : World} {base : Nat} {v : Value} {l : List Nat} (h : W.ownsRow base 3 1 v l.length (l.map iv)) : ∃ a c, v = .slice a l.length c ∧ l.length ≤ c ∧ ISl W W.heap.size a l.length l := by
  rcases h.2 with ⟨e1, e2⟩ | ⟨g, cap, cur, e1, e2, e3, e4, e5, e6, e7⟩
  · have hl : l = [] := List.eq_nil_of_length_eq_zero e2
    subst hl
    exact ⟨none, 0, e1, Nat.le_refl _, rfl, fun h => absurd h (by simp)⟩
  · refine ⟨_, cap, e1, e4, rfl, fun hn => ⟨g, 0, rfl, (Array.getElem?_eq_some_iff.1 e3).1, fun k hk => ?_⟩⟩
    have := h.cells (g := g) (by rw [e1]; rfl) k (iv (l.getD k 0)) (by rw [List.getElem?_map, List.getD, List.getElem?_eq_getElem hk]; rfl)
    simpa [Addr.add_lit] using this

theorem any_take {α : Type} (f : α → Bool) (l : List α) (i : Nat) (hi : i < l.length) (h : (l.take i).any f = false) : (l.take (i + 1)).any f = f l[i] := by
  rw [List.take_succ_eq_append_getElem hi, List.any_append, h]; simp
theorem any_of_take {α : Type} {f : α → Bool} {l : List α} {i : Nat} (h : (l.take i).any f = true) : l.any f = true := by
  rw [List.any_eq_true] at *
  obtain ⟨c, hc, h⟩ := h
  exact ⟨c, List.mem_of_mem_take hc, h⟩

def linF (l : List CallR) (p : Nat) : Bool := Hst.chosen l p (-1) || (Hst.may l 4 5).any fun d => Hst.chosen l p (d : Int)
theorem linear_any' (l : List CallR) (h : asksI l l.length = true) : Hst.linear l = (Hst.may l 1 4).any (linF l) := by
  unfold asksI at h
  rw [List.take_length] at h
  unfold Hst.linear
  rw [if_pos h]; rfl
theorem linear_none (l : List CallR) (h : asksI l l.length = false) : Hst.linear l = true := by
  unfold asksI at h
  rw [List.take_length] at h
  unfold Hst.linear
  rw [if_neg (by rw [h]; decide)]
theorem may_lt {l : List CallR} {op : Int} {t k : Nat} (hk : k < (Hst.may l op t).length) : (Hst.may l op t)[k] < l.length := ((Hst.may_mem l op t _).1 (List.getElem_mem hk)).1

set_option maxRecDepth 100000 in
set_option maxHeartbeats 4000000 in
theorem linear_any (a : Option Addr) (n c : Nat) (l : List CallR) (w : World) (h : CSl w w.heap.size a n l) (hn : n ≤ 1000000) :
    Calls Try.prog 16 #[.slice a n c] w fun e w' => e = .returned (.bool (Hst.linear l)) ∧ Below w.heap.size w w' := by
  have HC := Lib.hid fun (W : World) (B : Below w.heap.size w W) => ctf_any a n c l W ((h.below B).more B.size) hn
  have HM := Lib.hid fun (op : Int) (t : Nat) (ht : t ≤ 5) (W : World) (B : Below w.heap.size w W) => may_any a n c l op t W ((h.below B).more B.size) hn ht
  have HCH := Lib.hid fun (p : Nat) (hp : p < n) (d : Int) (hd : d = -1 ∨ ∃ m : Nat, d = m ∧ m < n) (W : World) (B : Below w.heap.size w W) => chosen_any a n c l p d W ((h.below B).more B.size) hp hd hn
  have HLT := Lib.hid fun (op : Int) (t k : Nat) (hk : k < (Hst.may l op t).length) => (show (Hst.may l op t)[k] < n from by rw [← h.1]; exact may_lt hk)
  have HE1 := Lib.hid (linear_any' l)
  have HE2 := Lib.hid (linear_none l)
  have hl : l.length = n := h.1
  rw [hl] at HE1 HE2
  have HML := Lib.hid fun (op : Int) (t : Nat) => (show (Hst.may l op t).length ≤ n from by rw [← hl]; unfold Hst.may; exact Nat.le_trans (List.length_filter_le _ _) (by simp))
  clear h hl
  go_enter Try.func16, Try.ntmps16
  go_wp2_with fail
  refine (HC.out w (Below.refl _ _)).mono ?_
  rintro e w1 ⟨rfl, B1⟩
  cases ha : asksI l n with
  | false =>
    have HX := Lib.hid (HE2.out ha)
    clear ha
    go_wp2_with fail
    go_ret
    exact ⟨by rw [HX.out]; rfl, B1⟩
  | true =>
    have HX := Lib.hid (HE1.out ha)
    clear ha HE1 HE2
    go_wp2_with fail
    refine (HM.out 1 4 (by decide) w1 B1).mono ?_
    rintro e w2 ⟨v, rfl, hown, B2⟩
    have hpl := HML.out 1 4
    have hlt := HLT.out 1 4
    have hB2 := B1.trans (B2.mono B1.size)
    obtain ⟨ap, cp, rfl, hcp, hip⟩ := isl_own hown
    have HIP := Lib.hid fun (W : World) (B : Below w2.heap.size w2 W) => hip.below B
    generalize Hst.may l 1 4 = Ps at *
    have HLTP := Lib.hid hlt
    obtain ⟨np, hnp⟩ : ∃ np, Ps.length = np := ⟨_, rfl⟩
    rw [hnp] at hpl HIP
    have HNP := Lib.hid hnp
    have HB2 := Lib.hid hB2
    rw [hnp] at hcp ⊢
    clear hlt hnp hip hown B1 B2 hB2
    go_wp2_with fail
    go_loopw [13] (fun iw wr => ∃ i : Nat, i ≤ np ∧ iw = .int .i64 i ∧ (Ps.take i).any (linF l) = false ∧ Below w2.heap.size w2 wr) (fun iw _ => np - (intOf iw).toNat)
    case atStart => exact ⟨0, by omega, rfl, rfl, Below.refl _ _⟩
    case round =>
      obtain ⟨i, hi, rfl, hno, B⟩ := hrel
      have HNO := Lib.hid hno
      have HB := Lib.hid B
      clear hno B
      by_cases hltp : i < np
      · obtain ⟨bp, offp, hap, -, hcell⟩ := (HIP.out wr HB.out).2 (by omega)
        subst hap
        have k0 := hcell i hltp
        have hip : i < Ps.length := by rw [HNP.out]; exact hltp
        have hpp : Ps.getD i 0 = Ps[i] := by rw [List.getD, List.getElem?_eq_getElem hip]; rfl
        have hpn := HLTP.out i hip
        have HT := Lib.hid (any_take (linF l) Ps i hip HNO.out)
        rw [hpp] at k0
        generalize Ps[i] = p at *
        have k0 : wr.cell? ⟨bp, offp + i, none⟩ = some (.int .i64 p) := k0
        have hi0 : (0 : Int) ≤ i := by omega
        have hi1 : (i : Int) < np := by omega
        clear hcell hpp hip
        go_wp2_with fail
        refine (HCH.out p hpn (-1) (.inl rfl) wr (HB2.out.trans (HB.out.mono HB2.out.size))).mono ?_
        rintro e w3 ⟨rfl, B3⟩
        have HB3 := Lib.hid (HB.out.trans (B3.mono HB.out.size))
        clear B3 k0
        cases hch : Hst.chosen l p (-1) with
        | true =>
          have HY := Lib.hid (show (Ps.any (linF l)) = true from any_of_take (i := i + 1) (by rw [HT.out]; unfold linF; rw [hch]; rfl))
          clear hch
          go_wp2_with fail
          go_ret
          exact ⟨by rw [HX.out, HY.out]; rfl, HB2.out.trans (HB3.out.mono HB2.out.size)⟩
        | false =>
          have HF := Lib.hid (show linF l p = (Hst.may l 4 5).any fun d => Hst.chosen l p (d : Int) from by unfold linF; rw [hch]; rfl)
          clear hch
          go_wp2_with fail
          refine (HM.out 4 5 (by decide) w3 (HB2.out.trans (HB3.out.mono HB2.out.size))).mono ?_
          rintro e w4 ⟨v, rfl, hown, B4⟩
          have hdl := HML.out 4 5
          have hlt := HLT.out 4 5
          obtain ⟨ad, cd, rfl, hcd, hid⟩ := isl_own hown
          have HB4 := Lib.hid (HB3.out.trans (B4.mono HB3.out.size))
          have HID := Lib.hid fun (W : World) (B : Below w4.heap.size w4 W) => hid.below B
          generalize Hst.may l 4 5 = Ds at *
          have HLTD := Lib.hid hlt
          obtain ⟨nd, hnd⟩ : ∃ nd, Ds.length = nd := ⟨_, rfl⟩
          rw [hnd] at hdl HID
          have HND := Lib.hid hnd
          rw [hnd] at hcd ⊢
          obtain ⟨wo, rfl⟩ : ∃ wo : World, wo = wr := ⟨_, rfl⟩
          clear hlt hnd hid hown B4
          go_wp2_with fail
          go_loopw [23] (fun jw wr => ∃ j : Nat, j ≤ nd ∧ jw = .int .i64 j ∧ (Ds.take j).any (fun d => Hst.chosen l p (d : Int)) = false ∧ Below w4.heap.size w4 wr) (fun jw _ => nd - (intOf jw).toNat)
          case atStart => exact ⟨0, by omega, rfl, rfl, Below.refl _ _⟩
          case round =>
            obtain ⟨j, hj, rfl, hnod, B⟩ := hrel
            have HNOD := Lib.hid hnod
            have HBJ := Lib.hid B
            clear hnod B
            by_cases hltd : j < nd
            · obtain ⟨bd, offd, had, -, hcell⟩ := (HID.out wr HBJ.out).2 (by omega)
              subst had
              have k0 := hcell j hltd
              have hjd : j < Ds.length := by rw [HND.out]; exact hltd
              have hdd : Ds.getD j 0 = Ds[j] := by rw [List.getD, List.getElem?_eq_getElem hjd]; rfl
              have hdn := HLTD.out j hjd
              have HTD := Lib.hid (any_take (fun d : Nat => Hst.chosen l p (d : Int)) Ds j hjd HNOD.out)
              rw [hdd] at k0
              generalize Ds[j] = d at *
              have k0 : wr.cell? ⟨bd, offd + j, none⟩ = some (.int .i64 d) := k0
              have hj0 : (0 : Int) ≤ j := by omega
              have hj1 : (j : Int) < nd := by omega
              have HBW := Lib.hid (HB2.out.trans ((HB4.out.trans (HBJ.out.mono HB4.out.size)).mono HB2.out.size))
              clear hcell hdd hjd
              go_wp2_with fail
              refine (HCH.out p hpn d (.inr ⟨d, rfl, hdn⟩) wr HBW.out).mono ?_
              rintro e w5 ⟨rfl, B5⟩
              have HB5 := Lib.hid (HBJ.out.trans (B5.mono HBJ.out.size))
              have HBW5 := Lib.hid (HBW.out.trans (B5.mono HBW.out.size))
              clear B5 k0
              cases hch : Hst.chosen l p (d : Int) with
              | true =>
                have HY := Lib.hid (show (Ps.any (linF l)) = true from any_of_take (i := i + 1) (by rw [HT.out, HF.out]; exact any_of_take (i := j + 1) (by rw [HTD.out]; exact hch)))
                clear hch
                go_wp2_with fail
                go_ret
                exact ⟨by rw [HX.out, HY.out]; rfl, HBW5.out⟩
              | false =>
                have HN := Lib.hid (show (Ds.take (j + 1)).any (fun d => Hst.chosen l p (d : Int)) = false from by rw [HTD.out]; exact hch)
                clear hch
                go_wp2_with fail
                go_roundw
                case rel => exact ⟨j + 1, by omega, by go_num, HN.out, HB5.out⟩
                case measure => simp [intOf]; omega
            · obtain rfl : j = nd := by omega
              have HN := Lib.hid (show (Ps.take (i + 1)).any (linF l) = false from by rw [HT.out, HF.out]; have := HNOD.out; rw [List.take_of_length_le (by rw [HND.out]; omega)] at this; exact this)
              have HBE := Lib.hid (HB4.out.trans (HBJ.out.mono HB4.out.size))
              go_wp2_with fail
              go_roundw
              case rel => exact ⟨i + 1, by omega, by go_num, HN.out, HBE.out⟩
              case measure => simp [intOf]; omega
      · obtain rfl : i = np := by omega
        have HY := Lib.hid (show (Ps.any (linF l)) = false from by have := HNO.out; rw [List.take_of_length_le (by rw [HNP.out]; omega)] at this; exact this)
        go_wp2_with fail
        go_ret
        exact ⟨by rw [HX.out, HY.out]; rfl, HB2.out.trans (HB.out.mono HB2.out.size)⟩

end Go.Proofs.Ytboadalojimdlaa
