/-
  The document's calls: Open, Asks; as the program's; too far.
-/
import Derived.Test.YtboadalojimdlaaHstLinear
namespace Go.Proofs.Ytboadalojimdlaa
open Go.RowKit

set_option maxRecDepth 100000 in
theorem ropen_any (c : CallR) (w : World) : Calls Try.prog 19 #[c.vals] w fun e w' => e = .returned (.bool (Hst.opn c)) ∧ Below w.heap.size w w' := by
  obtain ⟨op, ck, da, dn, dc, dl, bg, en, cd, ga, gn, gc, gl⟩ := c
  have HO := Lib.hid (show Hst.opn ⟨op, ck, da, dn, dc, dl, bg, en, cd, ga, gn, gc, gl⟩ = decide (en = 0 ∨ cd = 17) from rfl)
  have HB := Lib.hid ((Below.refl w.heap.size w).alloc (Nat.le_refl _) (.cells #[.int .i64 op, .int .u32 ck, .slice da dn dc, .int .i64 bg, .int .i64 en, .int .i64 cd, .slice ga gn gc] 30))
  unfold CallR.vals
  dsimp only
  by_cases h0 : en = 0
  · have h0' := beq_t h0
    have H0 := Lib.hid h0
    clear h0
    go_enter Try.func19, Try.ntmps19
    go_wp2_with fail
    go_ret
    exact ⟨by rw [HO.out, decide_eq_true (.inl H0.out)]; rfl, HB.out⟩
  · have h0' := beq_f h0
    have H0 := Lib.hid h0
    clear h0
    go_enter Try.func19, Try.ntmps19
    go_wp2_with fail
    go_ret
    refine ⟨ret_bool ?_, HB.out⟩
    rw [HO.out, Bool.eq_iff_iff, decide_eq_true_eq]
    constructor
    · intro h; exact .inr (by simpa using h)
    · intro h; have := h.resolve_left H0.out; simpa using this

/-- Is something asked? -/
def asks (c : CallR) : Bool := decide (Hst.told c ≠ 0)
def asksR (op cd : Int) : Bool := decide (Hst.toldR op cd ≠ 0)
theorem asks_open {c : CallR} (h : Hst.opn c = true) : asks c = false := by unfold asks; rw [told_open h]; rfl
theorem asks_late {c : CallR} (h : c.en < c.bg) : asks c = false := by unfold asks; rw [told_late h]; rfl
theorem asks_else {c : CallR} (h : Hst.opn c = false) (h2 : ¬ c.en < c.bg) : asks c = asksR c.op c.cd := by unfold asks asksR; rw [told_else h h2]

set_option maxRecDepth 100000 in
set_option maxHeartbeats 2000000 in
theorem asks_any (c : CallR) (w : World) : Calls Try.prog 18 #[c.vals] w fun e w' => e = .returned (.bool (asks c)) ∧ Below w.heap.size w w' := by
  have O := Lib.hid fun (W : World) => ropen_any c W
  have HT1 := fun h => Lib.hid (asks_open (c := c) h)
  have HT2 := fun h => Lib.hid (asks_late (c := c) h)
  have HT3 := fun h1 h2 => Lib.hid (asks_else (c := c) h1 h2)
  obtain ⟨op, ck, da, dn, dc, dl, bg, en, cd, ga, gn, gc, gl⟩ := c
  generalize Hst.opn ⟨op, ck, da, dn, dc, dl, bg, en, cd, ga, gn, gc, gl⟩ = o at *
  generalize asks ⟨op, ck, da, dn, dc, dl, bg, en, cd, ga, gn, gc, gl⟩ = t at *
  unfold CallR.vals at *
  dsimp only at *
  obtain ⟨W0, hW0⟩ : ∃ W0, w.alloc (.cells #[.int .i64 op, .int .u32 ck, .slice da dn dc, .int .i64 bg, .int .i64 en, .int .i64 cd, .slice ga gn gc] 30) = W0 := ⟨_, rfl⟩
  have hK : Blk W0 w.heap.size 30 #[.int .i64 op, .int .u32 ck, .slice da dn dc, .int .i64 bg, .int .i64 en, .int .i64 cd, .slice ga gn gc] := by rw [← hW0]; exact Blk.made w _ _
  have BA : Below w.heap.size w W0 := by rw [← hW0]; exact (Below.refl _ _).alloc (Nat.le_refl _) _
  have HK := Lib.hid fun (W : World) (B : Below W0.heap.size W0 W) => (hK.below B hK.lt).seven
  have HB := Lib.hid fun (W : World) (B : Below W0.heap.size W0 W) => BA.trans (B.mono BA.size)
  obtain ⟨c0, c1, c2, c3, c4, c5, c6⟩ := HK.out W0 (Below.refl _ _)
  clear hK BA
  go_enter Try.func18, Try.ntmps18
  go_wp2_with fail
  clear hW0
  refine (O.out W0).mono ?_
  rintro e W1 ⟨rfl, B1⟩
  clear c0 c1 c2 c3 c4 c5 c6
  obtain ⟨c0, c1, c2, c3, c4, c5, c6⟩ := HK.out W1 B1
  have HE := Lib.hid (HB.out W1 B1)
  clear B1
  cases o with
  | true =>
    have HT := HT1 rfl
    clear HT1 HT2 HT3
    go_wp2_with fail
    go_ret
    exact ⟨by rw [HT.out]; rfl, HE.out⟩
  | false =>
    by_cases hlt : en < bg
    · have HT := HT2 hlt
      clear HT1 HT2 HT3
      go_wp2_with fail
      go_ret
      exact ⟨by rw [HT.out]; rfl, HE.out⟩
    · have HT := HT3 rfl (by omega)
      clear HT1 HT2 HT3
      have hop : op = 1 ∨ op = 3 ∨ op = 4 ∨ (op ≠ 1 ∧ op ≠ 3 ∧ op ≠ 4) := by omega
      have hcd : cd = 0 ∨ cd = 7 ∨ cd = 8 ∨ cd = 9 ∨ cd = 6 ∨ (cd ≠ 0 ∧ cd ≠ 7 ∧ cd ≠ 8 ∧ cd ≠ 9 ∧ cd ≠ 6) := by omega
      rcases hop with rfl | rfl | rfl | ⟨h1, h3, h4⟩
      · rcases hcd with rfl | rfl | rfl | rfl | rfl | ⟨h0, h7, h8, h9, h6⟩
        all_goals first
          | (go_wp2_with fail
             go_ret
             exact ⟨by rw [HT.out]; rfl, HE.out⟩)
          | (have b0 := beq_f h0
             have b7 := beq_f h7
             have b8 := beq_f h8
             have b9 := beq_f h9
             have b6 := beq_f h6
             have HR := Lib.hid (show asksR 1 cd = false by unfold asksR Hst.toldR; rw [if_pos rfl, if_neg h0, if_neg h7, if_neg h8]; rfl)
             clear h0 h7 h8 h9 h6
             go_wp2_with fail
             go_ret
             exact ⟨by rw [HT.out, HR.out]; rfl, HE.out⟩)
      · rcases hcd with rfl | rfl | rfl | rfl | rfl | ⟨h0, h7, h8, h9, h6⟩
        all_goals first
          | (go_wp2_with fail
             go_ret
             exact ⟨by rw [HT.out]; rfl, HE.out⟩)
          | (have b0 := beq_f h0
             have b7 := beq_f h7
             have b8 := beq_f h8
             have b9 := beq_f h9
             have b6 := beq_f h6
             have HR := Lib.hid (show asksR 3 cd = false by unfold asksR Hst.toldR; rw [if_neg (by decide), if_pos rfl, if_neg h0, if_neg h7, if_neg h9, if_neg h6]; rfl)
             clear h0 h7 h8 h9 h6
             go_wp2_with fail
             go_ret
             exact ⟨by rw [HT.out, HR.out]; rfl, HE.out⟩)
      · rcases hcd with rfl | rfl | rfl | rfl | rfl | ⟨h0, h7, h8, h9, h6⟩
        all_goals first
          | (go_wp2_with fail
             go_ret
             exact ⟨by rw [HT.out]; rfl, HE.out⟩)
          | (have b0 := beq_f h0
             have b7 := beq_f h7
             have b8 := beq_f h8
             have b9 := beq_f h9
             have b6 := beq_f h6
             have HR := Lib.hid (show asksR 4 cd = false by unfold asksR Hst.toldR; rw [if_neg (by decide), if_neg (by decide), if_pos rfl, if_neg h0, if_neg h7, if_neg h9, if_neg h6]; rfl)
             clear h0 h7 h8 h9 h6
             go_wp2_with fail
             go_ret
             exact ⟨by rw [HT.out, HR.out]; rfl, HE.out⟩)
      · clear hcd
        have b1 := beq_f h1
        have b3 := beq_f h3
        have b4 := beq_f h4
        have HR := Lib.hid (show asksR op cd = false by unfold asksR Hst.toldR; rw [if_neg h1, if_neg h3, if_neg h4]; rfl)
        clear h1 h3 h4
        go_wp2_with fail
        go_ret
        exact ⟨by rw [HT.out, HR.out]; rfl, HE.out⟩

/-! Cells in a row. -/
def flatC (l : List CallR) : List Value := l.flatMap CallR.cells
theorem flatC_length (l : List CallR) : (flatC l).length = l.length * 7 := by
  induction l with
  | nil => rfl
  | cons p ps ih =>
    show (p.cells ++ flatC ps).length = _
    rw [List.length_append, ih, List.length_cons, show p.cells.length = 7 from rfl]; omega
theorem flatC_snoc (l : List CallR) (p : CallR) : flatC (l ++ [p]) = flatC l ++ p.cells := by simp [flatC]
theorem flatC_at (l : List CallR) (i j : Nat) (hj : j < 7) (hi : i < l.length) : (flatC l)[i * 7 + j]? = (l.getD i dC).cells[j]? := by
  induction l generalizing i with
  | nil => simp at hi
  | cons p ps ih =>
    show (p.cells ++ flatC ps)[i * 7 + j]? = _
    cases i with
    | zero =>
      rw [Nat.zero_mul, Nat.zero_add, List.getElem?_append_left (by rw [show p.cells.length = 7 from rfl]; exact hj)]
      rfl
    | succ i =>
      rw [List.getElem?_append_right (by rw [show p.cells.length = 7 from rfl]; omega), show p.cells.length = 7 from rfl, show (i + 1) * 7 + j - 7 = i * 7 + j from by omega]
      exact ih i (by simpa using hi)
theorem cells_one (c : CallR) : ∀ u ∈ c.cells, u.oneCell' = true := by
  intro u hu
  simp only [CallR.cells, List.mem_cons, List.not_mem_nil, or_false] at hu
  rcases hu with rfl | rfl | rfl | rfl | rfl | rfl | rfl <;> rfl

theorem info_call : (Try.prog.info? 39).map (fun i => (i.zero, i.size, i.bytes)) = some (some (.agg #[.int .i64 0, .int .u32 0, .slice none 0 0, .int .i64 0, .int .i64 0, .int .i64 0, .slice none 0 0]), 7, 88) := by kernel_rfl

/-- A row of calls of one's own reads as them. -/
theorem csl_own {W : World} {base : Nat} {T : TypeId} {v : Value} {l : List CallR} (h : W.ownsRow base T 7 v l.length (flatC l)) (hok : ∀ i, i < l.length → COk W W.heap.size (l.getD i dC)) : ∃ a c, v = .slice a l.length c ∧ l.length ≤ c ∧ CSl W W.heap.size a l.length l := by
  rcases h.2 with ⟨e1, e2⟩ | ⟨g, cap, cur, e1, e2, e3, e4, e5, e6, e7⟩
  · refine ⟨none, 0, by rw [e1, e2], by omega, rfl, hok, fun h => by omega⟩
  · refine ⟨_, cap, e1, e4, rfl, hok, fun hn => ⟨g, 0, rfl, (Array.getElem?_eq_some_iff.1 e3).1, fun i j hi hj => ?_⟩⟩
    have hx : i * 7 + j < (flatC l).length := by rw [flatC_length]; omega
    have := h.cells (g := g) (by rw [e1]; rfl) (i * 7 + j) ((flatC l)[i * 7 + j]) (List.getElem?_eq_getElem hx)
    rw [← flatC_at l i j hj hi, List.getElem?_eq_getElem hx]
    simpa [Addr.add_lit] using this

set_option maxRecDepth 100000 in
set_option maxHeartbeats 2000000 in
/-- The document's calls as the program's. -/
theorem of23_any (a : Option Addr) (n c : Nat) (l : List CallR) (w : World) (h : CSl w w.heap.size a n l) (hn : n ≤ 1000000) :
    Calls Try.prog 17 #[.slice a n c] w fun e w' => ∃ v, e = .returned v ∧ w'.ownsRow w.heap.size 39 7 v n (flatC l) ∧ Below w.heap.size w w' := by
  obtain ⟨i0, hi, hz0, hz1, hz2⟩ := info_parts info_call
  have HI := Lib.hid hi
  have HZ0 := Lib.hid hz0
  have HZ1 := Lib.hid hz1
  have HZ2 := Lib.hid hz2
  have HH := Lib.hid fun (W : World) (B : Below w.heap.size w W) => (h.below B).more B.size
  have HL := Lib.hid h.1
  have HA := Lib.hid fun (hpos : 0 < n) => (h.at_ hpos).imp fun b h => h.imp fun off h => h.1
  clear hi hz0 hz1 hz2 h
  go_enter Try.func17, Try.ntmps17
  go_wp2_with fail
  go_loopw [3, 4] (fun v iw wr => ∃ i : Nat, i ≤ n ∧ iw = .int .i64 i ∧ wr.ownsRow w.heap.size 39 7 v i (flatC (l.take i)) ∧ Below w.heap.size w wr) (fun _ iw _ => n - (intOf iw).toNat)
  case atStart => exact ⟨0, by omega, rfl, ⟨by simp [flatC], .inl ⟨rfl, rfl⟩⟩, Below.refl _ _⟩
  case round =>
    obtain ⟨i, hi, rfl, hown, B⟩ := hrel
    by_cases hlt : i < n
    · obtain ⟨b, off, ha⟩ := HA.out (by omega)
      subst ha
      obtain ⟨ci, hci⟩ : ∃ c, l.getD i dC = c := ⟨_, rfl⟩
      obtain ⟨k0, k1, k2, k3, k4, k5, k6⟩ := (HH.out wr B).at_some hlt hci
      have hi0 : (0 : Int) ≤ i := by omega
      have hi1 : (i : Int) < n := by omega
      have hil : i < l.length := by rw [HL.out]; exact hlt
      have HT := Lib.hid (show l.take (i + 1) = l.take i ++ [ci] from by rw [List.take_succ_eq_append_getElem hil, ← hci, List.getD, List.getElem?_eq_getElem hil]; rfl)
      have hB2 := B.alloc B.size (.cells #[.int .i64 ci.op, .int .u32 ci.ck, .slice ci.da ci.dn ci.dc, .int .i64 ci.bg, .int .i64 ci.en, .int .i64 ci.cd, .slice ci.ga ci.gn ci.gc] 30)
      have ho2 := hown.alloc (.cells #[.int .i64 ci.op, .int .u32 ci.ck, .slice ci.da ci.dn ci.dc, .int .i64 ci.bg, .int .i64 ci.en, .int .i64 ci.cd, .slice ci.ga ci.gn ci.gc] 30)
      have hbx := Blk.made wr 30 #[.int .i64 ci.op, .int .u32 ci.ck, .slice ci.da ci.dn ci.dc, .int .i64 ci.bg, .int .i64 ci.en, .int .i64 ci.cd, .slice ci.ga ci.gn ci.gc]
      clear hci B hown hil
      go_upto_region 6 with fail
      clear k0 k1 k2 k3 k4 k5 k6
      generalize wr.alloc (.cells #[.int .i64 ci.op, .int .u32 ci.ck, .slice ci.da ci.dn ci.dc, .int .i64 ci.bg, .int .i64 ci.en, .int .i64 ci.cd, .slice ci.ga ci.gn ci.gc] 30) = V at *
      generalize wr.heap.size = gx at *
      obtain ⟨k0, k1, k2, k3, k4, k5, k6⟩ := hbx.seven
      obtain ⟨g2, cap2, W2, hr, ho, hg2, -, -⟩ := append_elem (P := Try.prog) Try.underlying34 HI.out HZ0.out HZ1.out HZ2.out rfl (by decide) ho2 ci.cells rfl (cells_one ci) (by omega) (by unfold maxLen; omega) hB2.size
      have HB := Lib.hid (hB2.grown hg2 hB2.size (fun q e => (ho2.lt q e).1))
      rw [← flatC_snoc, ← HT.out] at ho
      have HO := Lib.hid ho
      have hr : (Builtin.append_ #[34, 34] 34 #[u3, .slice (some ⟨V.heap.size, 0, none⟩) 1 1]).run Try.prog (V.alloc (.cells #[.int .i64 ci.op, .int .u32 ci.ck, .slice ci.da ci.dn ci.dc, .int .i64 ci.bg, .int .i64 ci.en, .int .i64 ci.cd, .slice ci.ga ci.gn ci.gc] 39)) = .ok (.slice (some ⟨g2, 0, none⟩) (i + 1) cap2) W2 := hr
      clear hB2 ho2 hbx hg2 ho
      go_wp2_with (at_builtin; refine list_run (by rfl) _ _ rfl rfl rfl hr ?_; clear hr)
      go_roundw
      case rel => exact ⟨i + 1, by omega, by go_num, HO.out, HB.out⟩
      case measure => simp [intOf]; omega
    · obtain rfl : i = n := by omega
      rw [List.take_of_length_le (by rw [HL.out]; omega)] at hown
      have HO := Lib.hid hown
      clear hown
      go_wp2_with fail
      go_ret
      exact ⟨_, rfl, HO.out, B⟩

/-- Is a call more than is looked at? -/
def farC (c : CallR) : Bool := decide (100 < c.dn) || decide (100 < c.gn) || decide (c.bg < 0) || decide (c.en < 0)
def farI (l : List CallR) (i : Nat) : Bool := (l.take i).any farC
theorem farI_succ {l : List CallR} {i : Nat} {c : CallR} (hi : i < l.length) (hc : l.getD i dC = c) : farI l (i + 1) = (farI l i || farC c) := by
  unfold farI
  have : l[i] = c := by rw [← hc, List.getD, List.getElem?_eq_getElem hi]; rfl
  rw [List.take_succ_eq_append_getElem hi, List.any_append, this]; simp
def far (l : List CallR) (m : Nat) : Bool := decide (m < l.length) || l.any farC
theorem far_of {l : List CallR} {i m : Nat} (h : farI l i = true) : far l m = true := by
  unfold far; rw [any_of_take h]; simp

set_option maxRecDepth 100000 in
set_option maxHeartbeats 2000000 in
theorem far_any (a : Option Addr) (n c : Nat) (l : List CallR) (m : Nat) (w : World) (h : CSl w w.heap.size a n l) (hm : m ≤ 1000000) (hn : n ≤ 9223372036854775807) :
    Calls Try.prog 14 #[.slice a n c, .int .i64 m] w fun e w' => e = .returned (.bool (far l m)) ∧ w = w' := by
  by_cases hbig : m < n
  · have HF := Lib.hid (show far l m = true from by unfold far; rw [h.1, decide_eq_true hbig]; rfl)
    have hb : (m : Int) < n := by omega
    clear h hbig
    go_enter Try.func14, Try.ntmps14
    go_wp2_with fail
    go_ret
    exact ⟨by rw [HF.out]; rfl, rfl⟩
  have HE := Lib.hid (show far l m = farI l n from by unfold far farI; rw [h.1, decide_eq_false hbig, ← h.1, List.take_length]; rfl)
  have HY := Lib.hid fun (i : Nat) (e : farI l i = true) => far_of (m := m) e
  have hb : ¬ ((m : Int) < n) := by omega
  have HL := Lib.hid h.1
  have HH := Lib.hid h
  have HA := Lib.hid fun (hpos : 0 < n) => (h.at_ hpos).imp fun b h => h.imp fun off h => h.1
  clear h hbig
  go_enter Try.func14, Try.ntmps14
  go_wp2_with fail
  go_loop [5] (fun iw => ∃ i : Nat, i ≤ n ∧ iw = .int .i64 i ∧ farI l i = false) (fun iw => n - (intOf iw).toNat)
  case atStart => exact ⟨0, by omega, rfl, rfl⟩
  case round =>
    obtain ⟨i, hi, rfl, hno⟩ := hrel
    have HNO := Lib.hid hno
    clear hno
    by_cases hlt : i < n
    · obtain ⟨b, off, ha⟩ := HA.out (by omega)
      subst ha
      obtain ⟨ci, hci⟩ : ∃ c, l.getD i dC = c := ⟨_, rfl⟩
      obtain ⟨k0, k1, k2, k3, k4, k5, k6⟩ := HH.out.at_some hlt hci
      have hi0 : (0 : Int) ≤ i := by omega
      have hi1 : (i : Int) < n := by omega
      have HT := Lib.hid (farI_succ (by rw [HL.out]; exact hlt) hci)
      have HYI := Lib.hid fun (e : farC ci = true) => HY.out (i + 1) (by rw [HT.out, e]; simp)
      have HNI := Lib.hid fun (e : farC ci = false) => (show farI l (i + 1) = false from by rw [HT.out, e, HNO.out]; rfl)
      have HFC := Lib.hid (show farC ci = (decide (100 < ci.dn) || decide (100 < ci.gn) || decide (ci.bg < 0) || decide (ci.en < 0)) from rfl)
      clear hci
      obtain ⟨op, ck, da, dn, dc, dl, bg, en, cd, ga, gn, gc, gl⟩ := ci
      dsimp only at *
      generalize farC ⟨op, ck, da, dn, dc, dl, bg, en, cd, ga, gn, gc, gl⟩ = fc at *
      by_cases x1 : (100 : Int) < dn
      · have HX := Lib.hid (HYI.out (by rw [HFC.out]; simp; omega))
        go_wp2_with fail
        go_ret
        exact ⟨by rw [HX.out]; rfl, rfl⟩
      · by_cases x2 : (100 : Int) < gn
        · have HX := Lib.hid (HYI.out (by rw [HFC.out]; simp; omega))
          go_wp2_with fail
          go_ret
          exact ⟨by rw [HX.out]; rfl, rfl⟩
        · by_cases x3 : bg < 0
          · have HX := Lib.hid (HYI.out (by rw [HFC.out]; simp; omega))
            go_wp2_with fail
            go_ret
            exact ⟨by rw [HX.out]; rfl, rfl⟩
          · by_cases x4 : en < 0
            · have HX := Lib.hid (HYI.out (by rw [HFC.out]; simp; omega))
              go_wp2_with fail
              go_ret
              exact ⟨by rw [HX.out]; rfl, rfl⟩
            · have HX := Lib.hid (HNI.out (by rw [HFC.out]; simp; omega))
              go_wp2_with fail
              go_round
              case rel => exact ⟨i + 1, by omega, by go_num, HX.out⟩
              case measure => simp [intOf]; omega
    · obtain rfl : i = n := by omega
      have HX := Lib.hid (HE.out.trans HNO.out)
      go_wp2_with fail
      go_ret
      exact ⟨by rw [HX.out]; rfl, rfl⟩

end Go.Proofs.Ytboadalojimdlaa
