/-
  hist: Open, Told, fits, of, the spans' cuts.
-/
import Derived.Test.YtboadalojimdlaaHst
import Derived.Test.YtboadalojimdlaaElem
import Derived.Test.YtboadalojimdlaaPack
import Derived.Test.YtboadalojimdlaaNdlSame
import Derived.Deep.DeepCutAuto
import Derived.Deep.RegionHeld3
namespace Go.Proofs.Ytboadalojimdlaa
open Go.RowKit

/-- A call as a value. -/
def CallR.vals (c : CallR) : Value := .agg #[.int .i64 c.op, .int .u32 c.ck, .slice c.da c.dn c.dc, .int .i64 c.bg, .int .i64 c.en, .int .i64 c.cd, .slice c.ga c.gn c.gc]
theorem beq_t {a b : Int} (h : a = b) : (a == b) = true := by rw [h]; exact beq_self_eq_true b
theorem beq_f {a b : Int} (h : a ≠ b) : (a == b) = false := by rw [beq_eq_false_iff_ne]; exact h
theorem bne_t {a b : Int} (h : a ≠ b) : (a != b) = true := by rw [bne_iff_ne]; exact h
theorem bne_f {a b : Int} (h : a = b) : (a != b) = false := by rw [h]; exact bne_self_eq_false b

/-- A block of seven cells. -/
theorem Blk.seven {w : World} {g : Nat} {t : TypeId} {a b c d e f h : Value} (k : Blk w g t #[a, b, c, d, e, f, h]) :
    w.cell? ⟨g, 0, none⟩ = some a ∧ w.cell? ⟨g, 1, none⟩ = some b ∧ w.cell? ⟨g, 2, none⟩ = some c ∧ w.cell? ⟨g, 3, none⟩ = some d ∧ w.cell? ⟨g, 4, none⟩ = some e ∧ w.cell? ⟨g, 5, none⟩ = some f ∧ w.cell? ⟨g, 6, none⟩ = some h :=
  ⟨k.cell 0, k.cell 1, k.cell 2, k.cell 3, k.cell 4, k.cell 5, k.cell 6⟩

set_option maxRecDepth 100000 in
theorem hopen_any (c : CallR) (w : World) : Calls Try.prog 65 #[c.vals] w fun e w' => e = .returned (.bool (Hst.opn c)) ∧ Below w.heap.size w w' := by
  obtain ⟨op, ck, da, dn, dc, dl, bg, en, cd, ga, gn, gc, gl⟩ := c
  have HO := Lib.hid (show Hst.opn ⟨op, ck, da, dn, dc, dl, bg, en, cd, ga, gn, gc, gl⟩ = decide (en = 0 ∨ cd = 17) from rfl)
  have HB := Lib.hid ((Below.refl w.heap.size w).alloc (Nat.le_refl _) (.cells #[.int .i64 op, .int .u32 ck, .slice da dn dc, .int .i64 bg, .int .i64 en, .int .i64 cd, .slice ga gn gc] 39))
  unfold CallR.vals
  dsimp only
  by_cases h0 : en = 0
  · have h0' := beq_t h0
    have H0 := Lib.hid h0
    clear h0
    go_enter Try.func65, Try.ntmps65
    go_wp2_with fail
    go_ret
    exact ⟨by rw [HO.out, decide_eq_true (.inl H0.out)]; rfl, HB.out⟩
  · have h0' := beq_f h0
    have H0 := Lib.hid h0
    clear h0
    go_enter Try.func65, Try.ntmps65
    go_wp2_with fail
    go_ret
    refine ⟨ret_bool ?_, HB.out⟩
    rw [HO.out, Bool.eq_iff_iff, decide_eq_true_eq]
    constructor
    · intro h; exact .inr (by simpa using h)
    · intro h; have := h.resolve_left H0.out; simpa using this

theorem told_open {c : CallR} (h : Hst.opn c = true) : Hst.told c = 0 := by unfold Hst.told; rw [if_pos (.inl h)]
theorem told_late {c : CallR} (h : c.en < c.bg) : Hst.told c = 0 := by unfold Hst.told; rw [if_pos (.inr h)]
theorem told_else {c : CallR} (h : Hst.opn c = false) (h2 : ¬ c.en < c.bg) : Hst.told c = Hst.toldR c.op c.cd := by
  unfold Hst.told; rw [if_neg]; intro q; rcases q with q | q
  · rw [h] at q; cases q
  · exact h2 q

set_option maxRecDepth 100000 in
set_option maxHeartbeats 2000000 in
theorem told_any (c : CallR) (w : World) : Calls Try.prog 49 #[c.vals] w fun e w' => e = .returned (.int .i64 (Hst.told c : Nat)) ∧ Below w.heap.size w w' := by
  have O := Lib.hid fun (W : World) => hopen_any c W
  have HT1 := fun h => Lib.hid (told_open (c := c) h)
  have HT2 := fun h => Lib.hid (told_late (c := c) h)
  have HT3 := fun h1 h2 => Lib.hid (told_else (c := c) h1 h2)
  obtain ⟨op, ck, da, dn, dc, dl, bg, en, cd, ga, gn, gc, gl⟩ := c
  generalize Hst.opn ⟨op, ck, da, dn, dc, dl, bg, en, cd, ga, gn, gc, gl⟩ = o at *
  generalize Hst.told ⟨op, ck, da, dn, dc, dl, bg, en, cd, ga, gn, gc, gl⟩ = t at *
  unfold CallR.vals at *
  dsimp only at *
  obtain ⟨W0, hW0⟩ : ∃ W0, w.alloc (.cells #[.int .i64 op, .int .u32 ck, .slice da dn dc, .int .i64 bg, .int .i64 en, .int .i64 cd, .slice ga gn gc] 39) = W0 := ⟨_, rfl⟩
  have hK : Blk W0 w.heap.size 39 #[.int .i64 op, .int .u32 ck, .slice da dn dc, .int .i64 bg, .int .i64 en, .int .i64 cd, .slice ga gn gc] := by rw [← hW0]; exact Blk.made w _ _
  have BA : Below w.heap.size w W0 := by rw [← hW0]; exact (Below.refl _ _).alloc (Nat.le_refl _) _
  have HK := Lib.hid fun (W : World) (B : Below W0.heap.size W0 W) => (hK.below B hK.lt).seven
  have HB := Lib.hid fun (W : World) (B : Below W0.heap.size W0 W) => BA.trans (B.mono BA.size)
  obtain ⟨c0, c1, c2, c3, c4, c5, c6⟩ := HK.out W0 (Below.refl _ _)
  clear hK BA
  go_enter Try.func49, Try.ntmps49
  go_wp2_with fail
  clear hW0
  refine (O.out W0).mono ?_
  rintro e W1 ⟨rfl, B1⟩
  clear c0 c1 c2 c3 c4 c5 c6
  obtain ⟨c0, c1, c2, c3, c4, c5, c6⟩ := HK.out W1 B1
  have HE := Lib.hid (HB.out W1 B1)
  clear B1
  cases o with
  | true =>
    have HT := HT1 rfl
    clear HT1 HT2 HT3
    go_wp2_with fail
    go_ret
    exact ⟨by rw [HT.out]; rfl, HE.out⟩
  | false =>
    by_cases hlt : en < bg
    · have HT := HT2 hlt
      clear HT1 HT2 HT3
      go_wp2_with fail
      go_ret
      exact ⟨by rw [HT.out]; rfl, HE.out⟩
    · have HT := HT3 rfl (by omega)
      clear HT1 HT2 HT3
      have hop : op = 1 ∨ op = 3 ∨ op = 4 ∨ (op ≠ 1 ∧ op ≠ 3 ∧ op ≠ 4) := by omega
      have hcd : cd = 0 ∨ cd = 7 ∨ cd = 8 ∨ cd = 9 ∨ cd = 6 ∨ (cd ≠ 0 ∧ cd ≠ 7 ∧ cd ≠ 8 ∧ cd ≠ 9 ∧ cd ≠ 6) := by omega
      rcases hop with rfl | rfl | rfl | ⟨h1, h3, h4⟩
      · rcases hcd with rfl | rfl | rfl | rfl | rfl | ⟨h0, h7, h8, h9, h6⟩
        all_goals first
          | (go_wp2_with fail
             go_ret
             exact ⟨by rw [HT.out]; rfl, HE.out⟩)
          | (have b0 := beq_f h0
             have b7 := beq_f h7
             have b8 := beq_f h8
             have b9 := beq_f h9
             have b6 := beq_f h6
             have HR := Lib.hid (show Hst.toldR 1 cd = 0 by unfold Hst.toldR; rw [if_pos rfl, if_neg h0, if_neg h7, if_neg h8])
             clear h0 h7 h8 h9 h6
             go_wp2_with fail
             go_ret
             exact ⟨by rw [HT.out, HR.out]; rfl, HE.out⟩)
      · rcases hcd with rfl | rfl | rfl | rfl | rfl | ⟨h0, h7, h8, h9, h6⟩
        all_goals first
          | (go_wp2_with fail
             go_ret
             exact ⟨by rw [HT.out]; rfl, HE.out⟩)
          | (have b0 := beq_f h0
             have b7 := beq_f h7
             have b8 := beq_f h8
             have b9 := beq_f h9
             have b6 := beq_f h6
             have HR := Lib.hid (show Hst.toldR 3 cd = 0 by unfold Hst.toldR; rw [if_neg (by decide), if_pos rfl, if_neg h0, if_neg h7, if_neg h9, if_neg h6])
             clear h0 h7 h8 h9 h6
             go_wp2_with fail
             go_ret
             exact ⟨by rw [HT.out, HR.out]; rfl, HE.out⟩)
      · rcases hcd with rfl | rfl | rfl | rfl | rfl | ⟨h0, h7, h8, h9, h6⟩
        all_goals first
          | (go_wp2_with fail
             go_ret
             exact ⟨by rw [HT.out]; rfl, HE.out⟩)
          | (have b0 := beq_f h0
             have b7 := beq_f h7
             have b8 := beq_f h8
             have b9 := beq_f h9
             have b6 := beq_f h6
             have HR := Lib.hid (show Hst.toldR 4 cd = 0 by unfold Hst.toldR; rw [if_neg (by decide), if_neg (by decide), if_pos rfl, if_neg h0, if_neg h7, if_neg h9, if_neg h6])
             clear h0 h7 h8 h9 h6
             go_wp2_with fail
             go_ret
             exact ⟨by rw [HT.out, HR.out]; rfl, HE.out⟩)
      · clear hcd
        have b1 := beq_f h1
        have b3 := bne_t h3
        have b4 := bne_t h4
        have HR := Lib.hid (show Hst.toldR op cd = 0 by unfold Hst.toldR; rw [if_neg h1, if_neg h3, if_neg h4])
        clear h1 h3 h4
        go_wp2_with fail
        go_ret
        exact ⟨by rw [HT.out, HR.out]; rfl, HE.out⟩

theorem fits_put {c b : CallR} (h : c.op = 1) : Hst.fits c b = true := by unfold Hst.fits; rw [if_pos h]
theorem fits_cookie {c b : CallR} (h : c.op ≠ 1) (h9 : c.cd = 9) : Hst.fits c b = !(c.ck == b.ck) := by
  unfold Hst.fits; rw [if_neg h, if_pos h9, Bool.eq_iff_iff]; simp
theorem fits_get {c b : CallR} (h : c.op ≠ 1) (h9 : c.cd ≠ 9) (h3 : c.op = 3) : Hst.fits c b = ((c.ck == b.ck) && decide (c.gl = b.dl)) := by
  unfold Hst.fits; rw [if_neg h, if_neg h9, if_pos h3, Bool.eq_iff_iff]; simp
theorem fits_del {c b : CallR} (h : c.op ≠ 1) (h9 : c.cd ≠ 9) (h3 : c.op ≠ 3) : Hst.fits c b = (c.ck == b.ck) := by
  unfold Hst.fits; rw [if_neg h, if_neg h9, if_neg h3, Bool.eq_iff_iff]; simp

set_option maxRecDepth 100000 in
set_option maxHeartbeats 2000000 in
theorem hfits_any (c b : CallR) (w : World) {B B' : Nat} (h : BSl w B c.ga c.gn c.gl) (h' : BSl w B' b.da b.dn b.dl) (hB : B ≤ w.heap.size) (hB' : B' ≤ w.heap.size) : Calls Try.prog 68 #[c.vals, b.vals] w fun e w' => e = .returned (.bool (Hst.fits c b)) ∧ Below w.heap.size w w' := by
  have F1 := fun h => Lib.hid (fits_put (c := c) (b := b) h)
  have F2 := fun h h9 => Lib.hid (fits_cookie (c := c) (b := b) h h9)
  have F3 := fun h h9 h3 => Lib.hid (fits_get (c := c) (b := b) h h9 h3)
  have F4 := fun h h9 h3 => Lib.hid (fits_del (c := c) (b := b) h h9 h3)
  obtain ⟨op, ck, da, dn, dc, dl, bg, en, cd, ga, gn, gc, gl⟩ := c
  obtain ⟨op', ck', da', dn', dc', dl', bg', en', cd', ga', gn', gc', gl'⟩ := b
  generalize Hst.fits ⟨op, ck, da, dn, dc, dl, bg, en, cd, ga, gn, gc, gl⟩ ⟨op', ck', da', dn', dc', dl', bg', en', cd', ga', gn', gc', gl'⟩ = r at *
  unfold CallR.vals at *
  dsimp only at *
  have BA := ((Below.refl w.heap.size w).alloc (Nat.le_refl _) (.cells #[.int .i64 op, .int .u32 ck, .slice da dn dc, .int .i64 bg, .int .i64 en, .int .i64 cd, .slice ga gn gc] 39)).alloc (by simp) (.cells #[.int .i64 op', .int .u32 ck', .slice da' dn' dc', .int .i64 bg', .int .i64 en', .int .i64 cd', .slice ga' gn' gc'] 39)
  have E := Lib.hid fun (W : World) (B : Below w.heap.size w W) => bequal_any ga da' gn dn' gc dc' gl dl' W ((h.more hB).below B) ((h'.more hB').below B)
  have HB := Lib.hid BA
  clear h h' BA
  by_cases h1 : op = 1
  · subst h1
    have F := F1 rfl
    clear F1 F2 F3 F4
    go_enter Try.func68, Try.ntmps68
    go_wp2_with fail
    go_ret
    exact ⟨by rw [F.out]; rfl, HB.out⟩
  · have b1 := beq_f h1
    by_cases h9 : cd = 9
    · subst h9
      have F := F2 h1 rfl
      clear F1 F2 F3 F4 h1
      go_enter Try.func68, Try.ntmps68
      go_wp2_with fail
      go_ret
      exact ⟨by rw [F.out]; rfl, HB.out⟩
    · have b9 := beq_f h9
      by_cases h3 : op = 3
      · subst h3
        have F := F3 h1 h9 rfl
        clear F1 F2 F3 F4 h1 h9
        cases hck : (ck == ck') with
        | true =>
          rw [hck] at F
          have hck' : (ck == ck') = true := hck
          clear hck
          go_enter Try.func68, Try.ntmps68
          go_wp2_with fail
          refine (E.out _ HB.out).mono ?_
          rintro e w1 ⟨rfl, rfl⟩
          go_wp2_with fail
          go_ret
          exact ⟨by rw [F.out]; rfl, HB.out⟩
        | false =>
          rw [hck] at F
          have hck' : (ck == ck') = false := hck
          clear hck
          go_enter Try.func68, Try.ntmps68
          go_wp2_with fail
          go_ret
          exact ⟨by rw [F.out]; rfl, HB.out⟩
      · have b3 := beq_f h3
        have F := F4 h1 h9 h3
        clear F1 F2 F3 F4 h1 h9 h3
        go_enter Try.func68, Try.ntmps68
        go_wp2_with fail
        go_ret
        exact ⟨by rw [F.out]; rfl, HB.out⟩

/-- The cut from below. -/
theorem from_any (g : Nat) (lo hi t : Int) (w : World) (h : Blk w g 120 #[.int .i64 lo, .int .i64 hi]) :
    Calls Try.prog 67 #[.pointer (some ⟨g, 0, none⟩), .int .i64 t] w fun e w' => e = .returned (.tuple #[]) ∧ w' = w.setCell ⟨g, 0, none⟩ (.int .i64 (max lo t)) := by
  have c0 := h.cell 0
  have c1 := h.cell 1
  have f0 := h.frozen 0
  clear h
  go_enter Try.func67, Try.ntmps67
  go_wp2_with fail
  all_goals
    go_end0
    exact ⟨rfl, congrArg _ (vint (by omega))⟩
theorem till_any (g : Nat) (lo hi t : Int) (w : World) (h : Blk w g 120 #[.int .i64 lo, .int .i64 hi]) :
    Calls Try.prog 69 #[.pointer (some ⟨g, 0, none⟩), .int .i64 t] w fun e w' => e = .returned (.tuple #[]) ∧ w' = w.setCell ⟨g, 1, none⟩ (.int .i64 (min hi t)) := by
  have c0 := h.cell 0
  have c1 := h.cell 1
  have f1 := h.frozen 1
  clear h
  go_enter Try.func69, Try.ntmps69
  go_wp2_with fail
  all_goals
    go_end0
    exact ⟨rfl, congrArg _ (vint (by omega))⟩

end Go.Proofs.Ytboadalojimdlaa
