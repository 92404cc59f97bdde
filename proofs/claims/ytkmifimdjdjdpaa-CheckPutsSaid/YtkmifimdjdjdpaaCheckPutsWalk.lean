/-
  The walk of corncriblaw05.CheckPuts.
-/
import Derived.Test.YtkmifimdjdjdpaaChkRefPut
import Derived.Test.YtkmifimdjdjdpaaChkAlive
import Derived.Test.YtkmifimdjdjdpaaChkRefRight
namespace Go.Proofs.Ytkmifimdjdjdpaa
open Go.RowKit

set_option maxRecDepth 100000 in
set_option maxHeartbeats 4000000 in
theorem cputs_walk (v g u : Int) (a : Option Addr) (n c : Nat) (ps : List PosR) (w : World) (h : PSl w w.heap.size a n ps) (hn : n ≤ 4398046510976) :
    Calls Try.prog 4 #[.agg #[.int .i64 v, .int .i64 g, .int .i64 u, .slice a n c]] w fun e w' => e = .returned (.bool true) ∧ Below w.heap.size w w' := by
  obtain ⟨W0, hW0⟩ : ∃ W0, w.alloc (.cells #[.int .i64 v, .int .i64 g, .int .i64 u, .slice a n c] 40) = W0 := ⟨_, rfl⟩
  have hK1 : Blk W0 w.heap.size 40 #[.int .i64 v, .int .i64 g, .int .i64 u, .slice a n c] := by rw [← hW0]; exact Blk.made w _ _
  have BA : Below w.heap.size w W0 := by rw [← hW0]; exact (Below.refl _ _).alloc (Nat.le_refl _) _
  have C1 := Lib.hid fun (W : World) (B : Below W0.heap.size W0 W) => (hK1.below B hK1.lt).four
  have H1 := Lib.hid fun (W : World) (B : Below W0.heap.size W0 W) => (h.below (BA.trans (B.mono BA.size))).more (BA.trans (B.mono BA.size)).size
  have BW := Lib.hid fun (W : World) (B : Below W0.heap.size W0 W) => BA.trans (B.mono BA.size)
  have HL := Lib.hid h.1
  have HF := Lib.hid h.2.1
  clear hK1 BA h
  by_cases hbig : 60 < n ∧ n ≤ 4096
  · obtain ⟨h60, h4096⟩ := hbig
    go_enter Try.func4, Try.ntmps4
    go_wp2_with fail
    clear hW0
    refine (chk_alive _).mono ?_
    rintro e W1 ⟨rfl, B1⟩
    obtain ⟨p0, p1, p2, p3⟩ := C1.out W1 B1
    go_wp2_with fail
    go_ret
    exact ⟨rfl, BW.out _ B1⟩
  by_cases hok : ckR v g u ps = 0
  · obtain ⟨hle, ⟨a1, a2, a3, a4, a5, a6⟩, -⟩ := ck_ok hok
    have hn60 : n ≤ 60 := by have := HL.out; omega
    clear hbig hle
    go_enter Try.func4, Try.ntmps4
    go_wp2_with fail
    clear hW0
    refine (chk_alive _).mono ?_
    rintro e W1 ⟨rfl, B1⟩
    obtain ⟨p0, p1, p2, p3⟩ := C1.out W1 B1
    go_wp2_with fail
    refine (rright_any v g u a n c ps W1 (H1.out W1 B1) (by omega)).mono ?_
    rintro e W2 ⟨rfl, B2⟩
    clear p0 p1 p2 p3
    have B2 := B1.trans (B2.mono B1.size)
    clear B1
    obtain ⟨v, rfl⟩ : ∃ k : Nat, v = k := ⟨v.toNat, by omega⟩
    obtain ⟨g, rfl⟩ : ∃ k : Nat, g = k := ⟨g.toNat, by omega⟩
    obtain ⟨u, rfl⟩ : ∃ k : Nat, u = k := ⟨u.toNat, by omega⟩
    have P1 := Lib.hid fun (ax : Option Addr) (cx : Nat) (W : World) (hp : PSl W W.heap.size ax n ps) => pput_ok v g u ax n cx ps W hp hok
    have P2 := Lib.hid fun (W : World) (hp : PSl W W.heap.size a n ps) => rcput_any v g u a n c ps W hp hok
    have P3 := Lib.hid fun (ax : Option Addr) (cx : Nat) (W : World) (hp : PSl W W.heap.size ax n ps) => right_any v g u ax n cx ps W hp (by omega)
    rw [hok] at P3 ⊢
    have hm : 24 + 24 * n ≤ 1464 := by omega
    generalize ckBytes v g u ps = L at *
    generalize 24 + 24 * n = m at *
    obtain ⟨p0, p1, p2, p3⟩ := C1.out W2 B2
    clear hok a1 a2 a3 a4 a5 a6
    go_wp2_with fail
    refine (ofc_any v g u a n c ps W2 (H1.out W2 B2) (by omega)).mono ?_
    rintro e W3 ⟨x, rfl, hx, B3⟩
    obtain ⟨ax, cx, rfl, hcx⟩ := own_form_any hx
    have B3 := B2.trans (B3.mono B2.size)
    have hpx := psl_own hx HF.out
    clear p0 p1 p2 p3 B2 hx
    go_wp2_with fail
    refine (P1.out ax cx W3 hpx).mono ?_
    rintro e W4 ⟨b4, c4, rfl, ho4, B4⟩
    have B4 := B3.trans (B4.mono B3.size)
    have HO4 := Lib.hid fun (W : World) (B : Below W4.heap.size W4 W) => own_below ho4 B (Nat.le_refl _)
    have hB4 : Below W0.heap.size W0 W4 := B4
    have HB4 := Lib.hid fun (W : World) (B : Below W4.heap.size W4 W) => hB4.trans (B.mono hB4.size)
    obtain ⟨p0, p1, p2, p3⟩ := C1.out W4 B4
    clear hpx B3 ho4 B4 hB4
    unfold errc
    go_wp2_with fail
    refine (ofc_any v g u a n c ps W4 (H1.out W4 (HB4.out _ (Below.refl _ _))) (by omega)).mono ?_
    rintro e W5 ⟨x, rfl, hx, B5⟩
    obtain ⟨ay, cy, rfl, hcy⟩ := own_form_any hx
    have hpy := psl_own hx HF.out
    clear p0 p1 p2 p3 hx
    go_wp2_with fail
    refine (P3.out ay cy W5 hpy).mono ?_
    rintro e W6 ⟨rfl, B6⟩
    have B6 := B5.trans (B6.mono B5.size)
    clear hpy B5
    unfold errc
    obtain ⟨p0, p1, p2, p3⟩ := C1.out W6 (HB4.out _ B6)
    go_wp2_with fail
    refine (code_c 0 _ (by decide)).mono ?_
    rintro e w5 ⟨rfl, rfl⟩
    go_wp2_with fail
    refine (code_c 0 _ (by decide)).mono ?_
    rintro e w6 ⟨rfl, rfl⟩
    go_wp2_with fail
    refine (P2.out W6 (H1.out W6 (HB4.out _ B6))).mono ?_
    rintro e W7 ⟨b7, c7, rfl, ho7, B7⟩
    have B7 := B6.trans (B7.mono B6.size)
    have S := same_any (some ⟨b4, 0, none⟩) (some ⟨b7, 0, none⟩) m m c4 c7 L L W7 (bsl_own (HO4.out _ B7)) (bsl_own ho7) (by omega)
    rw [decide_eq_true rfl] at S
    have BE := Lib.hid (BW.out _ (HB4.out _ B7))
    clear p0 p1 p2 p3 B6 ho7 B7
    go_wp2_with fail
    refine S.mono ?_
    rintro e W8 ⟨rfl, q, rfl⟩
    clear S
    go_wp2_with fail
    go_ret
    exact ⟨rfl, below_drewN BE.out q⟩
  · have h12 := (ck_cases v g u ps).resolve_left hok
    have P1 := Lib.hid fun (ax : Option Addr) (cx : Nat) (W : World) (hp : PSl W W.heap.size ax n ps) => pput_bad v g u ax n cx ps W hp (by omega) hok
    have P3 := Lib.hid fun (ax : Option Addr) (cx : Nat) (W : World) (hp : PSl W W.heap.size ax n ps) => right_any v g u ax n cx ps W hp (by omega)
    have P4 := Lib.hid fun (W : World) (hp : PSl W W.heap.size a n ps) => rright_any v g u a n c ps W hp (by omega)
    have hbc : n ≤ 60 ∨ 4096 < n := by omega
    have hk17 : ckR v g u ps ≤ 17 := ckR_le v g u ps
    have hkb : ((ckR v g u ps : Nat) : Int) ≠ 0 := by omega
    have hkb : (((ckR v g u ps : Nat) : Int) != 0) = true := by rw [bne_iff_ne]; exact hkb
    clear h12
    generalize ckR v g u ps = k at *
    clear hok hbig
    have HK := Lib.hid hk17
    clear hk17
    rcases hbc with hbc | hbc
    all_goals
      go_enter Try.func4, Try.ntmps4
      go_wp2_with fail
      clear hW0
      refine (chk_alive _).mono ?_
      rintro e W1 ⟨rfl, B1⟩
      obtain ⟨p0, p1, p2, p3⟩ := C1.out W1 B1
      go_wp2_with fail
      refine (P4.out W1 (H1.out W1 B1)).mono ?_
      rintro e W2 ⟨rfl, B2⟩
      clear p0 p1 p2 p3
      have B2 := B1.trans (B2.mono B1.size)
      obtain ⟨p0, p1, p2, p3⟩ := C1.out W2 B2
      clear B1
      go_wp2_with fail
      refine (ofc_any v g u a n c ps W2 (H1.out W2 B2) (by omega)).mono ?_
      rintro e W3 ⟨x, rfl, hx, B3⟩
      obtain ⟨ax, cx, rfl, hcx⟩ := own_form_any hx
      have B3 := B2.trans (B3.mono B2.size)
      have hpx := psl_own hx HF.out
      clear p0 p1 p2 p3 B2 hx
      go_wp2_with fail
      refine (P1.out ax cx W3 hpx).mono ?_
      rintro e W4 ⟨rfl, B4⟩
      have B4 := B3.trans (B4.mono B3.size)
      obtain ⟨p0, p1, p2, p3⟩ := C1.out W4 B4
      clear hpx B3
      go_wp2_with fail
      refine (ofc_any v g u a n c ps W4 (H1.out W4 B4) (by omega)).mono ?_
      rintro e W5 ⟨x, rfl, hx, B5⟩
      obtain ⟨ay, cy, rfl, hcy⟩ := own_form_any hx
      have B5 := B4.trans (B5.mono B4.size)
      have hpy := psl_own hx HF.out
      clear p0 p1 p2 p3 hx B4
      go_wp2_with fail
      refine (P3.out ay cy W5 hpy).mono ?_
      rintro e W6 ⟨rfl, B6⟩
      have BE := Lib.hid (BW.out _ (B5.trans (B6.mono B5.size)))
      clear hpy B5 B6
      go_wp2_with fail
      refine (code_c k _ HK.out).mono ?_
      rintro e w5 ⟨rfl, rfl⟩
      go_wp2_with fail
      refine (code_c k _ HK.out).mono ?_
      rintro e w6 ⟨rfl, rfl⟩
      go_wp2_with fail
      go_ret
      exact ⟨rfl, BE.out⟩

end Go.Proofs.Ytkmifimdjdjdpaa
