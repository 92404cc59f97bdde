/-
  The walk of corncriblaw06.ScanAll.
-/
import Derived.Test.YtmmmakfmpopniaaDoorScnAlive
namespace Go.Proofs.YtmmmakfmpopniaaDoor
open Go.RowKit
set_option linter.unusedVariables false

/-- What stands in a row, in every later world. -/
theorem FRow.later {w : World} {base n c : Nat} {T : TypeId} {a : Option Addr} {fs : List Fd} (h : FRow w base T (.slice a n c) fs) (i : Nat) (hi : i < fs.length) (f : Fd) (hf : fs[i]? = some f) :
    ∃ b av cv, a = some ⟨b, 0, none⟩ ∧ ∀ W, Below w.heap.size w W → (W.cell? ⟨b, i * 6, none⟩ = some (.int .i64 f.off) ∧ W.cell? ⟨b, i * 6 + 1, none⟩ = some (.int .i64 f.sz) ∧ W.cell? ⟨b, i * 6 + 2, none⟩ = some (.int .u64 f.key) ∧ W.cell? ⟨b, i * 6 + 3, none⟩ = some (.int .u32 f.ck) ∧ W.cell? ⟨b, i * 6 + 4, none⟩ = some (.bool f.g) ∧ W.cell? ⟨b, i * 6 + 5, none⟩ = some (.slice av f.l.length cv)) ∧ BSl W W.heap.size av f.l.length f.l := by
  obtain ⟨b, av, cv, ha, hb, c0, c1, c2, c3, c4, c5, -, hbs⟩ := h.at_ i hi f hf
  refine ⟨b, av, cv, ha, fun W B => ⟨⟨?_, ?_, ?_, ?_, ?_, ?_⟩, (hbs.below B).more B.size⟩⟩
  · rw [B.cell (p := ⟨b, i * 6, none⟩) hb]; exact c0
  · rw [B.cell (p := ⟨b, i * 6 + 1, none⟩) hb]; exact c1
  · rw [B.cell (p := ⟨b, i * 6 + 2, none⟩) hb]; exact c2
  · rw [B.cell (p := ⟨b, i * 6 + 3, none⟩) hb]; exact c3
  · rw [B.cell (p := ⟨b, i * 6 + 4, none⟩) hb]; exact c4
  · rw [B.cell (p := ⟨b, i * 6 + 5, none⟩) hb]; exact c5
theorem tornB_of {c : Nat} (h : c = 0 ∨ c = 3 ∨ c = 4 ∨ c = 5) : tornB c = decide (c ≠ 0) := by
  rcases h with rfl | rfl | rfl | rfl <;> rfl
theorem ndSame_self (key ck : Nat) (g : Bool) (l : List (BitVec 8)) : ndSame key ck g l key ck g l = true := by unfold ndSame; simp
/-- What where tells of a scan's end. -/
def WhP (w : World) (nm : ByteArray) (o c : Nat) (e : Ending) (w' : World) : Prop :=
  Below w.heap.size w w' ∧ ((c = 0 ∧ e = .returned (.tuple #[.string ⟨#[]⟩, .int .i64 0, .bool false])) ∨ (c ≠ 0 ∧ e = .returned (.tuple #[.string nm, .int .i64 (o : Int), .bool true])))
theorem where_ate {w : World} {nm : ByteArray} {o c : Nat} {ev : Value} (h : AtE w nm o c ev) (hg : Laid w) : Calls Tryd.prog 12 #[ev] w (WhP w nm o c) := by
  rcases h with ⟨rfl, rfl⟩ | ⟨h0, p, rfl, hp⟩
  · refine (where_nil w).mono ?_
    rintro e w' ⟨rfl, B⟩
    exact ⟨B, .inl ⟨rfl, rfl⟩⟩
  · refine (where_at p nm o _ w hg hp).mono ?_
    rintro e w' ⟨rfl, B⟩
    exact ⟨B, .inr ⟨h0, rfl⟩⟩
set_option maxRecDepth 100000 in
set_option maxHeartbeats 4000000 in
theorem sall_walk (nm : ByteArray) (a : Option Addr) (n c : Nat) (l : List (BitVec 8)) (fr : Int) (w : World) (hg : Laid w) (h : BSl w w.heap.size a n l) (hc : n ≤ c) (hm : c ≤ 9223372036854775807) (h0 : -9223372036854775808 ≤ fr) (h1 : fr ≤ 9223372036854775807) (hs : nm.size ≤ 9223372036854775807) :
    Calls Tryd.prog 3 #[.string nm, .slice a n c, .int .i64 fr] w fun e w' => e = .returned (.bool true) ∧ Below w.heap.size w w' := by
  have EA := Lib.hid (scn_alive w hg)
  have HBS := Lib.hid fun (W : World) (B0 : Below w.heap.size w W) => (show BSl W W.heap.size a n l from (h.below B0).more B0.size)
  have HG := Lib.hid hg
  have HL := Lib.hid h.1
  have HC := Lib.hid hc
  clear hg h hc
  by_cases hbig : 3000 < n
  · have b0 : decide ((3000 : Int) < (n : Int)) = true := decide_eq_true (by omega)
    go_enter Tryd.func3, Tryd.ntmps3
    go_wp2_with fail
    refine EA.out.mono ?_
    rintro e w1 ⟨rfl, B1⟩
    have HB1 := Lib.hid B1
    clear B1
    go_wp2_with fail
    go_ret
    exact ⟨rfl, HB1.out⟩
  have b0 : decide ((3000 : Int) < (n : Int)) = false := decide_eq_false (by omega)
  have HN := Lib.hid (show n ≤ 3000 from by omega)
  clear hbig hm
  by_cases hbn : 100 < nm.size
  · have b1 : decide ((100 : Int) < (nm.size : Int)) = true := decide_eq_true (by omega)
    go_enter Tryd.func3, Tryd.ntmps3
    go_wp2_with fail
    refine EA.out.mono ?_
    rintro e w1 ⟨rfl, B1⟩
    have HB1 := Lib.hid B1
    clear B1
    go_wp2_with fail
    go_ret
    exact ⟨rfl, HB1.out⟩
  have b1 : decide ((100 : Int) < (nm.size : Int)) = false := decide_eq_false (by omega)
  clear hbn hs
  by_cases hfr : fr < 0 ∨ (n : Int) < fr
  · have HFR := Lib.hid hfr
    go_enter Tryd.func3, Tryd.ntmps3
    go_wp2_with fail
    refine EA.out.mono ?_
    rintro e w1 ⟨rfl, B1⟩
    have HB1 := Lib.hid B1
    have HG1 := Lib.hid (HG.out.on B1)
    clear B1
    go_wp2_with fail
    refine (scn_arg _ _ _ _ _ _ HFR.out).mono ?_
    rintro e w2 ⟨rfl, rfl⟩
    have ET := Lib.hid (torn_code 1 w1 HG1.out)
    by_cases hf0 : fr < 0
    · have d0 : decide (fr < 0) = true := decide_eq_true hf0
      clear hfr hf0
      go_wp2_with fail
      refine (code_er 1 _ (by decide) (by decide)).mono ?_
      rintro e w3 ⟨rfl, rfl⟩
      go_wp2_with fail
      refine ET.out.mono ?_
      rintro e w4 ⟨rfl, B4⟩
      have HF := Lib.hid (HB1.out.trans (B4.mono HB1.out.size))
      clear B4
      go_wp2_with fail
      go_ret
      exact ⟨rfl, HF.out⟩
    · have d0 : decide (fr < 0) = false := decide_eq_false hf0
      have d1 : decide ((n : Int) < fr) = true := decide_eq_true (by omega)
      clear hfr hf0
      go_wp2_with fail
      refine (code_er 1 _ (by decide) (by decide)).mono ?_
      rintro e w3 ⟨rfl, rfl⟩
      go_wp2_with fail
      refine ET.out.mono ?_
      rintro e w4 ⟨rfl, B4⟩
      have HF := Lib.hid (HB1.out.trans (B4.mono HB1.out.size))
      clear B4
      go_wp2_with fail
      go_ret
      exact ⟨rfl, HF.out⟩
  obtain ⟨f, rfl⟩ : ∃ f : Nat, fr = f := ⟨fr.toNat, by omega⟩
  have hfn : f ≤ n := by omega
  have HFN := Lib.hid hfn
  have d0 : decide ((f : Int) < 0) = false := decide_eq_false (by omega)
  have d1 : decide (n < f) = false := decide_eq_false (by omega)
  obtain ⟨⟨fs, o, cf⟩, hs⟩ : ∃ r, scn l f = r := ⟨_, rfl⟩
  have hall := scn_all l _ f (Nat.le_refl _) (by rw [HL.out]; exact hfn)
  rw [hs] at hall
  have HS := Lib.hid hs
  have HALL := Lib.hid hall
  clear hfr hfn h0 h1 hs hall
  go_enter Tryd.func3, Tryd.ntmps3
  go_wp2_with fail
  refine EA.out.mono ?_
  rintro e w1 ⟨rfl, B1⟩
  have HB1 := Lib.hid B1
  have HG1 := Lib.hid (HG.out.on B1)
  have E1 := Lib.hid (scn_any nm a n c l f w1 (HBS.out _ B1) HC.out (by have := HN.out; omega) HFN.out)
  clear B1 EA
  go_wp2_with fail
  refine E1.out.mono ?_
  intro e w2 hp
  obtain ⟨B2, a2, c2, ev, rfl, -, hrow2, hate2⟩ := hp.is HS.out
  have HG2 := Lib.hid (HG1.out.on B2)
  have B12 := HB1.out.trans (B2.mono HB1.out.size)
  have E2 := Lib.hid (rscn_any a n c l f w2 (HBS.out _ B12) HC.out (by have := HN.out; omega) HFN.out)
  have HB2 := Lib.hid B12
  have HR2 := Lib.hid hrow2
  have HA2 := Lib.hid hate2
  clear hp B2 B12 hrow2 hate2 E1 HG1
  go_wp2_with fail
  refine E2.out.mono ?_
  intro e w3 hp
  obtain ⟨B3, a3, c3, rfl, -, hrow3⟩ := hp.is HS.out
  have HG3 := Lib.hid (HG2.out.on B3)
  have HB3 := Lib.hid (HB2.out.trans (B3.mono HB2.out.size))
  have HRL := Lib.hid (HR2.out.below B3 (Nat.le_refl _))
  have HRR := Lib.hid hrow3
  have HA3 := Lib.hid (HA2.out.below B3 (Nat.le_refl _))
  have EC := Lib.hid (code_ate HA3.out (by have := HALL.out.2.2.1; omega))
  have ET := Lib.hid (torn_ate HA3.out HG3.out)
  rw [tornB_of HALL.out.2.2.1] at ET
  clear hp B3 hrow3 E2 HG2 HR2 HA2 HB1 HB2
  obtain ⟨zb, s, o', hz, hzd, EW, hcase⟩ : ∃ (zb : Bool) (s : ByteArray) (o' : Int), ((cf : Int) != 0) = zb ∧ decide (cf ≠ 0) = zb ∧
      (∀ W, Laid W → AtE W nm o cf ev → Calls Tryd.prog 12 #[ev] W fun e w' => e = .returned (.tuple #[.string s, .int .i64 o', .bool zb]) ∧ Below W.heap.size W w') ∧ (zb = false ∨ (zb = true ∧ s = nm ∧ o' = (o : Int))) := by
    by_cases h0 : cf = 0
    · refine ⟨false, ⟨#[]⟩, 0, by rw [h0]; rfl, by rw [h0]; rfl, fun W hl ha => (where_ate ha hl).mono ?_, .inl rfl⟩
      rintro e w' ⟨B, ⟨_, h⟩ | ⟨h, _⟩⟩
      · exact ⟨h, B⟩
      · exact absurd h0 h
    · refine ⟨true, nm, o, by rw [bne_iff_ne]; omega, decide_eq_true h0, fun W hl ha => (where_ate ha hl).mono ?_, .inr ⟨rfl, rfl, rfl⟩⟩
      rintro e w' ⟨B, ⟨h, _⟩ | ⟨_, h⟩⟩
      · exact absurd h h0
      · exact ⟨h, B⟩
  rw [hzd] at ET
  have HEW := Lib.hid EW
  clear EW hzd
  have HLEN := Lib.hid (show fs.length ≤ 3000 from by have := HALL.out.1.len; rw [HL.out] at this; have := HN.out; omega)
  rcases hcase with rfl | ⟨rfl, rfl, rfl⟩
  all_goals
    go_wp2_with fail
    refine EC.out.mono ?_
    rintro e w4 ⟨rfl, rfl⟩
    go_wp2_with fail
    refine ET.out.mono ?_
    rintro e w5 ⟨rfl, B5⟩
    have HG5 := Lib.hid (HG3.out.on B5)
    have HB5 := Lib.hid (HB3.out.trans (B5.mono HB3.out.size))
    have EW := Lib.hid (HEW.out _ HG5.out (HA3.out.below B5 (Nat.le_refl _)))
    have HRL5 := Lib.hid (HRL.out.below B5 (Nat.le_refl _))
    have HRR5 := Lib.hid (HRR.out.below B5 (Nat.le_refl _))
    clear B5 EC ET HRL HRR HEW HG3
    go_wp2_with fail
    refine EW.out.mono ?_
    rintro e w6 ⟨rfl, B6⟩
    have HB6 := Lib.hid (HB5.out.trans (B6.mono HB5.out.size))
    have HRL6 := Lib.hid (HRL5.out.below B6 (Nat.le_refl _))
    have HRR6 := Lib.hid (HRR5.out.below B6 (Nat.le_refl _))
    clear B6 EW HRL5 HRR5 HB5
    go_wp2_with fail
    clear hz
    go_loopw [16] (fun iv wr => ∃ i : Nat, i ≤ fs.length ∧ iv = .int .i64 i ∧ Below w6.heap.size w6 wr) (fun iv _ => fs.length - (intOf iv).toNat)
    case atStart => exact ⟨0, Nat.zero_le _, rfl, Below.refl _ _⟩
    case round =>
      obtain ⟨i, hi, rfl, hB⟩ := hrel
      have HB := Lib.hid hB
      clear hB
      by_cases hlt : i < fs.length
      · obtain ⟨f1, hf1⟩ : ∃ f1, fs[i]? = some f1 := ⟨fs[i], List.getElem?_eq_getElem hlt⟩
        obtain ⟨b, av, cv, rfl, hl6⟩ := HRL6.out.later i hlt f1 hf1
        obtain ⟨b', av', cv', rfl, hr6⟩ := HRR6.out.later i hlt f1 hf1
        have hfa := (HALL.out.1.at_ i f1 hf1)
        have HLf := Lib.hid fun (W : World) (B : Below wr.heap.size wr W) => hl6 W (HB.out.trans (B.mono HB.out.size))
        have HRf := Lib.hid fun (W : World) (B : Below wr.heap.size wr W) => hr6 W (HB.out.trans (B.mono HB.out.size))
        have HSM := Lib.hid fun (W : World) (B : Below wr.heap.size wr W) => (show Calls Tryd.prog 13 #[.agg #[.int .u64 f1.key, .int .u32 f1.ck, .bool f1.g, .slice av f1.l.length cv], .agg #[.int .u64 f1.key, .int .u32 f1.ck, .bool f1.g, .slice av' f1.l.length cv']] W fun e w' => e = .returned (.bool true) ∧ Below W.heap.size W w' from by
          have := ref3_same f1.key f1.ck f1.g av f1.l.length cv f1.l f1.key f1.ck f1.g av' f1.l.length cv' f1.l W (HLf.out W B).2 (HRf.out W B).2 (by have := hfa.2.2.2.2.2.2; rw [HL.out] at this; have := HN.out; omega)
          rwa [ndSame_self] at this)
        have hltz : (i : Int) < (fs.length : Int) := by omega
        have hiz : (i : Int) < 3000 := by have := HLEN.out; omega
        clear hl6 hr6 hfa hf1
        go_upto_region 17 with fail
        refine wp_region_held_drew (S := fun W => Below wr.heap.size wr W) (by kernel_rfl) ((Below.refl _ _).drew) (fun hS => ?_)
        refine wpAnyH_take (i := 0) (v := ?_) rfl (by kernel_rfl) (by kernel_rfl) (by kernel_rfl) (fun _ _ _ h => h) (Or.inl ⟨by kernel_rfl, ?_⟩) hS ?_
        rotate_left
        · intro W hW; go_simp; try with_reducible rfl
        refine wpAnyH_take (i := 1) (v := ?_) rfl (by kernel_rfl) (by kernel_rfl) (by kernel_rfl) (fun _ _ _ h => h) (Or.inl ⟨by kernel_rfl, ?_⟩) hS ?_
        rotate_left
        · intro W hW; go_simp; try with_reducible rfl
        refine wpAnyH_take (i := 2) (v := ?_) rfl (by kernel_rfl) (by kernel_rfl) (by kernel_rfl) (fun _ _ _ h => h) (Or.inl ⟨by kernel_rfl, ?_⟩) hS ?_
        rotate_left
        · intro W hW; go_simp; try with_reducible rfl
        refine wpAnyH_take (i := 3) (v := ?_) rfl (by kernel_rfl) (by kernel_rfl) (by kernel_rfl) (fun _ _ _ h => h) (Or.inl ⟨by kernel_rfl, ?_⟩) hS ?_
        rotate_left
        · intro W hW; go_simp; try with_reducible rfl
        refine wpAnyH_take (i := 4) (v := ?_) rfl (by kernel_rfl) (by kernel_rfl) (by kernel_rfl) (fun _ _ _ h => h) (Or.inl ⟨by kernel_rfl, ?_⟩) hS ?_
        rotate_left
        · intro W hW; obtain ⟨p0, p1, p2, p3, p4, p5⟩ := (HLf.out W hW).1; obtain ⟨q0, q1, q2, q3, q4, q5⟩ := (HRf.out W hW).1; go_simp; try with_reducible rfl
        refine wpAnyH_take (i := 5) (v := ?_) rfl (by kernel_rfl) (by kernel_rfl) (by kernel_rfl) (fun _ _ _ h => h) (Or.inl ⟨by kernel_rfl, ?_⟩) hS ?_
        rotate_left
        · intro W hW; go_simp; try with_reducible rfl
        refine wpAnyH_take (i := 6) (v := ?_) rfl (by kernel_rfl) (by kernel_rfl) (by kernel_rfl) (fun _ _ _ h => h) (Or.inl ⟨by kernel_rfl, ?_⟩) hS ?_
        rotate_left
        · intro W hW; go_simp; try with_reducible rfl
        refine wpAnyH_take (i := 7) (v := ?_) rfl (by kernel_rfl) (by kernel_rfl) (by kernel_rfl) (fun _ _ _ h => h) (Or.inl ⟨by kernel_rfl, ?_⟩) hS ?_
        rotate_left
        · intro W hW; go_simp; try with_reducible rfl
        refine wpAnyH_take (i := 8) (v := ?_) rfl (by kernel_rfl) (by kernel_rfl) (by kernel_rfl) (fun _ _ _ h => h) (Or.inl ⟨by kernel_rfl, ?_⟩) hS ?_
        rotate_left
        · intro W hW; go_simp; try with_reducible rfl
        refine wpAnyH_take (i := 9) (v := ?_) rfl (by kernel_rfl) (by kernel_rfl) (by kernel_rfl) (fun _ _ _ h => h) (Or.inl ⟨by kernel_rfl, ?_⟩) hS ?_
        rotate_left
        · intro W hW; obtain ⟨p0, p1, p2, p3, p4, p5⟩ := (HLf.out W hW).1; obtain ⟨q0, q1, q2, q3, q4, q5⟩ := (HRf.out W hW).1; go_simp; try with_reducible rfl
        refine wpAnyH_take (i := 10) (v := ?_) rfl (by kernel_rfl) (by kernel_rfl) (by kernel_rfl) (fun _ _ _ h => h) (Or.inl ⟨by kernel_rfl, ?_⟩) hS ?_
        rotate_left
        · intro W hW; go_simp; try with_reducible rfl
        refine wpAnyH_take (i := 11) (v := ?_) rfl (by kernel_rfl) (by kernel_rfl) (by kernel_rfl) (fun _ _ _ h => h) (Or.inl ⟨by kernel_rfl, ?_⟩) hS ?_
        rotate_left
        · intro W hW; go_simp; try with_reducible rfl
        refine wpAnyH_take (i := 12) (v := ?_) rfl (by kernel_rfl) (by kernel_rfl) (by kernel_rfl) (fun _ _ _ h => h) (Or.inl ⟨by kernel_rfl, ?_⟩) hS ?_
        rotate_left
        · intro W hW; go_simp; try with_reducible rfl
        refine wpAnyH_take (i := 13) (v := ?_) rfl (by kernel_rfl) (by kernel_rfl) (by kernel_rfl) (fun _ _ _ h => h) (Or.inl ⟨by kernel_rfl, ?_⟩) hS ?_
        rotate_left
        · intro W hW; go_simp; try with_reducible rfl
        refine wpAnyH_take (i := 14) (v := ?_) rfl (by kernel_rfl) (by kernel_rfl) (by kernel_rfl) (fun _ _ _ h => h) (Or.inl ⟨by kernel_rfl, ?_⟩) hS ?_
        rotate_left
        · intro W hW; go_simp; try with_reducible rfl
        refine wpAnyH_take (i := 15) (v := ?_) rfl (by kernel_rfl) (by kernel_rfl) (by kernel_rfl) (fun _ _ _ h => h) (Or.inl ⟨by kernel_rfl, ?_⟩) hS ?_
        rotate_left
        · intro W hW; go_simp; try with_reducible rfl
        refine wpAnyH_take (i := 16) (v := ?_) rfl (by kernel_rfl) (by kernel_rfl) (by kernel_rfl) (fun _ _ _ h => h) (Or.inl ⟨by kernel_rfl, ?_⟩) hS ?_
        rotate_left
        · intro W hW; obtain ⟨p0, p1, p2, p3, p4, p5⟩ := (HLf.out W hW).1; obtain ⟨q0, q1, q2, q3, q4, q5⟩ := (HRf.out W hW).1; go_simp; try with_reducible rfl
        refine wpAnyH_take (i := 17) (v := ?_) rfl (by kernel_rfl) (by kernel_rfl) (by kernel_rfl) (fun _ _ _ h => h) (Or.inl ⟨by kernel_rfl, ?_⟩) hS ?_
        rotate_left
        · intro W hW; go_simp; try with_reducible rfl
        refine wpAnyH_take (i := 18) (v := ?_) rfl (by kernel_rfl) (by kernel_rfl) (by kernel_rfl) (fun _ _ _ h => h) (Or.inl ⟨by kernel_rfl, ?_⟩) hS ?_
        rotate_left
        · intro W hW; go_simp; try with_reducible rfl
        refine wpAnyH_take (i := 19) (v := ?_) rfl (by kernel_rfl) (by kernel_rfl) (by kernel_rfl) (fun _ _ _ h => h) (Or.inl ⟨by kernel_rfl, ?_⟩) hS ?_
        rotate_left
        · intro W hW; go_simp; try with_reducible rfl
        refine wpAnyH_take (i := 20) (v := ?_) rfl (by kernel_rfl) (by kernel_rfl) (by kernel_rfl) (fun _ _ _ h => h) (Or.inl ⟨by kernel_rfl, ?_⟩) hS ?_
        rotate_left
        · intro W hW; go_simp; try with_reducible rfl
        refine wpAnyH_take (i := 21) (v := ?_) rfl (by kernel_rfl) (by kernel_rfl) (by kernel_rfl) (fun _ _ _ h => h) (Or.inl ⟨by kernel_rfl, ?_⟩) hS ?_
        rotate_left
        · intro W hW; obtain ⟨p0, p1, p2, p3, p4, p5⟩ := (HLf.out W hW).1; obtain ⟨q0, q1, q2, q3, q4, q5⟩ := (HRf.out W hW).1; go_simp; try with_reducible rfl
        refine wpAnyH_take (i := 22) (v := ?_) rfl (by kernel_rfl) (by kernel_rfl) (by kernel_rfl) (fun _ _ _ h => h) (Or.inl ⟨by kernel_rfl, ?_⟩) hS ?_
        rotate_left
        · intro W hW; go_simp; try with_reducible rfl
        refine wpAnyH_take (i := 23) (v := ?_) rfl (by kernel_rfl) (by kernel_rfl) (by kernel_rfl) (fun _ _ _ h => h) (Or.inl ⟨by kernel_rfl, ?_⟩) hS ?_
        rotate_left
        · intro W hW; go_simp; try with_reducible rfl
        refine wpAnyH_take (i := 24) (v := ?_) rfl (by kernel_rfl) (by kernel_rfl) (by kernel_rfl) (fun _ _ _ h => h) (Or.inl ⟨by kernel_rfl, ?_⟩) hS ?_
        rotate_left
        · intro W hW; go_simp; try with_reducible rfl
        refine wpAnyH_take (i := 25) (v := ?_) rfl (by kernel_rfl) (by kernel_rfl) (by kernel_rfl) (fun _ _ _ h => h) (Or.inl ⟨by kernel_rfl, ?_⟩) hS ?_
        rotate_left
        · intro W hW; go_simp; try with_reducible rfl
        refine wpAnyH_take (i := 26) (v := ?_) rfl (by kernel_rfl) (by kernel_rfl) (by kernel_rfl) (fun _ _ _ h => h) (Or.inl ⟨by kernel_rfl, ?_⟩) hS ?_
        rotate_left
        · intro W hW; go_simp; try with_reducible rfl
        refine wpAnyH_take (i := 27) (v := ?_) rfl (by kernel_rfl) (by kernel_rfl) (by kernel_rfl) (fun _ _ _ h => h) (Or.inl ⟨by kernel_rfl, ?_⟩) hS ?_
        rotate_left
        · intro W hW; go_simp; try with_reducible rfl
        refine wpAnyH_take (i := 28) (v := ?_) rfl (by kernel_rfl) (by kernel_rfl) (by kernel_rfl) (fun _ _ _ h => h) (Or.inl ⟨by kernel_rfl, ?_⟩) hS ?_
        rotate_left
        · intro W hW; go_simp; try with_reducible rfl
        refine wpAnyH_take (i := 29) (v := ?_) rfl (by kernel_rfl) (by kernel_rfl) (by kernel_rfl) (fun _ _ _ h => h) (Or.inl ⟨by kernel_rfl, ?_⟩) hS ?_
        rotate_left
        · intro W hW; obtain ⟨p0, p1, p2, p3, p4, p5⟩ := (HLf.out W hW).1; obtain ⟨q0, q1, q2, q3, q4, q5⟩ := (HRf.out W hW).1; go_simp; try with_reducible rfl
        refine wpAnyH_take (i := 30) (v := ?_) rfl (by kernel_rfl) (by kernel_rfl) (by kernel_rfl) (fun _ _ _ h => h) (Or.inl ⟨by kernel_rfl, ?_⟩) hS ?_
        rotate_left
        · intro W hW; go_simp; try with_reducible rfl
        refine wpAnyH_take (i := 31) (v := ?_) rfl (by kernel_rfl) (by kernel_rfl) (by kernel_rfl) (fun _ _ _ h => h) (Or.inl ⟨by kernel_rfl, ?_⟩) hS ?_
        rotate_left
        · intro W hW; go_simp; try with_reducible rfl
        refine wpAnyH_take (i := 32) (v := ?_) rfl (by kernel_rfl) (by kernel_rfl) (by kernel_rfl) (fun _ _ _ h => h) (Or.inl ⟨by kernel_rfl, ?_⟩) hS ?_
        rotate_left
        · intro W hW; go_simp; try with_reducible rfl
        refine wpAnyH_take (i := 33) (v := ?_) rfl (by kernel_rfl) (by kernel_rfl) (by kernel_rfl) (fun _ _ _ h => h) (Or.inl ⟨by kernel_rfl, ?_⟩) hS ?_
        rotate_left
        · intro W hW; go_simp; try with_reducible rfl
        refine wpAnyH_take (i := 34) (v := ?_) rfl (by kernel_rfl) (by kernel_rfl) (by kernel_rfl) (fun _ _ _ h => h) (Or.inl ⟨by kernel_rfl, ?_⟩) hS ?_
        rotate_left
        · intro W hW; obtain ⟨p0, p1, p2, p3, p4, p5⟩ := (HLf.out W hW).1; obtain ⟨q0, q1, q2, q3, q4, q5⟩ := (HRf.out W hW).1; go_simp; try with_reducible rfl
        refine wpAnyH_ready (rs := [35]) (by kernel_rfl) (by simp) ?_
        refine AllReadyH.cons (i := 35) rfl ?_ AllReadyH.nil
        intro K hK
        go_simp
        refine (HSM.out _ hS).mono ?_
        rintro e w7 ⟨rfl, B7⟩
        have hT := hS.trans (B7.mono hS.size)
        go_simp
        refine hK.out _ _ ?_ (fun hN => ?_)
        · first | exact hT | exact hS | exact hS.alloc hS.size _ | exact hS.drew
        clear hK K
        try clear hT
        clear hS
        have hS := hN
        clear hN
        refine wpAnyH_take (i := 36) (v := ?_) rfl (by kernel_rfl) (by kernel_rfl) (by kernel_rfl) (fun _ _ _ h => h) (Or.inl ⟨by kernel_rfl, ?_⟩) hS ?_
        rotate_left
        · intro W hW; go_simp; try with_reducible rfl
        refine wpAnyH_take (i := 37) (v := ?_) rfl (by kernel_rfl) (by kernel_rfl) (by kernel_rfl) (fun _ _ _ h => h) (Or.inl ⟨by kernel_rfl, ?_⟩) hS ?_
        rotate_left
        · intro W hW; go_simp; try with_reducible rfl
        refine wpAnyH_done (by kernel_rfl) ?_ _
        have HF := Lib.hid (HB.out.trans (hS.mono HB.out.size))
        clear hS
        go_wp2_with fail
        go_roundw
        case rel => exact ⟨i + 1, by omega, by go_num, HF.out⟩
        case measure => simp [intOf]; omega
      · obtain rfl : i = fs.length := by omega
        go_wp2_with fail
        go_ret
        exact ⟨rfl, HB6.out.trans (HB.out.mono HB6.out.size)⟩
end Go.Proofs.YtmmmakfmpopniaaDoor
