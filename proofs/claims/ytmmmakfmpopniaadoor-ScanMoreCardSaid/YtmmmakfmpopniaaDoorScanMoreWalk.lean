/-
  The walk of corncriblaw06.ScanMore.
-/
import Derived.Test.YtmmmakfmpopniaaDoorScanFromWalk
namespace Go.Proofs.YtmmmakfmpopniaaDoor
open Go.RowKit
set_option linter.unusedVariables false

/-- Two appends of bytes to an empty slice of one's own: the runs. -/
theorem join_runs {W : World} {B B' : Nat} {a a' : Option Addr} {n n' c c' : Nat} {l l' : List (BitVec 8)} (h : BSl W B a n l) (h' : BSl W B' a' n' l') (hB : B ≤ W.heap.size) (hB' : B' ≤ W.heap.size) (hn : n ≤ 1099511627776) (hn' : n' ≤ 1099511627776) :
    ∃ g1 c1 V1 g2 c2 V2, (Builtin.append_ #[22, 22] 22 #[.slice (some ⟨W.heap.size, 0, none⟩) 0 0, .slice a n c]).run Tryd.prog (W.alloc (.cells #[] 5)) = .ok (.slice (some ⟨g1, 0, none⟩) n c1) V1 ∧
      (Builtin.append_ #[22, 22] 22 #[.slice (some ⟨g1, 0, none⟩) n c1, .slice a' n' c']).run Tryd.prog V1 = .ok (.slice (some ⟨g2, 0, none⟩) (n + n') c2) V2 ∧
      BSl V2 V2.heap.size (some ⟨g2, 0, none⟩) (n + n') (l ++ l') ∧ n + n' ≤ c2 ∧ Below W.heap.size W V2 := by
  have B1 : Below W.heap.size W (W.alloc (.cells #[] 5)) := (Below.refl _ W).alloc (Nat.le_refl _) _
  obtain ⟨g1, c1, V1, hr1, ho1, hg1, -⟩ := append_bytes (World.ownsRow_made (base := W.heap.size) W #[] 0 (Nat.le_refl _) (Nat.zero_le _) rfl) c ((h.more hB).below B1) (bsl_nil0 h) (by omega) (by simp)
  simp only [Nat.zero_add, List.nil_append] at hr1 ho1
  have B2 : Below W.heap.size W V1 := B1.grown hg1 (by simp) (fun k e => by injection e with e; have e : W.heap.size = k := e; omega)
  obtain ⟨g2, c2, V2, hr2, ho2, hg2, -⟩ := append_bytes ho1 c' ((h'.more hB').below B2) (bsl_nil0 h') (by omega) B2.size
  rw [← List.map_append] at ho2
  have B3 : Below W.heap.size W V2 := B2.grown hg2 B2.size (fun k e => by injection e with e; have := (ho1.lt g1 rfl).1; omega)
  refine ⟨g1, c1, V1, g2, c2, V2, hr1, hr2, bsl_own ho2, ?_, B3⟩
  rcases ho2.2 with ⟨e1, _⟩ | ⟨_, _, _, e1, _, _, e2, _⟩
  · cases e1
  · cases e1; exact e2
set_option maxRecDepth 100000 in
set_option maxHeartbeats 8000000 in
theorem smore_walk (a : Option Addr) (n c : Nat) (l : List (BitVec 8)) (a' : Option Addr) (n' c' : Nat) (l' : List (BitVec 8)) (w : World) (hg : Laid w) (h : BSl w w.heap.size a n l) (hc : n ≤ c) (h' : BSl w w.heap.size a' n' l') (hc' : n' ≤ c') :
    Calls Tryd.prog 5 #[.slice a n c, .slice a' n' c'] w fun e w' => e = .returned (.bool true) ∧ Below w.heap.size w w' := by
  have EA := Lib.hid (scn_alive w hg)
  have HBS := Lib.hid fun (W : World) (B0 : Below w.heap.size w W) => (show BSl W W.heap.size a n l from (h.below B0).more B0.size)
  have HBR := Lib.hid fun (W : World) (B0 : Below w.heap.size w W) => (show BSl W W.heap.size a' n' l' from (h'.below B0).more B0.size)
  have HG := Lib.hid hg
  have HL := Lib.hid h.1
  have HLR := Lib.hid h'.1
  have HC := Lib.hid hc
  clear hg h hc h' hc'
  by_cases hbig : 2000 < n
  · have b0 : decide ((2000 : Int) < (n : Int)) = true := decide_eq_true (by omega)
    go_enter Tryd.func5, Tryd.ntmps5
    go_wp2_with fail
    refine EA.out.mono ?_
    rintro e w1 ⟨rfl, B1⟩
    have HB1 := Lib.hid B1
    clear B1
    go_wp2_with fail
    go_ret
    exact ⟨rfl, HB1.out⟩
  have b0 : decide ((2000 : Int) < (n : Int)) = false := decide_eq_false (by omega)
  have HN := Lib.hid (show n ≤ 2000 from by omega)
  clear hbig
  by_cases hbig : 1000 < n'
  · have b1 : decide ((1000 : Int) < (n' : Int)) = true := decide_eq_true (by omega)
    go_enter Tryd.func5, Tryd.ntmps5
    go_wp2_with fail
    refine EA.out.mono ?_
    rintro e w1 ⟨rfl, B1⟩
    have HB1 := Lib.hid B1
    clear B1
    go_wp2_with fail
    go_ret
    exact ⟨rfl, HB1.out⟩
  have b1 : decide ((1000 : Int) < (n' : Int)) = false := decide_eq_false (by omega)
  have HN' := Lib.hid (show n' ≤ 1000 from by omega)
  clear hbig
  obtain ⟨⟨fs, o, cf⟩, hs⟩ : ∃ r, scn l 0 = r := ⟨_, rfl⟩
  have hall := scn_all l _ 0 (Nat.le_refl _) (Nat.zero_le _)
  rw [hs] at hall
  have hon : o ≤ n := by have := hall.2.2.2; rw [HL.out] at this; exact this
  have hoe : en 0 fs = o := hall.2.1.symm
  have HLEN := Lib.hid (show fs.length ≤ 3000 from by have := hall.1.len; rw [HL.out] at this; have := HN.out; dsimp only at *; omega)
  have hlt : (l.take o).length = o := by rw [List.length_take, HL.out]; omega
  have hloc := scn_local l (l.take o ++ l') fs.length 0 (by rw [hs]; exact Nat.le_refl _) (by rw [hs, List.take_length, hoe, List.take_left' hlt])
  rw [hs, List.take_length, hoe] at hloc
  have hall2 := scn_all (l.take o ++ l') _ o (Nat.le_refl _) (by rw [List.length_append, hlt]; omega)
  obtain ⟨⟨ms, o2, cf2⟩, hs2⟩ : ∃ r, scn (l.take o ++ l') o = r := ⟨_, rfl⟩
  rw [hs2] at hloc hall2
  have ho2 : o ≤ o2 := by have := hall2.2.1; unfold en at this; dsimp only at this; omega
  have HS := Lib.hid hs
  have HS2 := Lib.hid hloc
  have HON := Lib.hid hon
  have HM0 := Lib.hid (show fs.length ≤ (fs ++ ms).length from by rw [List.length_append]; omega)
  have HDA := Lib.hid (show ∀ i, i < fs.length → (fs ++ ms)[i]? = fs[i]? from fun i hi => List.getElem?_append_left hi)
  have z1 : decide (o2 < o) = false := decide_eq_false (by omega)
  have z2 : decide ((fs ++ ms).length < fs.length) = false := decide_eq_false (by have := HM0.out; omega)
  generalize fs ++ ms = fd at *
  clear hs hall hon hoe hlt hloc hall2 hs2 ho2
  go_enter Tryd.func5, Tryd.ntmps5
  go_wp2_with fail
  refine EA.out.mono ?_
  rintro e w1 ⟨rfl, B1⟩
  have HB1 := Lib.hid B1
  have E1 := Lib.hid (scn_any ⟨#[102]⟩ a n c l 0 w1 (HBS.out _ B1) HC.out (by have := HN.out; omega) (Nat.zero_le _))
  clear B1 EA
  go_wp2_with fail
  refine E1.out.mono ?_
  intro e w2 hp
  obtain ⟨B2, a2, c2, ev, rfl, hc2, hrow2, -⟩ := hp.is HS.out
  have B12 := HB1.out.trans (B2.mono HB1.out.size)
  obtain ⟨a5, hs5, hb5⟩ := cut_first (HBS.out _ B12) HC.out o HON.out
  obtain ⟨g1, k1, V1, g2, k2, V2, hr1, hr2, hbv, hkv, BV⟩ := join_runs (c := c) (c' := c') hb5 (HBR.out _ B12) (Nat.le_refl _) (Nat.le_refl _) (by have := HN.out; have := HON.out; omega) (by have := HN'.out; omega)
  have HB2 := Lib.hid (B12.trans (BV.mono B12.size))
  have HR2 := Lib.hid (hrow2.below BV (Nat.le_refl _))
  have E3 := Lib.hid (scn_any ⟨#[102]⟩ (some ⟨g2, 0, none⟩) (o + n') k2 (l.take o ++ l') 0 V2 hbv hkv (by have := HN.out; have := HON.out; have := HN'.out; omega) (Nat.zero_le _))
  clear hp B2 B12 hrow2 E1 HB1 HG hc2 hb5 hbv hkv BV
  go_wp2_with (first | (at_builtin; refine list_run (by rfl) _ _ rfl rfl rfl hr1 ?_; clear hr1) | (at_builtin; refine list_run (by rfl) _ _ rfl rfl rfl hr2 ?_; clear hr2))
  refine E3.out.mono ?_
  intro e w3 hp
  obtain ⟨B3, a3, c3, ev3, rfl, hc3, hrow3, -⟩ := hp.is HS2.out
  have HB3 := Lib.hid (HB2.out.trans (B3.mono HB2.out.size))
  have HR3 := Lib.hid hrow3
  have HRL := Lib.hid (HR2.out.below B3 (Nat.le_refl _))
  clear hp B3 hrow3 hc3 E3 HR2
  go_wp2_with fail
  clear z1 z2
  go_loopw [11] (fun iv wr => ∃ i : Nat, i ≤ fs.length ∧ iv = .int .i64 i ∧ Below w3.heap.size w3 wr) (fun iv _ => fs.length - (intOf iv).toNat)
  case atStart => exact ⟨0, Nat.zero_le _, rfl, Below.refl _ _⟩
  case round =>
    obtain ⟨i, hi, rfl, hB⟩ := hrel
    have HB := Lib.hid hB
    clear hB
    by_cases hlt : i < fs.length
    · obtain ⟨f1, hf1⟩ : ∃ f1, fs[i]? = some f1 := ⟨fs[i], List.getElem?_eq_getElem hlt⟩
      have hid' : i < fd.length := by have := HM0.out; omega
      obtain ⟨b1, av1, cv1, rfl, hl6⟩ := HR3.out.later i hid' f1 (by rw [HDA.out i hlt]; exact hf1)
      obtain ⟨b2, av2, cv2, rfl, hr6⟩ := HRL.out.later i hlt f1 hf1
      have HLf := Lib.hid fun (W : World) (B : Below wr.heap.size wr W) => hl6 W (HB.out.trans (B.mono HB.out.size))
      have HRf := Lib.hid fun (W : World) (B : Below wr.heap.size wr W) => hr6 W (HB.out.trans (B.mono HB.out.size))
      have HSM := Lib.hid fun (W : World) (B : Below wr.heap.size wr W) => needle_self f1.key f1.ck f1.g av1 av2 f1.l.length cv1 cv2 f1.l W (HLf.out W B).2 (HRf.out W B).2
      have hltz : (i : Int) < (fs.length : Int) := by omega
      have hltz2 : (i : Int) < (fd.length : Int) := by omega
      have hiz : (i : Int) < 3000 := by have := HLEN.out; omega
      clear hl6 hr6 hf1 hid'
      go_upto_region 12 with fail
      refine wp_region_held_drew (S := fun W => Below wr.heap.size wr W) (by kernel_rfl) ((Below.refl _ _).drew) (fun hS => ?_)
      refine wpAnyH_take (i := 0) (v := ?_) rfl (by kernel_rfl) (by kernel_rfl) (by kernel_rfl) (fun _ _ _ h => h) (Or.inl ⟨by kernel_rfl, ?_⟩) hS ?_
      rotate_left
      · intro W hW; go_simp; try with_reducible rfl
      refine wpAnyH_take (i := 1) (v := ?_) rfl (by kernel_rfl) (by kernel_rfl) (by kernel_rfl) (fun _ _ _ h => h) (Or.inl ⟨by kernel_rfl, ?_⟩) hS ?_
      rotate_left
      · intro W hW; go_simp; try with_reducible rfl
      refine wpAnyH_take (i := 2) (v := ?_) rfl (by kernel_rfl) (by kernel_rfl) (by kernel_rfl) (fun _ _ _ h => h) (Or.inl ⟨by kernel_rfl, ?_⟩) hS ?_
      rotate_left
      · intro W hW; go_simp; try with_reducible rfl
      refine wpAnyH_take (i := 3) (v := ?_) rfl (by kernel_rfl) (by kernel_rfl) (by kernel_rfl) (fun _ _ _ h => h) (Or.inl ⟨by kernel_rfl, ?_⟩) hS ?_
      rotate_left
      · intro W hW; go_simp; try with_reducible rfl
      refine wpAnyH_take (i := 4) (v := ?_) rfl (by kernel_rfl) (by kernel_rfl) (by kernel_rfl) (fun _ _ _ h => h) (Or.inl ⟨by kernel_rfl, ?_⟩) hS ?_
      rotate_left
      · intro W hW; obtain ⟨p0, p1, p2, p3, p4, p5⟩ := (HLf.out W hW).1; obtain ⟨q0, q1, q2, q3, q4, q5⟩ := (HRf.out W hW).1; go_simp; try with_reducible rfl
      refine wpAnyH_take (i := 5) (v := ?_) rfl (by kernel_rfl) (by kernel_rfl) (by kernel_rfl) (fun _ _ _ h => h) (Or.inl ⟨by kernel_rfl, ?_⟩) hS ?_
      rotate_left
      · intro W hW; go_simp; try with_reducible rfl
      refine wpAnyH_take (i := 6) (v := ?_) rfl (by kernel_rfl) (by kernel_rfl) (by kernel_rfl) (fun _ _ _ h => h) (Or.inl ⟨by kernel_rfl, ?_⟩) hS ?_
      rotate_left
      · intro W hW; go_simp; try with_reducible rfl
      refine wpAnyH_take (i := 7) (v := ?_) rfl (by kernel_rfl) (by kernel_rfl) (by kernel_rfl) (fun _ _ _ h => h) (Or.inl ⟨by kernel_rfl, ?_⟩) hS ?_
      rotate_left
      · intro W hW; go_simp; try with_reducible rfl
      refine wpAnyH_take (i := 8) (v := ?_) rfl (by kernel_rfl) (by kernel_rfl) (by kernel_rfl) (fun _ _ _ h => h) (Or.inl ⟨by kernel_rfl, ?_⟩) hS ?_
      rotate_left
      · intro W hW; go_simp; try with_reducible rfl
      refine wpAnyH_take (i := 9) (v := ?_) rfl (by kernel_rfl) (by kernel_rfl) (by kernel_rfl) (fun _ _ _ h => h) (Or.inl ⟨by kernel_rfl, ?_⟩) hS ?_
      rotate_left
      · intro W hW; obtain ⟨p0, p1, p2, p3, p4, p5⟩ := (HLf.out W hW).1; obtain ⟨q0, q1, q2, q3, q4, q5⟩ := (HRf.out W hW).1; go_simp; try with_reducible rfl
      refine wpAnyH_take (i := 10) (v := ?_) rfl (by kernel_rfl) (by kernel_rfl) (by kernel_rfl) (fun _ _ _ h => h) (Or.inl ⟨by kernel_rfl, ?_⟩) hS ?_
      rotate_left
      · intro W hW; go_simp; try with_reducible rfl
      refine wpAnyH_take (i := 11) (v := ?_) rfl (by kernel_rfl) (by kernel_rfl) (by kernel_rfl) (fun _ _ _ h => h) (Or.inl ⟨by kernel_rfl, ?_⟩) hS ?_
      rotate_left
      · intro W hW; go_simp; try with_reducible rfl
      refine wpAnyH_take (i := 12) (v := ?_) rfl (by kernel_rfl) (by kernel_rfl) (by kernel_rfl) (fun _ _ _ h => h) (Or.inl ⟨by kernel_rfl, ?_⟩) hS ?_
      rotate_left
      · intro W hW; go_simp; try with_reducible rfl
      refine wpAnyH_take (i := 13) (v := ?_) rfl (by kernel_rfl) (by kernel_rfl) (by kernel_rfl) (fun _ _ _ h => h) (Or.inl ⟨by kernel_rfl, ?_⟩) hS ?_
      rotate_left
      · intro W hW; go_simp; try with_reducible rfl
      refine wpAnyH_take (i := 14) (v := ?_) rfl (by kernel_rfl) (by kernel_rfl) (by kernel_rfl) (fun _ _ _ h => h) (Or.inl ⟨by kernel_rfl, ?_⟩) hS ?_
      rotate_left
      · intro W hW; go_simp; try with_reducible rfl
      refine wpAnyH_take (i := 15) (v := ?_) rfl (by kernel_rfl) (by kernel_rfl) (by kernel_rfl) (fun _ _ _ h => h) (Or.inl ⟨by kernel_rfl, ?_⟩) hS ?_
      rotate_left
      · intro W hW; go_simp; try with_reducible rfl
      refine wpAnyH_take (i := 16) (v := ?_) rfl (by kernel_rfl) (by kernel_rfl) (by kernel_rfl) (fun _ _ _ h => h) (Or.inl ⟨by kernel_rfl, ?_⟩) hS ?_
      rotate_left
      · intro W hW; obtain ⟨p0, p1, p2, p3, p4, p5⟩ := (HLf.out W hW).1; obtain ⟨q0, q1, q2, q3, q4, q5⟩ := (HRf.out W hW).1; go_simp; try with_reducible rfl
      refine wpAnyH_take (i := 17) (v := ?_) rfl (by kernel_rfl) (by kernel_rfl) (by kernel_rfl) (fun _ _ _ h => h) (Or.inl ⟨by kernel_rfl, ?_⟩) hS ?_
      rotate_left
      · intro W hW; go_simp; try with_reducible rfl
      refine wpAnyH_take (i := 18) (v := ?_) rfl (by kernel_rfl) (by kernel_rfl) (by kernel_rfl) (fun _ _ _ h => h) (Or.inl ⟨by kernel_rfl, ?_⟩) hS ?_
      rotate_left
      · intro W hW; go_simp; try with_reducible rfl
      refine wpAnyH_take (i := 19) (v := ?_) rfl (by kernel_rfl) (by kernel_rfl) (by kernel_rfl) (fun _ _ _ h => h) (Or.inl ⟨by kernel_rfl, ?_⟩) hS ?_
      rotate_left
      · intro W hW; go_simp; try with_reducible rfl
      refine wpAnyH_take (i := 20) (v := ?_) rfl (by kernel_rfl) (by kernel_rfl) (by kernel_rfl) (fun _ _ _ h => h) (Or.inl ⟨by kernel_rfl, ?_⟩) hS ?_
      rotate_left
      · intro W hW; go_simp; try with_reducible rfl
      refine wpAnyH_take (i := 21) (v := ?_) rfl (by kernel_rfl) (by kernel_rfl) (by kernel_rfl) (fun _ _ _ h => h) (Or.inl ⟨by kernel_rfl, ?_⟩) hS ?_
      rotate_left
      · intro W hW; obtain ⟨p0, p1, p2, p3, p4, p5⟩ := (HLf.out W hW).1; obtain ⟨q0, q1, q2, q3, q4, q5⟩ := (HRf.out W hW).1; go_simp; try with_reducible rfl
      refine wpAnyH_take (i := 22) (v := ?_) rfl (by kernel_rfl) (by kernel_rfl) (by kernel_rfl) (fun _ _ _ h => h) (Or.inl ⟨by kernel_rfl, ?_⟩) hS ?_
      rotate_left
      · intro W hW; go_simp; try with_reducible rfl
      refine wpAnyH_take (i := 23) (v := ?_) rfl (by kernel_rfl) (by kernel_rfl) (by kernel_rfl) (fun _ _ _ h => h) (Or.inl ⟨by kernel_rfl, ?_⟩) hS ?_
      rotate_left
      · intro W hW; go_simp; try with_reducible rfl
      refine wpAnyH_take (i := 24) (v := ?_) rfl (by kernel_rfl) (by kernel_rfl) (by kernel_rfl) (fun _ _ _ h => h) (Or.inl ⟨by kernel_rfl, ?_⟩) hS ?_
      rotate_left
      · intro W hW; go_simp; try with_reducible rfl
      refine wpAnyH_take (i := 25) (v := ?_) rfl (by kernel_rfl) (by kernel_rfl) (by kernel_rfl) (fun _ _ _ h => h) (Or.inl ⟨by kernel_rfl, ?_⟩) hS ?_
      rotate_left
      · intro W hW; go_simp; try with_reducible rfl
      refine wpAnyH_take (i := 26) (v := ?_) rfl (by kernel_rfl) (by kernel_rfl) (by kernel_rfl) (fun _ _ _ h => h) (Or.inl ⟨by kernel_rfl, ?_⟩) hS ?_
      rotate_left
      · intro W hW; go_simp; try with_reducible rfl
      refine wpAnyH_take (i := 27) (v := ?_) rfl (by kernel_rfl) (by kernel_rfl) (by kernel_rfl) (fun _ _ _ h => h) (Or.inl ⟨by kernel_rfl, ?_⟩) hS ?_
      rotate_left
      · intro W hW; go_simp; try with_reducible rfl
      refine wpAnyH_take (i := 28) (v := ?_) rfl (by kernel_rfl) (by kernel_rfl) (by kernel_rfl) (fun _ _ _ h => h) (Or.inl ⟨by kernel_rfl, ?_⟩) hS ?_
      rotate_left
      · intro W hW; go_simp; try with_reducible rfl
      refine wpAnyH_take (i := 29) (v := ?_) rfl (by kernel_rfl) (by kernel_rfl) (by kernel_rfl) (fun _ _ _ h => h) (Or.inl ⟨by kernel_rfl, ?_⟩) hS ?_
      rotate_left
      · intro W hW; obtain ⟨p0, p1, p2, p3, p4, p5⟩ := (HLf.out W hW).1; obtain ⟨q0, q1, q2, q3, q4, q5⟩ := (HRf.out W hW).1; go_simp; try with_reducible rfl
      refine wpAnyH_take (i := 30) (v := ?_) rfl (by kernel_rfl) (by kernel_rfl) (by kernel_rfl) (fun _ _ _ h => h) (Or.inl ⟨by kernel_rfl, ?_⟩) hS ?_
      rotate_left
      · intro W hW; go_simp; try with_reducible rfl
      refine wpAnyH_take (i := 31) (v := ?_) rfl (by kernel_rfl) (by kernel_rfl) (by kernel_rfl) (fun _ _ _ h => h) (Or.inl ⟨by kernel_rfl, ?_⟩) hS ?_
      rotate_left
      · intro W hW; go_simp; try with_reducible rfl
      refine wpAnyH_take (i := 32) (v := ?_) rfl (by kernel_rfl) (by kernel_rfl) (by kernel_rfl) (fun _ _ _ h => h) (Or.inl ⟨by kernel_rfl, ?_⟩) hS ?_
      rotate_left
      · intro W hW; go_simp; try with_reducible rfl
      refine wpAnyH_take (i := 33) (v := ?_) rfl (by kernel_rfl) (by kernel_rfl) (by kernel_rfl) (fun _ _ _ h => h) (Or.inl ⟨by kernel_rfl, ?_⟩) hS ?_
      rotate_left
      · intro W hW; go_simp; try with_reducible rfl
      refine wpAnyH_take (i := 34) (v := ?_) rfl (by kernel_rfl) (by kernel_rfl) (by kernel_rfl) (fun _ _ _ h => h) (Or.inl ⟨by kernel_rfl, ?_⟩) hS ?_
      rotate_left
      · intro W hW; obtain ⟨p0, p1, p2, p3, p4, p5⟩ := (HLf.out W hW).1; obtain ⟨q0, q1, q2, q3, q4, q5⟩ := (HRf.out W hW).1; go_simp; try with_reducible rfl
      refine wpAnyH_ready (rs := [35]) (by kernel_rfl) (by simp) ?_
      refine AllReadyH.cons (i := 35) rfl ?_ AllReadyH.nil
      intro K hK
      go_simp
      refine (HSM.out _ hS).mono ?_
      rintro e w7 ⟨rfl, B7⟩
      have hT := hS.trans (B7.mono hS.size)
      go_simp
      refine hK.out _ _ ?_ (fun hN => ?_)
      · first | exact hT | exact hS | exact hS.alloc hS.size _ | exact hS.drew
      clear hK K
      try clear hT
      clear hS
      have hS := hN
      clear hN
      refine wpAnyH_take (i := 36) (v := ?_) rfl (by kernel_rfl) (by kernel_rfl) (by kernel_rfl) (fun _ _ _ h => h) (Or.inl ⟨by kernel_rfl, ?_⟩) hS ?_
      rotate_left
      · intro W hW; go_simp; try with_reducible rfl
      refine wpAnyH_take (i := 37) (v := ?_) rfl (by kernel_rfl) (by kernel_rfl) (by kernel_rfl) (fun _ _ _ h => h) (Or.inl ⟨by kernel_rfl, ?_⟩) hS ?_
      rotate_left
      · intro W hW; go_simp; try with_reducible rfl
      refine wpAnyH_done (by kernel_rfl) ?_ _
      have HF := Lib.hid (HB.out.trans (hS.mono HB.out.size))
      clear hS
      go_wp2_with fail
      go_roundw
      case rel => exact ⟨i + 1, by omega, by go_num, HF.out⟩
      case measure => simp [intOf]; omega
    · obtain rfl : i = fs.length := by omega
      go_wp2_with fail
      go_ret
      exact ⟨rfl, HB3.out.trans (HB.out.mono HB3.out.size)⟩
end Go.Proofs.YtmmmakfmpopniaaDoor
