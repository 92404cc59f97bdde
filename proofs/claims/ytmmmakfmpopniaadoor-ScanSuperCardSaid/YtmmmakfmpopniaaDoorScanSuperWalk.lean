/-
  The walk of corncriblaw06.ScanSuper. (Printed by genssup.py.)
-/
import Derived.Test.YtmmmakfmpopniaaDoorScnSuper
namespace Go.Proofs.YtmmmakfmpopniaaDoor
open Go.RowKit
set_option linter.unusedVariables false

theorem super_neq (w : World) (v g v' g' : Int) : (binOp .neq 51 (.agg #[.int .i64 v, .int .i64 g]) (.agg #[.int .i64 v', .int .i64 g'])).run Tryd.prog w = .ok (.bool (!(v == v' && g == g'))) w := by
  simp [go_sem]
  by_cases h1 : v = v' <;> by_cases h2 : g = g' <;> simp [h1, h2]
theorem code_ate0 {w : World} {nm : ByteArray} {o c : Nat} {ev : Value} (h : AtE w nm o c ev) (hc : c ≤ 17) : Calls Tryd.prog 9 #[ev] w fun e w' => e = .returned (.int .i64 (c : Int)) ∧ w = w' := code_ate h hc
set_option maxRecDepth 100000 in
set_option maxHeartbeats 8000000 in
theorem ssup_walk (nm : ByteArray) (a : Option Addr) (n c : Nat) (l : List (BitVec 8)) (m : Nat) (w : World) (hg : Laid w) (h : BSl w w.heap.size a n l) (hc : n ≤ c) (hm : m ≤ 255) (hs : nm.size ≤ 9223372036854775807) :
    Calls Tryd.prog 6 #[.string nm, .slice a n c, .int .u8 (m : Int)] w fun e w' => e = .returned (.bool true) ∧ Below w.heap.size w w' := by
  have EA := Lib.hid (scn_alive w hg)
  have HBS := Lib.hid fun (W : World) (B0 : Below w.heap.size w W) => (show BSl W W.heap.size a n l from (h.below B0).more B0.size)
  have HG := Lib.hid hg
  have HC := Lib.hid hc
  clear hg h hc
  by_cases hbig : 300 < n
  · have b0 : decide ((300 : Int) < (n : Int)) = true := decide_eq_true (by omega)
    go_enter Tryd.func6, Tryd.ntmps6
    go_wp2_with fail
    refine EA.out.mono ?_
    rintro e w1 ⟨rfl, B1⟩
    have HB1 := Lib.hid B1
    clear B1
    go_wp2_with fail
    go_ret
    exact ⟨rfl, HB1.out⟩
  have b0 : decide ((300 : Int) < (n : Int)) = false := decide_eq_false (by omega)
  have HN := Lib.hid (show n ≤ 300 from by omega)
  clear hbig
  by_cases hbn : 100 < nm.size
  · have b1 : decide ((100 : Int) < (nm.size : Int)) = true := decide_eq_true (by omega)
    go_enter Tryd.func6, Tryd.ntmps6
    go_wp2_with fail
    refine EA.out.mono ?_
    rintro e w1 ⟨rfl, B1⟩
    have HB1 := Lib.hid B1
    clear B1
    go_wp2_with fail
    go_ret
    exact ⟨rfl, HB1.out⟩
  have b1 : decide ((100 : Int) < (nm.size : Int)) = false := decide_eq_false (by omega)
  clear hbn hs
  obtain ⟨cc, hcc⟩ : ∃ cc : Nat, 1 + m % 17 = cc := ⟨_, rfl⟩
  have hpz : (1 : Int) + (m : Int) % 17 = (cc : Int) := by omega
  have hpt : (1 : Int) + (m : Int).tmod 17 = (cc : Int) := by rw [Int.tmod_eq_emod_of_nonneg (by omega)]; exact hpz
  have hmz : (m : Int) ≤ 255 := by omega
  have HCC := Lib.hid (show 1 ≤ cc ∧ cc ≤ 17 from by omega)
  clear hcc hm
  go_enter Tryd.func6, Tryd.ntmps6
  go_wp2_with fail
  refine EA.out.mono ?_
  rintro e w1 ⟨rfl, B1⟩
  have HB1 := Lib.hid B1
  have HG1 := Lib.hid (HG.out.on B1)
  have E1 := Lib.hid (ssuper_any nm a n c l w1 (HBS.out _ B1) HC.out (by have := HN.out; omega))
  clear B1 EA
  go_wp2_with fail
  refine E1.out.mono ?_
  rintro e w2 ⟨B2, v, g, cf, ev, hsu, rfl, hate⟩
  have HS := Lib.hid hsu
  obtain ⟨w3, hw3, hP3, hB3⟩ : ∃ w3, w2.alloc (.cells #[.int .i64 (v : Int), .int .i64 (g : Int)] 51) = w3 ∧ Blk w3 w2.heap.size 51 #[.int .i64 (v : Int), .int .i64 (g : Int)] ∧ Below w2.heap.size w2 w3 := ⟨_, rfl, Blk.made _ _ _, (Below.refl _ w2).alloc (Nat.le_refl _) _⟩
  have hB23 := B2.trans (hB3.mono B2.size)
  have HB3 := Lib.hid (HB1.out.trans (hB23.mono HB1.out.size))
  have HG3 := Lib.hid (HG1.out.on hB23)
  have HA3 := Lib.hid (hate.below hB3 (Nat.le_refl _))
  have HP3 := Lib.hid hP3
  have HCF := Lib.hid (show cf = 0 ∨ cf = 3 ∨ cf = 4 ∨ cf = 5 from by
    have h4 := hdCode_le l 3 1129466178
    unfold hdSuper at hsu
    split at hsu
    · simp only [Prod.mk.injEq] at hsu; omega
    · split at hsu
      · simp only [Prod.mk.injEq] at hsu; omega
      · simp only [Prod.mk.injEq] at hsu; omega)
  have E3 := Lib.hid (show Calls Tryd.prog 16 #[.slice a n c, .int .i64 3, .int .i64 1129466178] w3 (RdP l 3 1129466178 w3) from rread_any a n c l 3 1129466178 w3 (HBS.out _ HB3.out) HC.out (by have := HN.out; omega) (by decide) (by decide) (by decide))
  clear hsu hate hP3 hB3 hB23 B2 E1 HG1 HB1 HG
  go_wp2_with fail
  clear hw3
  refine E3.out.mono ?_
  rintro e w4 ⟨B4, av, mm, cv, rfl, hd⟩
  have HB4 := Lib.hid (HB3.out.trans (B4.mono HB3.out.size))
  have HG4 := Lib.hid (HG3.out.on B4)
  have HA4 := Lib.hid (HA3.out.below B4 (Nat.le_refl _))
  have HP4 := Lib.hid (HP3.out.below B4 HP3.out.lt)
  have HD := Lib.hid hd
  generalize w2.heap.size = P at *
  clear hd B4 E3 HB3 HG3 HA3 HP3
  obtain ⟨zb, s, o', hz, hz2, EW, hcase⟩ : ∃ (zb : Bool) (s : ByteArray) (o' : Int), ((cf : Int) != 0) = zb ∧ ((cf : Int) == 0) = !zb ∧
      (∀ W, Laid W → AtE W nm 0 cf ev → Calls Tryd.prog 12 #[ev] W fun e w' => e = .returned (.tuple #[.string s, .int .i64 o', .bool zb]) ∧ Below W.heap.size W w') ∧ ((cf = 0 ∧ zb = false) ∨ (cf ≠ 0 ∧ zb = true ∧ nm = s ∧ o' = 0)) := by
    by_cases h0 : cf = 0
    · refine ⟨false, ⟨#[]⟩, 0, by rw [h0]; rfl, by rw [h0]; rfl, fun W hl ha => (where_ate ha hl).mono ?_, .inl ⟨h0, rfl⟩⟩
      rintro e w' ⟨B, ⟨_, h⟩ | ⟨h, _⟩⟩
      · exact ⟨h, B⟩
      · exact absurd h0 h
    · refine ⟨true, nm, 0, by rw [bne_iff_ne]; omega, by rw [Bool.not_true, beq_eq_false_iff_ne]; omega, fun W hl ha => (where_ate ha hl).mono ?_, .inr ⟨h0, rfl, rfl, rfl⟩⟩
      rintro e w' ⟨B, ⟨h, _⟩ | ⟨_, h⟩⟩
      · exact absurd h h0
      · exact ⟨h, B⟩
  have HEW := Lib.hid EW
  clear EW
  obtain ⟨c0, hc0⟩ : ∃ c0, hdCode l 3 1129466178 = c0 := ⟨_, rfl⟩
  rw [hc0] at HD ⊢
  have HC0 := Lib.hid hc0
  clear hc0
  by_cases h0 : c0 = 0
  · obtain ⟨hmm, hi⟩ := HD.out h0
    subst hmm
    obtain ⟨x, hx⟩ : ∃ x, nums l 4 4 = x := ⟨_, rfl⟩
    obtain ⟨y, hy⟩ : ∃ y, nums l 8 4 = y := ⟨_, rfl⟩
    have hws : hdWs l 3 = [nums l 0 4, x, y] := by rw [← hx, ← hy]; rfl
    rw [hws] at hi
    obtain ⟨b, off, rfl, hbl, hcell⟩ := hi.2 (by decide)
    have hl1 : w4.cell? ⟨b, off + 1, none⟩ = some (.int .i64 (x : Int)) := hcell 1 (by decide)
    have hl2 : w4.cell? ⟨b, off + 2, none⟩ = some (.int .i64 (y : Int)) := hcell 2 (by decide)
    have HCL := Lib.hid fun (W : World) (B : Below w4.heap.size w4 W) => And.intro ((B.cell (p := ⟨b, off + 1, none⟩) hbl).trans hl1) ((B.cell (p := ⟨b, off + 2, none⟩) hbl).trans hl2)
    obtain ⟨rb, hrb⟩ : ∃ rb, hdRight (x : Int) (y : Int) 0 = rb := ⟨_, rfl⟩
    have ER := Lib.hid fun (W : World) => (show Calls Tryd.prog 17 #[.int .i64 (x : Int), .int .i64 (y : Int), .int .i64 0] W fun x w' => x = .returned (.bool rb) ∧ W = w' from by
      have := rright04_any (x : Int) (y : Int) 0 W
      rwa [hrb] at this)
    have hsu := HS.out
    unfold hdSuper at hsu
    rw [if_neg (by rw [HC0.out]; exact not_not_intro h0), hx, hy, hrb] at hsu
    have y0 : ((c0 : Int) == 0) = true := by rw [h0]; rfl
    clear hi hws hcell hl1 hl2 hbl hx hy hrb h0
    cases rb with
    | true =>
      rw [if_pos rfl] at hsu
      simp only [Prod.mk.injEq] at hsu
      obtain ⟨rfl, rfl, rfl⟩ := hsu
      obtain ⟨-, rfl⟩ | ⟨h, -⟩ := hcase
      rotate_left
      · exact absurd rfl h
      have HCZ := Lib.hid (show c0 = 0 from by have := beq_iff_eq.1 y0; omega)
      go_upto_region 7 with fail
      refine wp_region_held_drew (S := fun W => Below w4.heap.size w4 W) (by kernel_rfl) ((Below.refl _ _).drew) (fun hS => ?_)
      refine wpAnyH_take (i := 0) (v := ?_) rfl (by kernel_rfl) (by kernel_rfl) (by kernel_rfl) (fun _ _ _ h => h) (Or.inl ⟨by kernel_rfl, ?_⟩) hS ?_
      rotate_left
      · intro W hW; go_simp; try with_reducible rfl
      refine wpAnyH_take (i := 1) (v := ?_) rfl (by kernel_rfl) (by kernel_rfl) (by kernel_rfl) (fun _ _ _ h => h) (Or.inl ⟨by kernel_rfl, ?_⟩) hS ?_
      rotate_left
      · intro W hW; go_simp; try with_reducible rfl
      refine wpAnyH_take (i := 2) (v := ?_) rfl (by kernel_rfl) (by kernel_rfl) (by kernel_rfl) (fun _ _ _ h => h) (Or.inl ⟨by kernel_rfl, ?_⟩) hS ?_
      rotate_left
      · intro W hW; go_simp; try with_reducible rfl
      refine wpAnyH_take (i := 3) (v := ?_) rfl (by kernel_rfl) (by kernel_rfl) (by kernel_rfl) (fun _ _ _ h => h) (Or.inl ⟨by kernel_rfl, ?_⟩) hS ?_
      rotate_left
      · intro W hW; go_simp; try with_reducible rfl
      refine wpAnyH_take (i := 4) (v := ?_) rfl (by kernel_rfl) (by kernel_rfl) (by kernel_rfl) (fun _ _ _ h => h) (Or.inl ⟨by kernel_rfl, ?_⟩) hS ?_
      rotate_left
      · intro W hW; go_simp; try with_reducible rfl
      refine wpAnyH_take (i := 5) (v := ?_) rfl (by kernel_rfl) (by kernel_rfl) (by kernel_rfl) (fun _ _ _ h => h) (Or.inl ⟨by kernel_rfl, ?_⟩) hS ?_
      rotate_left
      · intro W hW; obtain ⟨p0, p1⟩ := HCL.out W hW; go_simp; try with_reducible rfl
      refine wpAnyH_take (i := 6) (v := ?_) rfl (by kernel_rfl) (by kernel_rfl) (by kernel_rfl) (fun _ _ _ h => h) (Or.inl ⟨by kernel_rfl, ?_⟩) hS ?_
      rotate_left
      · intro W hW; go_simp; try with_reducible rfl
      refine wpAnyH_take (i := 7) (v := ?_) rfl (by kernel_rfl) (by kernel_rfl) (by kernel_rfl) (fun _ _ _ h => h) (Or.inl ⟨by kernel_rfl, ?_⟩) hS ?_
      rotate_left
      · intro W hW; go_simp; try with_reducible rfl
      refine wpAnyH_take (i := 8) (v := ?_) rfl (by kernel_rfl) (by kernel_rfl) (by kernel_rfl) (fun _ _ _ h => h) (Or.inl ⟨by kernel_rfl, ?_⟩) hS ?_
      rotate_left
      · intro W hW; obtain ⟨p0, p1⟩ := HCL.out W hW; go_simp; try with_reducible rfl
      refine wpAnyH_ready (rs := [9]) (by kernel_rfl) (by simp) ?_
      refine AllReadyH.cons (i := 9) rfl ?_ AllReadyH.nil
      intro K hK
      go_simp
      refine (ER.out _).mono ?_
      rintro e w7 ⟨rfl, rfl⟩
      go_simp
      refine hK.out _ _ ?_ (fun hN => ?_)
      · first | exact hT | exact hS | exact hS.alloc hS.size _ | exact hS.drew
      clear hK K
      try clear hT
      clear hS
      have hS := hN
      clear hN
      refine wpAnyH_take (i := 10) (v := ?_) rfl (by kernel_rfl) (by kernel_rfl) (by kernel_rfl) (fun _ _ _ h => h) (Or.inl ⟨by kernel_rfl, ?_⟩) hS ?_
      rotate_left
      · intro W hW; go_simp; try with_reducible rfl
      refine wpAnyH_take (i := 11) (v := ?_) rfl (by kernel_rfl) (by kernel_rfl) (by kernel_rfl) (fun _ _ _ h => h) (Or.inl ⟨by kernel_rfl, ?_⟩) hS ?_
      rotate_left
      · intro W hW; go_simp; try with_reducible rfl
      refine wpAnyH_done (by kernel_rfl) ?_ _
      rw [show (c0 : Int) = ((0 : Nat) : Int) from by rw [HCZ.out]]
      clear y0
      have HB5 := Lib.hid hS
      clear hS
      go_simp
      go_wp2_with fail
      refine (HEW.out _ (HG4.out.on HB5.out) (HA4.out.below HB5.out (Nat.le_refl _))).mono ?_
      rintro e w6 ⟨rfl, B6⟩
      have HB6 := Lib.hid (HB5.out.trans (B6.mono HB5.out.size))
      have HA6 := Lib.hid ((HA4.out.below HB5.out (Nat.le_refl _)).below B6 (Nat.le_refl _))
      have HG6 := Lib.hid (HG4.out.on HB6.out)
      have HP6 := Lib.hid ((HP4.out.below HB5.out HP4.out.lt).below B6 (HP4.out.below HB5.out HP4.out.lt).lt)
      have EC := Lib.hid fun (W : World) (B : Below w6.heap.size w6 W) => code_ate (HA6.out.below B (Nat.le_refl _)) (by have := HCF.out; omega)
      clear B6 HEW
      go_upto_region 10 with fail
      refine wp_region_held_drew (S := fun W => Below w6.heap.size w6 W) (by kernel_rfl) ((Below.refl _ _).drew) (fun hS => ?_)
      refine wpAnyH_take (i := 0) (v := ?_) rfl (by kernel_rfl) (by kernel_rfl) (by kernel_rfl) (fun _ _ _ h => h) (Or.inl ⟨by kernel_rfl, ?_⟩) hS ?_
      rotate_left
      · intro W hW; go_simp; try with_reducible rfl
      refine wpAnyH_take (i := 2) (v := ?_) rfl (by kernel_rfl) (by kernel_rfl) (by kernel_rfl) (fun _ _ _ h => h) (Or.inl ⟨by kernel_rfl, ?_⟩) hS ?_
      rotate_left
      · intro W hW; go_simp; try with_reducible rfl
      refine wpAnyH_ready (rs := [1]) (by kernel_rfl) (by simp) ?_
      refine AllReadyH.cons (i := 1) rfl ?_ AllReadyH.nil
      intro K hK
      go_simp
      refine (EC.out _ hS).mono ?_
      rintro e w8 ⟨rfl, rfl⟩
      go_simp
      refine hK.out _ _ ?_ (fun hN => ?_)
      · first | exact hT | exact hS | exact hS.alloc hS.size _ | exact hS.drew
      clear hK K
      try clear hT
      clear hS
      have hS := hN
      clear hN
      refine wpAnyH_take (i := 3) (v := ?_) rfl (by kernel_rfl) (by kernel_rfl) (by kernel_rfl) (fun _ _ _ h => h) (Or.inl ⟨by kernel_rfl, ?_⟩) hS ?_
      rotate_left
      · intro W hW; go_simp; try with_reducible rfl
      refine wpAnyH_take (i := 4) (v := ?_) rfl (by kernel_rfl) (by kernel_rfl) (by kernel_rfl) (fun _ _ _ h => h) (Or.inl ⟨by kernel_rfl, ?_⟩) hS ?_
      rotate_left
      · intro W hW; go_simp; try with_reducible rfl
      refine wpAnyH_take (i := 5) (v := ?_) rfl (by kernel_rfl) (by kernel_rfl) (by kernel_rfl) (fun _ _ _ h => h) (Or.inl ⟨by kernel_rfl, ?_⟩) hS ?_
      rotate_left
      · intro W hW; go_simp; try with_reducible rfl
      refine wpAnyH_take (i := 6) (v := ?_) rfl (by kernel_rfl) (by kernel_rfl) (by kernel_rfl) (fun _ _ _ h => h) (Or.inl ⟨by kernel_rfl, ?_⟩) hS ?_
      rotate_left
      · intro W hW; go_simp; try with_reducible rfl
      refine wpAnyH_take (i := 7) (v := ?_) rfl (by kernel_rfl) (by kernel_rfl) (by kernel_rfl) (fun _ _ _ h => h) (Or.inl ⟨by kernel_rfl, ?_⟩) hS ?_
      rotate_left
      · intro W hW; go_simp; try with_reducible rfl
      refine wpAnyH_take (i := 8) (v := ?_) rfl (by kernel_rfl) (by kernel_rfl) (by kernel_rfl) (fun _ _ _ h => h) (Or.inl ⟨by kernel_rfl, ?_⟩) hS ?_
      rotate_left
      · intro W hW; go_simp; try with_reducible rfl
      refine wpAnyH_take (i := 9) (v := ?_) rfl (by kernel_rfl) (by kernel_rfl) (by kernel_rfl) (fun _ _ _ h => h) (Or.inl ⟨by kernel_rfl, ?_⟩) hS ?_
      rotate_left
      · intro W hW; go_simp; try with_reducible rfl
      refine wpAnyH_take (i := 10) (v := ?_) rfl (by kernel_rfl) (by kernel_rfl) (by kernel_rfl) (fun _ _ _ h => h) (Or.inl ⟨by kernel_rfl, ?_⟩) hS ?_
      rotate_left
      · intro W hW; go_simp; try with_reducible rfl
      refine wpAnyH_take (i := 11) (v := ?_) rfl (by kernel_rfl) (by kernel_rfl) (by kernel_rfl) (fun _ _ _ h => h) (Or.inl ⟨by kernel_rfl, ?_⟩) hS ?_
      rotate_left
      · intro W hW; go_simp; try with_reducible rfl
      refine wpAnyH_take (i := 12) (v := ?_) rfl (by kernel_rfl) (by kernel_rfl) (by kernel_rfl) (fun _ _ _ h => h) (Or.inl ⟨by kernel_rfl, ?_⟩) hS ?_
      rotate_left
      · intro W hW; go_simp; try with_reducible rfl
      refine wpAnyH_take (i := 13) (v := undef) rfl (by kernel_rfl) (by kernel_rfl) (by kernel_rfl) (fun _ _ _ h => h) (Or.inr ⟨by kernel_rfl, rfl⟩) hS ?_
      refine wpAnyH_take (i := 14) (v := undef) rfl (by kernel_rfl) (by kernel_rfl) (by kernel_rfl) (fun _ _ _ h => h) (Or.inr ⟨by kernel_rfl, rfl⟩) hS ?_
      refine wpAnyH_take (i := 15) (v := undef) rfl (by kernel_rfl) (by kernel_rfl) (by kernel_rfl) (fun _ _ _ h => h) (Or.inr ⟨by kernel_rfl, rfl⟩) hS ?_
      refine wpAnyH_take (i := 16) (v := undef) rfl (by kernel_rfl) (by kernel_rfl) (by kernel_rfl) (fun _ _ _ h => h) (Or.inr ⟨by kernel_rfl, rfl⟩) hS ?_
      refine wpAnyH_take (i := 17) (v := undef) rfl (by kernel_rfl) (by kernel_rfl) (by kernel_rfl) (fun _ _ _ h => h) (Or.inr ⟨by kernel_rfl, rfl⟩) hS ?_
      refine wpAnyH_take (i := 18) (v := undef) rfl (by kernel_rfl) (by kernel_rfl) (by kernel_rfl) (fun _ _ _ h => h) (Or.inr ⟨by kernel_rfl, rfl⟩) hS ?_
      refine wpAnyH_take (i := 19) (v := undef) rfl (by kernel_rfl) (by kernel_rfl) (by kernel_rfl) (fun _ _ _ h => h) (Or.inr ⟨by kernel_rfl, rfl⟩) hS ?_
      refine wpAnyH_take (i := 20) (v := ?_) rfl (by kernel_rfl) (by kernel_rfl) (by kernel_rfl) (fun _ _ _ h => h) (Or.inl ⟨by kernel_rfl, ?_⟩) hS ?_
      rotate_left
      · intro W hW; go_simp; try with_reducible rfl
      refine wpAnyH_take (i := 21) (v := ?_) rfl (by kernel_rfl) (by kernel_rfl) (by kernel_rfl) (fun _ _ _ h => h) (Or.inl ⟨by kernel_rfl, ?_⟩) hS ?_
      rotate_left
      · intro W hW; go_simp; try with_reducible rfl
      refine wpAnyH_take (i := 22) (v := ?_) rfl (by kernel_rfl) (by kernel_rfl) (by kernel_rfl) (fun _ _ _ h => h) (Or.inl ⟨by kernel_rfl, ?_⟩) hS ?_
      rotate_left
      · intro W hW; go_simp; try with_reducible rfl
      refine wpAnyH_take (i := 23) (v := ?_) rfl (by kernel_rfl) (by kernel_rfl) (by kernel_rfl) (fun _ _ _ h => h) (Or.inl ⟨by kernel_rfl, ?_⟩) hS ?_
      rotate_left
      · intro W hW; go_simp; try with_reducible rfl
      refine wpAnyH_take (i := 24) (v := ?_) rfl (by kernel_rfl) (by kernel_rfl) (by kernel_rfl) (fun _ _ _ h => h) (Or.inl ⟨by kernel_rfl, ?_⟩) hS ?_
      rotate_left
      · intro W hW; go_simp; try with_reducible rfl
      refine wpAnyH_take (i := 25) (v := ?_) rfl (by kernel_rfl) (by kernel_rfl) (by kernel_rfl) (fun _ _ _ h => h) (Or.inl ⟨by kernel_rfl, ?_⟩) hS ?_
      rotate_left
      · intro W hW; go_simp; try with_reducible rfl
      refine wpAnyH_take (i := 26) (v := ?_) rfl (by kernel_rfl) (by kernel_rfl) (by kernel_rfl) (fun _ _ _ h => h) (Or.inl ⟨by kernel_rfl, ?_⟩) hS ?_
      rotate_left
      · intro W hW; go_simp; try with_reducible rfl
      refine wpAnyH_take (i := 27) (v := ?_) rfl (by kernel_rfl) (by kernel_rfl) (by kernel_rfl) (fun _ _ _ h => h) (Or.inl ⟨by kernel_rfl, ?_⟩) hS ?_
      rotate_left
      · intro W hW; obtain ⟨p0, p1⟩ := HCL.out W (HB6.out.trans (hW.mono HB6.out.size)); obtain ⟨⟨q0, q1⟩, -, -⟩ := (HP6.out.below hW HP6.out.lt).two; go_simp; try with_reducible rfl
      refine wpAnyH_take (i := 28) (v := ?_) rfl (by kernel_rfl) (by kernel_rfl) (by kernel_rfl) (fun _ _ _ h => h) (Or.inl ⟨by kernel_rfl, ?_⟩) hS ?_
      rotate_left
      · intro W hW; go_simp; try with_reducible rfl
      refine wpAnyH_take (i := 29) (v := ?_) rfl (by kernel_rfl) (by kernel_rfl) (by kernel_rfl) (fun _ _ _ h => h) (Or.inl ⟨by kernel_rfl, ?_⟩) hS ?_
      rotate_left
      · intro W hW; go_simp; try with_reducible rfl
      refine wpAnyH_take (i := 30) (v := ?_) rfl (by kernel_rfl) (by kernel_rfl) (by kernel_rfl) (fun _ _ _ h => h) (Or.inl ⟨by kernel_rfl, ?_⟩) hS ?_
      rotate_left
      · intro W hW; obtain ⟨p0, p1⟩ := HCL.out W (HB6.out.trans (hW.mono HB6.out.size)); obtain ⟨⟨q0, q1⟩, -, -⟩ := (HP6.out.below hW HP6.out.lt).two; go_simp; try with_reducible rfl
      refine wpAnyH_take (i := 31) (v := ?_) rfl (by kernel_rfl) (by kernel_rfl) (by kernel_rfl) (fun _ _ _ h => h) (Or.inl ⟨by kernel_rfl, ?_⟩) hS ?_
      rotate_left
      · intro W hW; go_simp; try with_reducible rfl
      refine wpAnyH_take (i := 32) (v := ?_) rfl (by kernel_rfl) (by kernel_rfl) (by kernel_rfl) (fun _ _ _ h => h) (Or.inl ⟨by kernel_rfl, ?_⟩) hS ?_
      rotate_left
      · intro W hW; go_simp; try with_reducible rfl
      refine wpAnyH_take (i := 33) (v := ?_) rfl (by kernel_rfl) (by kernel_rfl) (by kernel_rfl) (fun _ _ _ h => h) (Or.inl ⟨by kernel_rfl, ?_⟩) hS ?_
      rotate_left
      · intro W hW; go_simp; try with_reducible rfl
      refine wpAnyH_take (i := 34) (v := ?_) rfl (by kernel_rfl) (by kernel_rfl) (by kernel_rfl) (fun _ _ _ h => h) (Or.inl ⟨by kernel_rfl, ?_⟩) hS ?_
      rotate_left
      · intro W hW; obtain ⟨p0, p1⟩ := HCL.out W (HB6.out.trans (hW.mono HB6.out.size)); obtain ⟨⟨q0, q1⟩, -, -⟩ := (HP6.out.below hW HP6.out.lt).two; go_simp; try with_reducible rfl
      refine wpAnyH_take (i := 35) (v := ?_) rfl (by kernel_rfl) (by kernel_rfl) (by kernel_rfl) (fun _ _ _ h => h) (Or.inl ⟨by kernel_rfl, ?_⟩) hS ?_
      rotate_left
      · intro W hW; go_simp; try with_reducible rfl
      refine wpAnyH_take (i := 36) (v := ?_) rfl (by kernel_rfl) (by kernel_rfl) (by kernel_rfl) (fun _ _ _ h => h) (Or.inl ⟨by kernel_rfl, ?_⟩) hS ?_
      rotate_left
      · intro W hW; go_simp; try with_reducible rfl
      refine wpAnyH_take (i := 37) (v := ?_) rfl (by kernel_rfl) (by kernel_rfl) (by kernel_rfl) (fun _ _ _ h => h) (Or.inl ⟨by kernel_rfl, ?_⟩) hS ?_
      rotate_left
      · intro W hW; obtain ⟨p0, p1⟩ := HCL.out W (HB6.out.trans (hW.mono HB6.out.size)); obtain ⟨⟨q0, q1⟩, -, -⟩ := (HP6.out.below hW HP6.out.lt).two; go_simp; try with_reducible rfl
      refine wpAnyH_take (i := 38) (v := ?_) rfl (by kernel_rfl) (by kernel_rfl) (by kernel_rfl) (fun _ _ _ h => h) (Or.inl ⟨by kernel_rfl, ?_⟩) hS ?_
      rotate_left
      · intro W hW; go_simp; try with_reducible rfl
      refine wpAnyH_take (i := 39) (v := ?_) rfl (by kernel_rfl) (by kernel_rfl) (by kernel_rfl) (fun _ _ _ h => h) (Or.inl ⟨by kernel_rfl, ?_⟩) hS ?_
      rotate_left
      · intro W hW; go_simp; try with_reducible rfl
      refine wpAnyH_take (i := 40) (v := ?_) rfl (by kernel_rfl) (by kernel_rfl) (by kernel_rfl) (fun _ _ _ h => h) (Or.inl ⟨by kernel_rfl, ?_⟩) hS ?_
      rotate_left
      · intro W hW; go_simp; try with_reducible rfl
      refine wpAnyH_take (i := 41) (v := ?_) rfl (by kernel_rfl) (by kernel_rfl) (by kernel_rfl) (fun _ _ _ h => h) (Or.inl ⟨by kernel_rfl, ?_⟩) hS ?_
      rotate_left
      · intro W hW; go_simp; try with_reducible rfl
      refine wpAnyH_take (i := 42) (v := ?_) rfl (by kernel_rfl) (by kernel_rfl) (by kernel_rfl) (fun _ _ _ h => h) (Or.inl ⟨by kernel_rfl, ?_⟩) hS ?_
      rotate_left
      · intro W hW; go_simp; try with_reducible rfl
      refine wpAnyH_take (i := 43) (v := ?_) rfl (by kernel_rfl) (by kernel_rfl) (by kernel_rfl) (fun _ _ _ h => h) (Or.inl ⟨by kernel_rfl, ?_⟩) hS ?_
      rotate_left
      · intro W hW; go_simp; try with_reducible rfl
      refine wpAnyH_take (i := 44) (v := ?_) rfl (by kernel_rfl) (by kernel_rfl) (by kernel_rfl) (fun _ _ _ h => h) (Or.inl ⟨by kernel_rfl, ?_⟩) hS ?_
      rotate_left
      · intro W hW; go_simp; try with_reducible rfl
      refine wpAnyH_take (i := 45) (v := ?_) rfl (by kernel_rfl) (by kernel_rfl) (by kernel_rfl) (fun _ _ _ h => h) (Or.inl ⟨by kernel_rfl, ?_⟩) hS ?_
      rotate_left
      · intro W hW; go_simp; try with_reducible rfl
      refine wpAnyH_take (i := 46) (v := undef) rfl (by kernel_rfl) (by kernel_rfl) (by kernel_rfl) (fun _ _ _ h => h) (Or.inr ⟨by kernel_rfl, rfl⟩) hS ?_
      refine wpAnyH_take (i := 47) (v := undef) rfl (by kernel_rfl) (by kernel_rfl) (by kernel_rfl) (fun _ _ _ h => h) (Or.inr ⟨by kernel_rfl, rfl⟩) hS ?_
      refine wpAnyH_take (i := 48) (v := undef) rfl (by kernel_rfl) (by kernel_rfl) (by kernel_rfl) (fun _ _ _ h => h) (Or.inr ⟨by kernel_rfl, rfl⟩) hS ?_
      refine wpAnyH_take (i := 49) (v := ?_) rfl (by kernel_rfl) (by kernel_rfl) (by kernel_rfl) (fun _ _ _ h => h) (Or.inl ⟨by kernel_rfl, ?_⟩) hS ?_
      rotate_left
      · intro W hW; go_simp; try with_reducible rfl
      refine wpAnyH_take (i := 50) (v := ?_) rfl (by kernel_rfl) (by kernel_rfl) (by kernel_rfl) (fun _ _ _ h => h) (Or.inl ⟨by kernel_rfl, ?_⟩) hS ?_
      rotate_left
      · intro W hW; go_simp; try with_reducible rfl
      refine wpAnyH_done (by kernel_rfl) ?_ _
      have HB7 := Lib.hid (HB6.out.trans (hS.mono HB6.out.size))
      have HG7 := Lib.hid (HG6.out.on hS)
      clear hS EC
      go_simp
      clear hz hz2
      generalize w6.drew = w8 at *
      go_wp2_with fail
      refine (torn_code cc _ HG7.out).mono ?_
      rintro e w9 ⟨rfl, B9⟩
      have HB9 := Lib.hid (HB7.out.trans (B9.mono HB7.out.size))
      have HG9 := Lib.hid (HG7.out.on B9)
      have hq1 := Blk.made w9 61 #[.string nm, .int .i64 3, er cc]
      have hb1 : Below w9.heap.size w9 (w9.alloc (.cells #[.string nm, .int .i64 3, er cc] 61)) := (Below.refl _ _).alloc (Nat.le_refl _) _
      obtain ⟨wa, hwa, hqa, hba⟩ : ∃ wa, w9.alloc (.cells #[.string nm, .int .i64 3, er cc] 61) = wa ∧ Blk wa w9.heap.size 61 #[.string nm, .int .i64 3, er cc] ∧ Below w9.heap.size w9 wa := ⟨_, rfl, hq1, hb1⟩
      obtain ⟨wb, hwb, hqb, hbb⟩ : ∃ wb, wa.alloc (.cells #[.string ⟨#[97]⟩, .int .i64 0, atv w9.heap.size] 61) = wb ∧ Blk wb wa.heap.size 61 #[.string ⟨#[97]⟩, .int .i64 0, atv w9.heap.size] ∧ Below wa.heap.size wa wb := ⟨_, rfl, Blk.made _ _ _, (Below.refl _ _).alloc (Nat.le_refl _) _⟩
      have hab := hba.trans (hbb.mono hba.size)
      have ET := Lib.hid (torn_at wa.heap.size cc wb (HG9.out.on hab) (.inr ⟨w9.heap.size, hqb.cell 2, (hqa.below hbb hqa.lt).cell 2⟩))
      have HBB := Lib.hid (HB9.out.trans (hab.mono HB9.out.size))
      clear hq1 hb1 hqa hba hqb hbb hab B9
      go_wp2_with fail
      refine ET.out.mono ?_
      rintro e w10 ⟨rfl, B10⟩
      have HBX := Lib.hid (HBB.out.trans (B10.mono HBB.out.size))
      clear hwa hwb ET B10
      by_cases h3 : 3 ≤ cc
      · by_cases h5 : cc ≤ 5
        · rw [show tornB cc = true from decide_eq_true ⟨h3, h5⟩]
          have h3z : decide ((3 : Int) ≤ (cc : Int)) = true := decide_eq_true (by omega)
          have h5z : decide ((cc : Int) ≤ 5) = true := decide_eq_true (by omega)
          clear h3 h5 hpz hpt
          go_wp2_with fail
          refine (torn_nil _).mono ?_
          rintro e w11 ⟨rfl, B11⟩
          have HF := Lib.hid (HB4.out.trans ((HBX.out.trans (B11.mono HBX.out.size)).mono HB4.out.size))
          clear B11
          go_wp2_with fail
          go_ret
          exact ⟨rfl, HF.out⟩
        · rw [show tornB cc = false from decide_eq_false (fun h => h5 h.2)]
          have h3z : decide ((3 : Int) ≤ (cc : Int)) = true := decide_eq_true (by omega)
          have h5z : decide ((cc : Int) ≤ 5) = false := decide_eq_false (by omega)
          clear h3 h5 hpz hpt
          go_wp2_with fail
          refine (torn_nil _).mono ?_
          rintro e w11 ⟨rfl, B11⟩
          have HF := Lib.hid (HB4.out.trans ((HBX.out.trans (B11.mono HBX.out.size)).mono HB4.out.size))
          clear B11
          go_wp2_with fail
          go_ret
          exact ⟨rfl, HF.out⟩
      · rw [show tornB cc = false from decide_eq_false (fun h => h3 h.1)]
        have h3z : decide ((3 : Int) ≤ (cc : Int)) = false := decide_eq_false (by omega)
        clear h3 hpz hpt
        go_wp2_with fail
        refine (torn_nil _).mono ?_
        rintro e w11 ⟨rfl, B11⟩
        have HF := Lib.hid (HB4.out.trans ((HBX.out.trans (B11.mono HBX.out.size)).mono HB4.out.size))
        clear B11
        go_wp2_with fail
        go_ret
        exact ⟨rfl, HF.out⟩
    | false =>
      rw [if_neg (by decide)] at hsu
      simp only [Prod.mk.injEq] at hsu
      obtain ⟨rfl, rfl, rfl⟩ := hsu
      obtain ⟨h, -⟩ | ⟨-, rfl, rfl, rfl⟩ := hcase
      · exact absurd h (by decide)
      go_upto_region 7 with fail
      refine wp_region_held_drew (S := fun W => Below w4.heap.size w4 W) (by kernel_rfl) ((Below.refl _ _).drew) (fun hS => ?_)
      refine wpAnyH_take (i := 0) (v := ?_) rfl (by kernel_rfl) (by kernel_rfl) (by kernel_rfl) (fun _ _ _ h => h) (Or.inl ⟨by kernel_rfl, ?_⟩) hS ?_
      rotate_left
      · intro W hW; go_simp; try with_reducible rfl
      refine wpAnyH_take (i := 1) (v := ?_) rfl (by kernel_rfl) (by kernel_rfl) (by kernel_rfl) (fun _ _ _ h => h) (Or.inl ⟨by kernel_rfl, ?_⟩) hS ?_
      rotate_left
      · intro W hW; go_simp; try with_reducible rfl
      refine wpAnyH_take (i := 2) (v := ?_) rfl (by kernel_rfl) (by kernel_rfl) (by kernel_rfl) (fun _ _ _ h => h) (Or.inl ⟨by kernel_rfl, ?_⟩) hS ?_
      rotate_left
      · intro W hW; go_simp; try with_reducible rfl
      refine wpAnyH_take (i := 3) (v := ?_) rfl (by kernel_rfl) (by kernel_rfl) (by kernel_rfl) (fun _ _ _ h => h) (Or.inl ⟨by kernel_rfl, ?_⟩) hS ?_
      rotate_left
      · intro W hW; go_simp; try with_reducible rfl
      refine wpAnyH_take (i := 4) (v := ?_) rfl (by kernel_rfl) (by kernel_rfl) (by kernel_rfl) (fun _ _ _ h => h) (Or.inl ⟨by kernel_rfl, ?_⟩) hS ?_
      rotate_left
      · intro W hW; go_simp; try with_reducible rfl
      refine wpAnyH_take (i := 5) (v := ?_) rfl (by kernel_rfl) (by kernel_rfl) (by kernel_rfl) (fun _ _ _ h => h) (Or.inl ⟨by kernel_rfl, ?_⟩) hS ?_
      rotate_left
      · intro W hW; obtain ⟨p0, p1⟩ := HCL.out W hW; go_simp; try with_reducible rfl
      refine wpAnyH_take (i := 6) (v := ?_) rfl (by kernel_rfl) (by kernel_rfl) (by kernel_rfl) (fun _ _ _ h => h) (Or.inl ⟨by kernel_rfl, ?_⟩) hS ?_
      rotate_left
      · intro W hW; go_simp; try with_reducible rfl
      refine wpAnyH_take (i := 7) (v := ?_) rfl (by kernel_rfl) (by kernel_rfl) (by kernel_rfl) (fun _ _ _ h => h) (Or.inl ⟨by kernel_rfl, ?_⟩) hS ?_
      rotate_left
      · intro W hW; go_simp; try with_reducible rfl
      refine wpAnyH_take (i := 8) (v := ?_) rfl (by kernel_rfl) (by kernel_rfl) (by kernel_rfl) (fun _ _ _ h => h) (Or.inl ⟨by kernel_rfl, ?_⟩) hS ?_
      rotate_left
      · intro W hW; obtain ⟨p0, p1⟩ := HCL.out W hW; go_simp; try with_reducible rfl
      refine wpAnyH_ready (rs := [9]) (by kernel_rfl) (by simp) ?_
      refine AllReadyH.cons (i := 9) rfl ?_ AllReadyH.nil
      intro K hK
      go_simp
      refine (ER.out _).mono ?_
      rintro e w7 ⟨rfl, rfl⟩
      go_simp
      refine hK.out _ _ ?_ (fun hN => ?_)
      · first | exact hT | exact hS | exact hS.alloc hS.size _ | exact hS.drew
      clear hK K
      try clear hT
      clear hS
      have hS := hN
      clear hN
      refine wpAnyH_take (i := 10) (v := ?_) rfl (by kernel_rfl) (by kernel_rfl) (by kernel_rfl) (fun _ _ _ h => h) (Or.inl ⟨by kernel_rfl, ?_⟩) hS ?_
      rotate_left
      · intro W hW; go_simp; try with_reducible rfl
      refine wpAnyH_take (i := 11) (v := ?_) rfl (by kernel_rfl) (by kernel_rfl) (by kernel_rfl) (fun _ _ _ h => h) (Or.inl ⟨by kernel_rfl, ?_⟩) hS ?_
      rotate_left
      · intro W hW; go_simp; try with_reducible rfl
      refine wpAnyH_done (by kernel_rfl) ?_ _
      clear y0
      have HB5 := Lib.hid hS
      clear hS
      go_simp
      go_wp2_with fail
      refine (HEW.out _ (HG4.out.on HB5.out) (HA4.out.below HB5.out (Nat.le_refl _))).mono ?_
      rintro e w6 ⟨rfl, B6⟩
      have HB6 := Lib.hid (HB5.out.trans (B6.mono HB5.out.size))
      have HA6 := Lib.hid ((HA4.out.below HB5.out (Nat.le_refl _)).below B6 (Nat.le_refl _))
      have HG6 := Lib.hid (HG4.out.on HB6.out)
      have HP6 := Lib.hid ((HP4.out.below HB5.out HP4.out.lt).below B6 (HP4.out.below HB5.out HP4.out.lt).lt)
      have EC := Lib.hid fun (W : World) (B : Below w6.heap.size w6 W) => code_ate (HA6.out.below B (Nat.le_refl _)) (by have := HCF.out; omega)
      clear B6 HEW
      go_upto_region 10 with fail
      have HNE := fun W => super_neq W 0 0 0 0
      refine wp_region_held_drew (S := fun W => Below w6.heap.size w6 W) (by kernel_rfl) ((Below.refl _ _).drew) (fun hS => ?_)
      refine wpAnyH_take (i := 0) (v := ?_) rfl (by kernel_rfl) (by kernel_rfl) (by kernel_rfl) (fun _ _ _ h => h) (Or.inl ⟨by kernel_rfl, ?_⟩) hS ?_
      rotate_left
      · intro W hW; go_simp; try with_reducible rfl
      refine wpAnyH_take (i := 2) (v := ?_) rfl (by kernel_rfl) (by kernel_rfl) (by kernel_rfl) (fun _ _ _ h => h) (Or.inl ⟨by kernel_rfl, ?_⟩) hS ?_
      rotate_left
      · intro W hW; go_simp; try with_reducible rfl
      refine wpAnyH_ready (rs := [1]) (by kernel_rfl) (by simp) ?_
      refine AllReadyH.cons (i := 1) rfl ?_ AllReadyH.nil
      intro K hK
      go_simp
      refine (EC.out _ hS).mono ?_
      rintro e w8 ⟨rfl, rfl⟩
      go_simp
      refine hK.out _ _ ?_ (fun hN => ?_)
      · first | exact hT | exact hS | exact hS.alloc hS.size _ | exact hS.drew
      clear hK K
      try clear hT
      clear hS
      have hS := hN
      clear hN
      refine wpAnyH_take (i := 3) (v := ?_) rfl (by kernel_rfl) (by kernel_rfl) (by kernel_rfl) (fun _ _ _ h => h) (Or.inl ⟨by kernel_rfl, ?_⟩) hS ?_
      rotate_left
      · intro W hW; go_simp; try with_reducible rfl
      refine wpAnyH_take (i := 4) (v := ?_) rfl (by kernel_rfl) (by kernel_rfl) (by kernel_rfl) (fun _ _ _ h => h) (Or.inl ⟨by kernel_rfl, ?_⟩) hS ?_
      rotate_left
      · intro W hW; go_simp; try with_reducible rfl
      refine wpAnyH_take (i := 5) (v := ?_) rfl (by kernel_rfl) (by kernel_rfl) (by kernel_rfl) (fun _ _ _ h => h) (Or.inl ⟨by kernel_rfl, ?_⟩) hS ?_
      rotate_left
      · intro W hW; go_simp; try with_reducible rfl
      refine wpAnyH_take (i := 6) (v := ?_) rfl (by kernel_rfl) (by kernel_rfl) (by kernel_rfl) (fun _ _ _ h => h) (Or.inl ⟨by kernel_rfl, ?_⟩) hS ?_
      rotate_left
      · intro W hW; go_simp; try with_reducible rfl
      refine wpAnyH_take (i := 7) (v := ?_) rfl (by kernel_rfl) (by kernel_rfl) (by kernel_rfl) (fun _ _ _ h => h) (Or.inl ⟨by kernel_rfl, ?_⟩) hS ?_
      rotate_left
      · intro W hW; go_simp; try with_reducible rfl
      refine wpAnyH_take (i := 8) (v := ?_) rfl (by kernel_rfl) (by kernel_rfl) (by kernel_rfl) (fun _ _ _ h => h) (Or.inl ⟨by kernel_rfl, ?_⟩) hS ?_
      rotate_left
      · intro W hW; go_simp; try with_reducible rfl
      refine wpAnyH_take (i := 9) (v := ?_) rfl (by kernel_rfl) (by kernel_rfl) (by kernel_rfl) (fun _ _ _ h => h) (Or.inl ⟨by kernel_rfl, ?_⟩) hS ?_
      rotate_left
      · intro W hW; go_simp; try with_reducible rfl
      refine wpAnyH_take (i := 10) (v := ?_) rfl (by kernel_rfl) (by kernel_rfl) (by kernel_rfl) (fun _ _ _ h => h) (Or.inl ⟨by kernel_rfl, ?_⟩) hS ?_
      rotate_left
      · intro W hW; go_simp; try with_reducible rfl
      refine wpAnyH_take (i := 11) (v := ?_) rfl (by kernel_rfl) (by kernel_rfl) (by kernel_rfl) (fun _ _ _ h => h) (Or.inl ⟨by kernel_rfl, ?_⟩) hS ?_
      rotate_left
      · intro W hW; go_simp; try with_reducible rfl
      refine wpAnyH_take (i := 12) (v := ?_) rfl (by kernel_rfl) (by kernel_rfl) (by kernel_rfl) (fun _ _ _ h => h) (Or.inl ⟨by kernel_rfl, ?_⟩) hS ?_
      rotate_left
      · intro W hW; go_simp; try with_reducible rfl
      refine wpAnyH_take (i := 13) (v := ?_) rfl (by kernel_rfl) (by kernel_rfl) (by kernel_rfl) (fun _ _ _ h => h) (Or.inl ⟨by kernel_rfl, ?_⟩) hS ?_
      rotate_left
      · intro W hW; go_simp; try with_reducible rfl
      refine wpAnyH_take (i := 14) (v := ?_) rfl (by kernel_rfl) (by kernel_rfl) (by kernel_rfl) (fun _ _ _ h => h) (Or.inl ⟨by kernel_rfl, ?_⟩) hS ?_
      rotate_left
      · intro W hW; go_simp; try with_reducible rfl
      refine wpAnyH_take (i := 15) (v := ?_) rfl (by kernel_rfl) (by kernel_rfl) (by kernel_rfl) (fun _ _ _ h => h) (Or.inl ⟨by kernel_rfl, ?_⟩) hS ?_
      rotate_left
      · intro W hW; go_simp; try with_reducible rfl
      refine wpAnyH_take (i := 16) (v := ?_) rfl (by kernel_rfl) (by kernel_rfl) (by kernel_rfl) (fun _ _ _ h => h) (Or.inl ⟨by kernel_rfl, ?_⟩) hS ?_
      rotate_left
      · intro W hW; go_simp; try with_reducible rfl
      refine wpAnyH_take (i := 17) (v := ?_) rfl (by kernel_rfl) (by kernel_rfl) (by kernel_rfl) (fun _ _ _ h => h) (Or.inl ⟨by kernel_rfl, ?_⟩) hS ?_
      rotate_left
      · intro W hW; go_simp; try with_reducible rfl
      refine wpAnyH_take (i := 18) (v := ?_) rfl (by kernel_rfl) (by kernel_rfl) (by kernel_rfl) (fun _ _ _ h => h) (Or.inl ⟨by kernel_rfl, ?_⟩) hS ?_
      rotate_left
      · intro W hW; go_simp; try with_reducible rfl
      refine wpAnyH_take (i := 19) (v := ?_) rfl (by kernel_rfl) (by kernel_rfl) (by kernel_rfl) (fun _ _ _ h => h) (Or.inl ⟨by kernel_rfl, ?_⟩) hS ?_
      rotate_left
      · intro W hW; go_simp; try with_reducible rfl
      refine wpAnyH_take (i := 20) (v := ?_) rfl (by kernel_rfl) (by kernel_rfl) (by kernel_rfl) (fun _ _ _ h => h) (Or.inl ⟨by kernel_rfl, ?_⟩) hS ?_
      rotate_left
      · intro W hW; go_simp; try with_reducible rfl
      refine wpAnyH_take (i := 21) (v := ?_) rfl (by kernel_rfl) (by kernel_rfl) (by kernel_rfl) (fun _ _ _ h => h) (Or.inl ⟨by kernel_rfl, ?_⟩) hS ?_
      rotate_left
      · intro W hW; go_simp; try with_reducible rfl
      refine wpAnyH_take (i := 22) (v := ?_) rfl (by kernel_rfl) (by kernel_rfl) (by kernel_rfl) (fun _ _ _ h => h) (Or.inl ⟨by kernel_rfl, ?_⟩) hS ?_
      rotate_left
      · intro W hW; go_simp; try with_reducible rfl
      refine wpAnyH_take (i := 23) (v := ?_) rfl (by kernel_rfl) (by kernel_rfl) (by kernel_rfl) (fun _ _ _ h => h) (Or.inl ⟨by kernel_rfl, ?_⟩) hS ?_
      rotate_left
      · intro W hW; go_simp; try with_reducible rfl
      refine wpAnyH_take (i := 24) (v := ?_) rfl (by kernel_rfl) (by kernel_rfl) (by kernel_rfl) (fun _ _ _ h => h) (Or.inl ⟨by kernel_rfl, ?_⟩) hS ?_
      rotate_left
      · intro W hW; go_simp; try with_reducible rfl
      refine wpAnyH_take (i := 25) (v := ?_) rfl (by kernel_rfl) (by kernel_rfl) (by kernel_rfl) (fun _ _ _ h => h) (Or.inl ⟨by kernel_rfl, ?_⟩) hS ?_
      rotate_left
      · intro W hW; go_simp; try with_reducible rfl
      refine wpAnyH_take (i := 26) (v := undef) rfl (by kernel_rfl) (by kernel_rfl) (by kernel_rfl) (fun _ _ _ h => h) (Or.inr ⟨by kernel_rfl, rfl⟩) hS ?_
      refine wpAnyH_take (i := 27) (v := undef) rfl (by kernel_rfl) (by kernel_rfl) (by kernel_rfl) (fun _ _ _ h => h) (Or.inr ⟨by kernel_rfl, rfl⟩) hS ?_
      refine wpAnyH_take (i := 28) (v := undef) rfl (by kernel_rfl) (by kernel_rfl) (by kernel_rfl) (fun _ _ _ h => h) (Or.inr ⟨by kernel_rfl, rfl⟩) hS ?_
      refine wpAnyH_take (i := 29) (v := undef) rfl (by kernel_rfl) (by kernel_rfl) (by kernel_rfl) (fun _ _ _ h => h) (Or.inr ⟨by kernel_rfl, rfl⟩) hS ?_
      refine wpAnyH_take (i := 30) (v := undef) rfl (by kernel_rfl) (by kernel_rfl) (by kernel_rfl) (fun _ _ _ h => h) (Or.inr ⟨by kernel_rfl, rfl⟩) hS ?_
      refine wpAnyH_take (i := 31) (v := undef) rfl (by kernel_rfl) (by kernel_rfl) (by kernel_rfl) (fun _ _ _ h => h) (Or.inr ⟨by kernel_rfl, rfl⟩) hS ?_
      refine wpAnyH_take (i := 32) (v := undef) rfl (by kernel_rfl) (by kernel_rfl) (by kernel_rfl) (fun _ _ _ h => h) (Or.inr ⟨by kernel_rfl, rfl⟩) hS ?_
      refine wpAnyH_take (i := 33) (v := undef) rfl (by kernel_rfl) (by kernel_rfl) (by kernel_rfl) (fun _ _ _ h => h) (Or.inr ⟨by kernel_rfl, rfl⟩) hS ?_
      refine wpAnyH_take (i := 34) (v := undef) rfl (by kernel_rfl) (by kernel_rfl) (by kernel_rfl) (fun _ _ _ h => h) (Or.inr ⟨by kernel_rfl, rfl⟩) hS ?_
      refine wpAnyH_take (i := 35) (v := undef) rfl (by kernel_rfl) (by kernel_rfl) (by kernel_rfl) (fun _ _ _ h => h) (Or.inr ⟨by kernel_rfl, rfl⟩) hS ?_
      refine wpAnyH_take (i := 36) (v := undef) rfl (by kernel_rfl) (by kernel_rfl) (by kernel_rfl) (fun _ _ _ h => h) (Or.inr ⟨by kernel_rfl, rfl⟩) hS ?_
      refine wpAnyH_take (i := 37) (v := undef) rfl (by kernel_rfl) (by kernel_rfl) (by kernel_rfl) (fun _ _ _ h => h) (Or.inr ⟨by kernel_rfl, rfl⟩) hS ?_
      refine wpAnyH_take (i := 38) (v := undef) rfl (by kernel_rfl) (by kernel_rfl) (by kernel_rfl) (fun _ _ _ h => h) (Or.inr ⟨by kernel_rfl, rfl⟩) hS ?_
      refine wpAnyH_take (i := 39) (v := undef) rfl (by kernel_rfl) (by kernel_rfl) (by kernel_rfl) (fun _ _ _ h => h) (Or.inr ⟨by kernel_rfl, rfl⟩) hS ?_
      refine wpAnyH_take (i := 40) (v := ?_) rfl (by kernel_rfl) (by kernel_rfl) (by kernel_rfl) (fun _ _ _ h => h) (Or.inl ⟨by kernel_rfl, ?_⟩) hS ?_
      rotate_left
      · intro W hW; go_simp; try with_reducible rfl
      refine wpAnyH_take (i := 41) (v := ?_) rfl (by kernel_rfl) (by kernel_rfl) (by kernel_rfl) (fun _ _ _ h => h) (Or.inl ⟨by kernel_rfl, ?_⟩) hS ?_
      rotate_left
      · intro W hW; go_simp; try with_reducible rfl
      refine wpAnyH_take (i := 42) (v := ?_) rfl (by kernel_rfl) (by kernel_rfl) (by kernel_rfl) (fun _ _ _ h => h) (Or.inl ⟨by kernel_rfl, ?_⟩) hS ?_
      rotate_left
      · intro W hW; go_simp; try with_reducible rfl
      refine wpAnyH_take (i := 43) (v := ?_) rfl (by kernel_rfl) (by kernel_rfl) (by kernel_rfl) (fun _ _ _ h => h) (Or.inl ⟨by kernel_rfl, ?_⟩) hS ?_
      rotate_left
      · intro W hW; go_simp; try with_reducible rfl
      refine wpAnyH_take (i := 44) (v := ?_) rfl (by kernel_rfl) (by kernel_rfl) (by kernel_rfl) (fun _ _ _ h => h) (Or.inl ⟨by kernel_rfl, ?_⟩) hS ?_
      rotate_left
      · intro W hW; go_simp; try with_reducible rfl
      refine wpAnyH_take (i := 45) (v := ?_) rfl (by kernel_rfl) (by kernel_rfl) (by kernel_rfl) (fun _ _ _ h => h) (Or.inl ⟨by kernel_rfl, ?_⟩) hS ?_
      rotate_left
      · intro W hW; go_simp; try with_reducible rfl
      refine wpAnyH_take (i := 46) (v := ?_) rfl (by kernel_rfl) (by kernel_rfl) (by kernel_rfl) (fun _ _ _ h => h) (Or.inl ⟨by kernel_rfl, ?_⟩) hS ?_
      rotate_left
      · intro W hW; obtain ⟨⟨q0, q1⟩, -, -⟩ := (HP6.out.below hW HP6.out.lt).two; go_simp; try with_reducible rfl
      refine wpAnyH_take (i := 47) (v := ?_) rfl (by kernel_rfl) (by kernel_rfl) (by kernel_rfl) (fun _ _ _ h => h) (Or.inl ⟨by kernel_rfl, ?_⟩) hS ?_
      rotate_left
      · intro W hW; go_simp; try with_reducible rfl
      refine wpAnyH_take (i := 48) (v := ?_) rfl (by kernel_rfl) (by kernel_rfl) (by kernel_rfl) (fun _ _ _ h => h) (Or.inl ⟨by kernel_rfl, ?_⟩) hS ?_
      rotate_left
      · intro W hW; go_simp; try with_reducible rfl
      refine wpAnyH_take (i := 49) (v := ?_) rfl (by kernel_rfl) (by kernel_rfl) (by kernel_rfl) (fun _ _ _ h => h) (Or.inl ⟨by kernel_rfl, ?_⟩) hS ?_
      rotate_left
      · intro W hW; go_simp; try with_reducible rfl
      refine wpAnyH_take (i := 50) (v := ?_) rfl (by kernel_rfl) (by kernel_rfl) (by kernel_rfl) (fun _ _ _ h => h) (Or.inl ⟨by kernel_rfl, ?_⟩) hS ?_
      rotate_left
      · intro W hW; go_simp; try with_reducible rfl
      refine wpAnyH_done (by kernel_rfl) ?_ _
      clear HNE
      have HB7 := Lib.hid (HB6.out.trans (hS.mono HB6.out.size))
      have HG7 := Lib.hid (HG6.out.on hS)
      clear hS EC
      go_simp
      clear hz hz2
      generalize w6.drew = w8 at *
      go_wp2_with fail
      refine (torn_code cc _ HG7.out).mono ?_
      rintro e w9 ⟨rfl, B9⟩
      have HB9 := Lib.hid (HB7.out.trans (B9.mono HB7.out.size))
      have HG9 := Lib.hid (HG7.out.on B9)
      have hq1 := Blk.made w9 61 #[.string nm, .int .i64 3, er cc]
      have hb1 : Below w9.heap.size w9 (w9.alloc (.cells #[.string nm, .int .i64 3, er cc] 61)) := (Below.refl _ _).alloc (Nat.le_refl _) _
      obtain ⟨wa, hwa, hqa, hba⟩ : ∃ wa, w9.alloc (.cells #[.string nm, .int .i64 3, er cc] 61) = wa ∧ Blk wa w9.heap.size 61 #[.string nm, .int .i64 3, er cc] ∧ Below w9.heap.size w9 wa := ⟨_, rfl, hq1, hb1⟩
      obtain ⟨wb, hwb, hqb, hbb⟩ : ∃ wb, wa.alloc (.cells #[.string ⟨#[97]⟩, .int .i64 0, atv w9.heap.size] 61) = wb ∧ Blk wb wa.heap.size 61 #[.string ⟨#[97]⟩, .int .i64 0, atv w9.heap.size] ∧ Below wa.heap.size wa wb := ⟨_, rfl, Blk.made _ _ _, (Below.refl _ _).alloc (Nat.le_refl _) _⟩
      have hab := hba.trans (hbb.mono hba.size)
      have ET := Lib.hid (torn_at wa.heap.size cc wb (HG9.out.on hab) (.inr ⟨w9.heap.size, hqb.cell 2, (hqa.below hbb hqa.lt).cell 2⟩))
      have HBB := Lib.hid (HB9.out.trans (hab.mono HB9.out.size))
      clear hq1 hb1 hqa hba hqb hbb hab B9
      go_wp2_with fail
      refine ET.out.mono ?_
      rintro e w10 ⟨rfl, B10⟩
      have HBX := Lib.hid (HBB.out.trans (B10.mono HBB.out.size))
      clear hwa hwb ET B10
      by_cases h3 : 3 ≤ cc
      · by_cases h5 : cc ≤ 5
        · rw [show tornB cc = true from decide_eq_true ⟨h3, h5⟩]
          have h3z : decide ((3 : Int) ≤ (cc : Int)) = true := decide_eq_true (by omega)
          have h5z : decide ((cc : Int) ≤ 5) = true := decide_eq_true (by omega)
          clear h3 h5 hpz hpt
          go_wp2_with fail
          refine (torn_nil _).mono ?_
          rintro e w11 ⟨rfl, B11⟩
          have HF := Lib.hid (HB4.out.trans ((HBX.out.trans (B11.mono HBX.out.size)).mono HB4.out.size))
          clear B11
          go_wp2_with fail
          go_ret
          exact ⟨rfl, HF.out⟩
        · rw [show tornB cc = false from decide_eq_false (fun h => h5 h.2)]
          have h3z : decide ((3 : Int) ≤ (cc : Int)) = true := decide_eq_true (by omega)
          have h5z : decide ((cc : Int) ≤ 5) = false := decide_eq_false (by omega)
          clear h3 h5 hpz hpt
          go_wp2_with fail
          refine (torn_nil _).mono ?_
          rintro e w11 ⟨rfl, B11⟩
          have HF := Lib.hid (HB4.out.trans ((HBX.out.trans (B11.mono HBX.out.size)).mono HB4.out.size))
          clear B11
          go_wp2_with fail
          go_ret
          exact ⟨rfl, HF.out⟩
      · rw [show tornB cc = false from decide_eq_false (fun h => h3 h.1)]
        have h3z : decide ((3 : Int) ≤ (cc : Int)) = false := decide_eq_false (by omega)
        clear h3 hpz hpt
        go_wp2_with fail
        refine (torn_nil _).mono ?_
        rintro e w11 ⟨rfl, B11⟩
        have HF := Lib.hid (HB4.out.trans ((HBX.out.trans (B11.mono HBX.out.size)).mono HB4.out.size))
        clear B11
        go_wp2_with fail
        go_ret
        exact ⟨rfl, HF.out⟩
  · have hsu := HS.out
    unfold hdSuper at hsu
    rw [if_pos (by rw [HC0.out]; exact h0), HC0.out] at hsu
    simp only [Prod.mk.injEq] at hsu
    obtain ⟨rfl, rfl, rfl⟩ := hsu
    have y0 : ((c0 : Int) == 0) = false := by rw [beq_eq_false_iff_ne]; omega
    obtain ⟨h, -⟩ | ⟨-, rfl, rfl, rfl⟩ := hcase
    · exact absurd h h0
    clear h0
    go_upto_region 7 with fail
    refine wp_region_held_drew (S := fun W => Below w4.heap.size w4 W) (by kernel_rfl) ((Below.refl _ _).drew) (fun hS => ?_)
    refine wpAnyH_take (i := 0) (v := ?_) rfl (by kernel_rfl) (by kernel_rfl) (by kernel_rfl) (fun _ _ _ h => h) (Or.inl ⟨by kernel_rfl, ?_⟩) hS ?_
    rotate_left
    · intro W hW; go_simp; try with_reducible rfl
    refine wpAnyH_take (i := 1) (v := ?_) rfl (by kernel_rfl) (by kernel_rfl) (by kernel_rfl) (fun _ _ _ h => h) (Or.inl ⟨by kernel_rfl, ?_⟩) hS ?_
    rotate_left
    · intro W hW; go_simp; try with_reducible rfl
    refine wpAnyH_take (i := 2) (v := ?_) rfl (by kernel_rfl) (by kernel_rfl) (by kernel_rfl) (fun _ _ _ h => h) (Or.inl ⟨by kernel_rfl, ?_⟩) hS ?_
    rotate_left
    · intro W hW; go_simp; try with_reducible rfl
    refine wpAnyH_take (i := 3) (v := undef) rfl (by kernel_rfl) (by kernel_rfl) (by kernel_rfl) (fun _ _ _ h => h) (Or.inr ⟨by kernel_rfl, rfl⟩) hS ?_
    refine wpAnyH_take (i := 4) (v := undef) rfl (by kernel_rfl) (by kernel_rfl) (by kernel_rfl) (fun _ _ _ h => h) (Or.inr ⟨by kernel_rfl, rfl⟩) hS ?_
    refine wpAnyH_take (i := 5) (v := undef) rfl (by kernel_rfl) (by kernel_rfl) (by kernel_rfl) (fun _ _ _ h => h) (Or.inr ⟨by kernel_rfl, rfl⟩) hS ?_
    refine wpAnyH_take (i := 6) (v := undef) rfl (by kernel_rfl) (by kernel_rfl) (by kernel_rfl) (fun _ _ _ h => h) (Or.inr ⟨by kernel_rfl, rfl⟩) hS ?_
    refine wpAnyH_take (i := 7) (v := undef) rfl (by kernel_rfl) (by kernel_rfl) (by kernel_rfl) (fun _ _ _ h => h) (Or.inr ⟨by kernel_rfl, rfl⟩) hS ?_
    refine wpAnyH_take (i := 8) (v := undef) rfl (by kernel_rfl) (by kernel_rfl) (by kernel_rfl) (fun _ _ _ h => h) (Or.inr ⟨by kernel_rfl, rfl⟩) hS ?_
    refine wpAnyH_take (i := 9) (v := undef) rfl (by kernel_rfl) (by kernel_rfl) (by kernel_rfl) (fun _ _ _ h => h) (Or.inr ⟨by kernel_rfl, rfl⟩) hS ?_
    refine wpAnyH_take (i := 10) (v := undef) rfl (by kernel_rfl) (by kernel_rfl) (by kernel_rfl) (fun _ _ _ h => h) (Or.inr ⟨by kernel_rfl, rfl⟩) hS ?_
    refine wpAnyH_take (i := 11) (v := ?_) rfl (by kernel_rfl) (by kernel_rfl) (by kernel_rfl) (fun _ _ _ h => h) (Or.inl ⟨by kernel_rfl, ?_⟩) hS ?_
    rotate_left
    · intro W hW; go_simp; try with_reducible rfl
    refine wpAnyH_done (by kernel_rfl) ?_ _
    clear y0
    have HB5 := Lib.hid hS
    clear hS
    go_simp
    go_wp2_with fail
    refine (HEW.out _ (HG4.out.on HB5.out) (HA4.out.below HB5.out (Nat.le_refl _))).mono ?_
    rintro e w6 ⟨rfl, B6⟩
    have HB6 := Lib.hid (HB5.out.trans (B6.mono HB5.out.size))
    have HA6 := Lib.hid ((HA4.out.below HB5.out (Nat.le_refl _)).below B6 (Nat.le_refl _))
    have HG6 := Lib.hid (HG4.out.on HB6.out)
    have HP6 := Lib.hid ((HP4.out.below HB5.out HP4.out.lt).below B6 (HP4.out.below HB5.out HP4.out.lt).lt)
    have EC := Lib.hid fun (W : World) (B : Below w6.heap.size w6 W) => code_ate (HA6.out.below B (Nat.le_refl _)) (by have := HCF.out; omega)
    clear B6 HEW
    go_upto_region 10 with fail
    have HNE := fun W => super_neq W 0 0 0 0
    refine wp_region_held_drew (S := fun W => Below w6.heap.size w6 W) (by kernel_rfl) ((Below.refl _ _).drew) (fun hS => ?_)
    refine wpAnyH_take (i := 0) (v := ?_) rfl (by kernel_rfl) (by kernel_rfl) (by kernel_rfl) (fun _ _ _ h => h) (Or.inl ⟨by kernel_rfl, ?_⟩) hS ?_
    rotate_left
    · intro W hW; go_simp; try with_reducible rfl
    refine wpAnyH_take (i := 2) (v := ?_) rfl (by kernel_rfl) (by kernel_rfl) (by kernel_rfl) (fun _ _ _ h => h) (Or.inl ⟨by kernel_rfl, ?_⟩) hS ?_
    rotate_left
    · intro W hW; go_simp; try with_reducible rfl
    refine wpAnyH_ready (rs := [1]) (by kernel_rfl) (by simp) ?_
    refine AllReadyH.cons (i := 1) rfl ?_ AllReadyH.nil
    intro K hK
    go_simp
    refine (EC.out _ hS).mono ?_
    rintro e w8 ⟨rfl, rfl⟩
    go_simp
    refine hK.out _ _ ?_ (fun hN => ?_)
    · first | exact hT | exact hS | exact hS.alloc hS.size _ | exact hS.drew
    clear hK K
    try clear hT
    clear hS
    have hS := hN
    clear hN
    refine wpAnyH_take (i := 3) (v := ?_) rfl (by kernel_rfl) (by kernel_rfl) (by kernel_rfl) (fun _ _ _ h => h) (Or.inl ⟨by kernel_rfl, ?_⟩) hS ?_
    rotate_left
    · intro W hW; go_simp; try with_reducible rfl
    refine wpAnyH_take (i := 4) (v := ?_) rfl (by kernel_rfl) (by kernel_rfl) (by kernel_rfl) (fun _ _ _ h => h) (Or.inl ⟨by kernel_rfl, ?_⟩) hS ?_
    rotate_left
    · intro W hW; go_simp; try with_reducible rfl
    refine wpAnyH_take (i := 5) (v := ?_) rfl (by kernel_rfl) (by kernel_rfl) (by kernel_rfl) (fun _ _ _ h => h) (Or.inl ⟨by kernel_rfl, ?_⟩) hS ?_
    rotate_left
    · intro W hW; go_simp; try with_reducible rfl
    refine wpAnyH_take (i := 6) (v := ?_) rfl (by kernel_rfl) (by kernel_rfl) (by kernel_rfl) (fun _ _ _ h => h) (Or.inl ⟨by kernel_rfl, ?_⟩) hS ?_
    rotate_left
    · intro W hW; go_simp; try with_reducible rfl
    refine wpAnyH_take (i := 7) (v := ?_) rfl (by kernel_rfl) (by kernel_rfl) (by kernel_rfl) (fun _ _ _ h => h) (Or.inl ⟨by kernel_rfl, ?_⟩) hS ?_
    rotate_left
    · intro W hW; go_simp; try with_reducible rfl
    refine wpAnyH_take (i := 8) (v := ?_) rfl (by kernel_rfl) (by kernel_rfl) (by kernel_rfl) (fun _ _ _ h => h) (Or.inl ⟨by kernel_rfl, ?_⟩) hS ?_
    rotate_left
    · intro W hW; go_simp; try with_reducible rfl
    refine wpAnyH_take (i := 9) (v := ?_) rfl (by kernel_rfl) (by kernel_rfl) (by kernel_rfl) (fun _ _ _ h => h) (Or.inl ⟨by kernel_rfl, ?_⟩) hS ?_
    rotate_left
    · intro W hW; go_simp; try with_reducible rfl
    refine wpAnyH_take (i := 10) (v := ?_) rfl (by kernel_rfl) (by kernel_rfl) (by kernel_rfl) (fun _ _ _ h => h) (Or.inl ⟨by kernel_rfl, ?_⟩) hS ?_
    rotate_left
    · intro W hW; go_simp; try with_reducible rfl
    refine wpAnyH_take (i := 11) (v := ?_) rfl (by kernel_rfl) (by kernel_rfl) (by kernel_rfl) (fun _ _ _ h => h) (Or.inl ⟨by kernel_rfl, ?_⟩) hS ?_
    rotate_left
    · intro W hW; go_simp; try with_reducible rfl
    refine wpAnyH_take (i := 12) (v := ?_) rfl (by kernel_rfl) (by kernel_rfl) (by kernel_rfl) (fun _ _ _ h => h) (Or.inl ⟨by kernel_rfl, ?_⟩) hS ?_
    rotate_left
    · intro W hW; go_simp; try with_reducible rfl
    refine wpAnyH_take (i := 13) (v := ?_) rfl (by kernel_rfl) (by kernel_rfl) (by kernel_rfl) (fun _ _ _ h => h) (Or.inl ⟨by kernel_rfl, ?_⟩) hS ?_
    rotate_left
    · intro W hW; go_simp; try with_reducible rfl
    refine wpAnyH_take (i := 14) (v := ?_) rfl (by kernel_rfl) (by kernel_rfl) (by kernel_rfl) (fun _ _ _ h => h) (Or.inl ⟨by kernel_rfl, ?_⟩) hS ?_
    rotate_left
    · intro W hW; go_simp; try with_reducible rfl
    refine wpAnyH_take (i := 15) (v := ?_) rfl (by kernel_rfl) (by kernel_rfl) (by kernel_rfl) (fun _ _ _ h => h) (Or.inl ⟨by kernel_rfl, ?_⟩) hS ?_
    rotate_left
    · intro W hW; go_simp; try with_reducible rfl
    refine wpAnyH_take (i := 16) (v := ?_) rfl (by kernel_rfl) (by kernel_rfl) (by kernel_rfl) (fun _ _ _ h => h) (Or.inl ⟨by kernel_rfl, ?_⟩) hS ?_
    rotate_left
    · intro W hW; go_simp; try with_reducible rfl
    refine wpAnyH_take (i := 17) (v := ?_) rfl (by kernel_rfl) (by kernel_rfl) (by kernel_rfl) (fun _ _ _ h => h) (Or.inl ⟨by kernel_rfl, ?_⟩) hS ?_
    rotate_left
    · intro W hW; go_simp; try with_reducible rfl
    refine wpAnyH_take (i := 18) (v := ?_) rfl (by kernel_rfl) (by kernel_rfl) (by kernel_rfl) (fun _ _ _ h => h) (Or.inl ⟨by kernel_rfl, ?_⟩) hS ?_
    rotate_left
    · intro W hW; go_simp; try with_reducible rfl
    refine wpAnyH_take (i := 19) (v := ?_) rfl (by kernel_rfl) (by kernel_rfl) (by kernel_rfl) (fun _ _ _ h => h) (Or.inl ⟨by kernel_rfl, ?_⟩) hS ?_
    rotate_left
    · intro W hW; go_simp; try with_reducible rfl
    refine wpAnyH_take (i := 20) (v := ?_) rfl (by kernel_rfl) (by kernel_rfl) (by kernel_rfl) (fun _ _ _ h => h) (Or.inl ⟨by kernel_rfl, ?_⟩) hS ?_
    rotate_left
    · intro W hW; go_simp; try with_reducible rfl
    refine wpAnyH_take (i := 21) (v := ?_) rfl (by kernel_rfl) (by kernel_rfl) (by kernel_rfl) (fun _ _ _ h => h) (Or.inl ⟨by kernel_rfl, ?_⟩) hS ?_
    rotate_left
    · intro W hW; go_simp; try with_reducible rfl
    refine wpAnyH_take (i := 22) (v := ?_) rfl (by kernel_rfl) (by kernel_rfl) (by kernel_rfl) (fun _ _ _ h => h) (Or.inl ⟨by kernel_rfl, ?_⟩) hS ?_
    rotate_left
    · intro W hW; go_simp; try with_reducible rfl
    refine wpAnyH_take (i := 23) (v := ?_) rfl (by kernel_rfl) (by kernel_rfl) (by kernel_rfl) (fun _ _ _ h => h) (Or.inl ⟨by kernel_rfl, ?_⟩) hS ?_
    rotate_left
    · intro W hW; go_simp; try with_reducible rfl
    refine wpAnyH_take (i := 24) (v := ?_) rfl (by kernel_rfl) (by kernel_rfl) (by kernel_rfl) (fun _ _ _ h => h) (Or.inl ⟨by kernel_rfl, ?_⟩) hS ?_
    rotate_left
    · intro W hW; go_simp; try with_reducible rfl
    refine wpAnyH_take (i := 25) (v := ?_) rfl (by kernel_rfl) (by kernel_rfl) (by kernel_rfl) (fun _ _ _ h => h) (Or.inl ⟨by kernel_rfl, ?_⟩) hS ?_
    rotate_left
    · intro W hW; go_simp; try with_reducible rfl
    refine wpAnyH_take (i := 26) (v := undef) rfl (by kernel_rfl) (by kernel_rfl) (by kernel_rfl) (fun _ _ _ h => h) (Or.inr ⟨by kernel_rfl, rfl⟩) hS ?_
    refine wpAnyH_take (i := 27) (v := undef) rfl (by kernel_rfl) (by kernel_rfl) (by kernel_rfl) (fun _ _ _ h => h) (Or.inr ⟨by kernel_rfl, rfl⟩) hS ?_
    refine wpAnyH_take (i := 28) (v := undef) rfl (by kernel_rfl) (by kernel_rfl) (by kernel_rfl) (fun _ _ _ h => h) (Or.inr ⟨by kernel_rfl, rfl⟩) hS ?_
    refine wpAnyH_take (i := 29) (v := undef) rfl (by kernel_rfl) (by kernel_rfl) (by kernel_rfl) (fun _ _ _ h => h) (Or.inr ⟨by kernel_rfl, rfl⟩) hS ?_
    refine wpAnyH_take (i := 30) (v := undef) rfl (by kernel_rfl) (by kernel_rfl) (by kernel_rfl) (fun _ _ _ h => h) (Or.inr ⟨by kernel_rfl, rfl⟩) hS ?_
    refine wpAnyH_take (i := 31) (v := undef) rfl (by kernel_rfl) (by kernel_rfl) (by kernel_rfl) (fun _ _ _ h => h) (Or.inr ⟨by kernel_rfl, rfl⟩) hS ?_
    refine wpAnyH_take (i := 32) (v := undef) rfl (by kernel_rfl) (by kernel_rfl) (by kernel_rfl) (fun _ _ _ h => h) (Or.inr ⟨by kernel_rfl, rfl⟩) hS ?_
    refine wpAnyH_take (i := 33) (v := undef) rfl (by kernel_rfl) (by kernel_rfl) (by kernel_rfl) (fun _ _ _ h => h) (Or.inr ⟨by kernel_rfl, rfl⟩) hS ?_
    refine wpAnyH_take (i := 34) (v := undef) rfl (by kernel_rfl) (by kernel_rfl) (by kernel_rfl) (fun _ _ _ h => h) (Or.inr ⟨by kernel_rfl, rfl⟩) hS ?_
    refine wpAnyH_take (i := 35) (v := undef) rfl (by kernel_rfl) (by kernel_rfl) (by kernel_rfl) (fun _ _ _ h => h) (Or.inr ⟨by kernel_rfl, rfl⟩) hS ?_
    refine wpAnyH_take (i := 36) (v := undef) rfl (by kernel_rfl) (by kernel_rfl) (by kernel_rfl) (fun _ _ _ h => h) (Or.inr ⟨by kernel_rfl, rfl⟩) hS ?_
    refine wpAnyH_take (i := 37) (v := undef) rfl (by kernel_rfl) (by kernel_rfl) (by kernel_rfl) (fun _ _ _ h => h) (Or.inr ⟨by kernel_rfl, rfl⟩) hS ?_
    refine wpAnyH_take (i := 38) (v := undef) rfl (by kernel_rfl) (by kernel_rfl) (by kernel_rfl) (fun _ _ _ h => h) (Or.inr ⟨by kernel_rfl, rfl⟩) hS ?_
    refine wpAnyH_take (i := 39) (v := undef) rfl (by kernel_rfl) (by kernel_rfl) (by kernel_rfl) (fun _ _ _ h => h) (Or.inr ⟨by kernel_rfl, rfl⟩) hS ?_
    refine wpAnyH_take (i := 40) (v := ?_) rfl (by kernel_rfl) (by kernel_rfl) (by kernel_rfl) (fun _ _ _ h => h) (Or.inl ⟨by kernel_rfl, ?_⟩) hS ?_
    rotate_left
    · intro W hW; go_simp; try with_reducible rfl
    refine wpAnyH_take (i := 41) (v := ?_) rfl (by kernel_rfl) (by kernel_rfl) (by kernel_rfl) (fun _ _ _ h => h) (Or.inl ⟨by kernel_rfl, ?_⟩) hS ?_
    rotate_left
    · intro W hW; go_simp; try with_reducible rfl
    refine wpAnyH_take (i := 42) (v := ?_) rfl (by kernel_rfl) (by kernel_rfl) (by kernel_rfl) (fun _ _ _ h => h) (Or.inl ⟨by kernel_rfl, ?_⟩) hS ?_
    rotate_left
    · intro W hW; go_simp; try with_reducible rfl
    refine wpAnyH_take (i := 43) (v := ?_) rfl (by kernel_rfl) (by kernel_rfl) (by kernel_rfl) (fun _ _ _ h => h) (Or.inl ⟨by kernel_rfl, ?_⟩) hS ?_
    rotate_left
    · intro W hW; go_simp; try with_reducible rfl
    refine wpAnyH_take (i := 44) (v := ?_) rfl (by kernel_rfl) (by kernel_rfl) (by kernel_rfl) (fun _ _ _ h => h) (Or.inl ⟨by kernel_rfl, ?_⟩) hS ?_
    rotate_left
    · intro W hW; go_simp; try with_reducible rfl
    refine wpAnyH_take (i := 45) (v := ?_) rfl (by kernel_rfl) (by kernel_rfl) (by kernel_rfl) (fun _ _ _ h => h) (Or.inl ⟨by kernel_rfl, ?_⟩) hS ?_
    rotate_left
    · intro W hW; go_simp; try with_reducible rfl
    refine wpAnyH_take (i := 46) (v := ?_) rfl (by kernel_rfl) (by kernel_rfl) (by kernel_rfl) (fun _ _ _ h => h) (Or.inl ⟨by kernel_rfl, ?_⟩) hS ?_
    rotate_left
    · intro W hW; obtain ⟨⟨q0, q1⟩, -, -⟩ := (HP6.out.below hW HP6.out.lt).two; go_simp; try with_reducible rfl
    refine wpAnyH_take (i := 47) (v := ?_) rfl (by kernel_rfl) (by kernel_rfl) (by kernel_rfl) (fun _ _ _ h => h) (Or.inl ⟨by kernel_rfl, ?_⟩) hS ?_
    rotate_left
    · intro W hW; go_simp; try with_reducible rfl
    refine wpAnyH_take (i := 48) (v := ?_) rfl (by kernel_rfl) (by kernel_rfl) (by kernel_rfl) (fun _ _ _ h => h) (Or.inl ⟨by kernel_rfl, ?_⟩) hS ?_
    rotate_left
    · intro W hW; go_simp; try with_reducible rfl
    refine wpAnyH_take (i := 49) (v := ?_) rfl (by kernel_rfl) (by kernel_rfl) (by kernel_rfl) (fun _ _ _ h => h) (Or.inl ⟨by kernel_rfl, ?_⟩) hS ?_
    rotate_left
    · intro W hW; go_simp; try with_reducible rfl
    refine wpAnyH_take (i := 50) (v := ?_) rfl (by kernel_rfl) (by kernel_rfl) (by kernel_rfl) (fun _ _ _ h => h) (Or.inl ⟨by kernel_rfl, ?_⟩) hS ?_
    rotate_left
    · intro W hW; go_simp; try with_reducible rfl
    refine wpAnyH_done (by kernel_rfl) ?_ _
    clear HNE
    have HB7 := Lib.hid (HB6.out.trans (hS.mono HB6.out.size))
    have HG7 := Lib.hid (HG6.out.on hS)
    clear hS EC
    go_simp
    clear hz hz2
    generalize w6.drew = w8 at *
    go_wp2_with fail
    refine (torn_code cc _ HG7.out).mono ?_
    rintro e w9 ⟨rfl, B9⟩
    have HB9 := Lib.hid (HB7.out.trans (B9.mono HB7.out.size))
    have HG9 := Lib.hid (HG7.out.on B9)
    have hq1 := Blk.made w9 61 #[.string nm, .int .i64 3, er cc]
    have hb1 : Below w9.heap.size w9 (w9.alloc (.cells #[.string nm, .int .i64 3, er cc] 61)) := (Below.refl _ _).alloc (Nat.le_refl _) _
    obtain ⟨wa, hwa, hqa, hba⟩ : ∃ wa, w9.alloc (.cells #[.string nm, .int .i64 3, er cc] 61) = wa ∧ Blk wa w9.heap.size 61 #[.string nm, .int .i64 3, er cc] ∧ Below w9.heap.size w9 wa := ⟨_, rfl, hq1, hb1⟩
    obtain ⟨wb, hwb, hqb, hbb⟩ : ∃ wb, wa.alloc (.cells #[.string ⟨#[97]⟩, .int .i64 0, atv w9.heap.size] 61) = wb ∧ Blk wb wa.heap.size 61 #[.string ⟨#[97]⟩, .int .i64 0, atv w9.heap.size] ∧ Below wa.heap.size wa wb := ⟨_, rfl, Blk.made _ _ _, (Below.refl _ _).alloc (Nat.le_refl _) _⟩
    have hab := hba.trans (hbb.mono hba.size)
    have ET := Lib.hid (torn_at wa.heap.size cc wb (HG9.out.on hab) (.inr ⟨w9.heap.size, hqb.cell 2, (hqa.below hbb hqa.lt).cell 2⟩))
    have HBB := Lib.hid (HB9.out.trans (hab.mono HB9.out.size))
    clear hq1 hb1 hqa hba hqb hbb hab B9
    go_wp2_with fail
    refine ET.out.mono ?_
    rintro e w10 ⟨rfl, B10⟩
    have HBX := Lib.hid (HBB.out.trans (B10.mono HBB.out.size))
    clear hwa hwb ET B10
    by_cases h3 : 3 ≤ cc
    · by_cases h5 : cc ≤ 5
      · rw [show tornB cc = true from decide_eq_true ⟨h3, h5⟩]
        have h3z : decide ((3 : Int) ≤ (cc : Int)) = true := decide_eq_true (by omega)
        have h5z : decide ((cc : Int) ≤ 5) = true := decide_eq_true (by omega)
        clear h3 h5 hpz hpt
        go_wp2_with fail
        refine (torn_nil _).mono ?_
        rintro e w11 ⟨rfl, B11⟩
        have HF := Lib.hid (HB4.out.trans ((HBX.out.trans (B11.mono HBX.out.size)).mono HB4.out.size))
        clear B11
        go_wp2_with fail
        go_ret
        exact ⟨rfl, HF.out⟩
      · rw [show tornB cc = false from decide_eq_false (fun h => h5 h.2)]
        have h3z : decide ((3 : Int) ≤ (cc : Int)) = true := decide_eq_true (by omega)
        have h5z : decide ((cc : Int) ≤ 5) = false := decide_eq_false (by omega)
        clear h3 h5 hpz hpt
        go_wp2_with fail
        refine (torn_nil _).mono ?_
        rintro e w11 ⟨rfl, B11⟩
        have HF := Lib.hid (HB4.out.trans ((HBX.out.trans (B11.mono HBX.out.size)).mono HB4.out.size))
        clear B11
        go_wp2_with fail
        go_ret
        exact ⟨rfl, HF.out⟩
    · rw [show tornB cc = false from decide_eq_false (fun h => h3 h.1)]
      have h3z : decide ((3 : Int) ≤ (cc : Int)) = false := decide_eq_false (by omega)
      clear h3 hpz hpt
      go_wp2_with fail
      refine (torn_nil _).mono ?_
      rintro e w11 ⟨rfl, B11⟩
      have HF := Lib.hid (HB4.out.trans ((HBX.out.trans (B11.mono HBX.out.size)).mono HB4.out.size))
      clear B11
      go_wp2_with fail
      go_ret
      exact ⟨rfl, HF.out⟩
theorem ssup_all (nm : ByteArray) (a : Option Addr) (n c : Nat) (l : List (BitVec 8)) (m : Int) (w : World) (hg : Laid w) (h : BSl w w.heap.size a n l) (hc : n ≤ c) (h0 : 0 ≤ m) (h1 : m ≤ 255) (hs : nm.size ≤ 9223372036854775807) :
    Calls Tryd.prog 6 #[.string nm, .slice a n c, .int .u8 m] w fun e w' => e = .returned (.bool true) ∧ Below w.heap.size w w' := by
  obtain ⟨mn, rfl⟩ : ∃ mn : Nat, m = mn := ⟨m.toNat, by omega⟩
  exact ssup_walk nm a n c l mn w hg h hc (by omega) hs
end Go.Proofs.YtmmmakfmpopniaaDoor
