/-
  The walk of corncriblaw04.HeadsGet.
-/
import Derived.Test.YtcdlmpiihcopaaaDoorHdAlive
import Derived.Test.YtcdlmpiihcopaaaDoorHdRefRead
namespace Go.Proofs.YtcdlmpiihcopaaaDoor
open Go.RowKit
set_option linter.unusedVariables false

theorem super_neq0 (w : World) (v g v' g' : Int) : (binOp .neq 33 (.agg #[.int .i64 v, .int .i64 g]) (.agg #[.int .i64 v', .int .i64 g'])).run Tryd.prog w = .ok (.bool (!(v == v' && g == g'))) w := by
  simp [go_sem]
  by_cases h1 : v = v' <;> by_cases h2 : g = g' <;> simp [h1, h2]
theorem man_eql0 (w : World) : (binOp .eql 36 (.agg #[.int .i64 0, .int .i64 0, .int .i64 0, .bool false]) (.agg #[.int .i64 0, .int .i64 0, .int .i64 0, .bool false])).run Tryd.prog w = .ok (.bool true) w := by
  simp [go_sem]
/-- What is known of the document's words where they are right. -/
theorem ws3 {w : World} {B n : Nat} {a : Option Addr} {l : List (BitVec 8)} (h : n = 3 ∧ ISl w B a n (hdWs l 3)) : ∃ b off, a = some ⟨b, off, none⟩ ∧ b < B ∧ w.cell? ⟨b, off + 1, none⟩ = some (.int .i64 (nums l 4 4 : Nat)) ∧ w.cell? ⟨b, off + 2, none⟩ = some (.int .i64 (nums l 8 4 : Nat)) := by
  obtain ⟨rfl, hi⟩ := h
  obtain ⟨b, off, e, hb, hc⟩ := hi.2 (by decide)
  exact ⟨b, off, e, hb, hc 1 (by decide), hc 2 (by decide)⟩
theorem ws5 {w : World} {B n : Nat} {a : Option Addr} {l : List (BitVec 8)} (h : n = 5 ∧ ISl w B a n (hdWs l 5)) : ∃ b off, a = some ⟨b, off, none⟩ ∧ b < B ∧ w.cell? ⟨b, off + 1, none⟩ = some (.int .i64 (nums l 4 4 : Nat)) ∧ w.cell? ⟨b, off + 2, none⟩ = some (.int .i64 (nums l 8 4 : Nat)) ∧ w.cell? ⟨b, off + 3, none⟩ = some (.int .i64 (nums l 12 4 : Nat)) ∧ w.cell? ⟨b, off + 4, none⟩ = some (.int .i64 (nums l 16 4 : Nat)) := by
  obtain ⟨rfl, hi⟩ := h
  obtain ⟨b, off, e, hb, hc⟩ := hi.2 (by decide)
  exact ⟨b, off, e, hb, hc 1 (by decide), hc 2 (by decide), hc 3 (by decide), hc 4 (by decide)⟩
set_option maxRecDepth 100000 in
set_option maxHeartbeats 8000000 in
theorem hget_walk (a : Option Addr) (n c : Nat) (l : List (BitVec 8)) (w : World) (h : BSl w w.heap.size a n l) (hc : n ≤ c) :
    Calls Tryd.prog 5 #[.slice a n c] w fun e w' => e = .returned (.bool true) ∧ Below w.heap.size w w' := by
  have HBS := Lib.hid fun (W : World) (B0 : Below w.heap.size w W) => (show BSl W W.heap.size a n l from (h.below B0).more B0.size)
  have HL := Lib.hid h.1
  have HC := Lib.hid hc
  clear h hc
  by_cases hbig : 300 < n
  · have b0 : decide ((300 : Int) < (n : Int)) = true := decide_eq_true (by omega)
    go_enter Tryd.func5, Tryd.ntmps5
    go_wp2_with fail
    refine (hd_alive _).mono ?_
    rintro e w1 ⟨rfl, B1⟩
    have HB1 := Lib.hid B1
    clear B1
    go_wp2_with fail
    go_ret
    exact ⟨rfl, HB1.out⟩
  have b0 : decide ((300 : Int) < (n : Int)) = false := decide_eq_false (by omega)
  have HN := Lib.hid (show n ≤ 300 from by omega)
  clear hbig
  go_enter Tryd.func5, Tryd.ntmps5
  go_wp2_with fail
  refine (hd_alive _).mono ?_
  rintro e w1 ⟨rfl, B1⟩
  have HB1 := Lib.hid B1
  have E1 := Lib.hid (gsuper_any a n c l w1 (HBS.out _ B1) HC.out (by have := HN.out; omega))
  clear B1
  go_wp2_with fail
  refine E1.out.mono ?_
  rintro e w2 ⟨B2, v, g, cf, hsu, rfl⟩
  have HS := Lib.hid hsu
  obtain ⟨w3, hw3, hP3, hB3⟩ : ∃ w3, w2.alloc (.cells #[.int .i64 (v : Int), .int .i64 (g : Int)] 33) = w3 ∧ Blk w3 w2.heap.size 33 #[.int .i64 (v : Int), .int .i64 (g : Int)] ∧ Below w2.heap.size w2 w3 := ⟨_, rfl, Blk.made _ _ _, (Below.refl _ w2).alloc (Nat.le_refl _) _⟩
  have HB3 := Lib.hid (HB1.out.trans ((B2.trans (hB3.mono B2.size)).mono HB1.out.size))
  have HP3 := Lib.hid hP3
  have E3 := Lib.hid (show Calls Tryd.prog 18 #[.slice a n c, .int .i64 3, .int .i64 1129466178] w3 (RdP l 3 1129466178 w3) from rread_any a n c l 3 1129466178 w3 (HBS.out _ HB3.out) HC.out (by have := HN.out; omega) (by decide) (by decide) (by decide))
  clear hsu hP3 hB3 B2 E1 HB1
  go_wp2_with fail
  clear hw3
  refine E3.out.mono ?_
  rintro e w4 ⟨B4, av, mm, cv, rfl, hd⟩
  have HB4 := Lib.hid (HB3.out.trans (B4.mono HB3.out.size))
  have HP4 := Lib.hid (HP3.out.below B4 HP3.out.lt)
  have HD := Lib.hid hd
  generalize w2.heap.size = P at *
  clear hd B4 E3 HB3 HP3
  obtain ⟨c0, hc0⟩ : ∃ c0, hdCode l 3 1129466178 = c0 := ⟨_, rfl⟩
  rw [hc0] at HD ⊢
  obtain ⟨rb, hrb⟩ : ∃ rb, hdRight (nums l 4 4 : Nat) (nums l 8 4 : Nat) 0 = rb := ⟨_, rfl⟩
  have ER := Lib.hid fun (W : World) => (show Calls Tryd.prog 13 #[.int .i64 (nums l 4 4 : Nat), .int .i64 (nums l 8 4 : Nat), .int .i64 0] W fun x w' => x = .returned (.bool rb) ∧ W = w' from by
    have := rright04_any (nums l 4 4 : Nat) (nums l 8 4 : Nat) 0 W
    rwa [hrb] at this)
  have HSU := Lib.hid (show (v, g, cf) = if c0 ≠ 0 then (0, 0, c0) else if rb = true then (nums l 4 4, nums l 8 4, 0) else (0, 0, 4) from by
    rw [← HS.out]
    unfold hdSuper
    rw [hc0, hrb])
  have HCL := Lib.hid (hdCode_le l 3 1129466178)
  rw [hc0] at HCL
  have HCELL := Lib.hid fun (e : c0 = 0) => ws3 (HD.out e)
  clear hc0 hrb
  obtain ⟨x, hx⟩ : ∃ x, nums l 4 4 = x := ⟨_, rfl⟩
  obtain ⟨y, hy⟩ : ∃ y, nums l 8 4 = y := ⟨_, rfl⟩
  rw [hx, hy] at HCELL HSU ER
  have HX := Lib.hid hx
  have HY := Lib.hid hy
  obtain ⟨b1, hb1⟩ : ∃ b1 : Bool, (decide (c0 = 0) && !rb) = b1 := ⟨_, rfl⟩
  have HBB := Lib.hid hb1
  have HCF := Lib.hid (show cf = if b1 = true then 4 else c0 from by
    have h := congrArg (fun q => q.2.2) HSU.out
    dsimp only at h
    rw [h, ← hb1]
    by_cases h0 : c0 = 0
    · cases rb <;> simp [h0]
    · simp [h0])
  clear hb1 hx hy
  go_upto_region 7 with fail
  go_cut [35] (fun sv wx => sv = .bool b1 ∧ Below w4.heap.size w4 wx)
  case first =>
    by_cases h0 : c0 = 0
    · obtain ⟨hm3, -⟩ := HD.out h0
      subst hm3
      obtain ⟨b, off, rfl, hbl, hl1, hl2⟩ := HCELL.out h0
      have HCL := Lib.hid fun (W : World) (B : Below w4.heap.size w4 W) => And.intro ((B.cell (p := ⟨b, off + 1, none⟩) hbl).trans hl1) ((B.cell (p := ⟨b, off + 2, none⟩) hbl).trans hl2)
      have y0 : ((c0 : Int) == 0) = true := by rw [h0]; rfl
      have HB1 := Lib.hid (show b1 = !rb from by rw [← HBB.out, decide_eq_true h0]; rfl)
      clear h0 hbl hl1 hl2
      refine wp_region_held_drew (S := fun W => Below w4.heap.size w4 W) (by kernel_rfl) ((Below.refl _ _).drew) (fun hS => ?_)
      refine wpAnyH_take (i := 0) (v := ?_) rfl (by kernel_rfl) (by kernel_rfl) (by kernel_rfl) (fun _ _ _ h => h) (Or.inl ⟨by kernel_rfl, ?_⟩) hS ?_
      rotate_left
      · intro W hW; go_simp; try with_reducible rfl
      refine wpAnyH_take (i := 1) (v := ?_) rfl (by kernel_rfl) (by kernel_rfl) (by kernel_rfl) (fun _ _ _ h => h) (Or.inl ⟨by kernel_rfl, ?_⟩) hS ?_
      rotate_left
      · intro W hW; go_simp; try with_reducible rfl
      refine wpAnyH_take (i := 2) (v := ?_) rfl (by kernel_rfl) (by kernel_rfl) (by kernel_rfl) (fun _ _ _ h => h) (Or.inl ⟨by kernel_rfl, ?_⟩) hS ?_
      rotate_left
      · intro W hW; go_simp; try with_reducible rfl
      refine wpAnyH_take (i := 3) (v := ?_) rfl (by kernel_rfl) (by kernel_rfl) (by kernel_rfl) (fun _ _ _ h => h) (Or.inl ⟨by kernel_rfl, ?_⟩) hS ?_
      rotate_left
      · intro W hW; go_simp; try with_reducible rfl
      refine wpAnyH_take (i := 4) (v := ?_) rfl (by kernel_rfl) (by kernel_rfl) (by kernel_rfl) (fun _ _ _ h => h) (Or.inl ⟨by kernel_rfl, ?_⟩) hS ?_
      rotate_left
      · intro W hW; go_simp; try with_reducible rfl
      refine wpAnyH_take (i := 5) (v := ?_) rfl (by kernel_rfl) (by kernel_rfl) (by kernel_rfl) (fun _ _ _ h => h) (Or.inl ⟨by kernel_rfl, ?_⟩) hS ?_
      rotate_left
      · intro W hW; obtain ⟨p0, p1⟩ := HCL.out W hW; go_simp; try with_reducible rfl
      refine wpAnyH_take (i := 6) (v := ?_) rfl (by kernel_rfl) (by kernel_rfl) (by kernel_rfl) (fun _ _ _ h => h) (Or.inl ⟨by kernel_rfl, ?_⟩) hS ?_
      rotate_left
      · intro W hW; go_simp; try with_reducible rfl
      refine wpAnyH_take (i := 7) (v := ?_) rfl (by kernel_rfl) (by kernel_rfl) (by kernel_rfl) (fun _ _ _ h => h) (Or.inl ⟨by kernel_rfl, ?_⟩) hS ?_
      rotate_left
      · intro W hW; go_simp; try with_reducible rfl
      refine wpAnyH_take (i := 8) (v := ?_) rfl (by kernel_rfl) (by kernel_rfl) (by kernel_rfl) (fun _ _ _ h => h) (Or.inl ⟨by kernel_rfl, ?_⟩) hS ?_
      rotate_left
      · intro W hW; obtain ⟨p0, p1⟩ := HCL.out W hW; go_simp; try with_reducible rfl
      refine wpAnyH_ready (rs := [9]) (by kernel_rfl) (by simp) ?_
      refine AllReadyH.cons (i := 9) rfl ?_ AllReadyH.nil
      intro K hK
      go_simp
      refine (ER.out _).mono ?_
      rintro e w7 ⟨rfl, rfl⟩
      go_simp
      refine hK.out _ _ ?_ (fun hN => ?_)
      · first | exact hT | exact hS | exact hS.alloc hS.size _ | exact hS.drew
      clear hK K
      try clear hT
      clear hS
      have hS := hN
      clear hN
      refine wpAnyH_take (i := 10) (v := ?_) rfl (by kernel_rfl) (by kernel_rfl) (by kernel_rfl) (fun _ _ _ h => h) (Or.inl ⟨by kernel_rfl, ?_⟩) hS ?_
      rotate_left
      · intro W hW; go_simp; try with_reducible rfl
      refine wpAnyH_take (i := 11) (v := ?_) rfl (by kernel_rfl) (by kernel_rfl) (by kernel_rfl) (fun _ _ _ h => h) (Or.inl ⟨by kernel_rfl, ?_⟩) hS ?_
      rotate_left
      · intro W hW; go_simp; try with_reducible rfl
      refine wpAnyH_done (by kernel_rfl) ?_ _
      have HH := Lib.hid hS
      clear hS
      go_simp
      go_wp2_with fail
      go_meet
      exact ⟨by rw [HB1.out], HH.out⟩
    · have y0 : ((c0 : Int) == 0) = false := by rw [beq_eq_false_iff_ne]; omega
      have HB1 := Lib.hid (show b1 = false from by rw [← HBB.out, decide_eq_false h0]; rfl)
      clear h0
      refine wp_region_held_drew (S := fun W => Below w4.heap.size w4 W) (by kernel_rfl) ((Below.refl _ _).drew) (fun hS => ?_)
      refine wpAnyH_take (i := 0) (v := ?_) rfl (by kernel_rfl) (by kernel_rfl) (by kernel_rfl) (fun _ _ _ h => h) (Or.inl ⟨by kernel_rfl, ?_⟩) hS ?_
      rotate_left
      · intro W hW; go_simp; try with_reducible rfl
      refine wpAnyH_take (i := 1) (v := ?_) rfl (by kernel_rfl) (by kernel_rfl) (by kernel_rfl) (fun _ _ _ h => h) (Or.inl ⟨by kernel_rfl, ?_⟩) hS ?_
      rotate_left
      · intro W hW; go_simp; try with_reducible rfl
      refine wpAnyH_take (i := 2) (v := ?_) rfl (by kernel_rfl) (by kernel_rfl) (by kernel_rfl) (fun _ _ _ h => h) (Or.inl ⟨by kernel_rfl, ?_⟩) hS ?_
      rotate_left
      · intro W hW; go_simp; try with_reducible rfl
      refine wpAnyH_take (i := 3) (v := undef) rfl (by kernel_rfl) (by kernel_rfl) (by kernel_rfl) (fun _ _ _ h => h) (Or.inr ⟨by kernel_rfl, rfl⟩) hS ?_
      refine wpAnyH_take (i := 4) (v := undef) rfl (by kernel_rfl) (by kernel_rfl) (by kernel_rfl) (fun _ _ _ h => h) (Or.inr ⟨by kernel_rfl, rfl⟩) hS ?_
      refine wpAnyH_take (i := 5) (v := undef) rfl (by kernel_rfl) (by kernel_rfl) (by kernel_rfl) (fun _ _ _ h => h) (Or.inr ⟨by kernel_rfl, rfl⟩) hS ?_
      refine wpAnyH_take (i := 6) (v := undef) rfl (by kernel_rfl) (by kernel_rfl) (by kernel_rfl) (fun _ _ _ h => h) (Or.inr ⟨by kernel_rfl, rfl⟩) hS ?_
      refine wpAnyH_take (i := 7) (v := undef) rfl (by kernel_rfl) (by kernel_rfl) (by kernel_rfl) (fun _ _ _ h => h) (Or.inr ⟨by kernel_rfl, rfl⟩) hS ?_
      refine wpAnyH_take (i := 8) (v := undef) rfl (by kernel_rfl) (by kernel_rfl) (by kernel_rfl) (fun _ _ _ h => h) (Or.inr ⟨by kernel_rfl, rfl⟩) hS ?_
      refine wpAnyH_take (i := 9) (v := undef) rfl (by kernel_rfl) (by kernel_rfl) (by kernel_rfl) (fun _ _ _ h => h) (Or.inr ⟨by kernel_rfl, rfl⟩) hS ?_
      refine wpAnyH_take (i := 10) (v := undef) rfl (by kernel_rfl) (by kernel_rfl) (by kernel_rfl) (fun _ _ _ h => h) (Or.inr ⟨by kernel_rfl, rfl⟩) hS ?_
      refine wpAnyH_take (i := 11) (v := ?_) rfl (by kernel_rfl) (by kernel_rfl) (by kernel_rfl) (fun _ _ _ h => h) (Or.inl ⟨by kernel_rfl, ?_⟩) hS ?_
      rotate_left
      · intro W hW; go_simp; try with_reducible rfl
      refine wpAnyH_done (by kernel_rfl) ?_ _
      have HH := Lib.hid hS
      clear hS
      go_simp
      go_wp2_with fail
      go_meet
      exact ⟨by rw [HB1.out], HH.out⟩
  case rest =>
    obtain ⟨rfl, hB⟩ := hcut
    have HB5 := Lib.hid hB
    clear hB
    obtain ⟨w5, rfl⟩ : ∃ w5 : World, w5 = wc := ⟨_, rfl⟩
    go_upto_if 35 with fail
    go_cut [6] (fun sv wx => sv = .int .i64 (cf : Int) ∧ wx = w5)
    case first =>
      cases b1 with
      | true =>
        go_wp2_with fail
        go_meet
        exact ⟨by rw [HCF.out]; rfl, rfl⟩
      | false =>
        go_wp2_with fail
        go_meet
        exact ⟨by rw [HCF.out]; rfl, rfl⟩
    case rest =>
      obtain ⟨rfl, rfl⟩ := hcut
      go_upto_region 9 with fail
      go_cut [68] (fun sv wx => sv = .bool false ∧ Below wc.heap.size wc wx)
      case first =>
        have EC := Lib.hid fun (W : World) => code_c cf W (by have h1 := HCF.out; have h2 := HCL.out; split at h1 <;> omega)
        by_cases h0 : cf = 0
        · have hb1 : b1 = false := by
            cases hb : b1 with
            | false => rfl
            | true => have := HCF.out; rw [hb] at this; simp at this; omega
          have hc0 : c0 = 0 := by have := HCF.out; rw [hb1] at this; simp at this; omega
          have hrb : rb = true := by
            cases hr : rb with
            | true => rfl
            | false => have := HBB.out; rw [hb1, hc0, hr] at this; simp at this
          have hsu := HSU.out
          rw [if_neg (not_not_intro hc0), if_pos hrb] at hsu
          simp only [Prod.mk.injEq] at hsu
          obtain ⟨rfl, rfl, rfl⟩ := hsu
          obtain ⟨hm3, -⟩ := HD.out hc0
          subst hm3
          obtain ⟨b, off, rfl, hbl, hl1, hl2⟩ := HCELL.out hc0
          have HLW := Lib.hid fun (W : World) (B : Below wc.heap.size wc W) => And.intro (((HB5.out.trans (B.mono HB5.out.size)).cell (p := ⟨b, off + 1, none⟩) hbl).trans hl1) (((HB5.out.trans (B.mono HB5.out.size)).cell (p := ⟨b, off + 2, none⟩) hbl).trans hl2)
          have HPW := Lib.hid (HP4.out.below HB5.out HP4.out.lt)
          clear hb1 hc0 hrb hbl hl1 hl2 h0
          refine wp_region_held_drew (S := fun W => Below wc.heap.size wc W) (by kernel_rfl) ((Below.refl _ _).drew) (fun hS => ?_)
          refine wpAnyH_take (i := 0) (v := ?_) rfl (by kernel_rfl) (by kernel_rfl) (by kernel_rfl) (fun _ _ _ h => h) (Or.inl ⟨by kernel_rfl, ?_⟩) hS ?_
          rotate_left
          · intro W hW; go_simp; try with_reducible rfl
          refine wpAnyH_take (i := 2) (v := ?_) rfl (by kernel_rfl) (by kernel_rfl) (by kernel_rfl) (fun _ _ _ h => h) (Or.inl ⟨by kernel_rfl, ?_⟩) hS ?_
          rotate_left
          · intro W hW; go_simp; try with_reducible rfl
          refine wpAnyH_ready (rs := [1]) (by kernel_rfl) (by simp) ?_
          refine AllReadyH.cons (i := 1) rfl ?_ AllReadyH.nil
          intro K hK
          go_simp
          refine (EC.out _).mono ?_
          rintro e w8 ⟨rfl, rfl⟩
          go_simp
          refine hK.out _ _ ?_ (fun hN => ?_)
          · first | exact hT | exact hS | exact hS.alloc hS.size _ | exact hS.drew
          clear hK K
          try clear hT
          clear hS
          have hS := hN
          clear hN
          refine wpAnyH_take (i := 3) (v := ?_) rfl (by kernel_rfl) (by kernel_rfl) (by kernel_rfl) (fun _ _ _ h => h) (Or.inl ⟨by kernel_rfl, ?_⟩) hS ?_
          rotate_left
          · intro W hW; go_simp; try with_reducible rfl
          refine wpAnyH_take (i := 4) (v := ?_) rfl (by kernel_rfl) (by kernel_rfl) (by kernel_rfl) (fun _ _ _ h => h) (Or.inl ⟨by kernel_rfl, ?_⟩) hS ?_
          rotate_left
          · intro W hW; go_simp; try with_reducible rfl
          refine wpAnyH_take (i := 5) (v := ?_) rfl (by kernel_rfl) (by kernel_rfl) (by kernel_rfl) (fun _ _ _ h => h) (Or.inl ⟨by kernel_rfl, ?_⟩) hS ?_
          rotate_left
          · intro W hW; go_simp; try with_reducible rfl
          refine wpAnyH_take (i := 6) (v := ?_) rfl (by kernel_rfl) (by kernel_rfl) (by kernel_rfl) (fun _ _ _ h => h) (Or.inl ⟨by kernel_rfl, ?_⟩) hS ?_
          rotate_left
          · intro W hW; go_simp; try with_reducible rfl
          refine wpAnyH_take (i := 7) (v := ?_) rfl (by kernel_rfl) (by kernel_rfl) (by kernel_rfl) (fun _ _ _ h => h) (Or.inl ⟨by kernel_rfl, ?_⟩) hS ?_
          rotate_left
          · intro W hW; go_simp; try with_reducible rfl
          refine wpAnyH_take (i := 8) (v := ?_) rfl (by kernel_rfl) (by kernel_rfl) (by kernel_rfl) (fun _ _ _ h => h) (Or.inl ⟨by kernel_rfl, ?_⟩) hS ?_
          rotate_left
          · intro W hW; go_simp; try with_reducible rfl
          refine wpAnyH_take (i := 9) (v := ?_) rfl (by kernel_rfl) (by kernel_rfl) (by kernel_rfl) (fun _ _ _ h => h) (Or.inl ⟨by kernel_rfl, ?_⟩) hS ?_
          rotate_left
          · intro W hW; obtain ⟨p0, p1⟩ := HLW.out W hW; obtain ⟨⟨q0, q1⟩, -, -⟩ := (HPW.out.below hW HPW.out.lt).two; go_simp; try with_reducible rfl
          refine wpAnyH_take (i := 10) (v := ?_) rfl (by kernel_rfl) (by kernel_rfl) (by kernel_rfl) (fun _ _ _ h => h) (Or.inl ⟨by kernel_rfl, ?_⟩) hS ?_
          rotate_left
          · intro W hW; go_simp; try with_reducible rfl
          refine wpAnyH_take (i := 11) (v := ?_) rfl (by kernel_rfl) (by kernel_rfl) (by kernel_rfl) (fun _ _ _ h => h) (Or.inl ⟨by kernel_rfl, ?_⟩) hS ?_
          rotate_left
          · intro W hW; go_simp; try with_reducible rfl
          refine wpAnyH_take (i := 12) (v := ?_) rfl (by kernel_rfl) (by kernel_rfl) (by kernel_rfl) (fun _ _ _ h => h) (Or.inl ⟨by kernel_rfl, ?_⟩) hS ?_
          rotate_left
          · intro W hW; obtain ⟨p0, p1⟩ := HLW.out W hW; obtain ⟨⟨q0, q1⟩, -, -⟩ := (HPW.out.below hW HPW.out.lt).two; go_simp; try with_reducible rfl
          refine wpAnyH_take (i := 13) (v := ?_) rfl (by kernel_rfl) (by kernel_rfl) (by kernel_rfl) (fun _ _ _ h => h) (Or.inl ⟨by kernel_rfl, ?_⟩) hS ?_
          rotate_left
          · intro W hW; go_simp; try with_reducible rfl
          refine wpAnyH_take (i := 14) (v := ?_) rfl (by kernel_rfl) (by kernel_rfl) (by kernel_rfl) (fun _ _ _ h => h) (Or.inl ⟨by kernel_rfl, ?_⟩) hS ?_
          rotate_left
          · intro W hW; go_simp; try with_reducible rfl
          refine wpAnyH_take (i := 15) (v := ?_) rfl (by kernel_rfl) (by kernel_rfl) (by kernel_rfl) (fun _ _ _ h => h) (Or.inl ⟨by kernel_rfl, ?_⟩) hS ?_
          rotate_left
          · intro W hW; go_simp; try with_reducible rfl
          refine wpAnyH_take (i := 16) (v := ?_) rfl (by kernel_rfl) (by kernel_rfl) (by kernel_rfl) (fun _ _ _ h => h) (Or.inl ⟨by kernel_rfl, ?_⟩) hS ?_
          rotate_left
          · intro W hW; obtain ⟨p0, p1⟩ := HLW.out W hW; obtain ⟨⟨q0, q1⟩, -, -⟩ := (HPW.out.below hW HPW.out.lt).two; go_simp; try with_reducible rfl
          refine wpAnyH_take (i := 17) (v := ?_) rfl (by kernel_rfl) (by kernel_rfl) (by kernel_rfl) (fun _ _ _ h => h) (Or.inl ⟨by kernel_rfl, ?_⟩) hS ?_
          rotate_left
          · intro W hW; go_simp; try with_reducible rfl
          refine wpAnyH_take (i := 18) (v := ?_) rfl (by kernel_rfl) (by kernel_rfl) (by kernel_rfl) (fun _ _ _ h => h) (Or.inl ⟨by kernel_rfl, ?_⟩) hS ?_
          rotate_left
          · intro W hW; go_simp; try with_reducible rfl
          refine wpAnyH_take (i := 19) (v := ?_) rfl (by kernel_rfl) (by kernel_rfl) (by kernel_rfl) (fun _ _ _ h => h) (Or.inl ⟨by kernel_rfl, ?_⟩) hS ?_
          rotate_left
          · intro W hW; obtain ⟨p0, p1⟩ := HLW.out W hW; obtain ⟨⟨q0, q1⟩, -, -⟩ := (HPW.out.below hW HPW.out.lt).two; go_simp; try with_reducible rfl
          refine wpAnyH_take (i := 20) (v := ?_) rfl (by kernel_rfl) (by kernel_rfl) (by kernel_rfl) (fun _ _ _ h => h) (Or.inl ⟨by kernel_rfl, ?_⟩) hS ?_
          rotate_left
          · intro W hW; go_simp; try with_reducible rfl
          refine wpAnyH_take (i := 21) (v := ?_) rfl (by kernel_rfl) (by kernel_rfl) (by kernel_rfl) (fun _ _ _ h => h) (Or.inl ⟨by kernel_rfl, ?_⟩) hS ?_
          rotate_left
          · intro W hW; go_simp; try with_reducible rfl
          refine wpAnyH_take (i := 22) (v := ?_) rfl (by kernel_rfl) (by kernel_rfl) (by kernel_rfl) (fun _ _ _ h => h) (Or.inl ⟨by kernel_rfl, ?_⟩) hS ?_
          rotate_left
          · intro W hW; go_simp; try with_reducible rfl
          refine wpAnyH_take (i := 23) (v := ?_) rfl (by kernel_rfl) (by kernel_rfl) (by kernel_rfl) (fun _ _ _ h => h) (Or.inl ⟨by kernel_rfl, ?_⟩) hS ?_
          rotate_left
          · intro W hW; go_simp; try with_reducible rfl
          refine wpAnyH_take (i := 24) (v := ?_) rfl (by kernel_rfl) (by kernel_rfl) (by kernel_rfl) (fun _ _ _ h => h) (Or.inl ⟨by kernel_rfl, ?_⟩) hS ?_
          rotate_left
          · intro W hW; go_simp; try with_reducible rfl
          refine wpAnyH_take (i := 25) (v := ?_) rfl (by kernel_rfl) (by kernel_rfl) (by kernel_rfl) (fun _ _ _ h => h) (Or.inl ⟨by kernel_rfl, ?_⟩) hS ?_
          rotate_left
          · intro W hW; go_simp; try with_reducible rfl
          refine wpAnyH_take (i := 26) (v := ?_) rfl (by kernel_rfl) (by kernel_rfl) (by kernel_rfl) (fun _ _ _ h => h) (Or.inl ⟨by kernel_rfl, ?_⟩) hS ?_
          rotate_left
          · intro W hW; go_simp; try with_reducible rfl
          refine wpAnyH_take (i := 27) (v := ?_) rfl (by kernel_rfl) (by kernel_rfl) (by kernel_rfl) (fun _ _ _ h => h) (Or.inl ⟨by kernel_rfl, ?_⟩) hS ?_
          rotate_left
          · intro W hW; go_simp; try with_reducible rfl
          refine wpAnyH_take (i := 28) (v := undef) rfl (by kernel_rfl) (by kernel_rfl) (by kernel_rfl) (fun _ _ _ h => h) (Or.inr ⟨by kernel_rfl, rfl⟩) hS ?_
          refine wpAnyH_take (i := 29) (v := undef) rfl (by kernel_rfl) (by kernel_rfl) (by kernel_rfl) (fun _ _ _ h => h) (Or.inr ⟨by kernel_rfl, rfl⟩) hS ?_
          refine wpAnyH_take (i := 30) (v := undef) rfl (by kernel_rfl) (by kernel_rfl) (by kernel_rfl) (fun _ _ _ h => h) (Or.inr ⟨by kernel_rfl, rfl⟩) hS ?_
          refine wpAnyH_take (i := 31) (v := ?_) rfl (by kernel_rfl) (by kernel_rfl) (by kernel_rfl) (fun _ _ _ h => h) (Or.inl ⟨by kernel_rfl, ?_⟩) hS ?_
          rotate_left
          · intro W hW; go_simp; try with_reducible rfl
          refine wpAnyH_take (i := 32) (v := ?_) rfl (by kernel_rfl) (by kernel_rfl) (by kernel_rfl) (fun _ _ _ h => h) (Or.inl ⟨by kernel_rfl, ?_⟩) hS ?_
          rotate_left
          · intro W hW; go_simp; try with_reducible rfl
          refine wpAnyH_done (by kernel_rfl) ?_ _
          have HH := Lib.hid hS
          clear hS
          go_simp
          go_wp2_with fail
          go_meet
          exact ⟨rfl, HH.out⟩
        · have hvg : v = 0 ∧ g = 0 := by
            have hsu := HSU.out
            split at hsu
            · simp only [Prod.mk.injEq] at hsu; omega
            · split at hsu
              · simp only [Prod.mk.injEq] at hsu; omega
              · simp only [Prod.mk.injEq] at hsu; omega
          obtain ⟨rfl, rfl⟩ := hvg
          have z0 : ((cf : Int) == 0) = false := by rw [beq_eq_false_iff_ne]; omega
          have z1 : ((cf : Int) != 0) = true := by rw [bne_iff_ne]; omega
          have HPW := Lib.hid (HP4.out.below HB5.out HP4.out.lt)
          have hne := fun W => super_neq0 W 0 0 0 0
          clear h0
          refine wp_region_held_drew (S := fun W => Below wc.heap.size wc W) (by kernel_rfl) ((Below.refl _ _).drew) (fun hS => ?_)
          refine wpAnyH_take (i := 0) (v := ?_) rfl (by kernel_rfl) (by kernel_rfl) (by kernel_rfl) (fun _ _ _ h => h) (Or.inl ⟨by kernel_rfl, ?_⟩) hS ?_
          rotate_left
          · intro W hW; go_simp; try with_reducible rfl
          refine wpAnyH_take (i := 2) (v := ?_) rfl (by kernel_rfl) (by kernel_rfl) (by kernel_rfl) (fun _ _ _ h => h) (Or.inl ⟨by kernel_rfl, ?_⟩) hS ?_
          rotate_left
          · intro W hW; go_simp; try with_reducible rfl
          refine wpAnyH_ready (rs := [1]) (by kernel_rfl) (by simp) ?_
          refine AllReadyH.cons (i := 1) rfl ?_ AllReadyH.nil
          intro K hK
          go_simp
          refine (EC.out _).mono ?_
          rintro e w8 ⟨rfl, rfl⟩
          go_simp
          refine hK.out _ _ ?_ (fun hN => ?_)
          · first | exact hT | exact hS | exact hS.alloc hS.size _ | exact hS.drew
          clear hK K
          try clear hT
          clear hS
          have hS := hN
          clear hN
          refine wpAnyH_take (i := 3) (v := ?_) rfl (by kernel_rfl) (by kernel_rfl) (by kernel_rfl) (fun _ _ _ h => h) (Or.inl ⟨by kernel_rfl, ?_⟩) hS ?_
          rotate_left
          · intro W hW; go_simp; try with_reducible rfl
          refine wpAnyH_take (i := 4) (v := ?_) rfl (by kernel_rfl) (by kernel_rfl) (by kernel_rfl) (fun _ _ _ h => h) (Or.inl ⟨by kernel_rfl, ?_⟩) hS ?_
          rotate_left
          · intro W hW; go_simp; try with_reducible rfl
          refine wpAnyH_take (i := 5) (v := ?_) rfl (by kernel_rfl) (by kernel_rfl) (by kernel_rfl) (fun _ _ _ h => h) (Or.inl ⟨by kernel_rfl, ?_⟩) hS ?_
          rotate_left
          · intro W hW; go_simp; try with_reducible rfl
          refine wpAnyH_take (i := 6) (v := ?_) rfl (by kernel_rfl) (by kernel_rfl) (by kernel_rfl) (fun _ _ _ h => h) (Or.inl ⟨by kernel_rfl, ?_⟩) hS ?_
          rotate_left
          · intro W hW; go_simp; try with_reducible rfl
          refine wpAnyH_take (i := 7) (v := ?_) rfl (by kernel_rfl) (by kernel_rfl) (by kernel_rfl) (fun _ _ _ h => h) (Or.inl ⟨by kernel_rfl, ?_⟩) hS ?_
          rotate_left
          · intro W hW; go_simp; try with_reducible rfl
          refine wpAnyH_take (i := 8) (v := undef) rfl (by kernel_rfl) (by kernel_rfl) (by kernel_rfl) (fun _ _ _ h => h) (Or.inr ⟨by kernel_rfl, rfl⟩) hS ?_
          refine wpAnyH_take (i := 9) (v := undef) rfl (by kernel_rfl) (by kernel_rfl) (by kernel_rfl) (fun _ _ _ h => h) (Or.inr ⟨by kernel_rfl, rfl⟩) hS ?_
          refine wpAnyH_take (i := 10) (v := undef) rfl (by kernel_rfl) (by kernel_rfl) (by kernel_rfl) (fun _ _ _ h => h) (Or.inr ⟨by kernel_rfl, rfl⟩) hS ?_
          refine wpAnyH_take (i := 11) (v := undef) rfl (by kernel_rfl) (by kernel_rfl) (by kernel_rfl) (fun _ _ _ h => h) (Or.inr ⟨by kernel_rfl, rfl⟩) hS ?_
          refine wpAnyH_take (i := 12) (v := undef) rfl (by kernel_rfl) (by kernel_rfl) (by kernel_rfl) (fun _ _ _ h => h) (Or.inr ⟨by kernel_rfl, rfl⟩) hS ?_
          refine wpAnyH_take (i := 13) (v := undef) rfl (by kernel_rfl) (by kernel_rfl) (by kernel_rfl) (fun _ _ _ h => h) (Or.inr ⟨by kernel_rfl, rfl⟩) hS ?_
          refine wpAnyH_take (i := 14) (v := undef) rfl (by kernel_rfl) (by kernel_rfl) (by kernel_rfl) (fun _ _ _ h => h) (Or.inr ⟨by kernel_rfl, rfl⟩) hS ?_
          refine wpAnyH_take (i := 15) (v := undef) rfl (by kernel_rfl) (by kernel_rfl) (by kernel_rfl) (fun _ _ _ h => h) (Or.inr ⟨by kernel_rfl, rfl⟩) hS ?_
          refine wpAnyH_take (i := 16) (v := undef) rfl (by kernel_rfl) (by kernel_rfl) (by kernel_rfl) (fun _ _ _ h => h) (Or.inr ⟨by kernel_rfl, rfl⟩) hS ?_
          refine wpAnyH_take (i := 17) (v := undef) rfl (by kernel_rfl) (by kernel_rfl) (by kernel_rfl) (fun _ _ _ h => h) (Or.inr ⟨by kernel_rfl, rfl⟩) hS ?_
          refine wpAnyH_take (i := 18) (v := undef) rfl (by kernel_rfl) (by kernel_rfl) (by kernel_rfl) (fun _ _ _ h => h) (Or.inr ⟨by kernel_rfl, rfl⟩) hS ?_
          refine wpAnyH_take (i := 19) (v := undef) rfl (by kernel_rfl) (by kernel_rfl) (by kernel_rfl) (fun _ _ _ h => h) (Or.inr ⟨by kernel_rfl, rfl⟩) hS ?_
          refine wpAnyH_take (i := 20) (v := undef) rfl (by kernel_rfl) (by kernel_rfl) (by kernel_rfl) (fun _ _ _ h => h) (Or.inr ⟨by kernel_rfl, rfl⟩) hS ?_
          refine wpAnyH_take (i := 21) (v := undef) rfl (by kernel_rfl) (by kernel_rfl) (by kernel_rfl) (fun _ _ _ h => h) (Or.inr ⟨by kernel_rfl, rfl⟩) hS ?_
          refine wpAnyH_take (i := 22) (v := ?_) rfl (by kernel_rfl) (by kernel_rfl) (by kernel_rfl) (fun _ _ _ h => h) (Or.inl ⟨by kernel_rfl, ?_⟩) hS ?_
          rotate_left
          · intro W hW; go_simp; try with_reducible rfl
          refine wpAnyH_take (i := 23) (v := ?_) rfl (by kernel_rfl) (by kernel_rfl) (by kernel_rfl) (fun _ _ _ h => h) (Or.inl ⟨by kernel_rfl, ?_⟩) hS ?_
          rotate_left
          · intro W hW; go_simp; try with_reducible rfl
          refine wpAnyH_take (i := 24) (v := ?_) rfl (by kernel_rfl) (by kernel_rfl) (by kernel_rfl) (fun _ _ _ h => h) (Or.inl ⟨by kernel_rfl, ?_⟩) hS ?_
          rotate_left
          · intro W hW; go_simp; try with_reducible rfl
          refine wpAnyH_take (i := 25) (v := ?_) rfl (by kernel_rfl) (by kernel_rfl) (by kernel_rfl) (fun _ _ _ h => h) (Or.inl ⟨by kernel_rfl, ?_⟩) hS ?_
          rotate_left
          · intro W hW; go_simp; try with_reducible rfl
          refine wpAnyH_take (i := 26) (v := ?_) rfl (by kernel_rfl) (by kernel_rfl) (by kernel_rfl) (fun _ _ _ h => h) (Or.inl ⟨by kernel_rfl, ?_⟩) hS ?_
          rotate_left
          · intro W hW; go_simp; try with_reducible rfl
          refine wpAnyH_take (i := 27) (v := ?_) rfl (by kernel_rfl) (by kernel_rfl) (by kernel_rfl) (fun _ _ _ h => h) (Or.inl ⟨by kernel_rfl, ?_⟩) hS ?_
          rotate_left
          · intro W hW; go_simp; try with_reducible rfl
          refine wpAnyH_take (i := 28) (v := ?_) rfl (by kernel_rfl) (by kernel_rfl) (by kernel_rfl) (fun _ _ _ h => h) (Or.inl ⟨by kernel_rfl, ?_⟩) hS ?_
          rotate_left
          · intro W hW; obtain ⟨⟨q0, q1⟩, -, -⟩ := (HPW.out.below hW HPW.out.lt).two; go_simp; try with_reducible rfl
          refine wpAnyH_take (i := 29) (v := ?_) rfl (by kernel_rfl) (by kernel_rfl) (by kernel_rfl) (fun _ _ _ h => h) (Or.inl ⟨by kernel_rfl, ?_⟩) hS ?_
          rotate_left
          · intro W hW; go_simp; try with_reducible rfl
          refine wpAnyH_take (i := 30) (v := ?_) rfl (by kernel_rfl) (by kernel_rfl) (by kernel_rfl) (fun _ _ _ h => h) (Or.inl ⟨by kernel_rfl, ?_⟩) hS ?_
          rotate_left
          · intro W hW; go_simp; try with_reducible rfl
          refine wpAnyH_take (i := 31) (v := ?_) rfl (by kernel_rfl) (by kernel_rfl) (by kernel_rfl) (fun _ _ _ h => h) (Or.inl ⟨by kernel_rfl, ?_⟩) hS ?_
          rotate_left
          · intro W hW; go_simp; try with_reducible rfl
          refine wpAnyH_take (i := 32) (v := ?_) rfl (by kernel_rfl) (by kernel_rfl) (by kernel_rfl) (fun _ _ _ h => h) (Or.inl ⟨by kernel_rfl, ?_⟩) hS ?_
          rotate_left
          · intro W hW; go_simp; try with_reducible rfl
          refine wpAnyH_done (by kernel_rfl) ?_ _
          have HH := Lib.hid hS
          clear hS hne
          go_simp
          go_wp2_with fail
          go_meet
          exact ⟨rfl, HH.out⟩
      case rest =>
        obtain ⟨rfl, hB⟩ := hcut
        have HB6 := Lib.hid (HB4.out.trans ((HB5.out.trans (hB.mono HB5.out.size)).mono HB4.out.size))
        clear hB HB5 HD HCELL HSU HS HP4 HBB HCF ER HCL HB4
        have E5 := Lib.hid (gman_any a n c l wc (HBS.out _ HB6.out) HC.out (by have := HN.out; omega))
        go_wp2_with fail
        refine E5.out.mono ?_
        rintro e w7 ⟨B7, mv, mg, mu, ms, mf, hman, rfl⟩
        obtain ⟨w8, hw8, hP8, hB8⟩ : ∃ w8, w7.alloc (.cells #[.int .i64 (mv : Int), .int .i64 (mg : Int), .int .i64 (mu : Int), .bool ms] 36) = w8 ∧ Blk w8 w7.heap.size 36 #[.int .i64 (mv : Int), .int .i64 (mg : Int), .int .i64 (mu : Int), .bool ms] ∧ Below w7.heap.size w7 w8 := ⟨_, rfl, Blk.made _ _ _, (Below.refl _ w7).alloc (Nat.le_refl _) _⟩
        have HB8 := Lib.hid (HB6.out.trans ((B7.trans (hB8.mono B7.size)).mono HB6.out.size))
        have HP8 := Lib.hid hP8
        have HM := Lib.hid hman
        have E8 := Lib.hid (show Calls Tryd.prog 18 #[.slice a n c, .int .i64 5, .int .i64 1296125513] w8 (RdP l 5 1296125513 w8) from rread_any a n c l 5 1296125513 w8 (HBS.out _ HB8.out) HC.out (by have := HN.out; omega) (by decide) (by decide) (by decide))
        clear hman hP8 hB8 B7 E5 HB6
        go_wp2_with fail
        clear hw8
        refine E8.out.mono ?_
        rintro e w9 ⟨B9, av5, m5, cv5, rfl, hd5⟩
        have HB9 := Lib.hid (HB8.out.trans (B9.mono HB8.out.size))
        have HP9 := Lib.hid (HP8.out.below B9 HP8.out.lt)
        have HD5 := Lib.hid hd5
        generalize w7.heap.size = P2 at *
        clear hd5 B9 E8 HB8 HP8
        obtain ⟨c5, hc5⟩ : ∃ c5, hdCode l 5 1296125513 = c5 := ⟨_, rfl⟩
        rw [hc5] at HD5 ⊢
        have HCL5 := Lib.hid (hdCode_le l 5 1296125513)
        rw [hc5] at HCL5
        obtain ⟨z, hz⟩ : ∃ z, nums l 12 4 = z := ⟨_, rfl⟩
        obtain ⟨q, hq⟩ : ∃ q, nums l 16 4 = q := ⟨_, rfl⟩
        have HCELL5 := Lib.hid fun (e : c5 = 0) => ws5 (HD5.out e)
        rw [HX.out, HY.out, hz, hq] at HCELL5
        obtain ⟨rb5, hrb5⟩ : ∃ rb5, hdRight (x : Int) (y : Int) (z : Int) = rb5 := ⟨_, rfl⟩
        have ER5 := Lib.hid fun (W : World) => (show Calls Tryd.prog 13 #[.int .i64 (x : Int), .int .i64 (y : Int), .int .i64 (z : Int)] W fun x w' => x = .returned (.bool rb5) ∧ W = w' from by
          have := rright04_any (x : Int) (y : Int) (z : Int) W
          rwa [hrb5] at this)
        have HMAN := Lib.hid (show (mv, mg, mu, ms, mf) = if 24 < n then (0, 0, 0, false, 4) else if c5 ≠ 0 then (0, 0, 0, false, c5) else if q ≤ 1 ∧ rb5 = true then (x, y, z, decide (q = 1), 0) else (0, 0, 0, false, 4) from by
          rw [← HM.out]
          unfold hdMan
          rw [HL.out, hc5, hz, hq, HX.out, HY.out, hrb5])
        obtain ⟨b2, hb2⟩ : ∃ b2 : Bool, (decide (24 < n) || (decide (c5 = 0) && (!rb5 || decide (1 < q)))) = b2 := ⟨_, rfl⟩
        have HB2 := Lib.hid hb2
        have HMF := Lib.hid (show mf = if b2 = true then 4 else c5 from by
          have h := congrArg (fun q => q.2.2.2.2) HMAN.out
          dsimp only at h
          rw [h, ← hb2]
          by_cases h24 : 24 < n
          · simp [h24]
          · by_cases h0 : c5 = 0
            · cases rb5
              · simp [h24, h0]
              · by_cases hq1 : q ≤ 1
                · have hq2 : ¬ 1 < q := by omega
                  simp [h24, h0, hq1, hq2]
                · have hq2 : 1 < q := by omega
                  simp [h24, h0, hq1, hq2]
            · simp [h24, h0])
        clear hc5 hz hq hrb5 hb2
        go_upto_region 13 with fail
        go_cut [104] (fun sv wx => sv = .bool b2 ∧ Below w9.heap.size w9 wx)
        case first =>
          by_cases h24 : 24 < n
          · have y24 : decide ((24 : Int) < (n : Int)) = true := decide_eq_true (by omega)
            have HB1 := Lib.hid (show b2 = true from by rw [← HB2.out, decide_eq_true h24]; rfl)
            clear h24
            refine wp_region_held_drew (S := fun W => Below w9.heap.size w9 W) (by kernel_rfl) ((Below.refl _ _).drew) (fun hS => ?_)
            refine wpAnyH_take (i := 0) (v := ?_) rfl (by kernel_rfl) (by kernel_rfl) (by kernel_rfl) (fun _ _ _ h => h) (Or.inl ⟨by kernel_rfl, ?_⟩) hS ?_
            rotate_left
            · intro W hW; go_simp; try with_reducible rfl
            refine wpAnyH_take (i := 1) (v := ?_) rfl (by kernel_rfl) (by kernel_rfl) (by kernel_rfl) (fun _ _ _ h => h) (Or.inl ⟨by kernel_rfl, ?_⟩) hS ?_
            rotate_left
            · intro W hW; go_simp; try with_reducible rfl
            refine wpAnyH_take (i := 2) (v := ?_) rfl (by kernel_rfl) (by kernel_rfl) (by kernel_rfl) (fun _ _ _ h => h) (Or.inl ⟨by kernel_rfl, ?_⟩) hS ?_
            rotate_left
            · intro W hW; go_simp; try with_reducible rfl
            refine wpAnyH_take (i := 3) (v := ?_) rfl (by kernel_rfl) (by kernel_rfl) (by kernel_rfl) (fun _ _ _ h => h) (Or.inl ⟨by kernel_rfl, ?_⟩) hS ?_
            rotate_left
            · intro W hW; go_simp; try with_reducible rfl
            refine wpAnyH_take (i := 4) (v := undef) rfl (by kernel_rfl) (by kernel_rfl) (by kernel_rfl) (fun _ _ _ h => h) (Or.inr ⟨by kernel_rfl, rfl⟩) hS ?_
            refine wpAnyH_take (i := 5) (v := undef) rfl (by kernel_rfl) (by kernel_rfl) (by kernel_rfl) (fun _ _ _ h => h) (Or.inr ⟨by kernel_rfl, rfl⟩) hS ?_
            refine wpAnyH_take (i := 6) (v := undef) rfl (by kernel_rfl) (by kernel_rfl) (by kernel_rfl) (fun _ _ _ h => h) (Or.inr ⟨by kernel_rfl, rfl⟩) hS ?_
            refine wpAnyH_take (i := 7) (v := undef) rfl (by kernel_rfl) (by kernel_rfl) (by kernel_rfl) (fun _ _ _ h => h) (Or.inr ⟨by kernel_rfl, rfl⟩) hS ?_
            refine wpAnyH_take (i := 8) (v := undef) rfl (by kernel_rfl) (by kernel_rfl) (by kernel_rfl) (fun _ _ _ h => h) (Or.inr ⟨by kernel_rfl, rfl⟩) hS ?_
            refine wpAnyH_take (i := 9) (v := undef) rfl (by kernel_rfl) (by kernel_rfl) (by kernel_rfl) (fun _ _ _ h => h) (Or.inr ⟨by kernel_rfl, rfl⟩) hS ?_
            refine wpAnyH_take (i := 10) (v := undef) rfl (by kernel_rfl) (by kernel_rfl) (by kernel_rfl) (fun _ _ _ h => h) (Or.inr ⟨by kernel_rfl, rfl⟩) hS ?_
            refine wpAnyH_take (i := 11) (v := undef) rfl (by kernel_rfl) (by kernel_rfl) (by kernel_rfl) (fun _ _ _ h => h) (Or.inr ⟨by kernel_rfl, rfl⟩) hS ?_
            refine wpAnyH_take (i := 12) (v := undef) rfl (by kernel_rfl) (by kernel_rfl) (by kernel_rfl) (fun _ _ _ h => h) (Or.inr ⟨by kernel_rfl, rfl⟩) hS ?_
            refine wpAnyH_take (i := 13) (v := undef) rfl (by kernel_rfl) (by kernel_rfl) (by kernel_rfl) (fun _ _ _ h => h) (Or.inr ⟨by kernel_rfl, rfl⟩) hS ?_
            refine wpAnyH_take (i := 14) (v := undef) rfl (by kernel_rfl) (by kernel_rfl) (by kernel_rfl) (fun _ _ _ h => h) (Or.inr ⟨by kernel_rfl, rfl⟩) hS ?_
            refine wpAnyH_take (i := 15) (v := undef) rfl (by kernel_rfl) (by kernel_rfl) (by kernel_rfl) (fun _ _ _ h => h) (Or.inr ⟨by kernel_rfl, rfl⟩) hS ?_
            refine wpAnyH_take (i := 16) (v := undef) rfl (by kernel_rfl) (by kernel_rfl) (by kernel_rfl) (fun _ _ _ h => h) (Or.inr ⟨by kernel_rfl, rfl⟩) hS ?_
            refine wpAnyH_take (i := 17) (v := undef) rfl (by kernel_rfl) (by kernel_rfl) (by kernel_rfl) (fun _ _ _ h => h) (Or.inr ⟨by kernel_rfl, rfl⟩) hS ?_
            refine wpAnyH_take (i := 18) (v := undef) rfl (by kernel_rfl) (by kernel_rfl) (by kernel_rfl) (fun _ _ _ h => h) (Or.inr ⟨by kernel_rfl, rfl⟩) hS ?_
            refine wpAnyH_take (i := 19) (v := undef) rfl (by kernel_rfl) (by kernel_rfl) (by kernel_rfl) (fun _ _ _ h => h) (Or.inr ⟨by kernel_rfl, rfl⟩) hS ?_
            refine wpAnyH_take (i := 20) (v := undef) rfl (by kernel_rfl) (by kernel_rfl) (by kernel_rfl) (fun _ _ _ h => h) (Or.inr ⟨by kernel_rfl, rfl⟩) hS ?_
            refine wpAnyH_take (i := 21) (v := undef) rfl (by kernel_rfl) (by kernel_rfl) (by kernel_rfl) (fun _ _ _ h => h) (Or.inr ⟨by kernel_rfl, rfl⟩) hS ?_
            refine wpAnyH_take (i := 22) (v := undef) rfl (by kernel_rfl) (by kernel_rfl) (by kernel_rfl) (fun _ _ _ h => h) (Or.inr ⟨by kernel_rfl, rfl⟩) hS ?_
            refine wpAnyH_take (i := 23) (v := undef) rfl (by kernel_rfl) (by kernel_rfl) (by kernel_rfl) (fun _ _ _ h => h) (Or.inr ⟨by kernel_rfl, rfl⟩) hS ?_
            refine wpAnyH_take (i := 24) (v := undef) rfl (by kernel_rfl) (by kernel_rfl) (by kernel_rfl) (fun _ _ _ h => h) (Or.inr ⟨by kernel_rfl, rfl⟩) hS ?_
            refine wpAnyH_take (i := 25) (v := ?_) rfl (by kernel_rfl) (by kernel_rfl) (by kernel_rfl) (fun _ _ _ h => h) (Or.inl ⟨by kernel_rfl, ?_⟩) hS ?_
            rotate_left
            · intro W hW; go_simp; try with_reducible rfl
            refine wpAnyH_done (by kernel_rfl) ?_ _
            have HH := Lib.hid hS
            clear hS
            go_simp
            go_wp2_with fail
            go_meet
            exact ⟨by rw [HB1.out], HH.out⟩
          · have y24 : decide ((24 : Int) < (n : Int)) = false := decide_eq_false (by omega)
            by_cases h0 : c5 = 0
            · have y0 : ((c5 : Int) == 0) = true := by rw [h0]; rfl
              obtain ⟨hm5, -⟩ := HD5.out h0
              subst hm5
              obtain ⟨b, off, rfl, hbl, hl1, hl2, hl3, hl4⟩ := HCELL5.out h0
              have HLW := Lib.hid fun (W : World) (B : Below w9.heap.size w9 W) => And.intro ((B.cell (p := ⟨b, off + 1, none⟩) hbl).trans hl1) (And.intro ((B.cell (p := ⟨b, off + 2, none⟩) hbl).trans hl2) (And.intro ((B.cell (p := ⟨b, off + 3, none⟩) hbl).trans hl3) ((B.cell (p := ⟨b, off + 4, none⟩) hbl).trans hl4)))
              have HBX := Lib.hid (show b2 = (!rb5 || decide (1 < q)) from by rw [← HB2.out, decide_eq_false h24, decide_eq_true h0]; rfl)
              clear h0 h24 hbl hl1 hl2 hl3 hl4
              cases rb5 with
              | false =>
                refine wp_region_held_drew (S := fun W => Below w9.heap.size w9 W) (by kernel_rfl) ((Below.refl _ _).drew) (fun hS => ?_)
                refine wpAnyH_take (i := 0) (v := ?_) rfl (by kernel_rfl) (by kernel_rfl) (by kernel_rfl) (fun _ _ _ h => h) (Or.inl ⟨by kernel_rfl, ?_⟩) hS ?_
                rotate_left
                · intro W hW; go_simp; try with_reducible rfl
                refine wpAnyH_take (i := 1) (v := ?_) rfl (by kernel_rfl) (by kernel_rfl) (by kernel_rfl) (fun _ _ _ h => h) (Or.inl ⟨by kernel_rfl, ?_⟩) hS ?_
                rotate_left
                · intro W hW; go_simp; try with_reducible rfl
                refine wpAnyH_take (i := 2) (v := ?_) rfl (by kernel_rfl) (by kernel_rfl) (by kernel_rfl) (fun _ _ _ h => h) (Or.inl ⟨by kernel_rfl, ?_⟩) hS ?_
                rotate_left
                · intro W hW; go_simp; try with_reducible rfl
                refine wpAnyH_take (i := 3) (v := ?_) rfl (by kernel_rfl) (by kernel_rfl) (by kernel_rfl) (fun _ _ _ h => h) (Or.inl ⟨by kernel_rfl, ?_⟩) hS ?_
                rotate_left
                · intro W hW; go_simp; try with_reducible rfl
                refine wpAnyH_take (i := 4) (v := ?_) rfl (by kernel_rfl) (by kernel_rfl) (by kernel_rfl) (fun _ _ _ h => h) (Or.inl ⟨by kernel_rfl, ?_⟩) hS ?_
                rotate_left
                · intro W hW; go_simp; try with_reducible rfl
                refine wpAnyH_take (i := 5) (v := ?_) rfl (by kernel_rfl) (by kernel_rfl) (by kernel_rfl) (fun _ _ _ h => h) (Or.inl ⟨by kernel_rfl, ?_⟩) hS ?_
                rotate_left
                · intro W hW; go_simp; try with_reducible rfl
                refine wpAnyH_take (i := 6) (v := ?_) rfl (by kernel_rfl) (by kernel_rfl) (by kernel_rfl) (fun _ _ _ h => h) (Or.inl ⟨by kernel_rfl, ?_⟩) hS ?_
                rotate_left
                · intro W hW; go_simp; try with_reducible rfl
                refine wpAnyH_take (i := 7) (v := ?_) rfl (by kernel_rfl) (by kernel_rfl) (by kernel_rfl) (fun _ _ _ h => h) (Or.inl ⟨by kernel_rfl, ?_⟩) hS ?_
                rotate_left
                · intro W hW; go_simp; try with_reducible rfl
                refine wpAnyH_take (i := 8) (v := ?_) rfl (by kernel_rfl) (by kernel_rfl) (by kernel_rfl) (fun _ _ _ h => h) (Or.inl ⟨by kernel_rfl, ?_⟩) hS ?_
                rotate_left
                · intro W hW; go_simp; try with_reducible rfl
                refine wpAnyH_take (i := 9) (v := ?_) rfl (by kernel_rfl) (by kernel_rfl) (by kernel_rfl) (fun _ _ _ h => h) (Or.inl ⟨by kernel_rfl, ?_⟩) hS ?_
                rotate_left
                · intro W hW; obtain ⟨p0, p1, p2, p3⟩ := HLW.out W hW; go_simp; try with_reducible rfl
                refine wpAnyH_take (i := 10) (v := ?_) rfl (by kernel_rfl) (by kernel_rfl) (by kernel_rfl) (fun _ _ _ h => h) (Or.inl ⟨by kernel_rfl, ?_⟩) hS ?_
                rotate_left
                · intro W hW; go_simp; try with_reducible rfl
                refine wpAnyH_take (i := 11) (v := ?_) rfl (by kernel_rfl) (by kernel_rfl) (by kernel_rfl) (fun _ _ _ h => h) (Or.inl ⟨by kernel_rfl, ?_⟩) hS ?_
                rotate_left
                · intro W hW; go_simp; try with_reducible rfl
                refine wpAnyH_take (i := 12) (v := ?_) rfl (by kernel_rfl) (by kernel_rfl) (by kernel_rfl) (fun _ _ _ h => h) (Or.inl ⟨by kernel_rfl, ?_⟩) hS ?_
                rotate_left
                · intro W hW; obtain ⟨p0, p1, p2, p3⟩ := HLW.out W hW; go_simp; try with_reducible rfl
                refine wpAnyH_take (i := 13) (v := ?_) rfl (by kernel_rfl) (by kernel_rfl) (by kernel_rfl) (fun _ _ _ h => h) (Or.inl ⟨by kernel_rfl, ?_⟩) hS ?_
                rotate_left
                · intro W hW; go_simp; try with_reducible rfl
                refine wpAnyH_take (i := 14) (v := ?_) rfl (by kernel_rfl) (by kernel_rfl) (by kernel_rfl) (fun _ _ _ h => h) (Or.inl ⟨by kernel_rfl, ?_⟩) hS ?_
                rotate_left
                · intro W hW; go_simp; try with_reducible rfl
                refine wpAnyH_take (i := 15) (v := ?_) rfl (by kernel_rfl) (by kernel_rfl) (by kernel_rfl) (fun _ _ _ h => h) (Or.inl ⟨by kernel_rfl, ?_⟩) hS ?_
                rotate_left
                · intro W hW; obtain ⟨p0, p1, p2, p3⟩ := HLW.out W hW; go_simp; try with_reducible rfl
                refine wpAnyH_ready (rs := [16]) (by kernel_rfl) (by simp) ?_
                refine AllReadyH.cons (i := 16) rfl ?_ AllReadyH.nil
                intro K hK
                go_simp
                refine (ER5.out _).mono ?_
                rintro e w7 ⟨rfl, rfl⟩
                go_simp
                refine hK.out _ _ ?_ (fun hN => ?_)
                · first | exact hT | exact hS | exact hS.alloc hS.size _ | exact hS.drew
                clear hK K
                try clear hT
                clear hS
                have hS := hN
                clear hN
                refine wpAnyH_take (i := 17) (v := ?_) rfl (by kernel_rfl) (by kernel_rfl) (by kernel_rfl) (fun _ _ _ h => h) (Or.inl ⟨by kernel_rfl, ?_⟩) hS ?_
                rotate_left
                · intro W hW; go_simp; try with_reducible rfl
                refine wpAnyH_take (i := 18) (v := ?_) rfl (by kernel_rfl) (by kernel_rfl) (by kernel_rfl) (fun _ _ _ h => h) (Or.inl ⟨by kernel_rfl, ?_⟩) hS ?_
                rotate_left
                · intro W hW; go_simp; try with_reducible rfl
                refine wpAnyH_take (i := 19) (v := undef) rfl (by kernel_rfl) (by kernel_rfl) (by kernel_rfl) (fun _ _ _ h => h) (Or.inr ⟨by kernel_rfl, rfl⟩) hS ?_
                refine wpAnyH_take (i := 20) (v := undef) rfl (by kernel_rfl) (by kernel_rfl) (by kernel_rfl) (fun _ _ _ h => h) (Or.inr ⟨by kernel_rfl, rfl⟩) hS ?_
                refine wpAnyH_take (i := 21) (v := undef) rfl (by kernel_rfl) (by kernel_rfl) (by kernel_rfl) (fun _ _ _ h => h) (Or.inr ⟨by kernel_rfl, rfl⟩) hS ?_
                refine wpAnyH_take (i := 22) (v := undef) rfl (by kernel_rfl) (by kernel_rfl) (by kernel_rfl) (fun _ _ _ h => h) (Or.inr ⟨by kernel_rfl, rfl⟩) hS ?_
                refine wpAnyH_take (i := 23) (v := ?_) rfl (by kernel_rfl) (by kernel_rfl) (by kernel_rfl) (fun _ _ _ h => h) (Or.inl ⟨by kernel_rfl, ?_⟩) hS ?_
                rotate_left
                · intro W hW; go_simp; try with_reducible rfl
                refine wpAnyH_take (i := 24) (v := ?_) rfl (by kernel_rfl) (by kernel_rfl) (by kernel_rfl) (fun _ _ _ h => h) (Or.inl ⟨by kernel_rfl, ?_⟩) hS ?_
                rotate_left
                · intro W hW; go_simp; try with_reducible rfl
                refine wpAnyH_take (i := 25) (v := ?_) rfl (by kernel_rfl) (by kernel_rfl) (by kernel_rfl) (fun _ _ _ h => h) (Or.inl ⟨by kernel_rfl, ?_⟩) hS ?_
                rotate_left
                · intro W hW; go_simp; try with_reducible rfl
                refine wpAnyH_done (by kernel_rfl) ?_ _
                have HH := Lib.hid hS
                clear hS
                go_simp
                go_wp2_with fail
                go_meet
                exact ⟨by rw [HBX.out]; rfl, HH.out⟩
              | true =>
                obtain ⟨qb, hqb⟩ : ∃ qb : Bool, decide (1 < q) = qb := ⟨_, rfl⟩
                have hqz : decide ((1 : Int) < (q : Int)) = qb := by rw [← hqb, Bool.eq_iff_iff, decide_eq_true_eq, decide_eq_true_eq]; omega
                have HQB := Lib.hid hqb
                clear hqb
                refine wp_region_held_drew (S := fun W => Below w9.heap.size w9 W) (by kernel_rfl) ((Below.refl _ _).drew) (fun hS => ?_)
                refine wpAnyH_take (i := 0) (v := ?_) rfl (by kernel_rfl) (by kernel_rfl) (by kernel_rfl) (fun _ _ _ h => h) (Or.inl ⟨by kernel_rfl, ?_⟩) hS ?_
                rotate_left
                · intro W hW; go_simp; try with_reducible rfl
                refine wpAnyH_take (i := 1) (v := ?_) rfl (by kernel_rfl) (by kernel_rfl) (by kernel_rfl) (fun _ _ _ h => h) (Or.inl ⟨by kernel_rfl, ?_⟩) hS ?_
                rotate_left
                · intro W hW; go_simp; try with_reducible rfl
                refine wpAnyH_take (i := 2) (v := ?_) rfl (by kernel_rfl) (by kernel_rfl) (by kernel_rfl) (fun _ _ _ h => h) (Or.inl ⟨by kernel_rfl, ?_⟩) hS ?_
                rotate_left
                · intro W hW; go_simp; try with_reducible rfl
                refine wpAnyH_take (i := 3) (v := ?_) rfl (by kernel_rfl) (by kernel_rfl) (by kernel_rfl) (fun _ _ _ h => h) (Or.inl ⟨by kernel_rfl, ?_⟩) hS ?_
                rotate_left
                · intro W hW; go_simp; try with_reducible rfl
                refine wpAnyH_take (i := 4) (v := ?_) rfl (by kernel_rfl) (by kernel_rfl) (by kernel_rfl) (fun _ _ _ h => h) (Or.inl ⟨by kernel_rfl, ?_⟩) hS ?_
                rotate_left
                · intro W hW; go_simp; try with_reducible rfl
                refine wpAnyH_take (i := 5) (v := ?_) rfl (by kernel_rfl) (by kernel_rfl) (by kernel_rfl) (fun _ _ _ h => h) (Or.inl ⟨by kernel_rfl, ?_⟩) hS ?_
                rotate_left
                · intro W hW; go_simp; try with_reducible rfl
                refine wpAnyH_take (i := 6) (v := ?_) rfl (by kernel_rfl) (by kernel_rfl) (by kernel_rfl) (fun _ _ _ h => h) (Or.inl ⟨by kernel_rfl, ?_⟩) hS ?_
                rotate_left
                · intro W hW; go_simp; try with_reducible rfl
                refine wpAnyH_take (i := 7) (v := ?_) rfl (by kernel_rfl) (by kernel_rfl) (by kernel_rfl) (fun _ _ _ h => h) (Or.inl ⟨by kernel_rfl, ?_⟩) hS ?_
                rotate_left
                · intro W hW; go_simp; try with_reducible rfl
                refine wpAnyH_take (i := 8) (v := ?_) rfl (by kernel_rfl) (by kernel_rfl) (by kernel_rfl) (fun _ _ _ h => h) (Or.inl ⟨by kernel_rfl, ?_⟩) hS ?_
                rotate_left
                · intro W hW; go_simp; try with_reducible rfl
                refine wpAnyH_take (i := 9) (v := ?_) rfl (by kernel_rfl) (by kernel_rfl) (by kernel_rfl) (fun _ _ _ h => h) (Or.inl ⟨by kernel_rfl, ?_⟩) hS ?_
                rotate_left
                · intro W hW; obtain ⟨p0, p1, p2, p3⟩ := HLW.out W hW; go_simp; try with_reducible rfl
                refine wpAnyH_take (i := 10) (v := ?_) rfl (by kernel_rfl) (by kernel_rfl) (by kernel_rfl) (fun _ _ _ h => h) (Or.inl ⟨by kernel_rfl, ?_⟩) hS ?_
                rotate_left
                · intro W hW; go_simp; try with_reducible rfl
                refine wpAnyH_take (i := 11) (v := ?_) rfl (by kernel_rfl) (by kernel_rfl) (by kernel_rfl) (fun _ _ _ h => h) (Or.inl ⟨by kernel_rfl, ?_⟩) hS ?_
                rotate_left
                · intro W hW; go_simp; try with_reducible rfl
                refine wpAnyH_take (i := 12) (v := ?_) rfl (by kernel_rfl) (by kernel_rfl) (by kernel_rfl) (fun _ _ _ h => h) (Or.inl ⟨by kernel_rfl, ?_⟩) hS ?_
                rotate_left
                · intro W hW; obtain ⟨p0, p1, p2, p3⟩ := HLW.out W hW; go_simp; try with_reducible rfl
                refine wpAnyH_take (i := 13) (v := ?_) rfl (by kernel_rfl) (by kernel_rfl) (by kernel_rfl) (fun _ _ _ h => h) (Or.inl ⟨by kernel_rfl, ?_⟩) hS ?_
                rotate_left
                · intro W hW; go_simp; try with_reducible rfl
                refine wpAnyH_take (i := 14) (v := ?_) rfl (by kernel_rfl) (by kernel_rfl) (by kernel_rfl) (fun _ _ _ h => h) (Or.inl ⟨by kernel_rfl, ?_⟩) hS ?_
                rotate_left
                · intro W hW; go_simp; try with_reducible rfl
                refine wpAnyH_take (i := 15) (v := ?_) rfl (by kernel_rfl) (by kernel_rfl) (by kernel_rfl) (fun _ _ _ h => h) (Or.inl ⟨by kernel_rfl, ?_⟩) hS ?_
                rotate_left
                · intro W hW; obtain ⟨p0, p1, p2, p3⟩ := HLW.out W hW; go_simp; try with_reducible rfl
                refine wpAnyH_ready (rs := [16]) (by kernel_rfl) (by simp) ?_
                refine AllReadyH.cons (i := 16) rfl ?_ AllReadyH.nil
                intro K hK
                go_simp
                refine (ER5.out _).mono ?_
                rintro e w7 ⟨rfl, rfl⟩
                go_simp
                refine hK.out _ _ ?_ (fun hN => ?_)
                · first | exact hT | exact hS | exact hS.alloc hS.size _ | exact hS.drew
                clear hK K
                try clear hT
                clear hS
                have hS := hN
                clear hN
                refine wpAnyH_take (i := 17) (v := ?_) rfl (by kernel_rfl) (by kernel_rfl) (by kernel_rfl) (fun _ _ _ h => h) (Or.inl ⟨by kernel_rfl, ?_⟩) hS ?_
                rotate_left
                · intro W hW; go_simp; try with_reducible rfl
                refine wpAnyH_take (i := 18) (v := ?_) rfl (by kernel_rfl) (by kernel_rfl) (by kernel_rfl) (fun _ _ _ h => h) (Or.inl ⟨by kernel_rfl, ?_⟩) hS ?_
                rotate_left
                · intro W hW; go_simp; try with_reducible rfl
                refine wpAnyH_take (i := 19) (v := ?_) rfl (by kernel_rfl) (by kernel_rfl) (by kernel_rfl) (fun _ _ _ h => h) (Or.inl ⟨by kernel_rfl, ?_⟩) hS ?_
                rotate_left
                · intro W hW; go_simp; try with_reducible rfl
                refine wpAnyH_take (i := 20) (v := ?_) rfl (by kernel_rfl) (by kernel_rfl) (by kernel_rfl) (fun _ _ _ h => h) (Or.inl ⟨by kernel_rfl, ?_⟩) hS ?_
                rotate_left
                · intro W hW; go_simp; try with_reducible rfl
                refine wpAnyH_take (i := 21) (v := ?_) rfl (by kernel_rfl) (by kernel_rfl) (by kernel_rfl) (fun _ _ _ h => h) (Or.inl ⟨by kernel_rfl, ?_⟩) hS ?_
                rotate_left
                · intro W hW; obtain ⟨p0, p1, p2, p3⟩ := HLW.out W hW; go_simp; try with_reducible rfl
                refine wpAnyH_take (i := 22) (v := ?_) rfl (by kernel_rfl) (by kernel_rfl) (by kernel_rfl) (fun _ _ _ h => h) (Or.inl ⟨by kernel_rfl, ?_⟩) hS ?_
                rotate_left
                · intro W hW; go_simp; try with_reducible rfl
                refine wpAnyH_take (i := 23) (v := ?_) rfl (by kernel_rfl) (by kernel_rfl) (by kernel_rfl) (fun _ _ _ h => h) (Or.inl ⟨by kernel_rfl, ?_⟩) hS ?_
                rotate_left
                · intro W hW; go_simp; try with_reducible rfl
                refine wpAnyH_take (i := 24) (v := ?_) rfl (by kernel_rfl) (by kernel_rfl) (by kernel_rfl) (fun _ _ _ h => h) (Or.inl ⟨by kernel_rfl, ?_⟩) hS ?_
                rotate_left
                · intro W hW; go_simp; try with_reducible rfl
                refine wpAnyH_take (i := 25) (v := ?_) rfl (by kernel_rfl) (by kernel_rfl) (by kernel_rfl) (fun _ _ _ h => h) (Or.inl ⟨by kernel_rfl, ?_⟩) hS ?_
                rotate_left
                · intro W hW; go_simp; try with_reducible rfl
                refine wpAnyH_done (by kernel_rfl) ?_ _
                have HH := Lib.hid hS
                clear hS
                go_simp
                go_wp2_with fail
                go_meet
                exact ⟨by rw [HBX.out, HQB.out]; rfl, HH.out⟩
            · have y0 : ((c5 : Int) == 0) = false := by rw [beq_eq_false_iff_ne]; omega
              have HBX := Lib.hid (show b2 = false from by rw [← HB2.out, decide_eq_false h24, decide_eq_false h0]; rfl)
              clear h0 h24
              refine wp_region_held_drew (S := fun W => Below w9.heap.size w9 W) (by kernel_rfl) ((Below.refl _ _).drew) (fun hS => ?_)
              refine wpAnyH_take (i := 0) (v := ?_) rfl (by kernel_rfl) (by kernel_rfl) (by kernel_rfl) (fun _ _ _ h => h) (Or.inl ⟨by kernel_rfl, ?_⟩) hS ?_
              rotate_left
              · intro W hW; go_simp; try with_reducible rfl
              refine wpAnyH_take (i := 1) (v := ?_) rfl (by kernel_rfl) (by kernel_rfl) (by kernel_rfl) (fun _ _ _ h => h) (Or.inl ⟨by kernel_rfl, ?_⟩) hS ?_
              rotate_left
              · intro W hW; go_simp; try with_reducible rfl
              refine wpAnyH_take (i := 2) (v := ?_) rfl (by kernel_rfl) (by kernel_rfl) (by kernel_rfl) (fun _ _ _ h => h) (Or.inl ⟨by kernel_rfl, ?_⟩) hS ?_
              rotate_left
              · intro W hW; go_simp; try with_reducible rfl
              refine wpAnyH_take (i := 3) (v := ?_) rfl (by kernel_rfl) (by kernel_rfl) (by kernel_rfl) (fun _ _ _ h => h) (Or.inl ⟨by kernel_rfl, ?_⟩) hS ?_
              rotate_left
              · intro W hW; go_simp; try with_reducible rfl
              refine wpAnyH_take (i := 4) (v := ?_) rfl (by kernel_rfl) (by kernel_rfl) (by kernel_rfl) (fun _ _ _ h => h) (Or.inl ⟨by kernel_rfl, ?_⟩) hS ?_
              rotate_left
              · intro W hW; go_simp; try with_reducible rfl
              refine wpAnyH_take (i := 5) (v := ?_) rfl (by kernel_rfl) (by kernel_rfl) (by kernel_rfl) (fun _ _ _ h => h) (Or.inl ⟨by kernel_rfl, ?_⟩) hS ?_
              rotate_left
              · intro W hW; go_simp; try with_reducible rfl
              refine wpAnyH_take (i := 6) (v := ?_) rfl (by kernel_rfl) (by kernel_rfl) (by kernel_rfl) (fun _ _ _ h => h) (Or.inl ⟨by kernel_rfl, ?_⟩) hS ?_
              rotate_left
              · intro W hW; go_simp; try with_reducible rfl
              refine wpAnyH_take (i := 7) (v := undef) rfl (by kernel_rfl) (by kernel_rfl) (by kernel_rfl) (fun _ _ _ h => h) (Or.inr ⟨by kernel_rfl, rfl⟩) hS ?_
              refine wpAnyH_take (i := 8) (v := undef) rfl (by kernel_rfl) (by kernel_rfl) (by kernel_rfl) (fun _ _ _ h => h) (Or.inr ⟨by kernel_rfl, rfl⟩) hS ?_
              refine wpAnyH_take (i := 9) (v := undef) rfl (by kernel_rfl) (by kernel_rfl) (by kernel_rfl) (fun _ _ _ h => h) (Or.inr ⟨by kernel_rfl, rfl⟩) hS ?_
              refine wpAnyH_take (i := 10) (v := undef) rfl (by kernel_rfl) (by kernel_rfl) (by kernel_rfl) (fun _ _ _ h => h) (Or.inr ⟨by kernel_rfl, rfl⟩) hS ?_
              refine wpAnyH_take (i := 11) (v := undef) rfl (by kernel_rfl) (by kernel_rfl) (by kernel_rfl) (fun _ _ _ h => h) (Or.inr ⟨by kernel_rfl, rfl⟩) hS ?_
              refine wpAnyH_take (i := 12) (v := undef) rfl (by kernel_rfl) (by kernel_rfl) (by kernel_rfl) (fun _ _ _ h => h) (Or.inr ⟨by kernel_rfl, rfl⟩) hS ?_
              refine wpAnyH_take (i := 13) (v := undef) rfl (by kernel_rfl) (by kernel_rfl) (by kernel_rfl) (fun _ _ _ h => h) (Or.inr ⟨by kernel_rfl, rfl⟩) hS ?_
              refine wpAnyH_take (i := 14) (v := undef) rfl (by kernel_rfl) (by kernel_rfl) (by kernel_rfl) (fun _ _ _ h => h) (Or.inr ⟨by kernel_rfl, rfl⟩) hS ?_
              refine wpAnyH_take (i := 15) (v := undef) rfl (by kernel_rfl) (by kernel_rfl) (by kernel_rfl) (fun _ _ _ h => h) (Or.inr ⟨by kernel_rfl, rfl⟩) hS ?_
              refine wpAnyH_take (i := 16) (v := undef) rfl (by kernel_rfl) (by kernel_rfl) (by kernel_rfl) (fun _ _ _ h => h) (Or.inr ⟨by kernel_rfl, rfl⟩) hS ?_
              refine wpAnyH_take (i := 17) (v := undef) rfl (by kernel_rfl) (by kernel_rfl) (by kernel_rfl) (fun _ _ _ h => h) (Or.inr ⟨by kernel_rfl, rfl⟩) hS ?_
              refine wpAnyH_take (i := 18) (v := undef) rfl (by kernel_rfl) (by kernel_rfl) (by kernel_rfl) (fun _ _ _ h => h) (Or.inr ⟨by kernel_rfl, rfl⟩) hS ?_
              refine wpAnyH_take (i := 19) (v := undef) rfl (by kernel_rfl) (by kernel_rfl) (by kernel_rfl) (fun _ _ _ h => h) (Or.inr ⟨by kernel_rfl, rfl⟩) hS ?_
              refine wpAnyH_take (i := 20) (v := undef) rfl (by kernel_rfl) (by kernel_rfl) (by kernel_rfl) (fun _ _ _ h => h) (Or.inr ⟨by kernel_rfl, rfl⟩) hS ?_
              refine wpAnyH_take (i := 21) (v := undef) rfl (by kernel_rfl) (by kernel_rfl) (by kernel_rfl) (fun _ _ _ h => h) (Or.inr ⟨by kernel_rfl, rfl⟩) hS ?_
              refine wpAnyH_take (i := 22) (v := undef) rfl (by kernel_rfl) (by kernel_rfl) (by kernel_rfl) (fun _ _ _ h => h) (Or.inr ⟨by kernel_rfl, rfl⟩) hS ?_
              refine wpAnyH_take (i := 23) (v := undef) rfl (by kernel_rfl) (by kernel_rfl) (by kernel_rfl) (fun _ _ _ h => h) (Or.inr ⟨by kernel_rfl, rfl⟩) hS ?_
              refine wpAnyH_take (i := 24) (v := ?_) rfl (by kernel_rfl) (by kernel_rfl) (by kernel_rfl) (fun _ _ _ h => h) (Or.inl ⟨by kernel_rfl, ?_⟩) hS ?_
              rotate_left
              · intro W hW; go_simp; try with_reducible rfl
              refine wpAnyH_take (i := 25) (v := ?_) rfl (by kernel_rfl) (by kernel_rfl) (by kernel_rfl) (fun _ _ _ h => h) (Or.inl ⟨by kernel_rfl, ?_⟩) hS ?_
              rotate_left
              · intro W hW; go_simp; try with_reducible rfl
              refine wpAnyH_done (by kernel_rfl) ?_ _
              have HH := Lib.hid hS
              clear hS
              go_simp
              go_wp2_with fail
              go_meet
              exact ⟨by rw [HBX.out], HH.out⟩
        case rest =>
          obtain ⟨rfl, hB⟩ := hcut
          have HB10 := Lib.hid hB
          clear hB
          obtain ⟨wx, rfl⟩ : ∃ wx : World, wx = wc := ⟨_, rfl⟩
          go_upto_if 104 with fail
          go_cut [6] (fun sv wy => sv = .int .i64 (mf : Int) ∧ wy = wx)
          case first =>
            cases b2 with
            | true =>
              go_wp2_with fail
              go_meet
              exact ⟨by rw [HMF.out]; rfl, rfl⟩
            | false =>
              go_wp2_with fail
              go_meet
              exact ⟨by rw [HMF.out]; rfl, rfl⟩
          case rest =>
            obtain ⟨rfl, rfl⟩ := hcut
            have HBF := Lib.hid (HB9.out.trans (HB10.out.mono HB9.out.size))
            have HPF := Lib.hid (HP9.out.below HB10.out HP9.out.lt)
            have EC := Lib.hid fun (W : World) => code_c mf W (by have h1 := HMF.out; have h2 := HCL5.out; split at h1 <;> omega)
            by_cases h0 : mf = 0
            · have z1 : ((mf : Int) != 0) = false := by rw [h0]; rfl
              have h24 : ¬ 24 < n := fun h => by have := HMAN.out; rw [if_pos h] at this; simp only [Prod.mk.injEq] at this; omega
              have hc0 : c5 = 0 := Classical.byContradiction fun h => by have := HMAN.out; rw [if_neg h24, if_pos h] at this; simp only [Prod.mk.injEq] at this; omega
              have hqr : q ≤ 1 ∧ rb5 = true := Classical.byContradiction fun h => by have := HMAN.out; rw [if_neg h24, if_neg (not_not_intro hc0), if_neg h] at this; simp only [Prod.mk.injEq] at this; omega
              have hman := HMAN.out
              rw [if_neg h24, if_neg (not_not_intro hc0), if_pos hqr] at hman
              simp only [Prod.mk.injEq] at hman
              obtain ⟨rfl, rfl, rfl, hms, -⟩ := hman
              have hqz : ((q : Int) == 1) = ms := by rw [hms, Bool.eq_iff_iff, beq_iff_eq, decide_eq_true_eq]; omega
              obtain ⟨hm5, -⟩ := HD5.out hc0
              subst hm5
              obtain ⟨b, off, rfl, hbl, hl1, hl2, hl3, hl4⟩ := HCELL5.out hc0
              have HLW := Lib.hid fun (W : World) (B : Below w9.heap.size w9 W) => And.intro ((B.cell (p := ⟨b, off + 1, none⟩) hbl).trans hl1) (And.intro ((B.cell (p := ⟨b, off + 2, none⟩) hbl).trans hl2) (And.intro ((B.cell (p := ⟨b, off + 3, none⟩) hbl).trans hl3) ((B.cell (p := ⟨b, off + 4, none⟩) hbl).trans hl4)))
              clear h24 hc0 hqr hms h0 hbl hl1 hl2 hl3 hl4
              go_wp2_with fail
              refine (EC.out _).mono ?_
              rintro e w11 ⟨rfl, rfl⟩
              go_upto_region 19 with fail
              refine wp_region_held_drew (S := fun W => Below wc.heap.size wc W) (by kernel_rfl) ((Below.refl _ _).drew) (fun hS => ?_)
              refine wpAnyH_take (i := 0) (v := ?_) rfl (by kernel_rfl) (by kernel_rfl) (by kernel_rfl) (fun _ _ _ h => h) (Or.inl ⟨by kernel_rfl, ?_⟩) hS ?_
              rotate_left
              · intro W hW; go_simp; try with_reducible rfl
              refine wpAnyH_take (i := 1) (v := ?_) rfl (by kernel_rfl) (by kernel_rfl) (by kernel_rfl) (fun _ _ _ h => h) (Or.inl ⟨by kernel_rfl, ?_⟩) hS ?_
              rotate_left
              · intro W hW; obtain ⟨p0, p1, p2, p3⟩ := HLW.out W (HB10.out.trans (hW.mono HB10.out.size)); obtain ⟨⟨q0, q1, q2, q3⟩, -, -, -, -⟩ := (HPF.out.below hW HPF.out.lt).fourM; go_simp; try with_reducible rfl
              refine wpAnyH_take (i := 2) (v := ?_) rfl (by kernel_rfl) (by kernel_rfl) (by kernel_rfl) (fun _ _ _ h => h) (Or.inl ⟨by kernel_rfl, ?_⟩) hS ?_
              rotate_left
              · intro W hW; go_simp; try with_reducible rfl
              refine wpAnyH_take (i := 3) (v := ?_) rfl (by kernel_rfl) (by kernel_rfl) (by kernel_rfl) (fun _ _ _ h => h) (Or.inl ⟨by kernel_rfl, ?_⟩) hS ?_
              rotate_left
              · intro W hW; go_simp; try with_reducible rfl
              refine wpAnyH_take (i := 4) (v := ?_) rfl (by kernel_rfl) (by kernel_rfl) (by kernel_rfl) (fun _ _ _ h => h) (Or.inl ⟨by kernel_rfl, ?_⟩) hS ?_
              rotate_left
              · intro W hW; obtain ⟨p0, p1, p2, p3⟩ := HLW.out W (HB10.out.trans (hW.mono HB10.out.size)); obtain ⟨⟨q0, q1, q2, q3⟩, -, -, -, -⟩ := (HPF.out.below hW HPF.out.lt).fourM; go_simp; try with_reducible rfl
              refine wpAnyH_take (i := 5) (v := ?_) rfl (by kernel_rfl) (by kernel_rfl) (by kernel_rfl) (fun _ _ _ h => h) (Or.inl ⟨by kernel_rfl, ?_⟩) hS ?_
              rotate_left
              · intro W hW; go_simp; try with_reducible rfl
              refine wpAnyH_take (i := 6) (v := ?_) rfl (by kernel_rfl) (by kernel_rfl) (by kernel_rfl) (fun _ _ _ h => h) (Or.inl ⟨by kernel_rfl, ?_⟩) hS ?_
              rotate_left
              · intro W hW; go_simp; try with_reducible rfl
              refine wpAnyH_take (i := 7) (v := ?_) rfl (by kernel_rfl) (by kernel_rfl) (by kernel_rfl) (fun _ _ _ h => h) (Or.inl ⟨by kernel_rfl, ?_⟩) hS ?_
              rotate_left
              · intro W hW; go_simp; try with_reducible rfl
              refine wpAnyH_take (i := 8) (v := ?_) rfl (by kernel_rfl) (by kernel_rfl) (by kernel_rfl) (fun _ _ _ h => h) (Or.inl ⟨by kernel_rfl, ?_⟩) hS ?_
              rotate_left
              · intro W hW; obtain ⟨p0, p1, p2, p3⟩ := HLW.out W (HB10.out.trans (hW.mono HB10.out.size)); obtain ⟨⟨q0, q1, q2, q3⟩, -, -, -, -⟩ := (HPF.out.below hW HPF.out.lt).fourM; go_simp; try with_reducible rfl
              refine wpAnyH_take (i := 9) (v := ?_) rfl (by kernel_rfl) (by kernel_rfl) (by kernel_rfl) (fun _ _ _ h => h) (Or.inl ⟨by kernel_rfl, ?_⟩) hS ?_
              rotate_left
              · intro W hW; go_simp; try with_reducible rfl
              refine wpAnyH_take (i := 10) (v := ?_) rfl (by kernel_rfl) (by kernel_rfl) (by kernel_rfl) (fun _ _ _ h => h) (Or.inl ⟨by kernel_rfl, ?_⟩) hS ?_
              rotate_left
              · intro W hW; go_simp; try with_reducible rfl
              refine wpAnyH_take (i := 11) (v := ?_) rfl (by kernel_rfl) (by kernel_rfl) (by kernel_rfl) (fun _ _ _ h => h) (Or.inl ⟨by kernel_rfl, ?_⟩) hS ?_
              rotate_left
              · intro W hW; obtain ⟨p0, p1, p2, p3⟩ := HLW.out W (HB10.out.trans (hW.mono HB10.out.size)); obtain ⟨⟨q0, q1, q2, q3⟩, -, -, -, -⟩ := (HPF.out.below hW HPF.out.lt).fourM; go_simp; try with_reducible rfl
              refine wpAnyH_take (i := 12) (v := ?_) rfl (by kernel_rfl) (by kernel_rfl) (by kernel_rfl) (fun _ _ _ h => h) (Or.inl ⟨by kernel_rfl, ?_⟩) hS ?_
              rotate_left
              · intro W hW; go_simp; try with_reducible rfl
              refine wpAnyH_take (i := 13) (v := ?_) rfl (by kernel_rfl) (by kernel_rfl) (by kernel_rfl) (fun _ _ _ h => h) (Or.inl ⟨by kernel_rfl, ?_⟩) hS ?_
              rotate_left
              · intro W hW; go_simp; try with_reducible rfl
              refine wpAnyH_take (i := 14) (v := ?_) rfl (by kernel_rfl) (by kernel_rfl) (by kernel_rfl) (fun _ _ _ h => h) (Or.inl ⟨by kernel_rfl, ?_⟩) hS ?_
              rotate_left
              · intro W hW; go_simp; try with_reducible rfl
              refine wpAnyH_take (i := 15) (v := ?_) rfl (by kernel_rfl) (by kernel_rfl) (by kernel_rfl) (fun _ _ _ h => h) (Or.inl ⟨by kernel_rfl, ?_⟩) hS ?_
              rotate_left
              · intro W hW; go_simp; try with_reducible rfl
              refine wpAnyH_take (i := 16) (v := ?_) rfl (by kernel_rfl) (by kernel_rfl) (by kernel_rfl) (fun _ _ _ h => h) (Or.inl ⟨by kernel_rfl, ?_⟩) hS ?_
              rotate_left
              · intro W hW; obtain ⟨p0, p1, p2, p3⟩ := HLW.out W (HB10.out.trans (hW.mono HB10.out.size)); obtain ⟨⟨q0, q1, q2, q3⟩, -, -, -, -⟩ := (HPF.out.below hW HPF.out.lt).fourM; go_simp; try with_reducible rfl
              refine wpAnyH_take (i := 17) (v := ?_) rfl (by kernel_rfl) (by kernel_rfl) (by kernel_rfl) (fun _ _ _ h => h) (Or.inl ⟨by kernel_rfl, ?_⟩) hS ?_
              rotate_left
              · intro W hW; go_simp; try with_reducible rfl
              refine wpAnyH_take (i := 18) (v := ?_) rfl (by kernel_rfl) (by kernel_rfl) (by kernel_rfl) (fun _ _ _ h => h) (Or.inl ⟨by kernel_rfl, ?_⟩) hS ?_
              rotate_left
              · intro W hW; go_simp; try with_reducible rfl
              refine wpAnyH_take (i := 19) (v := ?_) rfl (by kernel_rfl) (by kernel_rfl) (by kernel_rfl) (fun _ _ _ h => h) (Or.inl ⟨by kernel_rfl, ?_⟩) hS ?_
              rotate_left
              · intro W hW; obtain ⟨p0, p1, p2, p3⟩ := HLW.out W (HB10.out.trans (hW.mono HB10.out.size)); obtain ⟨⟨q0, q1, q2, q3⟩, -, -, -, -⟩ := (HPF.out.below hW HPF.out.lt).fourM; go_simp; try with_reducible rfl
              refine wpAnyH_take (i := 20) (v := ?_) rfl (by kernel_rfl) (by kernel_rfl) (by kernel_rfl) (fun _ _ _ h => h) (Or.inl ⟨by kernel_rfl, ?_⟩) hS ?_
              rotate_left
              · intro W hW; go_simp; try with_reducible rfl
              refine wpAnyH_take (i := 21) (v := ?_) rfl (by kernel_rfl) (by kernel_rfl) (by kernel_rfl) (fun _ _ _ h => h) (Or.inl ⟨by kernel_rfl, ?_⟩) hS ?_
              rotate_left
              · intro W hW; go_simp; try with_reducible rfl
              refine wpAnyH_take (i := 22) (v := ?_) rfl (by kernel_rfl) (by kernel_rfl) (by kernel_rfl) (fun _ _ _ h => h) (Or.inl ⟨by kernel_rfl, ?_⟩) hS ?_
              rotate_left
              · intro W hW; go_simp; try with_reducible rfl
              refine wpAnyH_take (i := 23) (v := ?_) rfl (by kernel_rfl) (by kernel_rfl) (by kernel_rfl) (fun _ _ _ h => h) (Or.inl ⟨by kernel_rfl, ?_⟩) hS ?_
              rotate_left
              · intro W hW; go_simp; try with_reducible rfl
              refine wpAnyH_take (i := 24) (v := ?_) rfl (by kernel_rfl) (by kernel_rfl) (by kernel_rfl) (fun _ _ _ h => h) (Or.inl ⟨by kernel_rfl, ?_⟩) hS ?_
              rotate_left
              · intro W hW; obtain ⟨p0, p1, p2, p3⟩ := HLW.out W (HB10.out.trans (hW.mono HB10.out.size)); obtain ⟨⟨q0, q1, q2, q3⟩, -, -, -, -⟩ := (HPF.out.below hW HPF.out.lt).fourM; go_simp; try with_reducible rfl
              refine wpAnyH_take (i := 25) (v := ?_) rfl (by kernel_rfl) (by kernel_rfl) (by kernel_rfl) (fun _ _ _ h => h) (Or.inl ⟨by kernel_rfl, ?_⟩) hS ?_
              rotate_left
              · intro W hW; go_simp; try with_reducible rfl
              refine wpAnyH_take (i := 26) (v := ?_) rfl (by kernel_rfl) (by kernel_rfl) (by kernel_rfl) (fun _ _ _ h => h) (Or.inl ⟨by kernel_rfl, ?_⟩) hS ?_
              rotate_left
              · intro W hW; go_simp; try with_reducible rfl
              refine wpAnyH_take (i := 27) (v := ?_) rfl (by kernel_rfl) (by kernel_rfl) (by kernel_rfl) (fun _ _ _ h => h) (Or.inl ⟨by kernel_rfl, ?_⟩) hS ?_
              rotate_left
              · intro W hW; obtain ⟨p0, p1, p2, p3⟩ := HLW.out W (HB10.out.trans (hW.mono HB10.out.size)); obtain ⟨⟨q0, q1, q2, q3⟩, -, -, -, -⟩ := (HPF.out.below hW HPF.out.lt).fourM; go_simp; try with_reducible rfl
              refine wpAnyH_take (i := 28) (v := ?_) rfl (by kernel_rfl) (by kernel_rfl) (by kernel_rfl) (fun _ _ _ h => h) (Or.inl ⟨by kernel_rfl, ?_⟩) hS ?_
              rotate_left
              · intro W hW; go_simp; try with_reducible rfl
              refine wpAnyH_take (i := 29) (v := ?_) rfl (by kernel_rfl) (by kernel_rfl) (by kernel_rfl) (fun _ _ _ h => h) (Or.inl ⟨by kernel_rfl, ?_⟩) hS ?_
              rotate_left
              · intro W hW; go_simp; try with_reducible rfl
              refine wpAnyH_take (i := 30) (v := ?_) rfl (by kernel_rfl) (by kernel_rfl) (by kernel_rfl) (fun _ _ _ h => h) (Or.inl ⟨by kernel_rfl, ?_⟩) hS ?_
              rotate_left
              · intro W hW; go_simp; try with_reducible rfl
              refine wpAnyH_take (i := 31) (v := ?_) rfl (by kernel_rfl) (by kernel_rfl) (by kernel_rfl) (fun _ _ _ h => h) (Or.inl ⟨by kernel_rfl, ?_⟩) hS ?_
              rotate_left
              · intro W hW; go_simp; try with_reducible rfl
              refine wpAnyH_done (by kernel_rfl) ?_ _
              have HH := Lib.hid (HBF.out.trans (hS.mono HBF.out.size))
              clear hS
              go_simp
              go_wp2_with fail
              go_ret
              exact ⟨rfl, HH.out⟩
            · have z1 : ((mf : Int) != 0) = true := by rw [bne_iff_ne]; omega
              have hzero : mv = 0 ∧ mg = 0 ∧ mu = 0 ∧ ms = false := by
                have hman := HMAN.out
                split at hman
                · simp only [Prod.mk.injEq] at hman; exact ⟨hman.1, hman.2.1, hman.2.2.1, hman.2.2.2.1⟩
                · split at hman
                  · simp only [Prod.mk.injEq] at hman; exact ⟨hman.1, hman.2.1, hman.2.2.1, hman.2.2.2.1⟩
                  · split at hman
                    · simp only [Prod.mk.injEq] at hman; omega
                    · simp only [Prod.mk.injEq] at hman; exact ⟨hman.1, hman.2.1, hman.2.2.1, hman.2.2.2.1⟩
              obtain ⟨rfl, rfl, rfl, rfl⟩ := hzero
              obtain ⟨⟨q0, q1, q2, q3⟩, -, -, -, -⟩ := HPF.out.fourM
              have heq := fun W => man_eql0 W
              clear h0
              go_wp2_with fail
              refine (EC.out _).mono ?_
              rintro e w11 ⟨rfl, rfl⟩
              go_wp2_with fail
              go_ret
              exact ⟨rfl, HBF.out⟩
end Go.Proofs.YtcdlmpiihcopaaaDoor
