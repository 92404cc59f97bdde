/-
  wire.Read: the message of any bytes.
-/
import Derived.Test.YtpkfjnhjcdcoaaaWir
import Derived.Test.YtpkfjnhjcdcoaaaNdlRefGet
import Derived.Test.YtpkfjnhjcdcoaaaMsgChk
namespace Go.Proofs.Ytpkfjnhjcdcoaaa
open Go.RowKit
set_option linter.unusedVariables false

theorem put_four {w : World} {B : Nat} {T : TypeId} {v0 v1 v2 v3 v4 v5 v6 v7 v8 v9 v10 v11 u8 u9 u10 u11 : Value} (h : Blk w B T #[v0, v1, v2, v3, v4, v5, v6, v7, v8, v9, v10, v11]) :
    Blk ((((w.setCell ⟨B, 8, none⟩ u8).setCell ⟨B, 9, none⟩ u9).setCell ⟨B, 10, none⟩ u10).setCell ⟨B, 11, none⟩ u11) B T #[v0, v1, v2, v3, v4, v5, v6, v7, u8, u9, u10, u11] :=
  (((h.put 8 u8).put 9 u9).put 10 u10).put 11 u11
theorem wgrown_of {w w' : World} {row : Option Nat} (h : Below w.heap.size w w') : w.grownBy w' row := ⟨h.os, h.tape, h.output, h.size, fun k hk _ => h.block k hk⟩
theorem lt256 (b : BitVec 8) : b.toNat < 256 := b.isLt
set_option maxRecDepth 100000 in
set_option maxHeartbeats 8000000 in
theorem wread_any (a : Option Addr) (n c : Nat) (l : List (BitVec 8)) (w : World) (h : BSl w w.heap.size a n l) (hc : n ≤ c) (hn : n ≤ 1099511627776) :
    Calls Try.prog 12 #[.slice a n c] w (MsP l w) := by
  have HL := Lib.hid h.1
  obtain ⟨W0, hW0⟩ : ∃ W0, (w.alloc (.cells #[.slice a n c] 22)).alloc (.cells #[.int .i64 0, .int .i64 0, .int .i64 0, .int .i64 0, .int .i64 0, .int .u64 0, .int .i64 0, .bool false, .int .u64 0, .int .u32 0, .bool false, .slice none 0 0] 29) = W0 := ⟨_, rfl⟩
  have hKb : Blk W0 w.heap.size 22 #[.slice a n c] := by rw [← hW0]; exact (Blk.made w _ _).alloc _
  have hKr : Blk W0 (w.heap.size + 1) 29 #[.int .i64 0, .int .i64 0, .int .i64 0, .int .i64 0, .int .i64 0, .int .u64 0, .int .i64 0, .bool false, .int .u64 0, .int .u32 0, .bool false, .slice none 0 0] := by
    rw [← hW0]
    have := Blk.made (w.alloc (.cells #[.slice a n c] 22)) 29 #[.int .i64 0, .int .i64 0, .int .i64 0, .int .i64 0, .int .i64 0, .int .u64 0, .int .i64 0, .bool false, .int .u64 0, .int .u32 0, .bool false, .slice none 0 0]
    simpa using this
  have BA : Below w.heap.size w W0 := by rw [← hW0]; exact ((Below.refl _ _).alloc (Nat.le_refl _) _).alloc (by simp) _
  have HKb := Lib.hid hKb
  have HKr := Lib.hid hKr
  have HBA := Lib.hid BA
  have c0 := hKb.cell 0
  by_cases hsh : n < 28
  · have HX := Lib.hid (show msGet l = (mNone, 3) from by unfold msGet; rw [if_pos (by rw [HL.out]; exact hsh)])
    have z0 : decide ((n : Int) < 28) = true := decide_eq_true (by omega)
    obtain ⟨k0, k1, k2, k3, k4, k5, k6, k7, k8, k9, k10, k11⟩ := hKr.twelve
    obtain ⟨f0, f1, f2, f3, f4, f5, f6, f7, f8, f9, f10, f11⟩ := hKr.twelve_frozen
    clear h hKb hKr BA
    go_enter Try.func12, Try.ntmps12
    go_upto_region 1 with fail
    clear hW0
    go_wp2_with fail
    exact bodyPost_ret (wread_results (HKr.out.put12 _ _ _ _ _ _ _ _ _ _ _ _) rfl rfl) rfl (msp_bad HX.out (below_put12 HBA.out (Nat.le_succ _) _ _ _ _ _ _ _ _ _ _ _ _))
  have z0 : decide ((n : Int) < 28) = false := decide_eq_false (by omega)
  have HGE := Lib.hid (show 28 ≤ n from by omega)
  have EO := Lib.hid (open_all a n c l W0 ((h.below BA).more BA.size) hc hn)
  clear h hKb hKr BA hsh
  go_enter Try.func12, Try.ntmps12
  go_upto_region 1 with fail
  clear hW0
  go_wp2_with fail
  refine EO.out.mono ?_
  rintro e w1 ⟨av, k, cv, cf, rfl, B1, hkc, hkn, -, lx, ho, hop⟩
  clear EO c0
  have hK1 := HKb.out.below B1 HKb.out.lt
  have c1 : w1.cell? ⟨w.heap.size, 0, none⟩ = some (.slice a n c) := hK1.cell 0
  have f1 := hK1.frozen 0
  have HK2 := Lib.hid (hK1.put 0 (.slice av k cv))
  have HR2 := Lib.hid ((HKr.out.below B1 HKr.out.lt).far (p := ⟨w.heap.size, 0, none⟩) (by show w.heap.size + 1 ≠ w.heap.size; omega) (.slice av k cv))
  have HB2 := Lib.hid ((HBA.out.trans (B1.mono HBA.out.size)).setCell (p := ⟨w.heap.size, 0, none⟩) (Nat.le_refl _) (.slice av k cv))
  have HO2 := Lib.hid (ownsRow_setCell_other ho (a := ⟨w.heap.size, 0, none⟩) (by
    intro e
    have h1 : W0.heap.size ≤ w.heap.size := (ho.lt _ e).1
    have h2 := HKb.out.lt
    omega) (.slice av k cv))
  have hz1 := HKb.out.lt
  have HZ := Lib.hid (show w.heap.size ≤ W0.heap.size from HBA.out.size)
  clear hK1 ho B1 HKb HKr HBA hz1
  have hcf : (cf = 5 ∧ msGet l = (mNone, 5)) ∨ (cf = 0 ∧ k = n - 4 ∧ lx = l.take (n - 4) ∧ msGet l = msIn (l.take (n - 4))) := by
    rcases hop with ⟨h1, -⟩ | ⟨h1, h2, _, h3⟩ | ⟨h1, h2, h3, h4, h5⟩
    · have := HGE.out; omega
    · refine .inl ⟨h3, ?_⟩
      unfold msGet
      rw [HL.out, if_neg (by have := HGE.out; omega), if_pos h2]
    · refine .inr ⟨h4, h3, h5, ?_⟩
      unfold msGet
      rw [HL.out, if_neg (by have := HGE.out; omega), if_neg (not_not_intro h2)]
  clear hop
  rcases hcf with ⟨rfl, hcf⟩ | ⟨rfl, hk, hlx, hcf⟩
  · have HX := Lib.hid hcf
    clear hcf
    rw [show errc 5 = er 5 from rfl]
    go_upto_region 5 with fail
    generalize (w1.setCell ⟨w.heap.size, 0, none⟩ (.slice av k cv)) = W2 at *
    clear c1 f1
    obtain ⟨k0, k1, k2, k3, k4, k5, k6, k7, k8, k9, k10, k11⟩ := HR2.out.twelve
    obtain ⟨f0, f1, f2, f3, f4, f5, f6, f7, f8, f9, f10, f11⟩ := HR2.out.twelve_frozen
    go_wp2_with fail
    exact bodyPost_ret (wread_results (HR2.out.put12 _ _ _ _ _ _ _ _ _ _ _ _) rfl rfl) rfl (msp_bad (cf := 5) HX.out (below_put12 HB2.out (Nat.le_succ _) _ _ _ _ _ _ _ _ _ _ _ _))
  rw [show errc 0 = Value.nilIface from rfl]
  have HX := Lib.hid hcf
  have hk24 : (24 : Int) ≤ (k : Int) := by have := HGE.out; omega
  have HK24 := Lib.hid (show 24 ≤ k ∧ k ≤ 1099511627776 ∧ lx.length = k from ⟨by omega, by omega, by rw [hlx, List.length_take, HL.out]; omega⟩)
  rw [← hlx] at HX
  clear hcf hk hlx hkn HL
  obtain ⟨g, cap, cur, he, hgb, hgg⟩ := HO2.out.2.resolve_left (fun q => by have := HK24.out; omega)
  cases he
  go_upto_region 7 with fail
  generalize (w1.setCell ⟨w.heap.size, 0, none⟩ (.slice (some ⟨g, 0, none⟩) k cv)) = W2 at *
  clear c1 f1
  have hgl : g < W2.heap.size := by simpa using (HO2.out.lt g rfl).2
  clear hgg
  obtain ⟨p0, p1, p2, p3⟩ : W2.cell? ⟨g, 0, none⟩ = some (.int .u8 ((lx.getD 0 0#8).toNat : Int)) ∧ W2.cell? ⟨g, 1, none⟩ = some (.int .u8 ((lx.getD 1 0#8).toNat : Int)) ∧ W2.cell? ⟨g, 2, none⟩ = some (.int .u8 ((lx.getD 2 0#8).toNat : Int)) ∧ W2.cell? ⟨g, 3, none⟩ = some (.int .u8 ((lx.getD 3 0#8).toNat : Int)) := by
    obtain ⟨b, off, e, hb, hcl⟩ := (bsl_own HO2.out).2 (by have := HK24.out; omega)
    injection e with e
    injection e with e1 e2 e3
    subst e1 e2
    have q0 := hcl 0 (by have := HK24.out; omega)
    have q1 := hcl 1 (by have := HK24.out; omega)
    have q2 := hcl 2 (by have := HK24.out; omega)
    have q3 := hcl 3 (by have := HK24.out; omega)
    rw [Nat.zero_add] at q0 q1 q2 q3
    exact ⟨q0, q1, q2, q3⟩
  have HHD := Lib.hid (show msHead lx = _ from rfl)
  have HIN := Lib.hid (show msIn lx = _ from rfl)
  have G := fun (p k' : Nat) (hk : isSize (k' : Int) = true) (hp : p + k' ≤ k) (W : World) (B : Below W2.heap.size W2 W) => wget1_any (some ⟨g, 0, none⟩) k cv lx w.heap.size p k' W ((HK2.out.below B HK2.out.lt).cell 0) (((bsl_own HO2.out).below B).more B.size) hkc (by have := HK24.out; omega) hk hp
  have G4 := Lib.hid (G 4 4 rfl (by omega))
  have G8 := Lib.hid (G 8 4 rfl (by omega))
  have G12 := Lib.hid (G 12 8 rfl (by omega))
  have G20 := Lib.hid (G 20 4 rfl (by omega))
  have y4 := nums_lt lx 4 4
  have y8 := nums_lt lx 8 4
  have y12 := nums_lt lx 12 8
  have y20 := nums_lt lx 20 4
  have yb0 := lt256 (lx.getD 0 0#8)
  have yb1 := lt256 (lx.getD 1 0#8)
  have yb2 := lt256 (lx.getD 2 0#8)
  have yb3 := lt256 (lx.getD 3 0#8)
  have HC := Lib.hid fun (W : World) (B : Below W2.heap.size W2 W) => And.intro ((HK2.out.below B HK2.out.lt).cell 0) (And.intro ((B.cell (p := ⟨g, 0, none⟩) hgl).trans p0) (And.intro ((B.cell (p := ⟨g, 1, none⟩) hgl).trans p1) (And.intro ((B.cell (p := ⟨g, 2, none⟩) hgl).trans p2) ((B.cell (p := ⟨g, 3, none⟩) hgl).trans p3))))
  clear G p0 p1 p2 p3
  have HV := Lib.hid (show msHead lx = ⟨((lx.getD 0 0#8).toNat : Int), ((lx.getD 1 0#8).toNat : Int), ((lx.getD 2 0#8).toNat : Int), (nums lx 4 4 : Int), (nums lx 8 4 : Int), nums lx 12 8, ((lx.getD 3 0#8).toNat : Int), false, 0, 0, false, none, 0, 0, []⟩ from rfl)
  have HF := Lib.hid (show nums lx 20 4 = nums lx 20 4 from rfl)
  generalize (lx.getD 0 0#8).toNat = b0 at *
  generalize (lx.getD 1 0#8).toNat = b1 at *
  generalize (lx.getD 2 0#8).toNat = b2 at *
  generalize (lx.getD 3 0#8).toNat = b3 at *
  generalize nums lx 4 4 = v at *
  generalize nums lx 8 4 = y at *
  generalize nums lx 12 8 = d at *
  have HW0 := Lib.hid (show IntKind.i64.wrap (b0 : Int) = b0 from IntWalk.i64_in _ (by omega))
  have HW1 := Lib.hid (show IntKind.i64.wrap (b1 : Int) = b1 from IntWalk.i64_in _ (by omega))
  have HW2 := Lib.hid (show IntKind.i64.wrap (b2 : Int) = b2 from IntWalk.i64_in _ (by omega))
  have HW3 := Lib.hid (show IntKind.i64.wrap (b3 : Int) = b3 from IntWalk.i64_in _ (by omega))
  have HWv := Lib.hid (show IntKind.i64.wrap (v : Int) = v from IntWalk.i64_in _ (by omega))
  have HWy := Lib.hid (show IntKind.i64.wrap (y : Int) = y from IntWalk.i64_in _ (by omega))
  have k0 : 0 < k := by have := HK24.out; omega
  have k1 : (1 : Int) < (k : Int) := by have := HK24.out; omega
  have k2 : (2 : Int) < (k : Int) := by have := HK24.out; omega
  have k3 : (3 : Int) < (k : Int) := by have := HK24.out; omega
  go_cut [6] (fun vv wx => ∃ M, vv = .pointer (some ⟨M, 0, none⟩) ∧ W2.heap.size ≤ M ∧ Blk wx M 29 #[.int .i64 (b0 : Int), .int .i64 (b1 : Int), .int .i64 (b2 : Int), .int .i64 (v : Int), .int .i64 (y : Int), .int .u64 (d : Int), .int .i64 (b3 : Int), .bool false, .int .u64 0, .int .u32 0, .bool false, .slice none 0 0] ∧ Below W2.heap.size W2 wx)
  case first =>
    refine wp_region_held_drew (S := fun W => Below W2.heap.size W2 W) (by kernel_rfl) ((Below.refl _ _).drew) (fun hS => ?_)
    refine wpAnyH_take (i := 0) (v := ?_) rfl (by kernel_rfl) (by kernel_rfl) (by kernel_rfl) (fun _ _ _ h => h) (Or.inl ⟨by kernel_rfl, ?_⟩) hS ?_
    rotate_left
    · intro W hW; obtain ⟨pb, p0, p1, p2, p3⟩ := HC.out W hW; go_simp; try with_reducible rfl
    refine wpAnyH_take (i := 1) (v := ?_) rfl (by kernel_rfl) (by kernel_rfl) (by kernel_rfl) (fun _ _ _ h => h) (Or.inl ⟨by kernel_rfl, ?_⟩) hS ?_
    rotate_left
    · intro W hW; go_simp; try with_reducible rfl
    refine wpAnyH_take (i := 2) (v := ?_) rfl (by kernel_rfl) (by kernel_rfl) (by kernel_rfl) (fun _ _ _ h => h) (Or.inl ⟨by kernel_rfl, ?_⟩) hS ?_
    rotate_left
    · intro W hW; obtain ⟨pb, p0, p1, p2, p3⟩ := HC.out W hW; go_simp; try with_reducible rfl
    refine wpAnyH_take (i := 3) (v := ?_) rfl (by kernel_rfl) (by kernel_rfl) (by kernel_rfl) (fun _ _ _ h => h) (Or.inl ⟨by kernel_rfl, ?_⟩) hS ?_
    rotate_left
    · intro W hW; first | (go_simp; rw [HW0.out]; with_reducible rfl) | (go_simp; with_reducible rfl) | go_simp
    refine wpAnyH_take (i := 4) (v := ?_) rfl (by kernel_rfl) (by kernel_rfl) (by kernel_rfl) (fun _ _ _ h => h) (Or.inl ⟨by kernel_rfl, ?_⟩) hS ?_
    rotate_left
    · intro W hW; obtain ⟨pb, p0, p1, p2, p3⟩ := HC.out W hW; go_simp; try with_reducible rfl
    refine wpAnyH_take (i := 5) (v := ?_) rfl (by kernel_rfl) (by kernel_rfl) (by kernel_rfl) (fun _ _ _ h => h) (Or.inl ⟨by kernel_rfl, ?_⟩) hS ?_
    rotate_left
    · intro W hW; go_simp; try with_reducible rfl
    refine wpAnyH_take (i := 6) (v := ?_) rfl (by kernel_rfl) (by kernel_rfl) (by kernel_rfl) (fun _ _ _ h => h) (Or.inl ⟨by kernel_rfl, ?_⟩) hS ?_
    rotate_left
    · intro W hW; obtain ⟨pb, p0, p1, p2, p3⟩ := HC.out W hW; go_simp; try with_reducible rfl
    refine wpAnyH_take (i := 7) (v := ?_) rfl (by kernel_rfl) (by kernel_rfl) (by kernel_rfl) (fun _ _ _ h => h) (Or.inl ⟨by kernel_rfl, ?_⟩) hS ?_
    rotate_left
    · intro W hW; first | (go_simp; rw [HW1.out]; with_reducible rfl) | (go_simp; with_reducible rfl) | go_simp
    refine wpAnyH_take (i := 8) (v := ?_) rfl (by kernel_rfl) (by kernel_rfl) (by kernel_rfl) (fun _ _ _ h => h) (Or.inl ⟨by kernel_rfl, ?_⟩) hS ?_
    rotate_left
    · intro W hW; obtain ⟨pb, p0, p1, p2, p3⟩ := HC.out W hW; go_simp; try with_reducible rfl
    refine wpAnyH_take (i := 9) (v := ?_) rfl (by kernel_rfl) (by kernel_rfl) (by kernel_rfl) (fun _ _ _ h => h) (Or.inl ⟨by kernel_rfl, ?_⟩) hS ?_
    rotate_left
    · intro W hW; go_simp; try with_reducible rfl
    refine wpAnyH_take (i := 10) (v := ?_) rfl (by kernel_rfl) (by kernel_rfl) (by kernel_rfl) (fun _ _ _ h => h) (Or.inl ⟨by kernel_rfl, ?_⟩) hS ?_
    rotate_left
    · intro W hW; obtain ⟨pb, p0, p1, p2, p3⟩ := HC.out W hW; go_simp; try with_reducible rfl
    refine wpAnyH_take (i := 11) (v := ?_) rfl (by kernel_rfl) (by kernel_rfl) (by kernel_rfl) (fun _ _ _ h => h) (Or.inl ⟨by kernel_rfl, ?_⟩) hS ?_
    rotate_left
    · intro W hW; first | (go_simp; rw [HW2.out]; with_reducible rfl) | (go_simp; with_reducible rfl) | go_simp
    refine wpAnyH_take (i := 12) (v := ?_) rfl (by kernel_rfl) (by kernel_rfl) (by kernel_rfl) (fun _ _ _ h => h) (Or.inl ⟨by kernel_rfl, ?_⟩) hS ?_
    rotate_left
    · intro W hW; obtain ⟨pb, p0, p1, p2, p3⟩ := HC.out W hW; go_simp; try with_reducible rfl
    refine wpAnyH_take (i := 13) (v := ?_) rfl (by kernel_rfl) (by kernel_rfl) (by kernel_rfl) (fun _ _ _ h => h) (Or.inl ⟨by kernel_rfl, ?_⟩) hS ?_
    rotate_left
    · intro W hW; go_simp; try with_reducible rfl
    refine wpAnyH_take (i := 14) (v := ?_) rfl (by kernel_rfl) (by kernel_rfl) (by kernel_rfl) (fun _ _ _ h => h) (Or.inl ⟨by kernel_rfl, ?_⟩) hS ?_
    rotate_left
    · intro W hW; obtain ⟨pb, p0, p1, p2, p3⟩ := HC.out W hW; go_simp; try with_reducible rfl
    refine wpAnyH_take (i := 15) (v := ?_) rfl (by kernel_rfl) (by kernel_rfl) (by kernel_rfl) (fun _ _ _ h => h) (Or.inl ⟨by kernel_rfl, ?_⟩) hS ?_
    rotate_left
    · intro W hW; first | (go_simp; rw [HW3.out]; with_reducible rfl) | (go_simp; with_reducible rfl) | go_simp
    refine wpAnyH_take (i := 16) (v := ?_) rfl (by kernel_rfl) (by kernel_rfl) (by kernel_rfl) (fun _ _ _ h => h) (Or.inl ⟨by kernel_rfl, ?_⟩) hS ?_
    rotate_left
    · intro W hW; go_simp; try with_reducible rfl
    refine wpAnyH_take (i := 19) (v := ?_) rfl (by kernel_rfl) (by kernel_rfl) (by kernel_rfl) (fun _ _ _ h => h) (Or.inl ⟨by kernel_rfl, ?_⟩) hS ?_
    rotate_left
    · intro W hW; go_simp; try with_reducible rfl
    refine wpAnyH_take (i := 22) (v := ?_) rfl (by kernel_rfl) (by kernel_rfl) (by kernel_rfl) (fun _ _ _ h => h) (Or.inl ⟨by kernel_rfl, ?_⟩) hS ?_
    rotate_left
    · intro W hW; go_simp; try with_reducible rfl
    refine wpAnyH_ready (rs := [17, 25]) (by kernel_rfl) (by simp) ?_
    refine AllReadyH.cons (i := 17) rfl ?_ ?_
    · intro K hK
      go_simp
      refine (G4.out _ hS).mono ?_
      rintro e w17 ⟨rfl, B4⟩
      have hT := hS.trans (B4.mono hS.size)
      try replace hM := hM.below B4 hM.lt
      go_simp
      refine hK.out _ _ ?_ (fun hN => ?_)
      · first | exact hT | exact hS | exact hS.alloc hS.size _ | exact hS.drew
      clear hK K
      try clear hT
      clear hS
      have hS := hN
      clear hN
      refine wpAnyH_take (i := 18) (v := ?_) rfl (by kernel_rfl) (by kernel_rfl) (by kernel_rfl) (fun _ _ _ h => h) (Or.inl ⟨by kernel_rfl, ?_⟩) hS ?_
      rotate_left
      · intro W hW; first | (go_simp; rw [HWv.out]; with_reducible rfl) | (go_simp; with_reducible rfl) | go_simp
      refine wpAnyH_ready (rs := [20, 25]) (by kernel_rfl) (by simp) ?_
      refine AllReadyH.cons (i := 20) rfl ?_ ?_
      · intro K hK
        go_simp
        refine (G8.out _ hS).mono ?_
        rintro e w20 ⟨rfl, B4⟩
        have hT := hS.trans (B4.mono hS.size)
        try replace hM := hM.below B4 hM.lt
        go_simp
        refine hK.out _ _ ?_ (fun hN => ?_)
        · first | exact hT | exact hS | exact hS.alloc hS.size _ | exact hS.drew
        clear hK K
        try clear hT
        clear hS
        have hS := hN
        clear hN
        refine wpAnyH_take (i := 21) (v := ?_) rfl (by kernel_rfl) (by kernel_rfl) (by kernel_rfl) (fun _ _ _ h => h) (Or.inl ⟨by kernel_rfl, ?_⟩) hS ?_
        rotate_left
        · intro W hW; first | (go_simp; rw [HWy.out]; with_reducible rfl) | (go_simp; with_reducible rfl) | go_simp
        refine wpAnyH_ready (rs := [23, 25]) (by kernel_rfl) (by simp) ?_
        refine AllReadyH.cons (i := 23) rfl ?_ ?_
        · intro K hK
          go_simp
          refine (G12.out _ hS).mono ?_
          rintro e w23 ⟨rfl, B4⟩
          have hT := hS.trans (B4.mono hS.size)
          try replace hM := hM.below B4 hM.lt
          go_simp
          refine hK.out _ _ ?_ (fun hN => ?_)
          · first | exact hT | exact hS | exact hS.alloc hS.size _ | exact hS.drew
          clear hK K
          try clear hT
          clear hS
          have hS := hN
          clear hN
          refine wpAnyH_take (i := 24) (v := ?_) rfl (by kernel_rfl) (by kernel_rfl) (by kernel_rfl) (fun _ _ _ h => h) (Or.inl ⟨by kernel_rfl, ?_⟩) hS ?_
          rotate_left
          · intro W hW; go_simp; try with_reducible rfl
          refine wpAnyH_ready (rs := [25]) (by kernel_rfl) (by simp) ?_
          refine AllReadyH.cons (i := 25) rfl ?_ AllReadyH.nil
          intro K hK
          go_simp
          first | refine held_alloc (fun wa hM hBa => ?_) | refine held_alloc_drew (fun wa hM hBa => ?_)
          have hge := hS.size
          have hT : Below W2.heap.size W2 wa := by first | exact hS.trans (hBa.mono hS.size) | exact hBa
          clear hBa
          go_simp
          refine hK.out _ _ ?_ (fun hN => ?_)
          · first | exact hT | exact hS | exact hS.alloc hS.size _ | exact hS.drew
          clear hK K
          try clear hT
          clear hS
          have hS := hN
          clear hN
          refine wpAnyH_ready (rs := [26]) (by kernel_rfl) (by simp) ?_
          refine AllReadyH.cons (i := 26) rfl ?_ AllReadyH.nil
          intro K hK
          obtain ⟨m0, m1, m2, m3, m4, m5, m6, m7, m8, m9, m10, m11⟩ := hM.twelve
          obtain ⟨n0, n1, n2, n3, n4, n5, n6, n7, n8, n9, n10, n11⟩ := hM.twelve_frozen
          go_simp
          rw [HW0.out, HW1.out, HW2.out, HW3.out, HWv.out, HWy.out]
          have hT := below_put12 hS hge (.int .i64 (b0 : Int)) (.int .i64 (b1 : Int)) (.int .i64 (b2 : Int)) (.int .i64 (v : Int)) (.int .i64 (y : Int)) (.int .u64 (d : Int)) (.int .i64 (b3 : Int)) (.bool false) (.int .u64 0) (.int .u32 0) (.bool false) (.slice none 0 0)
          have hM' := Lib.hid (hM.put12 (.int .i64 (b0 : Int)) (.int .i64 (b1 : Int)) (.int .i64 (b2 : Int)) (.int .i64 (v : Int)) (.int .i64 (y : Int)) (.int .u64 (d : Int)) (.int .i64 (b3 : Int)) (.bool false) (.int .u64 0) (.int .u32 0) (.bool false) (.slice none 0 0))
          refine hK.out _ _ ?_ (fun hN => ?_)
          · first | exact hT | exact hS | exact hS.alloc hS.size _ | exact hS.drew
          clear hK K
          try clear hT
          clear hS
          have hS := hN
          clear hN
          refine wpAnyH_done (by kernel_rfl) ?_ _
          have HSS := Lib.hid hS
          have HGM := Lib.hid hge
          clear hS hge m0 m1 m2 m3 m4 m5 m6 m7 m8 m9 m10 m11 n0 n1 n2 n3 n4 n5 n6 n7 n8 n9 n10 n11 hM
          go_simp
          go_wp2_with fail
          go_meet
          exact ⟨_, rfl, HGM.out, hM'.out, HSS.out⟩
        refine AllReadyH.cons (i := 25) rfl ?_ AllReadyH.nil
        intro K hK
        go_simp
        first | refine held_alloc (fun wa hM hBa => ?_) | refine held_alloc_drew (fun wa hM hBa => ?_)
        have hge := hS.size
        have hT : Below W2.heap.size W2 wa := by first | exact hS.trans (hBa.mono hS.size) | exact hBa
        clear hBa
        go_simp
        refine hK.out _ _ ?_ (fun hN => ?_)
        · first | exact hT | exact hS | exact hS.alloc hS.size _ | exact hS.drew
        clear hK K
        try clear hT
        clear hS
        have hS := hN
        clear hN
        refine wpAnyH_ready (rs := [23]) (by kernel_rfl) (by simp) ?_
        refine AllReadyH.cons (i := 23) rfl ?_ AllReadyH.nil
        intro K hK
        go_simp
        refine (G12.out _ hS).mono ?_
        rintro e w23 ⟨rfl, B4⟩
        have hT := hS.trans (B4.mono hS.size)
        try replace hM := hM.below B4 hM.lt
        go_simp
        refine hK.out _ _ ?_ (fun hN => ?_)
        · first | exact hT | exact hS | exact hS.alloc hS.size _ | exact hS.drew
        clear hK K
        try clear hT
        clear hS
        have hS := hN
        clear hN
        refine wpAnyH_take (i := 24) (v := ?_) rfl (by kernel_rfl) (by kernel_rfl) (by kernel_rfl) (fun _ _ _ h => h) (Or.inl ⟨by kernel_rfl, ?_⟩) hS ?_
        rotate_left
        · intro W hW; go_simp; try with_reducible rfl
        refine wpAnyH_ready (rs := [26]) (by kernel_rfl) (by simp) ?_
        refine AllReadyH.cons (i := 26) rfl ?_ AllReadyH.nil
        intro K hK
        obtain ⟨m0, m1, m2, m3, m4, m5, m6, m7, m8, m9, m10, m11⟩ := hM.twelve
        obtain ⟨n0, n1, n2, n3, n4, n5, n6, n7, n8, n9, n10, n11⟩ := hM.twelve_frozen
        go_simp
        rw [HW0.out, HW1.out, HW2.out, HW3.out, HWv.out, HWy.out]
        have hT := below_put12 hS hge (.int .i64 (b0 : Int)) (.int .i64 (b1 : Int)) (.int .i64 (b2 : Int)) (.int .i64 (v : Int)) (.int .i64 (y : Int)) (.int .u64 (d : Int)) (.int .i64 (b3 : Int)) (.bool false) (.int .u64 0) (.int .u32 0) (.bool false) (.slice none 0 0)
        have hM' := Lib.hid (hM.put12 (.int .i64 (b0 : Int)) (.int .i64 (b1 : Int)) (.int .i64 (b2 : Int)) (.int .i64 (v : Int)) (.int .i64 (y : Int)) (.int .u64 (d : Int)) (.int .i64 (b3 : Int)) (.bool false) (.int .u64 0) (.int .u32 0) (.bool false) (.slice none 0 0))
        refine hK.out _ _ ?_ (fun hN => ?_)
        · first | exact hT | exact hS | exact hS.alloc hS.size _ | exact hS.drew
        clear hK K
        try clear hT
        clear hS
        have hS := hN
        clear hN
        refine wpAnyH_done (by kernel_rfl) ?_ _
        have HSS := Lib.hid hS
        have HGM := Lib.hid hge
        clear hS hge m0 m1 m2 m3 m4 m5 m6 m7 m8 m9 m10 m11 n0 n1 n2 n3 n4 n5 n6 n7 n8 n9 n10 n11 hM
        go_simp
        go_wp2_with fail
        go_meet
        exact ⟨_, rfl, HGM.out, hM'.out, HSS.out⟩
      refine AllReadyH.cons (i := 25) rfl ?_ AllReadyH.nil
      intro K hK
      go_simp
      first | refine held_alloc (fun wa hM hBa => ?_) | refine held_alloc_drew (fun wa hM hBa => ?_)
      have hge := hS.size
      have hT : Below W2.heap.size W2 wa := by first | exact hS.trans (hBa.mono hS.size) | exact hBa
      clear hBa
      go_simp
      refine hK.out _ _ ?_ (fun hN => ?_)
      · first | exact hT | exact hS | exact hS.alloc hS.size _ | exact hS.drew
      clear hK K
      try clear hT
      clear hS
      have hS := hN
      clear hN
      refine wpAnyH_ready (rs := [20]) (by kernel_rfl) (by simp) ?_
      refine AllReadyH.cons (i := 20) rfl ?_ AllReadyH.nil
      intro K hK
      go_simp
      refine (G8.out _ hS).mono ?_
      rintro e w20 ⟨rfl, B4⟩
      have hT := hS.trans (B4.mono hS.size)
      try replace hM := hM.below B4 hM.lt
      go_simp
      refine hK.out _ _ ?_ (fun hN => ?_)
      · first | exact hT | exact hS | exact hS.alloc hS.size _ | exact hS.drew
      clear hK K
      try clear hT
      clear hS
      have hS := hN
      clear hN
      refine wpAnyH_take (i := 21) (v := ?_) rfl (by kernel_rfl) (by kernel_rfl) (by kernel_rfl) (fun _ _ _ h => h) (Or.inl ⟨by kernel_rfl, ?_⟩) hS ?_
      rotate_left
      · intro W hW; first | (go_simp; rw [HWy.out]; with_reducible rfl) | (go_simp; with_reducible rfl) | go_simp
      refine wpAnyH_ready (rs := [23]) (by kernel_rfl) (by simp) ?_
      refine AllReadyH.cons (i := 23) rfl ?_ AllReadyH.nil
      intro K hK
      go_simp
      refine (G12.out _ hS).mono ?_
      rintro e w23 ⟨rfl, B4⟩
      have hT := hS.trans (B4.mono hS.size)
      try replace hM := hM.below B4 hM.lt
      go_simp
      refine hK.out _ _ ?_ (fun hN => ?_)
      · first | exact hT | exact hS | exact hS.alloc hS.size _ | exact hS.drew
      clear hK K
      try clear hT
      clear hS
      have hS := hN
      clear hN
      refine wpAnyH_take (i := 24) (v := ?_) rfl (by kernel_rfl) (by kernel_rfl) (by kernel_rfl) (fun _ _ _ h => h) (Or.inl ⟨by kernel_rfl, ?_⟩) hS ?_
      rotate_left
      · intro W hW; go_simp; try with_reducible rfl
      refine wpAnyH_ready (rs := [26]) (by kernel_rfl) (by simp) ?_
      refine AllReadyH.cons (i := 26) rfl ?_ AllReadyH.nil
      intro K hK
      obtain ⟨m0, m1, m2, m3, m4, m5, m6, m7, m8, m9, m10, m11⟩ := hM.twelve
      obtain ⟨n0, n1, n2, n3, n4, n5, n6, n7, n8, n9, n10, n11⟩ := hM.twelve_frozen
      go_simp
      rw [HW0.out, HW1.out, HW2.out, HW3.out, HWv.out, HWy.out]
      have hT := below_put12 hS hge (.int .i64 (b0 : Int)) (.int .i64 (b1 : Int)) (.int .i64 (b2 : Int)) (.int .i64 (v : Int)) (.int .i64 (y : Int)) (.int .u64 (d : Int)) (.int .i64 (b3 : Int)) (.bool false) (.int .u64 0) (.int .u32 0) (.bool false) (.slice none 0 0)
      have hM' := Lib.hid (hM.put12 (.int .i64 (b0 : Int)) (.int .i64 (b1 : Int)) (.int .i64 (b2 : Int)) (.int .i64 (v : Int)) (.int .i64 (y : Int)) (.int .u64 (d : Int)) (.int .i64 (b3 : Int)) (.bool false) (.int .u64 0) (.int .u32 0) (.bool false) (.slice none 0 0))
      refine hK.out _ _ ?_ (fun hN => ?_)
      · first | exact hT | exact hS | exact hS.alloc hS.size _ | exact hS.drew
      clear hK K
      try clear hT
      clear hS
      have hS := hN
      clear hN
      refine wpAnyH_done (by kernel_rfl) ?_ _
      have HSS := Lib.hid hS
      have HGM := Lib.hid hge
      clear hS hge m0 m1 m2 m3 m4 m5 m6 m7 m8 m9 m10 m11 n0 n1 n2 n3 n4 n5 n6 n7 n8 n9 n10 n11 hM
      go_simp
      go_wp2_with fail
      go_meet
      exact ⟨_, rfl, HGM.out, hM'.out, HSS.out⟩
    refine AllReadyH.cons (i := 25) rfl ?_ AllReadyH.nil
    intro K hK
    go_simp
    first | refine held_alloc (fun wa hM hBa => ?_) | refine held_alloc_drew (fun wa hM hBa => ?_)
    have hge := hS.size
    have hT : Below W2.heap.size W2 wa := by first | exact hS.trans (hBa.mono hS.size) | exact hBa
    clear hBa
    go_simp
    refine hK.out _ _ ?_ (fun hN => ?_)
    · first | exact hT | exact hS | exact hS.alloc hS.size _ | exact hS.drew
    clear hK K
    try clear hT
    clear hS
    have hS := hN
    clear hN
    refine wpAnyH_ready (rs := [17]) (by kernel_rfl) (by simp) ?_
    refine AllReadyH.cons (i := 17) rfl ?_ AllReadyH.nil
    intro K hK
    go_simp
    refine (G4.out _ hS).mono ?_
    rintro e w17 ⟨rfl, B4⟩
    have hT := hS.trans (B4.mono hS.size)
    try replace hM := hM.below B4 hM.lt
    go_simp
    refine hK.out _ _ ?_ (fun hN => ?_)
    · first | exact hT | exact hS | exact hS.alloc hS.size _ | exact hS.drew
    clear hK K
    try clear hT
    clear hS
    have hS := hN
    clear hN
    refine wpAnyH_take (i := 18) (v := ?_) rfl (by kernel_rfl) (by kernel_rfl) (by kernel_rfl) (fun _ _ _ h => h) (Or.inl ⟨by kernel_rfl, ?_⟩) hS ?_
    rotate_left
    · intro W hW; first | (go_simp; rw [HWv.out]; with_reducible rfl) | (go_simp; with_reducible rfl) | go_simp
    refine wpAnyH_ready (rs := [20]) (by kernel_rfl) (by simp) ?_
    refine AllReadyH.cons (i := 20) rfl ?_ AllReadyH.nil
    intro K hK
    go_simp
    refine (G8.out _ hS).mono ?_
    rintro e w20 ⟨rfl, B4⟩
    have hT := hS.trans (B4.mono hS.size)
    try replace hM := hM.below B4 hM.lt
    go_simp
    refine hK.out _ _ ?_ (fun hN => ?_)
    · first | exact hT | exact hS | exact hS.alloc hS.size _ | exact hS.drew
    clear hK K
    try clear hT
    clear hS
    have hS := hN
    clear hN
    refine wpAnyH_take (i := 21) (v := ?_) rfl (by kernel_rfl) (by kernel_rfl) (by kernel_rfl) (fun _ _ _ h => h) (Or.inl ⟨by kernel_rfl, ?_⟩) hS ?_
    rotate_left
    · intro W hW; first | (go_simp; rw [HWy.out]; with_reducible rfl) | (go_simp; with_reducible rfl) | go_simp
    refine wpAnyH_ready (rs := [23]) (by kernel_rfl) (by simp) ?_
    refine AllReadyH.cons (i := 23) rfl ?_ AllReadyH.nil
    intro K hK
    go_simp
    refine (G12.out _ hS).mono ?_
    rintro e w23 ⟨rfl, B4⟩
    have hT := hS.trans (B4.mono hS.size)
    try replace hM := hM.below B4 hM.lt
    go_simp
    refine hK.out _ _ ?_ (fun hN => ?_)
    · first | exact hT | exact hS | exact hS.alloc hS.size _ | exact hS.drew
    clear hK K
    try clear hT
    clear hS
    have hS := hN
    clear hN
    refine wpAnyH_take (i := 24) (v := ?_) rfl (by kernel_rfl) (by kernel_rfl) (by kernel_rfl) (fun _ _ _ h => h) (Or.inl ⟨by kernel_rfl, ?_⟩) hS ?_
    rotate_left
    · intro W hW; go_simp; try with_reducible rfl
    refine wpAnyH_ready (rs := [26]) (by kernel_rfl) (by simp) ?_
    refine AllReadyH.cons (i := 26) rfl ?_ AllReadyH.nil
    intro K hK
    obtain ⟨m0, m1, m2, m3, m4, m5, m6, m7, m8, m9, m10, m11⟩ := hM.twelve
    obtain ⟨n0, n1, n2, n3, n4, n5, n6, n7, n8, n9, n10, n11⟩ := hM.twelve_frozen
    go_simp
    rw [HW0.out, HW1.out, HW2.out, HW3.out, HWv.out, HWy.out]
    have hT := below_put12 hS hge (.int .i64 (b0 : Int)) (.int .i64 (b1 : Int)) (.int .i64 (b2 : Int)) (.int .i64 (v : Int)) (.int .i64 (y : Int)) (.int .u64 (d : Int)) (.int .i64 (b3 : Int)) (.bool false) (.int .u64 0) (.int .u32 0) (.bool false) (.slice none 0 0)
    have hM' := Lib.hid (hM.put12 (.int .i64 (b0 : Int)) (.int .i64 (b1 : Int)) (.int .i64 (b2 : Int)) (.int .i64 (v : Int)) (.int .i64 (y : Int)) (.int .u64 (d : Int)) (.int .i64 (b3 : Int)) (.bool false) (.int .u64 0) (.int .u32 0) (.bool false) (.slice none 0 0))
    refine hK.out _ _ ?_ (fun hN => ?_)
    · first | exact hT | exact hS | exact hS.alloc hS.size _ | exact hS.drew
    clear hK K
    try clear hT
    clear hS
    have hS := hN
    clear hN
    refine wpAnyH_done (by kernel_rfl) ?_ _
    have HSS := Lib.hid hS
    have HGM := Lib.hid hge
    clear hS hge m0 m1 m2 m3 m4 m5 m6 m7 m8 m9 m10 m11 n0 n1 n2 n3 n4 n5 n6 n7 n8 n9 n10 n11 hM
    go_simp
    go_wp2_with fail
    go_meet
    exact ⟨_, rfl, HGM.out, hM'.out, HSS.out⟩
  case rest =>
    obtain ⟨M, rfl, hM0, hBM, hBc⟩ := hcut
    have HM0 := Lib.hid (show W2.heap.size ≤ M ∧ w.heap.size + 1 < M from ⟨hM0, by have := HR2.out.lt; omega⟩)
    have HBM := Lib.hid hBM
    have HBW := Lib.hid (HB2.out.trans (hBc.mono HB2.out.size))
    have HRc := Lib.hid (HR2.out.below hBc HR2.out.lt)
    have HKc := Lib.hid (HK2.out.below hBc HK2.out.lt)
    have HSc := Lib.hid (((bsl_own HO2.out).below hBc).more hBc.size)
    have HBc := Lib.hid hBc
    obtain ⟨a1, hs1, hcut1⟩ : ∃ a', (∀ W : World, (Instr.slice 22 (.slice (some ⟨g, 0, none⟩) k cv) (some (.int .i64 24)) none none).run Try.prog W = .ok (.slice a' (k - 24) (cv - 24)) W) ∧ BSl wc wc.heap.size a' (k - 24) (lx.drop 24) := by
      obtain ⟨a', -, s3, -, h3⟩ := cut_bytes HSc.out hkc 24 (k - 24) (by have := HK24.out; omega)
      exact ⟨a', fun W => s3 24 W rfl (by have := HK24.out; omega), by rwa [List.take_of_length_le (by rw [List.length_drop]; have := HK24.out; omega)] at h3⟩
    have EG := Lib.hid (G20.out wc hBc)
    have cK := HKc.out.cell 0
    clear hM0 hBM hBc
    obtain ⟨f, hf⟩ : ∃ f, nums lx 20 4 = f := ⟨_, rfl⟩
    rw [hf] at EG y20
    have HFV := Lib.hid hf
    clear hf
    by_cases h1 : f = 1
    · have z1 : ((f : Int) == 1) = true := by rw [h1]; rfl
      have HMG := Lib.hid (show msGet l = (if (ndGet (lx.drop 24)).2.2.2.2.2 ≠ 0 then (mNone, 4) else if lx.length = 24 + (ndGet (lx.drop 24)).2.2.2.2.1 ∧ mchk ((msHead lx).with (ndGet (lx.drop 24)).1 (ndGet (lx.drop 24)).2.1 (ndGet (lx.drop 24)).2.2.1 (ndGet (lx.drop 24)).2.2.2.1) = 0 then ((msHead lx).with (ndGet (lx.drop 24)).1 (ndGet (lx.drop 24)).2.1 (ndGet (lx.drop 24)).2.2.1 (ndGet (lx.drop 24)).2.2.2.1, 0) else (mNone, 4)) from by
        rw [HX.out]
        unfold msIn
        rw [if_pos (by rw [HFV.out]; exact h1)])
      have EN := Lib.hid fun (W : World) (B : Below wc.heap.size wc W) => nget_any a1 (k - 24) (cv - 24) (lx.drop 24) W ((hcut1.below B).more B.size) (by omega) (by have := HK24.out; omega)
      clear h1
      go_wp2_with fail
      refine EG.out.mono ?_
      rintro e w3 ⟨rfl, B3⟩
      have HB3 := Lib.hid (HBW.out.trans (B3.mono HBW.out.size))
      have HR3 := Lib.hid (HRc.out.below B3 HRc.out.lt)
      have HM3 := Lib.hid (HBM.out.below B3 HBM.out.lt)
      have EN3 := Lib.hid (EN.out w3 B3)
      clear B3 EG EN
      go_wp2_with fail
      refine EN3.out.mono ?_
      rintro e w4 ⟨B4, key, ck, gg, ly, all, cf, hnd, av, cv2, rfl, hcv2, ho4⟩
      have HB4 := Lib.hid (HB3.out.trans (B4.mono HB3.out.size))
      have HR4 := Lib.hid (HR3.out.below B4 HR3.out.lt)
      have HM4 := Lib.hid (HM3.out.below B4 HM3.out.lt)
      have HO4 := Lib.hid ho4
      rw [hnd] at HMG
      have HND := Lib.hid hnd
      clear B4 EN3 ho4 hnd
      dsimp only at HMG
      by_cases hc0 : cf = 0
      · subst hc0
        rw [show errc 0 = Value.nilIface from rfl]
        obtain ⟨-, -, -, hall, -⟩ := ndGet_len HND.out
        have HLY := Lib.hid (show ly.length ≤ 1099511627776 from by
          obtain ⟨-, -, -, -, -, -, -, -, -, hq⟩ := ndGet_len HND.out
          have h2 := HK24.out.2.1
          rw [hq, List.length_take, List.length_drop, List.length_drop, HK24.out.2.2]
          omega)
        have hall2 : all ≤ k - 24 := by rw [List.length_drop, HK24.out.2.2] at hall; exact hall
        obtain ⟨a2, hs2⟩ : ∃ a', ∀ W : World, (Instr.slice 22 (.slice a1 (k - 24) (cv - 24)) (some (.int .i64 (all : Int))) none none).run Try.prog W = .ok (.slice a' (k - 24 - all) (cv - 24 - all)) W := by
          obtain ⟨a', -, s3, -, -⟩ := cut_bytes (c := cv - 24) hcut1 (by omega) all (k - 24 - all) (by omega)
          exact ⟨a', fun W => s3 all W rfl (by omega)⟩
        have HR5 := Lib.hid (HR4.out.alloc (.cells #[.int .u64 (key : Int), .int .u32 (ck : Int), .bool gg, .slice av ly.length cv2] 27))
        have HM5 := Lib.hid (HM4.out.alloc (.cells #[.int .u64 (key : Int), .int .u32 (ck : Int), .bool gg, .slice av ly.length cv2] 27))
        have HN5 := Lib.hid (Blk.made w4 27 #[.int .u64 (key : Int), .int .u32 (ck : Int), .bool gg, .slice av ly.length cv2])
        have HB5 := Lib.hid (HB4.out.alloc HB4.out.size (.cells #[.int .u64 (key : Int), .int .u32 (ck : Int), .bool gg, .slice av ly.length cv2] 27))
        have HMN := Lib.hid (show M < w4.heap.size from HM4.out.lt)
        have H5G := Lib.hid (show w4.grownBy (w4.alloc (.cells #[.int .u64 (key : Int), .int .u32 (ck : Int), .bool gg, .slice av ly.length cv2] 27)) (some M) from wgrown_of ((Below.refl _ _).alloc (Nat.le_refl _) _))
        go_upto_region 15 with fail
        generalize w4.alloc (.cells #[.int .u64 (key : Int), .int .u32 (ck : Int), .bool gg, .slice av ly.length cv2] 27) = W5 at *
        have HNC := Lib.hid fun (W : World) (G : W5.grownBy W (some M)) => (HN5.out.grown G (by intro e; injection e with e; have := HMN.out; omega)).four
        refine wp_region_held_drew (S := fun W => W5.grownBy W (some M)) (by kernel_rfl) (by exact grown_drew (grown_refl _ _)) (fun hS => ?_)
        refine wpAnyH_take (i := 0) (v := ?_) rfl (by kernel_rfl) (by kernel_rfl) (by kernel_rfl) (fun _ _ _ h => h) (Or.inl ⟨by kernel_rfl, ?_⟩) hS ?_
        rotate_left
        · intro W hW; obtain ⟨q0, q1, q2, q3⟩ := HNC.out W hW; go_simp; try with_reducible rfl
        refine wpAnyH_take (i := 1) (v := ?_) rfl (by kernel_rfl) (by kernel_rfl) (by kernel_rfl) (fun _ _ _ h => h) (Or.inl ⟨by kernel_rfl, ?_⟩) hS ?_
        rotate_left
        · intro W hW; go_simp; try with_reducible rfl
        refine wpAnyH_take (i := 2) (v := ?_) rfl (by kernel_rfl) (by kernel_rfl) (by kernel_rfl) (fun _ _ _ h => h) (Or.inl ⟨by kernel_rfl, ?_⟩) hS ?_
        rotate_left
        · intro W hW; go_simp; try with_reducible rfl
        refine wpAnyH_take (i := 3) (v := ?_) rfl (by kernel_rfl) (by kernel_rfl) (by kernel_rfl) (fun _ _ _ h => h) (Or.inl ⟨by kernel_rfl, ?_⟩) hS ?_
        rotate_left
        · intro W hW; go_simp; try with_reducible rfl
        refine wpAnyH_take (i := 4) (v := ?_) rfl (by kernel_rfl) (by kernel_rfl) (by kernel_rfl) (fun _ _ _ h => h) (Or.inl ⟨by kernel_rfl, ?_⟩) hS ?_
        rotate_left
        · intro W hW; go_simp; try with_reducible rfl
        refine wpAnyH_ready (rs := [5]) (by kernel_rfl) (by simp) ?_
        go_simp
        refine AllReadyH.cons (i := 5) rfl ?_ AllReadyH.nil
        intro K hK
        have c7 : W5.drew.cell? ⟨M, 7, none⟩ = some (.bool false) := HM5.out.drew.cell 7
        have f7 := HM5.out.drew.frozen 7
        obtain ⟨w6, hw6, hk6, hT⟩ : ∃ X, W5.drew.setCell ⟨M, 7, none⟩ (.bool true) = X ∧ Blk X M 29 #[.int .i64 (b0 : Int), .int .i64 (b1 : Int), .int .i64 (b2 : Int), .int .i64 (v : Int), .int .i64 (y : Int), .int .u64 (d : Int), .int .i64 (b3 : Int), .bool true, .int .u64 0, .int .u32 0, .bool false, .slice none 0 0] ∧ W5.grownBy X (some M) := ⟨_, rfl, HM5.out.drew.put 7 _, grown_put hS 7 _⟩
        go_simp
        try rw [hw6]
        clear hw6 c7 f7
        refine hK.out _ _ ?_ (fun hN => ?_)
        · first | exact hT | exact hS | exact hS.alloc hS.size _ | exact hS.drew
        clear hK K
        try clear hT
        clear hS
        have hS := hN
        clear hN
        refine wpAnyH_take (i := 6) (v := ?_) rfl (by kernel_rfl) (by kernel_rfl) (by kernel_rfl) (fun _ _ _ h => h) (Or.inl ⟨by kernel_rfl, ?_⟩) hS ?_
        rotate_left
        · intro W hW; go_simp; try with_reducible rfl
        refine wpAnyH_ready (rs := [7]) (by kernel_rfl) (by simp) ?_
        go_simp
        refine AllReadyH.cons (i := 7) rfl ?_ AllReadyH.nil
        intro K hK
        have c8 : w6.cell? ⟨M, 8, none⟩ = some (.int .u64 0) := hk6.cell 8
        have c9 : w6.cell? ⟨M, 9, none⟩ = some (.int .u32 0) := hk6.cell 9
        have c10 : w6.cell? ⟨M, 10, none⟩ = some (.bool false) := hk6.cell 10
        have c11 : w6.cell? ⟨M, 11, none⟩ = some (.slice none 0 0) := hk6.cell 11
        have f8 := hk6.frozen 8
        have f9 := hk6.frozen 9
        have f10 := hk6.frozen 10
        have f11 := hk6.frozen 11
        obtain ⟨w7, hw7, hk7, hT⟩ : ∃ X, (((w6.setCell ⟨M, 8, none⟩ (.int .u64 (key : Int))).setCell ⟨M, 9, none⟩ (.int .u32 (ck : Int))).setCell ⟨M, 10, none⟩ (.bool gg)).setCell ⟨M, 11, none⟩ (.slice av ly.length cv2) = X ∧ Blk X M 29 #[.int .i64 (b0 : Int), .int .i64 (b1 : Int), .int .i64 (b2 : Int), .int .i64 (v : Int), .int .i64 (y : Int), .int .u64 (d : Int), .int .i64 (b3 : Int), .bool true, .int .u64 (key : Int), .int .u32 (ck : Int), .bool gg, .slice av ly.length cv2] ∧ W5.grownBy X (some M) := ⟨_, rfl, put_four hk6, grown_put (grown_put (grown_put (grown_put hS 8 _) 9 _) 10 _) 11 _⟩
        go_simp
        try rw [hw7]
        clear hw7 c8 c9 c10 c11 f8 f9 f10 f11
        refine hK.out _ _ ?_ (fun hN => ?_)
        · first | exact hT | exact hS | exact hS.alloc hS.size _ | exact hS.drew
        clear hK K
        try clear hT
        clear hS
        have hS := hN
        clear hN
        refine wpAnyH_take (i := 8) (v := ?_) rfl (by kernel_rfl) (by kernel_rfl) (by kernel_rfl) (fun _ _ _ h => h) (Or.inl ⟨by kernel_rfl, ?_⟩) hS ?_
        rotate_left
        · intro W hW; go_simp; try with_reducible rfl
        refine wpAnyH_done (by kernel_rfl) ?_ _
        go_simp
        have hML : M < w3.heap.size := HM3.out.lt
        have HO5 := row_far HO4.out (H5G.out) hML
        have HO7 := Lib.hid (row_far HO5 hS hML)
        have HR7 := Lib.hid (HR5.out.grown hS (by intro e; injection e with e; have := HM0.out.2; omega))
        have HB7 := Lib.hid (HB5.out.trans (grown_below (B := w.heap.size) hS HB5.out.size (by have := HM0.out.2; omega)))
        have HK7 := Lib.hid hk7
        have HML := Lib.hid (show M < w3.heap.size ∧ w.heap.size + 1 < w3.heap.size from ⟨hML, by have := HM0.out.2; omega⟩)
        obtain ⟨q, hq⟩ : ∃ q, mchk ((msHead lx).with key ck gg ly) = q := ⟨_, rfl⟩
        have EC := Lib.hid (show Calls Try.prog 40 #[.agg #[.int .i64 (b0 : Int), .int .i64 (b1 : Int), .int .i64 (b2 : Int), .int .i64 (v : Int), .int .i64 (y : Int), .int .u64 (d : Int), .int .i64 (b3 : Int), .bool true, .int .u64 (key : Int), .int .u32 (ck : Int), .bool gg, .slice av ly.length cv2]] w7 fun e w' => e = .returned (errc q) ∧ Below w7.heap.size w7 w' from by
          have := wcheck_any { (msHead lx).with key ck gg ly with a := av, c := cv2 } w7 (bsl_own HO7.out) HLY.out
          rw [show mchk { (msHead lx).with key ck gg ly with a := av, c := cv2 } = q from hq, show MsgR.vals { (msHead lx).with key ck gg ly with a := av, c := cv2 } = .agg #[.int .i64 (b0 : Int), .int .i64 (b1 : Int), .int .i64 (b2 : Int), .int .i64 (v : Int), .int .i64 (y : Int), .int .u64 (d : Int), .int .i64 (b3 : Int), .bool true, .int .u64 (key : Int), .int .u32 (ck : Int), .bool gg, .slice av ly.length cv2] from by rw [HV.out]; rfl] at this
          exact this)
        have HQ := Lib.hid hq
        clear hq hS hk7 HO5 hML hall
        by_cases hk : k - 24 - all = 0
        · have z3 : (((k - 24 - all : Nat) : Int) == 0) = true := by rw [hk]; rfl
          have HKE := Lib.hid (show k = 24 + all from by have := HK24.out; omega)
          clear hk
          obtain ⟨m0, m1, m2, m3, m4, m5, m6, m7, m8, m9, m10, m11⟩ := HK7.out.twelve
          go_wp2_with fail
          refine EC.out.mono ?_
          rintro e w8 ⟨rfl, B8⟩
          have HB8 := Lib.hid (HB7.out.trans (B8.mono HB7.out.size))
          have HR8 := Lib.hid (HR7.out.below B8 HR7.out.lt)
          have HM8 := Lib.hid (HK7.out.below B8 HK7.out.lt)
          have HO8 := Lib.hid (row_far HO7.out (wgrown_of B8) HML.out.1)
          clear B8 EC m0 m1 m2 m3 m4 m5 m6 m7 m8 m9 m10 m11
          obtain ⟨m0, m1, m2, m3, m4, m5, m6, m7, m8, m9, m10, m11⟩ := HM8.out.twelve
          obtain ⟨k0, k1, k2, k3, k4, k5, k6, k7, k8, k9, k10, k11⟩ := HR8.out.twelve
          obtain ⟨f0, f1, f2, f3, f4, f5, f6, f7, f8, f9, f10, f11⟩ := HR8.out.twelve_frozen
          by_cases hq0 : q = 0
          · subst hq0
            rw [show errc 0 = Value.nilIface from rfl]
            go_wp2_with fail
            refine bodyPost_ret (wread_results (HR8.out.put12 _ _ _ _ _ _ _ _ _ _ _ _) rfl rfl) rfl ⟨below_put12 HB8.out (Nat.le_succ _) _ _ _ _ _ _ _ _ _ _ _ _, { (msHead lx).with key ck gg ly with a := av, c := cv2 }, 0, ?_, ?_, rfl, hcv2, row_base (row_far HO8.out (grown_put12 (grown_refl _ _) _ _ _ _ _ _ _ _ _ _ _ _) HML.out.2) (by have := HML.out.2; omega)⟩
            · rw [HMG.out, if_neg (by decide), if_pos ⟨by rw [HK24.out.2.2]; exact HKE.out, HQ.out⟩]
              rfl
            · rw [HV.out]
              rfl
          · have HQ0 := Lib.hid hq0
            have he : errc q = er q := by unfold errc; rw [if_neg hq0]
            rw [he]
            clear hq0 he
            go_wp2_with fail
            exact bodyPost_ret (wread_results (HR8.out.put12 _ _ _ _ _ _ _ _ _ _ _ _) rfl rfl) rfl (msp_bad (by rw [HMG.out, if_neg (by decide), if_neg (fun h => HQ0.out (HQ.out.symm.trans h.2))]) (below_put12 HB8.out (Nat.le_succ _) _ _ _ _ _ _ _ _ _ _ _ _))
        · have z3 : (((k - 24 - all : Nat) : Int) == 0) = false := by rw [beq_eq_false_iff_ne]; omega
          have HN := Lib.hid (show msGet l = (mNone, 4) from by rw [HMG.out, if_neg (by decide), if_neg (fun h => hk (by have := h.1; rw [HK24.out.2.2] at this; omega))])
          clear hk
          obtain ⟨k0, k1, k2, k3, k4, k5, k6, k7, k8, k9, k10, k11⟩ := HR7.out.twelve
          obtain ⟨f0, f1, f2, f3, f4, f5, f6, f7, f8, f9, f10, f11⟩ := HR7.out.twelve_frozen
          go_wp2_with fail
          exact bodyPost_ret (wread_results (HR7.out.put12 _ _ _ _ _ _ _ _ _ _ _ _) rfl rfl) rfl (msp_bad HN.out (below_put12 HB7.out (Nat.le_succ _) _ _ _ _ _ _ _ _ _ _ _ _))
      · have he : errc cf = er cf := by unfold errc; rw [if_neg hc0]
        rw [he]
        have HN := Lib.hid (show msGet l = (mNone, 4) from by rw [HMG.out, if_pos hc0])
        clear hc0 he
        have HR5 := Lib.hid (HR4.out.alloc (.cells #[.int .u64 (key : Int), .int .u32 (ck : Int), .bool gg, .slice av ly.length cv2] 27))
        have HB5 := Lib.hid (HB4.out.alloc HB4.out.size (.cells #[.int .u64 (key : Int), .int .u32 (ck : Int), .bool gg, .slice av ly.length cv2] 27))
        go_upto_region 14 with fail
        generalize w4.alloc (.cells #[.int .u64 (key : Int), .int .u32 (ck : Int), .bool gg, .slice av ly.length cv2] 27) = W5 at *
        obtain ⟨k0, k1, k2, k3, k4, k5, k6, k7, k8, k9, k10, k11⟩ := HR5.out.twelve
        obtain ⟨f0, f1, f2, f3, f4, f5, f6, f7, f8, f9, f10, f11⟩ := HR5.out.twelve_frozen
        go_wp2_with fail
        exact bodyPost_ret (wread_results (HR5.out.put12 _ _ _ _ _ _ _ _ _ _ _ _) rfl rfl) rfl (msp_bad HN.out (below_put12 HB5.out (Nat.le_succ _) _ _ _ _ _ _ _ _ _ _ _ _))
    have z1 : ((f : Int) == 1) = false := by rw [beq_eq_false_iff_ne]; omega
    by_cases h0 : f = 0
    · have z2 : ((f : Int) == 0) = true := by rw [h0]; rfl
      have HMG := Lib.hid (show msGet l = (if lx.length = 24 ∧ mchk (msHead lx) = 0 then (msHead lx, 0) else (mNone, 4)) from by
        rw [HX.out]
        unfold msIn
        rw [if_neg (by rw [HFV.out]; exact h1), HFV.out]
        simp only [h0, true_and])
      clear h0 h1
      by_cases hk : k = 24
      · have z3 : (((k - 24 : Nat) : Int) == 0) = true := by rw [hk]; rfl
        have HKE := Lib.hid hk
        clear hk
        obtain ⟨q, hq⟩ : ∃ q, mchk (msHead lx) = q := ⟨_, rfl⟩
        have EC := Lib.hid fun (W : World) => (show Calls Try.prog 40 #[.agg #[.int .i64 (b0 : Int), .int .i64 (b1 : Int), .int .i64 (b2 : Int), .int .i64 (v : Int), .int .i64 (y : Int), .int .u64 (d : Int), .int .i64 (b3 : Int), .bool false, .int .u64 0, .int .u32 0, .bool false, .slice none 0 0]] W fun e w' => e = .returned (errc q) ∧ Below W.heap.size W w' from by
          have := wcheck_any (msHead lx) W (BSl.nil _ _ none) (Nat.zero_le _)
          rw [hq, HV.out] at this
          exact this)
        have HQ := Lib.hid hq
        clear hq
        go_wp2_with fail
        refine EG.out.mono ?_
        rintro e w3 ⟨rfl, B3⟩
        have HB3 := Lib.hid (HBW.out.trans (B3.mono HBW.out.size))
        have HR3 := Lib.hid (HRc.out.below B3 HRc.out.lt)
        have HM3 := Lib.hid (HBM.out.below B3 HBM.out.lt)
        clear B3 EG
        obtain ⟨m0, m1, m2, m3, m4, m5, m6, m7, m8, m9, m10, m11⟩ := HM3.out.twelve
        go_wp2_with fail
        refine (EC.out _).mono ?_
        rintro e w4 ⟨rfl, B4⟩
        have HB4 := Lib.hid (HB3.out.trans (B4.mono HB3.out.size))
        have HR4 := Lib.hid (HR3.out.below B4 HR3.out.lt)
        have HM4 := Lib.hid (HM3.out.below B4 HM3.out.lt)
        clear B4 EC m0 m1 m2 m3 m4 m5 m6 m7 m8 m9 m10 m11
        obtain ⟨m0, m1, m2, m3, m4, m5, m6, m7, m8, m9, m10, m11⟩ := HM4.out.twelve
        obtain ⟨k0, k1, k2, k3, k4, k5, k6, k7, k8, k9, k10, k11⟩ := HR4.out.twelve
        obtain ⟨f0, f1, f2, f3, f4, f5, f6, f7, f8, f9, f10, f11⟩ := HR4.out.twelve_frozen
        by_cases hq0 : q = 0
        · subst hq0
          rw [show errc 0 = Value.nilIface from rfl]
          go_wp2_with fail
          refine bodyPost_ret (wread_results (HR4.out.put12 _ _ _ _ _ _ _ _ _ _ _ _) rfl rfl) rfl ⟨below_put12 HB4.out (Nat.le_succ _) _ _ _ _ _ _ _ _ _ _ _ _, msHead lx, 0, ?_, ?_, rfl, Nat.le_refl _, rfl, .inl ⟨rfl, rfl⟩⟩
          · rw [HMG.out, if_pos ⟨by rw [HK24.out.2.2]; exact HKE.out, HQ.out⟩]
            rfl
          · rw [HV.out]
            rfl
        · have HQ0 := Lib.hid hq0
          have he : errc q = er q := by unfold errc; rw [if_neg hq0]
          rw [he]
          clear hq0 he
          go_wp2_with fail
          exact bodyPost_ret (wread_results (HR4.out.put12 _ _ _ _ _ _ _ _ _ _ _ _) rfl rfl) rfl (msp_bad (by rw [HMG.out, if_neg (fun h => HQ0.out (HQ.out.symm.trans h.2))]) (below_put12 HB4.out (Nat.le_succ _) _ _ _ _ _ _ _ _ _ _ _ _))
      · have z3 : (((k - 24 : Nat) : Int) == 0) = false := by rw [beq_eq_false_iff_ne]; omega
        have HN := Lib.hid (show msGet l = (mNone, 4) from by rw [HMG.out, if_neg (fun h => hk (by rw [← HK24.out.2.2]; exact h.1))])
        clear hk
        go_wp2_with fail
        refine EG.out.mono ?_
        rintro e w3 ⟨rfl, B3⟩
        have HB3 := Lib.hid (HBW.out.trans (B3.mono HBW.out.size))
        have HR3 := Lib.hid (HRc.out.below B3 HRc.out.lt)
        clear B3 EG
        obtain ⟨k0, k1, k2, k3, k4, k5, k6, k7, k8, k9, k10, k11⟩ := HR3.out.twelve
        obtain ⟨f0, f1, f2, f3, f4, f5, f6, f7, f8, f9, f10, f11⟩ := HR3.out.twelve_frozen
        go_wp2_with fail
        exact bodyPost_ret (wread_results (HR3.out.put12 _ _ _ _ _ _ _ _ _ _ _ _) rfl rfl) rfl (msp_bad HN.out (below_put12 HB3.out (Nat.le_succ _) _ _ _ _ _ _ _ _ _ _ _ _))
    have z2 : ((f : Int) == 0) = false := by rw [beq_eq_false_iff_ne]; omega
    have HN := Lib.hid (show msGet l = (mNone, 4) from by
      rw [HX.out]
      unfold msIn
      rw [if_neg (by rw [HFV.out]; exact h1), if_neg (by rw [HFV.out]; exact fun q => h0 q.1)])
    clear h0 h1
    go_wp2_with fail
    refine EG.out.mono ?_
    rintro e w3 ⟨rfl, B3⟩
    have HB3 := Lib.hid (HBW.out.trans (B3.mono HBW.out.size))
    have HR3 := Lib.hid (HRc.out.below B3 HRc.out.lt)
    clear B3 EG
    obtain ⟨k0, k1, k2, k3, k4, k5, k6, k7, k8, k9, k10, k11⟩ := HR3.out.twelve
    obtain ⟨f0, f1, f2, f3, f4, f5, f6, f7, f8, f9, f10, f11⟩ := HR3.out.twelve_frozen
    go_wp2_with fail
    exact bodyPost_ret (wread_results (HR3.out.put12 _ _ _ _ _ _ _ _ _ _ _ _) rfl rfl) rfl (msp_bad HN.out (below_put12 HB3.out (Nat.le_succ _) _ _ _ _ _ _ _ _ _ _ _ _))
end Go.Proofs.Ytpkfjnhjcdcoaaa
