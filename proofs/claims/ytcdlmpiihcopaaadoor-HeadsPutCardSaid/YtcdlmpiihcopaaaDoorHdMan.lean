/-
  heads.GetManifest.
-/
import Derived.Test.YtcdlmpiihcopaaaDoorHdSuper
namespace Go.Proofs.YtcdlmpiihcopaaaDoor
open Go.RowKit
set_option linter.unusedVariables false

/-- The manifest of bytes: volume, generation, epoch, sealed, error. -/
def hdMan (L : List (BitVec 8)) : Nat × Nat × Nat × Bool × Nat :=
  if 24 < L.length then (0, 0, 0, false, 4)
  else if hdCode L 5 1296125513 ≠ 0 then (0, 0, 0, false, hdCode L 5 1296125513)
  else if nums L 16 4 ≤ 1 ∧ hdRight (nums L 4 4) (nums L 8 4) (nums L 12 4) = true then (nums L 4 4, nums L 8 4, nums L 12 4, decide (nums L 16 4 = 1), 0)
  else (0, 0, 0, false, 4)
theorem Blk.fourM {w : World} {B : Nat} {T : TypeId} {v0 v1 v2 v3 : Value} (h : Blk w B T #[v0, v1, v2, v3]) :
    (w.cell? ⟨B, 0, none⟩ = some v0 ∧ w.cell? ⟨B, 1, none⟩ = some v1 ∧ w.cell? ⟨B, 2, none⟩ = some v2 ∧ w.cell? ⟨B, 3, none⟩ = some v3) ∧
      w.frozen? ⟨B, 0, none⟩ = false ∧ w.frozen? ⟨B, 1, none⟩ = false ∧ w.frozen? ⟨B, 2, none⟩ = false ∧ w.frozen? ⟨B, 3, none⟩ = false :=
  ⟨⟨h.cell 0, h.cell 1, h.cell 2, h.cell 3⟩, h.frozen 0, h.frozen 1, h.frozen 2, h.frozen 3⟩
theorem Blk.put4M {w : World} {B : Nat} {T : TypeId} {v0 v1 v2 v3 : Value} (h : Blk w B T #[v0, v1, v2, v3]) (u0 u1 u2 u3 : Value) :
    Blk ((((w.setCell ⟨B, 0, none⟩ u0).setCell ⟨B, 1, none⟩ u1).setCell ⟨B, 2, none⟩ u2).setCell ⟨B, 3, none⟩ u3) B T #[u0, u1, u2, u3] :=
  (((h.put 0 u0).put 1 u1).put 2 u2).put 3 u3
theorem below_put4M {w : World} {X : World} {B : Nat} (h : Below X.heap.size X w) (hB : X.heap.size ≤ B) (u0 u1 u2 u3 : Value) :
    Below X.heap.size X ((((w.setCell ⟨B, 0, none⟩ u0).setCell ⟨B, 1, none⟩ u1).setCell ⟨B, 2, none⟩ u2).setCell ⟨B, 3, none⟩ u3) :=
  (((h.setCell (p := ⟨B, 0, none⟩) hB u0).setCell (p := ⟨B, 1, none⟩) hB u1).setCell (p := ⟨B, 2, none⟩) hB u2).setCell (p := ⟨B, 3, none⟩) hB u3
theorem gm_results {W : World} {B : Nat} {v0 v1 v2 v3 : Value} {a : Act} {e : Value} (h : Blk W B 36 #[v0, v1, v2, v3]) (h2 : a.tmps[2]?.getD undef = .pointer (some ⟨B, 0, none⟩)) (h3 : a.tmps[3]?.getD undef = e) :
    (results Tryd.f19 a.tmps).run Tryd.prog W = .ok (.tuple #[.agg #[v0, v1, v2, v3], e]) W := by
  obtain ⟨⟨k0, k1, k2, k3⟩, -, -, -, -⟩ := h.fourM
  simp [results, Tryd.results19, go_sem, h2, h3, k0, k1, k2, k3]
/-- What heads.GetManifest hands back. -/
def GmP (L : List (BitVec 8)) (w : World) (e : Ending) (w' : World) : Prop :=
  Below w.heap.size w w' ∧ ∃ (v g u : Nat) (s : Bool) (cf : Nat), hdMan L = (v, g, u, s, cf) ∧ e = .returned (.tuple #[.agg #[.int .i64 (v : Int), .int .i64 (g : Int), .int .i64 (u : Int), .bool s], errc cf])
set_option maxRecDepth 100000 in
set_option maxHeartbeats 4000000 in
theorem gman_any (a : Option Addr) (n c : Nat) (l : List (BitVec 8)) (w : World) (h : BSl w w.heap.size a n l) (hc : n ≤ c) (hn : n ≤ 1099511627776) :
    Calls Tryd.prog 19 #[.slice a n c] w (GmP l w) := by
  obtain ⟨W0, hW0, B0, hK⟩ : ∃ W0, w.alloc (.cells #[.int .i64 0, .int .i64 0, .int .i64 0, .bool false] 36) = W0 ∧ Below w.heap.size w W0 ∧ Blk W0 w.heap.size 36 #[.int .i64 0, .int .i64 0, .int .i64 0, .bool false] := ⟨_, rfl, (Below.refl w.heap.size w).alloc (Nat.le_refl _) _, Blk.made _ _ _⟩
  have HL := Lib.hid h.1
  have HK := Lib.hid hK
  have HB0 := Lib.hid B0
  by_cases hbig : 24 < n
  · have b0 : decide ((24 : Int) < (n : Int)) = true := decide_eq_true (by omega)
    have HBG := Lib.hid hbig
    obtain ⟨⟨q0, q1, q2, q3⟩, r0, r1, r2, r3⟩ := hK.fourM
    clear h hc hn hbig B0 hK
    go_enter Tryd.func19, Tryd.ntmps19
    go_upto_region 1 with fail
    clear hW0
    go_wp2_with fail
    refine bodyPost_ret (gm_results (HK.out.put4M _ _ _ _) rfl rfl) rfl ⟨below_put4M HB0.out (Nat.le_refl _) _ _ _ _, 0, 0, 0, false, 4, ?_, rfl⟩
    unfold hdMan
    rw [if_pos (by rw [HL.out]; exact HBG.out)]
  have b0 : decide ((24 : Int) < (n : Int)) = false := decide_eq_false (by omega)
  have HBG := Lib.hid hbig
  have E := Lib.hid (hread_lit (k := 5) (sz := 24) (magic := 1296125513) (szI := 24) (mI := 1296125513) rfl rfl ((h.below B0).more B0.size) hc hn rfl (by decide) (by decide) (by decide))
  clear h hc hn hbig B0 hK
  go_enter Tryd.func19, Tryd.ntmps19
  go_wp2_with fail
  clear hW0
  refine E.out.mono ?_
  rintro e W1 ⟨B1, av, m, cv, rfl, hd⟩
  have HD := Lib.hid hd
  have HB1 := Lib.hid (HB0.out.trans (B1.mono HB0.out.size))
  have HK1 := Lib.hid (HK.out.below B1 HK.out.lt)
  clear hd B1 E HB0 HK
  obtain ⟨cf, hcf⟩ : ∃ cf, hdCode l 5 1296125513 = cf := ⟨_, rfl⟩
  rw [hcf] at HD ⊢
  have HCF := Lib.hid hcf
  clear hcf
  by_cases h0 : cf = 0
  · subst h0
    rw [show errc 0 = Value.nilIface from rfl]
    obtain ⟨hm, hmc, hi⟩ := HD.out rfl
    rw [show 5 - 1 = 4 from rfl] at hm
    subst hm
    obtain ⟨x, hx⟩ : ∃ x, nums l 4 4 = x := ⟨_, rfl⟩
    obtain ⟨y, hy⟩ : ∃ y, nums l 8 4 = y := ⟨_, rfl⟩
    obtain ⟨z, hz⟩ : ∃ z, nums l 12 4 = z := ⟨_, rfl⟩
    obtain ⟨q, hq⟩ : ∃ q, nums l 16 4 = q := ⟨_, rfl⟩
    have hws : (hdWs l 5).drop 1 = [x, y, z, q] := by rw [← hx, ← hy, ← hz, ← hq]; rfl
    rw [hws] at hi
    obtain ⟨b, off, rfl, hbl, hcell⟩ := hi.2 (by decide)
    have c0 : W1.cell? ⟨b, off, none⟩ = some (.int .i64 (x : Int)) := hcell 0 (by decide)
    have c1 : W1.cell? ⟨b, off + 1, none⟩ = some (.int .i64 (y : Int)) := hcell 1 (by decide)
    have c2 : W1.cell? ⟨b, off + 2, none⟩ = some (.int .i64 (z : Int)) := hcell 2 (by decide)
    have c3 : W1.cell? ⟨b, off + 3, none⟩ = some (.int .i64 (q : Int)) := hcell 3 (by decide)
    have HC := Lib.hid fun (W : World) (B : Below W1.heap.size W1 W) => And.intro ((B.cell (p := ⟨b, off, none⟩) hbl).trans c0) (And.intro ((B.cell (p := ⟨b, off + 1, none⟩) hbl).trans c1) (And.intro ((B.cell (p := ⟨b, off + 2, none⟩) hbl).trans c2) ((B.cell (p := ⟨b, off + 3, none⟩) hbl).trans c3)))
    have HV := Lib.hid (And.intro hx (And.intro hy (And.intro hz hq)))
    clear hmc hi hws hcell c0 c1 c2 c3 hbl hx hy hz hq
    obtain ⟨rb, hrb⟩ : ∃ rb, hdRight (x : Int) (y : Int) (z : Int) = rb := ⟨_, rfl⟩
    have ER := Lib.hid fun (W : World) => (show Calls Tryd.prog 21 #[.int .i64 (x : Int), .int .i64 (y : Int), .int .i64 (z : Int)] W fun x w' => x = .returned (.bool rb) ∧ W = w' from by
      have := hright_any (x : Int) (y : Int) (z : Int) W
      rwa [hrb] at this)
    have HRB := Lib.hid hrb
    have HMAN := Lib.hid (show hdMan l = if q ≤ 1 ∧ rb = true then (x, y, z, decide (q = 1), 0) else (0, 0, 0, false, 4) from by
      unfold hdMan
      rw [if_neg (by rw [HL.out]; exact HBG.out), if_neg (by rw [HCF.out]; decide), HV.out.1, HV.out.2.1, HV.out.2.2.1, HV.out.2.2.2, HRB.out])
    clear hrb
    go_upto_region 6 with fail
    refine wp_region_held_drew (S := fun W => Below W1.heap.size W1 W) (by kernel_rfl) ((Below.refl _ _).drew) (fun hS => ?_)
    refine wpAnyH_take (i := 0) (v := ?_) rfl (by kernel_rfl) (by kernel_rfl) (by kernel_rfl) (fun _ _ _ h => h) (Or.inl ⟨by kernel_rfl, ?_⟩) hS ?_
    rotate_left
    · intro W hW; go_simp; try with_reducible rfl
    refine wpAnyH_take (i := 1) (v := ?_) rfl (by kernel_rfl) (by kernel_rfl) (by kernel_rfl) (fun _ _ _ h => h) (Or.inl ⟨by kernel_rfl, ?_⟩) hS ?_
    rotate_left
    · intro W hW; go_simp; try with_reducible rfl
    refine wpAnyH_take (i := 2) (v := ?_) rfl (by kernel_rfl) (by kernel_rfl) (by kernel_rfl) (fun _ _ _ h => h) (Or.inl ⟨by kernel_rfl, ?_⟩) hS ?_
    rotate_left
    · intro W hW; obtain ⟨p0, p1, p2, p3⟩ := HC.out W hW; go_simp; try with_reducible rfl
    refine wpAnyH_take (i := 3) (v := ?_) rfl (by kernel_rfl) (by kernel_rfl) (by kernel_rfl) (fun _ _ _ h => h) (Or.inl ⟨by kernel_rfl, ?_⟩) hS ?_
    rotate_left
    · intro W hW; go_simp; try with_reducible rfl
    refine wpAnyH_take (i := 4) (v := ?_) rfl (by kernel_rfl) (by kernel_rfl) (by kernel_rfl) (fun _ _ _ h => h) (Or.inl ⟨by kernel_rfl, ?_⟩) hS ?_
    rotate_left
    · intro W hW; go_simp; try with_reducible rfl
    refine wpAnyH_take (i := 5) (v := ?_) rfl (by kernel_rfl) (by kernel_rfl) (by kernel_rfl) (fun _ _ _ h => h) (Or.inl ⟨by kernel_rfl, ?_⟩) hS ?_
    rotate_left
    · intro W hW; obtain ⟨p0, p1, p2, p3⟩ := HC.out W hW; go_simp; try with_reducible rfl
    refine wpAnyH_take (i := 6) (v := ?_) rfl (by kernel_rfl) (by kernel_rfl) (by kernel_rfl) (fun _ _ _ h => h) (Or.inl ⟨by kernel_rfl, ?_⟩) hS ?_
    rotate_left
    · intro W hW; go_simp; try with_reducible rfl
    refine wpAnyH_take (i := 7) (v := ?_) rfl (by kernel_rfl) (by kernel_rfl) (by kernel_rfl) (fun _ _ _ h => h) (Or.inl ⟨by kernel_rfl, ?_⟩) hS ?_
    rotate_left
    · intro W hW; go_simp; try with_reducible rfl
    refine wpAnyH_take (i := 8) (v := ?_) rfl (by kernel_rfl) (by kernel_rfl) (by kernel_rfl) (fun _ _ _ h => h) (Or.inl ⟨by kernel_rfl, ?_⟩) hS ?_
    rotate_left
    · intro W hW; obtain ⟨p0, p1, p2, p3⟩ := HC.out W hW; go_simp; try with_reducible rfl
    refine wpAnyH_take (i := 9) (v := ?_) rfl (by kernel_rfl) (by kernel_rfl) (by kernel_rfl) (fun _ _ _ h => h) (Or.inl ⟨by kernel_rfl, ?_⟩) hS ?_
    rotate_left
    · intro W hW; go_simp; try with_reducible rfl
    refine wpAnyH_ready (rs := [10]) (by kernel_rfl) (by simp) ?_
    refine AllReadyH.cons (i := 10) rfl ?_ AllReadyH.nil
    intro K hK
    go_simp
    refine hK.out _ _ ?_ (fun hN => ?_)
    · first | exact hT | exact hS | exact hS.alloc hS.size _ | exact hS.drew
    clear hK K
    try clear hT
    clear hS
    have hS := hN
    clear hN
    refine wpAnyH_ready (rs := [11]) (by kernel_rfl) (by simp) ?_
    refine AllReadyH.cons (i := 11) rfl ?_ AllReadyH.nil
    intro K hK
    go_simp
    have hT : Below W1.heap.size W1 (W1.alloc (.cells #[.int .i64 (x : Int), .int .i64 (y : Int), .int .i64 (z : Int), .bool false] 36)).drew := ((Below.refl _ _).alloc (Nat.le_refl _) _).drew
    go_simp
    refine hK.out _ _ ?_ (fun hN => ?_)
    · first | exact hT | exact hS | exact hS.alloc hS.size _ | exact hS.drew
    clear hK K
    try clear hT
    clear hS
    have hS := hN
    clear hN
    refine wpAnyH_done (by kernel_rfl) ?_ _
    have HB2 := Lib.hid (HB1.out.trans (hS.mono HB1.out.size))
    have HK2 := Lib.hid (HK1.out.below hS HK1.out.lt)
    obtain ⟨p0, p1, p2, p3⟩ := HC.out _ hS
    have HM2 := Lib.hid (Blk.made W1 36 #[.int .i64 (x : Int), .int .i64 (y : Int), .int .i64 (z : Int), .bool false]).drew
    have HNE := Lib.hid (show W1.heap.size ≠ w.heap.size ∧ w.heap.size ≤ W1.heap.size from by have := HK1.out.lt; omega)
    clear hS
    generalize (W1.alloc (.cells #[.int .i64 (x : Int), .int .i64 (y : Int), .int .i64 (z : Int), .bool false] 36)).drew = W2 at *
    generalize W1.heap.size = M at *
    obtain ⟨⟨q0, q1, q2, q3⟩, r0, r1, r2, r3⟩ := HK2.out.fourM
    go_simp
    by_cases hq1 : q = 1
    · have z1 : ((q : Int) == 1) = true := by rw [hq1]; rfl
      have HM3 := Lib.hid (HM2.out.put 3 (.bool true))
      have HK3 := Lib.hid (HK2.out.far (p := ⟨M, 3, none⟩) (by have := HNE.out.1; show w.heap.size ≠ M; omega) (.bool true))
      have HB3 := Lib.hid (HB2.out.setCell (p := ⟨M, 3, none⟩) (by have := HNE.out.2; exact this) (.bool true))
      obtain ⟨⟨m0, m1, m2, m3⟩, n0, n1, n2, n3⟩ := HM2.out.fourM
      have HQ := Lib.hid hq1
      clear hq1
      go_upto_region 11 with fail
      generalize W2.setCell ⟨M, 3, none⟩ (.bool true) = W3 at *
      clear q0 q1 q2 q3 r0 r1 r2 r3 m0 m1 m2 m3 n0 n1 n2 n3 p0 p1 p2 p3
      obtain ⟨⟨q0, q1, q2, q3⟩, r0, r1, r2, r3⟩ := HK3.out.fourM
      obtain ⟨⟨m0, m1, m2, m3⟩, -, -, -, -⟩ := HM3.out.fourM
      go_wp2_with fail
      refine (ER.out _).mono ?_
      rintro e w7 ⟨rfl, rfl⟩
      cases rb with
      | true =>
        go_wp2_with fail
        refine bodyPost_ret (gm_results (HK3.out.put4M _ _ _ _) rfl rfl) rfl ⟨below_put4M HB3.out (Nat.le_refl _) _ _ _ _, x, y, z, true, 0, ?_, rfl⟩
        rw [HMAN.out, if_pos ⟨by have := HQ.out; omega, by first | rfl | trivial⟩, decide_eq_true HQ.out]
      | false =>
        go_wp2_with fail
        refine bodyPost_ret (gm_results (HK3.out.put4M _ _ _ _) rfl rfl) rfl ⟨below_put4M HB3.out (Nat.le_refl _) _ _ _ _, 0, 0, 0, false, 4, ?_, rfl⟩
        rw [HMAN.out, if_neg (by rintro ⟨_, h⟩; first | exact absurd h (by decide) | cases h | exact h)]
    · have z1 : ((q : Int) == 1) = false := by rw [beq_eq_false_iff_ne]; omega
      by_cases hq0 : q = 0
      · have z2 : ((q : Int) == 0) = true := by rw [hq0]; rfl
        have HQ := Lib.hid (And.intro hq0 hq1)
        obtain ⟨⟨m0, m1, m2, m3⟩, -, -, -, -⟩ := HM2.out.fourM
        clear hq0 hq1
        go_wp2_with fail
        refine (ER.out _).mono ?_
        rintro e w7 ⟨rfl, rfl⟩
        cases rb with
        | true =>
          go_wp2_with fail
          refine bodyPost_ret (gm_results (HK2.out.put4M _ _ _ _) rfl rfl) rfl ⟨below_put4M HB2.out (Nat.le_refl _) _ _ _ _, x, y, z, false, 0, ?_, rfl⟩
          rw [HMAN.out, if_pos ⟨by have := HQ.out.1; omega, by first | rfl | trivial⟩, decide_eq_false HQ.out.2]
        | false =>
          go_wp2_with fail
          refine bodyPost_ret (gm_results (HK2.out.put4M _ _ _ _) rfl rfl) rfl ⟨below_put4M HB2.out (Nat.le_refl _) _ _ _ _, 0, 0, 0, false, 4, ?_, rfl⟩
          rw [HMAN.out, if_neg (by rintro ⟨_, h⟩; first | exact absurd h (by decide) | cases h | exact h)]
      · have z2 : ((q : Int) == 0) = false := by rw [beq_eq_false_iff_ne]; omega
        have HQ := Lib.hid (show ¬ q ≤ 1 from by omega)
        clear hq0 hq1
        go_wp2_with fail
        refine bodyPost_ret (gm_results (HK2.out.put4M _ _ _ _) rfl rfl) rfl ⟨below_put4M HB2.out (Nat.le_refl _) _ _ _ _, 0, 0, 0, false, 4, ?_, rfl⟩
        rw [HMAN.out, if_neg (fun h => HQ.out h.1)]
  · have he : errc cf = er cf := by unfold errc; rw [if_neg h0]
    rw [he]
    have H0 := Lib.hid h0
    have HE := Lib.hid he
    obtain ⟨⟨q0, q1, q2, q3⟩, r0, r1, r2, r3⟩ := HK1.out.fourM
    clear h0 he
    go_wp2_with fail
    refine bodyPost_ret (gm_results (HK1.out.put4M _ _ _ _) rfl rfl) rfl ⟨below_put4M HB1.out (Nat.le_refl _) _ _ _ _, 0, 0, 0, false, cf, ?_, by rw [HE.out]; rfl⟩
    unfold hdMan
    rw [if_neg (by rw [HL.out]; exact HBG.out), if_pos (by rw [HCF.out]; exact H0.out), HCF.out]
end Go.Proofs.YtcdlmpiihcopaaaDoor
