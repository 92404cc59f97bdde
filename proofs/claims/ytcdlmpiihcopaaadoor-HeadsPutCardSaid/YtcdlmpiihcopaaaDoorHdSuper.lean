/-
  heads.GetSuper.
-/
import Derived.Test.YtcdlmpiihcopaaaDoorHdRead
namespace Go.Proofs.YtcdlmpiihcopaaaDoor
open Go.RowKit
set_option linter.unusedVariables false

theorem Blk.two {w : World} {B : Nat} {T : TypeId} {v0 v1 : Value} (h : Blk w B T #[v0, v1]) :
    (w.cell? ⟨B, 0, none⟩ = some v0 ∧ w.cell? ⟨B, 1, none⟩ = some v1) ∧ w.frozen? ⟨B, 0, none⟩ = false ∧ w.frozen? ⟨B, 1, none⟩ = false := ⟨⟨h.cell 0, h.cell 1⟩, h.frozen 0, h.frozen 1⟩
theorem Blk.put2 {w : World} {B : Nat} {T : TypeId} {v0 v1 : Value} (h : Blk w B T #[v0, v1]) (u0 u1 : Value) : Blk ((w.setCell ⟨B, 0, none⟩ u0).setCell ⟨B, 1, none⟩ u1) B T #[u0, u1] := (h.put 0 u0).put 1 u1
theorem below_put2 {w : World} {X : World} {B : Nat} (h : Below X.heap.size X w) (hB : X.heap.size ≤ B) (u0 u1 : Value) : Below X.heap.size X ((w.setCell ⟨B, 0, none⟩ u0).setCell ⟨B, 1, none⟩ u1) :=
  (h.setCell (p := ⟨B, 0, none⟩) hB u0).setCell (p := ⟨B, 1, none⟩) hB u1
theorem gs_results {W : World} {B : Nat} {v0 v1 : Value} {a : Act} {e : Value} (h : Blk W B 33 #[v0, v1]) (h2 : a.tmps[2]?.getD undef = .pointer (some ⟨B, 0, none⟩)) (h3 : a.tmps[3]?.getD undef = e) :
    (results Tryd.f17 a.tmps).run Tryd.prog W = .ok (.tuple #[.agg #[v0, v1], e]) W := by
  obtain ⟨⟨k0, k1⟩, -, -⟩ := h.two
  simp [results, Tryd.results17, go_sem, h2, h3, k0, k1]
/-- What heads.GetSuper hands back. -/
def GsP (L : List (BitVec 8)) (w : World) (e : Ending) (w' : World) : Prop :=
  Below w.heap.size w w' ∧ ∃ v g cf : Nat, hdSuper L = (v, g, cf) ∧ e = .returned (.tuple #[.agg #[.int .i64 (v : Int), .int .i64 (g : Int)], errc cf])
theorem hread_lit {a : Option Addr} {n c : Nat} {l : List (BitVec 8)} (k sz : Nat) (magic : Nat) {szI mI : Int} {w : World} (e1 : szI = (sz : Int)) (e2 : mI = (magic : Int)) (h : BSl w w.heap.size a n l) (hc : n ≤ c) (hn : n ≤ 1099511627776) (hsz : sz = 4 * k + 4) (hk : 2 ≤ k) (hk2 : k ≤ 100) (hmg : magic < 4294967296) :
    Calls Tryd.prog 27 #[.slice a n c, .int .i64 szI, .int .i64 mI] w (HdP l k magic w) := by
  subst e1 e2
  exact hread_any a n c l k sz magic w h hc hn hsz hk hk2 hmg
set_option maxRecDepth 100000 in
set_option maxHeartbeats 4000000 in
theorem gsuper_any (a : Option Addr) (n c : Nat) (l : List (BitVec 8)) (w : World) (h : BSl w w.heap.size a n l) (hc : n ≤ c) (hn : n ≤ 1099511627776) :
    Calls Tryd.prog 17 #[.slice a n c] w (GsP l w) := by
  have B0 := (Below.refl w.heap.size w).alloc (Nat.le_refl _) (.cells #[.int .i64 0, .int .i64 0] 33)
  have HK := Lib.hid (Blk.made w 33 #[.int .i64 0, .int .i64 0])
  have E := Lib.hid (hread_lit (k := 3) (sz := 16) (magic := 1129466178) (szI := 16) (mI := 1129466178) rfl rfl ((h.below B0).more B0.size) hc hn rfl (by decide) (by decide) (by decide))
  have HB0 := Lib.hid B0
  clear h hc hn B0
  go_enter Tryd.func17, Tryd.ntmps17
  go_wp2_with fail
  refine E.out.mono ?_
  rintro e W1 ⟨B1, av, m, cv, rfl, hd⟩
  have HD := Lib.hid hd
  have HB1 := Lib.hid (HB0.out.trans (B1.mono HB0.out.size))
  have HK1 := Lib.hid (HK.out.below B1 HK.out.lt)
  clear hd B1 E HB0 HK
  obtain ⟨cf, hcf⟩ : ∃ cf, hdCode l 3 1129466178 = cf := ⟨_, rfl⟩
  rw [hcf] at HD ⊢
  have HCF := Lib.hid hcf
  clear hcf
  by_cases h0 : cf = 0
  · subst h0
    rw [show errc 0 = Value.nilIface from rfl]
    obtain ⟨hm, hmc, hi⟩ := HD.out rfl
    rw [show 3 - 1 = 2 from rfl] at hm
    subst hm
    obtain ⟨x, hx⟩ : ∃ x, nums l 4 4 = x := ⟨_, rfl⟩
    obtain ⟨y, hy⟩ : ∃ y, nums l 8 4 = y := ⟨_, rfl⟩
    have hws : (hdWs l 3).drop 1 = [x, y] := by rw [← hx, ← hy]; rfl
    rw [hws] at hi
    obtain ⟨b, off, rfl, hbl, hcell⟩ := hi.2 (by decide)
    have hc0 : W1.cell? ⟨b, off, none⟩ = some (.int .i64 (x : Int)) := hcell 0 (by decide)
    have hc1 : W1.cell? ⟨b, off + 1, none⟩ = some (.int .i64 (y : Int)) := hcell 1 (by decide)
    have HC := Lib.hid fun (W : World) (B : Below W1.heap.size W1 W) => And.intro ((B.cell (p := ⟨b, off, none⟩) hbl).trans hc0) ((B.cell (p := ⟨b, off + 1, none⟩) hbl).trans hc1)
    have HX := Lib.hid hx
    have HY := Lib.hid hy
    clear hmc hi hws hcell hc0 hc1 hbl hx hy
    obtain ⟨rb, hrb⟩ : ∃ rb, hdRight (x : Int) (y : Int) 0 = rb := ⟨_, rfl⟩
    have ER := Lib.hid fun (W : World) => (show Calls Tryd.prog 21 #[.int .i64 (x : Int), .int .i64 (y : Int), .int .i64 0] W fun x w' => x = .returned (.bool rb) ∧ W = w' from by
      have := hright_any (x : Int) (y : Int) 0 W
      rwa [hrb] at this)
    have HRB := Lib.hid hrb
    clear hrb
    go_upto_region 4 with fail
    refine wp_region_held_drew (S := fun W => Below W1.heap.size W1 W) (by kernel_rfl) ((Below.refl _ _).drew) (fun hS => ?_)
    refine wpAnyH_take (i := 0) (v := ?_) rfl (by kernel_rfl) (by kernel_rfl) (by kernel_rfl) (fun _ _ _ h => h) (Or.inl ⟨by kernel_rfl, ?_⟩) hS ?_
    rotate_left
    · intro W hW; go_simp; try with_reducible rfl
    refine wpAnyH_take (i := 1) (v := ?_) rfl (by kernel_rfl) (by kernel_rfl) (by kernel_rfl) (fun _ _ _ h => h) (Or.inl ⟨by kernel_rfl, ?_⟩) hS ?_
    rotate_left
    · intro W hW; go_simp; try with_reducible rfl
    refine wpAnyH_take (i := 2) (v := ?_) rfl (by kernel_rfl) (by kernel_rfl) (by kernel_rfl) (fun _ _ _ h => h) (Or.inl ⟨by kernel_rfl, ?_⟩) hS ?_
    rotate_left
    · intro W hW; obtain ⟨p0, p1⟩ := HC.out W hW; go_simp; try with_reducible rfl
    refine wpAnyH_take (i := 3) (v := ?_) rfl (by kernel_rfl) (by kernel_rfl) (by kernel_rfl) (fun _ _ _ h => h) (Or.inl ⟨by kernel_rfl, ?_⟩) hS ?_
    rotate_left
    · intro W hW; go_simp; try with_reducible rfl
    refine wpAnyH_take (i := 4) (v := ?_) rfl (by kernel_rfl) (by kernel_rfl) (by kernel_rfl) (fun _ _ _ h => h) (Or.inl ⟨by kernel_rfl, ?_⟩) hS ?_
    rotate_left
    · intro W hW; go_simp; try with_reducible rfl
    refine wpAnyH_take (i := 5) (v := ?_) rfl (by kernel_rfl) (by kernel_rfl) (by kernel_rfl) (fun _ _ _ h => h) (Or.inl ⟨by kernel_rfl, ?_⟩) hS ?_
    rotate_left
    · intro W hW; obtain ⟨p0, p1⟩ := HC.out W hW; go_simp; try with_reducible rfl
    refine wpAnyH_ready (rs := [6]) (by kernel_rfl) (by simp) ?_
    refine AllReadyH.cons (i := 6) rfl ?_ AllReadyH.nil
    intro K hK
    go_simp
    refine (ER.out _).mono ?_
    rintro e w7 ⟨rfl, rfl⟩
    go_simp
    refine hK.out _ _ ?_ (fun hN => ?_)
    · first | exact hT | exact hS | exact hS.alloc hS.size _ | exact hS.drew
    clear hK K
    try clear hT
    clear hS
    have hS := hN
    clear hN
    refine wpAnyH_take (i := 7) (v := ?_) rfl (by kernel_rfl) (by kernel_rfl) (by kernel_rfl) (fun _ _ _ h => h) (Or.inl ⟨by kernel_rfl, ?_⟩) hS ?_
    rotate_left
    · intro W hW; go_simp; try with_reducible rfl
    refine wpAnyH_done (by kernel_rfl) ?_ _
    have HB2 := Lib.hid (HB1.out.trans (hS.mono HB1.out.size))
    have HK2 := Lib.hid (HK1.out.below hS HK1.out.lt)
    obtain ⟨p0, p1⟩ := HC.out W1 (Below.refl _ _)
    clear hS
    obtain ⟨⟨q0, q1⟩, r0, r1⟩ := HK1.out.two
    cases rb with
    | true =>
      go_simp
      go_upto_region 6 with fail
      go_region
      all_goals
        go_wp2_with fail
        refine bodyPost_ret (gs_results (HK1.out.put2 _ _).drew.drew rfl rfl) rfl ⟨(below_put2 HB1.out (Nat.le_refl _) _ _).drew.drew, x, y, 0, ?_, rfl⟩
        unfold hdSuper
        rw [if_neg (by rw [HCF.out]; decide), HX.out, HY.out, if_pos HRB.out]
    | false =>
      go_simp
      go_wp2_with fail
      refine bodyPost_ret (gs_results (HK2.out.put2 _ _) rfl rfl) rfl ⟨below_put2 HB2.out (Nat.le_refl _) _ _, 0, 0, 4, ?_, rfl⟩
      unfold hdSuper
      rw [if_neg (by rw [HCF.out]; decide), HX.out, HY.out, if_neg (by rw [HRB.out]; decide)]
  · have he : errc cf = er cf := by unfold errc; rw [if_neg h0]
    rw [he]
    have H0 := Lib.hid h0
    have HE := Lib.hid he
    obtain ⟨⟨q0, q1⟩, r0, r1⟩ := HK1.out.two
    clear h0 he
    go_wp2_with fail
    refine bodyPost_ret (gs_results (HK1.out.put2 _ _) rfl rfl) rfl ⟨below_put2 HB1.out (Nat.le_refl _) _ _, 0, 0, cf, ?_, by rw [HE.out]; rfl⟩
    unfold hdSuper
    rw [if_pos (by rw [HCF.out]; exact H0.out), HCF.out]
end Go.Proofs.YtcdlmpiihcopaaaDoor
