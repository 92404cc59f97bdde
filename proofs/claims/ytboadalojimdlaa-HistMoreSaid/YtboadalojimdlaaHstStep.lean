/-
  The document's step of a key.
-/
import Derived.Test.YtboadalojimdlaaHstRef
import Derived.Test.YtboadalojimdlaaHstSteps
namespace Go.Proofs.Ytboadalojimdlaa
open Go.RowKit

/-- A key as a value. -/
def Hst.KeyR.vals (k : Hst.KeyR) : Value := .agg #[.int .i64 k.st, .int .u32 k.ck, .slice k.da k.dn k.dc]
theorem step_results {W : World} {B : Nat} {v0 v1 v2 v5 v6 : Value} {a : Act} (h : Blk W B 28 #[v0, v1, v2]) (h4 : a.tmps[4]?.getD undef = .pointer (some ⟨B, 0, none⟩)) (h5 : a.tmps[5]?.getD undef = v5) (h6 : a.tmps[6]?.getD undef = v6) :
    (results Try.f15 a.tmps).run Try.prog W = .ok (.tuple #[.agg #[v0, v1, v2], v5, v6]) W := by
  have k0 : W.cell? ⟨B, 0, none⟩ = some v0 := h.cell 0
  have k1 : W.cell? ⟨B, 1, none⟩ = some v1 := h.cell 1
  have k2 : W.cell? ⟨B, 2, none⟩ = some v2 := h.cell 2
  simp [results, Try.results15, go_sem, h4, h5, h6, k0, k1, k2]
theorem Blk.three {w : World} {g : Nat} {t : TypeId} {a b c : Value} (k : Blk w g t #[a, b, c]) : w.cell? ⟨g, 0, none⟩ = some a ∧ w.cell? ⟨g, 1, none⟩ = some b ∧ w.cell? ⟨g, 2, none⟩ = some c := ⟨k.cell 0, k.cell 1, k.cell 2⟩
theorem Blk.put3 {w : World} {g : Nat} {t : TypeId} {a b c : Value} (k : Blk w g t #[a, b, c]) (x y z : Value) : Blk (((w.setCell ⟨g, 0, none⟩ x).setCell ⟨g, 1, none⟩ y).setCell ⟨g, 2, none⟩ z) g t #[x, y, z] := ((k.put 0 x).put 1 y).put 2 z
theorem below_put3 {B g : Nat} {a w : World} (h : Below B a w) (hg : B ≤ g) (x y z : Value) : Below B a (((w.setCell ⟨g, 0, none⟩ x).setCell ⟨g, 1, none⟩ y).setCell ⟨g, 2, none⟩ z) := ((h.setCell hg x).setCell hg y).setCell hg z

set_option maxRecDepth 100000 in
set_option maxHeartbeats 4000000 in
theorem step_any (k : Hst.KeyR) (c : CallR) (w : World) (hk : k.st = 0 ∨ k.st = 1 ∨ k.st = 2) : Calls Try.prog 15 #[k.vals, c.vals] w fun e w' =>
    e = .returned (.tuple #[(Hst.stepK k c).1.vals, .int .i64 (Hst.stepK k c).2.cd, .slice (Hst.stepK k c).2.ga (Hst.stepK k c).2.gn (Hst.stepK k c).2.gc]) ∧ Below w.heap.size w w' := by
  obtain ⟨r, hr⟩ : ∃ r, Hst.stepK k c = r := ⟨_, rfl⟩
  rw [hr]
  unfold Hst.stepK at hr
  obtain ⟨op, ck, da, dn, dc, dl, bg, en, cd, ga, gn, gc, gl⟩ := c
  obtain ⟨st, kk, ka, kn, kc, kl⟩ := k
  unfold CallR.vals Hst.KeyR.vals at *
  dsimp only at *
  obtain ⟨W0, hW0⟩ : ∃ W0, ((w.alloc (.cells #[.int .i64 st, .int .u32 kk, .slice ka kn kc] 28)).alloc (.cells #[.int .i64 op, .int .u32 ck, .slice da dn dc, .int .i64 bg, .int .i64 en, .int .i64 cd, .slice ga gn gc] 30)).alloc (.cells #[.int .i64 0, .int .u32 0, .slice none 0 0] 28) = W0 := ⟨_, rfl⟩
  have hK : Blk W0 w.heap.size 28 #[.int .i64 st, .int .u32 kk, .slice ka kn kc] := by rw [← hW0]; exact ((Blk.made w _ _).alloc _).alloc _
  have hC : Blk W0 (w.heap.size + 1) 30 #[.int .i64 op, .int .u32 ck, .slice da dn dc, .int .i64 bg, .int .i64 en, .int .i64 cd, .slice ga gn gc] := by
    rw [← hW0]
    have := (Blk.made (w.alloc (.cells #[.int .i64 st, .int .u32 kk, .slice ka kn kc] 28)) 30 #[.int .i64 op, .int .u32 ck, .slice da dn dc, .int .i64 bg, .int .i64 en, .int .i64 cd, .slice ga gn gc]).alloc (.cells #[.int .i64 0, .int .u32 0, .slice none 0 0] 28)
    simpa using this
  have hR : Blk W0 (w.heap.size + 2) 28 #[.int .i64 0, .int .u32 0, .slice none 0 0] := by
    rw [← hW0]
    have := Blk.made ((w.alloc (.cells #[.int .i64 st, .int .u32 kk, .slice ka kn kc] 28)).alloc (.cells #[.int .i64 op, .int .u32 ck, .slice da dn dc, .int .i64 bg, .int .i64 en, .int .i64 cd, .slice ga gn gc] 30)) 28 #[.int .i64 0, .int .u32 0, .slice none 0 0]
    simpa using this
  have BA : Below w.heap.size w W0 := by rw [← hW0]; exact (((Below.refl _ _).alloc (Nat.le_refl _) _).alloc (by simp) _).alloc (by simp; omega) _
  have HBA := Lib.hid BA
  have HBD := Lib.hid BA.drew
  obtain ⟨a0, a1, a2⟩ := hK.three
  obtain ⟨b0, b1, b2, b3, b4, b5, b6⟩ := hC.seven
  obtain ⟨r0, r1, r2⟩ := hR.three
  have f0 := hR.frozen 0
  have f1 := hR.frozen 1
  have f2 := hR.frozen 2
  have HR := Lib.hid hR
  have HRD := Lib.hid hR.drew
  have hz := hR.lt
  clear hK hC hR BA
  by_cases h1 : op = 1
  · subst h1
    rw [if_pos rfl] at hr
    rcases hk with hst | hst | hst
    · subst hst
      rw [if_pos rfl] at hr
      subst hr
      go_enter Try.func15, Try.ntmps15
      go_wp2_with fail
      exact bodyPost_ret (step_results (HR.out.put3 _ _ _) rfl rfl rfl) rfl ⟨rfl, below_put3 HBA.out (by omega) _ _ _⟩
    all_goals
      subst hst
      rw [if_neg (by decide)] at hr
      subst hr
      go_enter Try.func15, Try.ntmps15
      go_wp2_with fail
      go_region
      all_goals
        go_wp2_with fail
        exact bodyPost_ret (step_results (HRD.out.put3 _ _ _) rfl rfl rfl) rfl ⟨rfl, below_put3 HBD.out (by omega) _ _ _⟩
  · rw [if_neg h1] at hr
    have hb1 := beq_f h1
    rcases hk with hst | hst | hst
    · subst hst
      rw [if_pos rfl] at hr
      subst hr
      clear h1
      go_enter Try.func15, Try.ntmps15
      go_wp2_with fail
      exact bodyPost_ret (step_results (HR.out.put3 _ _ _) rfl rfl rfl) rfl ⟨rfl, below_put3 HBA.out (by omega) _ _ _⟩
    · subst hst
      rw [if_neg (by decide), if_neg (by decide)] at hr
      by_cases hck : kk ≠ ck
      · rw [if_pos hck] at hr
        subst hr
        have hbk := bne_t hck
        clear h1 hck
        go_enter Try.func15, Try.ntmps15
        go_wp2_with fail
        exact bodyPost_ret (step_results (HR.out.put3 _ _ _) rfl rfl rfl) rfl ⟨rfl, below_put3 HBA.out (by omega) _ _ _⟩
      · rw [if_neg hck] at hr
        have hbk := bne_f (Decidable.not_not.1 hck)
        by_cases h4 : op = 4
        · rw [if_pos h4] at hr
          subst hr
          have hb4 := beq_t h4
          clear h1 hck h4
          go_enter Try.func15, Try.ntmps15
          go_wp2_with fail
          exact bodyPost_ret (step_results (HR.out.put3 _ _ _) rfl rfl rfl) rfl ⟨rfl, below_put3 HBA.out (by omega) _ _ _⟩
        · rw [if_neg h4] at hr
          subst hr
          have hb4 := beq_f h4
          clear h1 hck h4
          go_enter Try.func15, Try.ntmps15
          go_wp2_with fail
          go_region
          all_goals
            go_wp2_with fail
            exact bodyPost_ret (step_results (HRD.out.put3 _ _ _) rfl rfl rfl) rfl ⟨rfl, below_put3 HBD.out (by omega) _ _ _⟩
    · subst hst
      rw [if_neg (by decide), if_pos rfl] at hr
      subst hr
      clear h1
      go_enter Try.func15, Try.ntmps15
      go_wp2_with fail
      exact bodyPost_ret (step_results (HR.out.put3 _ _ _) rfl rfl rfl) rfl ⟨rfl, below_put3 HBA.out (by omega) _ _ _⟩

/-! A cell of a row of one's own is written. -/
theorem own_set {W : World} {base g n cap size k : Nat} {e : TypeId} {xs : List Value} (h : W.ownsRow base e size (.slice (some ⟨g, 0, none⟩) n cap) n xs) (u : Value) :
    (W.setCell ⟨g, k, none⟩ u).ownsRow base e size (.slice (some ⟨g, 0, none⟩) n cap) n (xs.set k u) := by
  refine ⟨by rw [List.length_set]; exact h.1, ?_⟩
  rcases h.2 with ⟨e1, e2⟩ | ⟨g', cap', cur, e1, e2, e3, e4, e5, e6, e7⟩
  · cases e1
  · cases e1
    refine .inr ⟨g, cap, cur.setIfInBounds k u, rfl, e2, Blk.put e3 k u, e4, e5, by simpa using e6, ?_⟩
    rw [← e7, Array.toList_setIfInBounds, List.take_set]
theorem own_frozen {W : World} {base g n cap size k : Nat} {e : TypeId} {xs : List Value} (h : W.ownsRow base e size (.slice (some ⟨g, 0, none⟩) n cap) n xs) : W.frozen? ⟨g, k, none⟩ = false := by
  rcases h.2 with ⟨e1, e2⟩ | ⟨g', cap', cur, e1, e2, e3, -⟩
  · cases e1
  · cases e1
    exact Blk.frozen e3 k
theorem flatC_set (l : List CallR) (i j : Nat) (c : CallR) (u : Value) (hi : i < l.length) (hj : j < 7) (hc : (l.getD i dC).cells.set j u = c.cells) : (flatC l).set (i * 7 + j) u = flatC (l.set i c) := by
  induction l generalizing i with
  | nil => simp at hi
  | cons p ps ih =>
    cases i with
    | zero =>
      show (p.cells ++ flatC ps).set (0 * 7 + j) u = c.cells ++ flatC ps
      rw [Nat.zero_mul, Nat.zero_add, List.set_append, if_pos (by rw [show p.cells.length = 7 from rfl]; exact hj)]
      have hc : p.cells.set j u = c.cells := hc
      rw [hc]
    | succ i =>
      show (p.cells ++ flatC ps).set ((i + 1) * 7 + j) u = p.cells ++ flatC (ps.set i c)
      rw [List.set_append, if_neg (by rw [show p.cells.length = 7 from rfl]; omega), show p.cells.length = 7 from rfl, show (i + 1) * 7 + j - 7 = i * 7 + j from by omega]
      rw [ih i (by simpa using hi) hc]
theorem getD_set {l : List CallR} {i j : Nat} {c : CallR} : (l.set i c).getD j dC = if i = j ∧ i < l.length then c else l.getD j dC := by
  rw [List.getD, List.getD, List.getElem?_set]
  by_cases h : i = j
  · subst h
    by_cases h2 : i < l.length
    · simp [h2]
    · simp [h2]
  · simp [h]

end Go.Proofs.Ytboadalojimdlaa
