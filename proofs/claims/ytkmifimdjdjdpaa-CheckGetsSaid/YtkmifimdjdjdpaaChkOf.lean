/-
  corncriblaw05.of: the document's checkpoint as the program's.
-/
import Derived.Test.YtkmifimdjdjdpaaChkRight
import Derived.Test.YtkmifimdjdjdpaaNdlGet
namespace Go.Proofs.Ytkmifimdjdjdpaa
open Go.RowKit

theorem ofc_results {W : World} {B : Nat} {v0 v1 v2 v3 : Value} {a : Act} (h : Blk W B 46 #[v0, v1, v2, v3]) (h2 : a.tmps[2]?.getD undef = .pointer (some ⟨B, 0, none⟩)) :
    (results Try.f21 a.tmps).run Try.prog W = .ok (.agg #[v0, v1, v2, v3]) W := by
  obtain ⟨k0, k1, k2, k3⟩ := h.four
  simp [results, Try.results21, go_sem, h2, k0, k1, k2, k3]

/-- What holds of the two boxes. -/
def OfS (w : World) (v g u : Int) (a : Option Addr) (n c : Nat) (W : World) : Prop :=
  Blk W w.heap.size 40 #[.int .i64 v, .int .i64 g, .int .i64 u, .slice a n c] ∧ (∃ v0 v1 v2 v3, Blk W (w.heap.size + 1) 46 #[v0, v1, v2, v3]) ∧ Below w.heap.size w W

theorem OfS.drew {w W : World} {v g u : Int} {a : Option Addr} {n c : Nat} (h : OfS w v g u a n c W) : OfS w v g u a n c W.drew := by
  obtain ⟨h1, ⟨_, _, _, _, h2⟩, h3⟩ := h
  exact ⟨h1.drew, ⟨_, _, _, _, h2.drew⟩, h3.drew⟩
theorem OfS.below {w W W' : World} {v g u : Int} {a : Option Addr} {n c : Nat} (h : OfS w v g u a n c W) (B : Below W.heap.size W W') : OfS w v g u a n c W' := by
  obtain ⟨h1, ⟨_, _, _, _, h2⟩, h3⟩ := h
  exact ⟨h1.below B h1.lt, ⟨_, _, _, _, h2.below B h2.lt⟩, h3.trans (B.mono h3.size)⟩
theorem own_more_any {W : World} {base base' size : Nat} {e : TypeId} {v : Value} {k : Nat} {xs : List Value} (h : W.ownsRow base e size v k xs) (hb : base' ≤ base) : W.ownsRow base' e size v k xs := by
  refine ⟨h.1, ?_⟩
  rcases h.2 with h2 | ⟨g', cap', cur, e1, e2, e3⟩
  · exact .inl h2
  · exact .inr ⟨g', cap', cur, e1, Nat.le_trans hb e2, e3⟩
theorem own_form_any {W : World} {base k size : Nat} {v : Value} {xs : List Value} {e : TypeId} (h : W.ownsRow base e size v k xs) : ∃ a c, v = .slice a k c ∧ k ≤ c := by
  rcases h.2 with ⟨rfl, rfl⟩ | ⟨g, cap, _, rfl, _, _, h1, _⟩
  · exact ⟨none, 0, rfl, Nat.le_refl _⟩
  · exact ⟨_, cap, rfl, h1⟩

set_option maxRecDepth 100000 in
set_option maxHeartbeats 2000000 in
theorem ofc_any (v g u : Int) (a : Option Addr) (n c : Nat) (ps : List PosR) (w : World) (h : PSl w w.heap.size a n ps) (hn : n ≤ 4398046510976) :
    Calls Try.prog 21 #[.agg #[.int .i64 v, .int .i64 g, .int .i64 u, .slice a n c]] w fun e w' => ∃ x, e = .returned (.agg #[.int .i64 v, .int .i64 g, .int .i64 u, x]) ∧ w'.ownsRow w.heap.size 60 5 x n (flatP ps) ∧ Below w.heap.size w w' := by
  obtain ⟨W0, hW0⟩ : ∃ W0, (w.alloc (.cells #[.int .i64 v, .int .i64 g, .int .i64 u, .slice a n c] 40)).alloc (.cells #[.int .i64 0, .int .i64 0, .int .i64 0, .slice none 0 0] 46) = W0 := ⟨_, rfl⟩
  have hS0 : OfS w v g u a n c W0 := by
    rw [← hW0]
    refine ⟨(Blk.made w _ _).alloc _, ⟨.int .i64 0, .int .i64 0, .int .i64 0, .slice none 0 0, ?_⟩, ((Below.refl _ _).alloc (Nat.le_refl _) _).alloc (by simp) _⟩
    have := Blk.made (w.alloc (.cells #[.int .i64 v, .int .i64 g, .int .i64 u, .slice a n c] 40)) 46 #[.int .i64 0, .int .i64 0, .int .i64 0, .slice none 0 0]
    simpa using this
  have O := Lib.hid fun (W : World) (B : Below w.heap.size w W) => of_any5 a n c ps W ((h.below B).more B.size) hn
  have HS0 := Lib.hid hS0
  clear hS0 h
  go_enter Try.func21, Try.ntmps21
  go_wp2_with fail
  clear hW0
  refine wp_region_held_drew (S := OfS w v g u a n c) (by kernel_rfl) (by exact HS0.out.drew) (fun hS => ?_)
  refine wpAnyH_take (i := 0) (v := ?_) rfl (by kernel_rfl) (by kernel_rfl) (by kernel_rfl) (fun _ _ _ h => h) (Or.inl ⟨by kernel_rfl, ?_⟩) hS ?_
  rotate_left
  · intro W hW; go_simp; try with_reducible rfl
  refine wpAnyH_take (i := 1) (v := ?_) rfl (by kernel_rfl) (by kernel_rfl) (by kernel_rfl) (fun _ _ _ h => h) (Or.inl ⟨by kernel_rfl, ?_⟩) hS ?_
  rotate_left
  · intro W hW; obtain ⟨c0, c1, c2, c3⟩ := hW.1.four; go_simp; try with_reducible rfl
  refine wpAnyH_take (i := 2) (v := ?_) rfl (by kernel_rfl) (by kernel_rfl) (by kernel_rfl) (fun _ _ _ h => h) (Or.inl ⟨by kernel_rfl, ?_⟩) hS ?_
  rotate_left
  · intro W hW; go_simp; try with_reducible rfl
  refine wpAnyH_take (i := 3) (v := ?_) rfl (by kernel_rfl) (by kernel_rfl) (by kernel_rfl) (fun _ _ _ h => h) (Or.inl ⟨by kernel_rfl, ?_⟩) hS ?_
  rotate_left
  · intro W hW; obtain ⟨c0, c1, c2, c3⟩ := hW.1.four; go_simp; try with_reducible rfl
  refine wpAnyH_take (i := 4) (v := ?_) rfl (by kernel_rfl) (by kernel_rfl) (by kernel_rfl) (fun _ _ _ h => h) (Or.inl ⟨by kernel_rfl, ?_⟩) hS ?_
  rotate_left
  · intro W hW; go_simp; try with_reducible rfl
  refine wpAnyH_take (i := 5) (v := ?_) rfl (by kernel_rfl) (by kernel_rfl) (by kernel_rfl) (fun _ _ _ h => h) (Or.inl ⟨by kernel_rfl, ?_⟩) hS ?_
  rotate_left
  · intro W hW; obtain ⟨c0, c1, c2, c3⟩ := hW.1.four; go_simp; try with_reducible rfl
  refine wpAnyH_take (i := 6) (v := ?_) rfl (by kernel_rfl) (by kernel_rfl) (by kernel_rfl) (fun _ _ _ h => h) (Or.inl ⟨by kernel_rfl, ?_⟩) hS ?_
  rotate_left
  · intro W hW; go_simp; try with_reducible rfl
  refine wpAnyH_take (i := 7) (v := ?_) rfl (by kernel_rfl) (by kernel_rfl) (by kernel_rfl) (fun _ _ _ h => h) (Or.inl ⟨by kernel_rfl, ?_⟩) hS ?_
  rotate_left
  · intro W hW; obtain ⟨c0, c1, c2, c3⟩ := hW.1.four; go_simp; try with_reducible rfl
  refine wpAnyH_ready (rs := [8]) (by kernel_rfl) (by simp) ?_
  refine AllReadyH.cons rfl (fun K hK => ?_) AllReadyH.nil
  go_simp
  refine (O.out _ hS.2.2).mono ?_
  rintro e W2 ⟨x, rfl, hx, B2⟩
  obtain ⟨ax, cx, rfl, hcx⟩ := own_form_any hx
  have hT : OfS w v g u a n c W2 := OfS.below hS B2
  have hz := hS.2.2.size
  obtain ⟨_, _, _, _, hKb⟩ := hS.2.1
  have hzb := hKb.lt
  clear hKb
  go_simp
  refine hK.out _ _ ?_ (fun hN => ?_)
  · first | exact hT | exact hS | exact hS.alloc hS.size _ | exact hS.drew
  clear hK K
  try clear hT
  clear hS
  have hS := hN
  clear hN
  refine wpAnyH_take (i := 9) (v := ?_) rfl (by kernel_rfl) (by kernel_rfl) (by kernel_rfl) (fun _ _ _ h => h) (Or.inl ⟨by kernel_rfl, ?_⟩) hS ?_
  rotate_left
  · intro W hW; go_simp; try with_reducible rfl
  refine wpAnyH_ready (rs := [10]) (by kernel_rfl) (by simp) ?_
  refine AllReadyH.cons rfl (fun K hK => ?_) AllReadyH.nil
  obtain ⟨_, _, _, _, hKr⟩ := hS.2.1
  obtain ⟨k0, k1, k2, k3⟩ := hKr.four
  obtain ⟨f0, f1, f2, f3⟩ := hKr.four_frozen
  have hK0 := hS.1
  have hT : OfS w v g u a n c ((((W2.setCell ⟨w.heap.size + 1, 0, none⟩ (.int .i64 v)).setCell ⟨w.heap.size + 1, 1, none⟩ (.int .i64 g)).setCell ⟨w.heap.size + 1, 2, none⟩ (.int .i64 u)).setCell ⟨w.heap.size + 1, 3, none⟩ (.slice ax n cx)) :=
  ⟨(((hS.1.far (by simp) _).far (by simp) _).far (by simp) _).far (by simp) _, ⟨_, _, _, _, hKr.put4 _ _ _ _⟩, below_put4 hS.2.2 (Nat.le_succ _) _ _ _ _⟩
  have hK4 := hKr.put4 (.int .i64 v) (.int .i64 g) (.int .i64 u) (.slice ax n cx)
  have hlt2 := hKr.lt
  go_simp
  refine hK.out _ _ ?_ (fun hN => ?_)
  · first | exact hT | exact hS | exact hS.alloc hS.size _ | exact hS.drew
  clear hK K
  try clear hT
  clear hS
  have hS := hN
  clear hN
  refine wpAnyH_done (by kernel_rfl) ?_ _
  go_wp2_with fail
  refine bodyPost_ret (ofc_results hK4 rfl) rfl ⟨_, rfl, own_more_any (hx.kept (grown_put (grown_put (grown_put (grown_put (grown_refl _ (some (w.heap.size + 1))) 0 _) 1 _) 2 _) 3 _) ?_) hz, hS.2.2⟩
  cases hb : (Value.slice ax n cx).ownBlock with
  | none => exact .inl rfl
  | some q =>
    right
    intro e
    injection e with e
    have h1 := (hx.lt q hb).1
    omega

end Go.Proofs.Ytkmifimdjdjdpaa
