/-
  The walks of pack.Put, size 1 (written by genput.py).
-/
import Derived.Test.YtpkfjnhjcdcoaaaPutLoop
import Derived.Deep.RegionLaw
namespace Go.Proofs.Ytpkfjnhjcdcoaaa
open Go.RowKit Go.Shelf

attribute [local go_sem] Oper.semAt_some
attribute [local go_sem ↓] Go.wp_at_zero Go.wp_at_succ app_rule

set_option maxRecDepth 100000 in
set_option maxHeartbeats 4000000 in
theorem put1 (a : Option Addr) (m c : Nat) (l : List (BitVec 8)) (n : Nat) (w : World) (h : BSl w w.heap.size a m l) (hm : m ≤ 1099511627776) (h0 : a = none → m = 0) (hn : n < 256) :
    Calls Try.prog 48 #[.slice a m c, .int .u64 n, .int .i64 1] w fun e w' => ∃ g cap, e = .returned (.tuple #[.slice (some ⟨g, 0, none⟩) (m + 1) cap, .nilIface]) ∧
      w'.ownsRow w.heap.size 5 1 (.slice (some ⟨g, 0, none⟩) (m + 1) cap) (m + 1) ((l ++ Num.le n 1).map bv) ∧ Below w.heap.size w w' := by
  have HS := Lib.hid (fun w => sized_yes 1 w rfl)
  have HN := Lib.hid h0
  have hfit : decide (n < 256 ^ 1) = true := by simp; omega
  have HF := Lib.hid (fun w => fits_any n 1 w (by omega) rfl)
  have HP := Lib.hid (fun (k : Int) (w : World) (nb : Nat) (h0 : 0 ≤ k) (hk : k < 8) (hc : w.cell? ⟨nb, 0, none⟩ = some (.int .u64 n)) => part_open n k nb w (by omega) h0 hk hc)
  clear h0 hn
  refine (callsIn_wide (n := 5)).1 ?_
  refine callsIn_of_wp_marks Try.func48 rfl trivial ?_ rfl
  simp only [Try.ntmps48, List.size_toArray, List.length_cons, List.length_nil, Nat.reduceAdd, Nat.reduceSub, Array.replicate_succ, Array.replicate_zero, List.push_toArray, List.append_toArray, List.nil_append, List.cons_append]
  refine wpIn_wide.2 ?_
  have hA : BSl (w.alloc (.cells #[.int .u64 n] 24)) (w.heap.size + 1) a m l := (h.below ((Below.refl w.heap.size w).alloc (Nat.le_refl _) _)).more (by omega)
  have hlen := h.1
  go_wp2_with (first
    | (go_at_call 60; refine (HS.out _).mono ?_; rintro e w' ⟨rfl, rfl⟩)
    | (go_at_call 75; refine (HF.out _).mono ?_; rintro e w' ⟨rfl, rfl⟩)
    | (go_at_call 59; refine (clone_any a m c l _ (by simpa using hA) hm HN.out).mono ?_; rintro e w1 ⟨av, cv, rfl, hown1, hb1⟩; simp only [World.size_alloc] at hown1 hb1; have hc1 := (hb1.cell (p := ⟨w.heap.size, 0, none⟩) (by simp)).trans (Boxed.new w 24 (.int .u64 n)).cell; have hz1 : w.heap.size + 1 ≤ w1.heap.size := by simpa using hb1.size)
    | (go_at_call 76; refine (HP.out _ _ _ (by omega) (by omega) (by rw [World.cell?_alloc_lt _ _ _ (by simp; omega)]; exact hc1)).mono ?_; rintro e w' ⟨rfl, rfl⟩))
  have hP := put_start (.int .u8 (pb n 0)) hb1 hown1 hz1
  clear hA h hc1
  generalize ((w1.alloc (.cells #[.slice av m cv] 22)).alloc (.cells #[.int .u8 (pb n 0)] 5)).alloc (.cells #[.slice (some ⟨w1.heap.size + 1, 0, none⟩) 1 1] 22) = W0 at hP ⊢
  generalize eO : w1.heap.size = O at hP hz1 ⊢
  clear hown1 hb1 eO
  have hl0 : (l.map bv ++ [Value.int .u8 (pb n 0)]) = l.map bv ++ [Value.int .u8 (pb n 0)] := rfl
  clear hl0
  obtain ⟨go, rco, Vo, hro, hxo, hfo, hPo, hKo, hUo⟩ := put_out hP (.int .u8 (pb n 0)) rfl (by omega)
  have hcO := hP.out.cell
  have hcR := hP.rest.cell
  have hc0 := hP.restRow.cellAt 0 (by decide)
  simp only [List.getElem?_cons_zero] at hc0
  have hcOa := fun o => (hP.out.alloc o).cell
  refine' wp_ends ?firsto ?resto
  case firsto =>
    go_region_law (refine step_run (by rfl) _ _ (by rfl) (by rfl) (by rfl) hro ?_)
    all_goals exact ⟨rfl, rfl⟩
  clear hcO hcR hc0 hcOa hro hxo hfo hKo hUo hP
  generalize Vo.setCell ⟨O, 0, none⟩ (.slice (some ⟨go, 0, none⟩) (m + 1) rco) = Wo at hPo ⊢
  clear Vo
  have hcR := hPo.rest.cell
  obtain ⟨hL, hsrc⟩ := rest_bytes hPo.restRow [nbyte n 0] (by simp [bv_nbyte])
  obtain ⟨a', _, s2, _, hcut, hblk⟩ := cut_bytes_at hL hsrc 1 0 (by decide)
  have hsl := fun W => s2 (1 : Int) W rfl rfl
  simp only [List.drop_succ_cons, List.drop_zero, List.take_zero] at hcut
  clear s2 hL
  go_wp2_with (go_at_call 61; refine (back_calls _ _ _ _).mono ?_; rintro e w' ⟨rfl, rfl⟩)
  have hB0 : Below w.heap.size w (Wo.alloc (.cells #[.slice a' 0 (1 - 1)] 22)) := hPo.below.alloc hPo.below.size _
  have hBW : Below Wo.heap.size Wo (Wo.alloc (.cells #[.slice a' 0 (1 - 1)] 22)) := (Below.refl _ Wo).alloc (Nat.le_refl _) _
  have bN := Boxed.new Wo 22 (.slice a' 0 (1 - 1))
  have hzO : O < Wo.heap.size := hPo.out.lt
  have hzg : (O + 1) < Wo.heap.size := (hPo.restRow.lt (O + 1) rfl).2
  refine range_wide (gf := 80) (lb := #[.pointer (some ⟨Wo.heap.size, 0, none⟩)]) rfl (enters_of Try.func80 (by kernel_rfl) rfl)
    (back_stops_of (α := Nat) (encP [] 0) id Fence.wide 4 trivial rfl (by omega) Wo.heap.size 0 (1 - 1) (fun b => b = (O + 1) ∨ b = Wo.heap.size) a' _ (fun _ _ => rfl) (by omega) _ (fun b hb => by simp; omega) (.inr rfl) bN.cell
      ⟨hcut.1, fun h0 => by omega⟩) KS.trans (ks_put (fun b hb => by simp; omega)) (Below.refl _ _) (fun _ => rfl)
    (PutI w w.heap.size O (O + 1 + 1) n (m + 1) (l.map bv ++ [.int .u8 (pb n 0)]) (O + 1) 1 1 [.int .u8 (pb n 0)] Wo.heap.size (.slice a' 0 (1 - 1)) (fun j => bv (ibyte [] 0 j)))
    (putI_own (by simp; have := hPo.below.size; omega))
    ⟨⟨_, _, by simpa using hPo.kept (World.grownBy_alloc Wo _ none) (fun r e => by cases e)⟩, bN⟩
    (fun t j => ((t.setIfInBounds 66 (.int .i64 (ix 0 j : Int))).setIfInBounds 67 (.int .u8 ((ibyte [] 0 j).toNat : Int))).setIfInBounds 11 (.int .i64 (ix 0 j : Int)))
    ?assign ?body ?done
  case assign =>
    intro lp x W K hK
    unfold encP
    gi_wp2
    exact hK
  case body =>
    intro lp pre j W hI hlt
    omega
  case done =>
    rintro D ys W hD rfl ⟨⟨av2, cv2, hp2⟩, _⟩ hK
    have hfin := out_bytes1 l n
    have hln : m + 1 + (upto id 0).length = m + 1 := by simp [upto]
    rw [hfin, hln] at hp2
    clear hfin hln
    obtain ⟨gf, capf, ef, _, _⟩ := hp2.outRow.form (by omega)
    cases ef
    have hcO := hp2.out.cell
    have hown := hp2.outRow.kept (grownBy_putObj' W D (.deferred none)) (.inr (by
      intro e
      have e2 : some gf = some D := e
      injection e2 with e2
      subst e2
      rcases hp2.outRow.2 with ⟨e1, _⟩ | ⟨q, _, _, e1, _, hgb, _⟩
      · cases e1
      · cases e1
        rw [hK] at hgb
        cases hgb))
    have hbel := hp2.below
    go_wp2
    refine ⟨by simp, .inl ⟨_, _, rfl, run_takeDeferred hK, ?_⟩⟩
    refine ⟨_, results_tmp2 rfl _ _ _, _, _, rfl, hown, hbel.grown (grownBy_putObj' W D (.deferred none)) hbel.size (fun q e => ?_)⟩
    injection e with e
    have := hPo.below.size
    simp only [World.size_alloc] at hD
    omega

end Go.Proofs.Ytpkfjnhjcdcoaaa
