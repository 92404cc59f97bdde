/-
  The walks of pack.Put, size 4 (written by genput.py).
-/
import Derived.Test.YtpkfjnhjcdcoaaaPutLoop
import Derived.Deep.RegionLaw
namespace Go.Proofs.Ytpkfjnhjcdcoaaa
open Go.RowKit Go.Shelf

attribute [local go_sem] Oper.semAt_some
attribute [local go_sem ↓] Go.wp_at_zero Go.wp_at_succ app_rule

set_option maxRecDepth 100000 in
set_option maxHeartbeats 4000000 in
theorem put4 (a : Option Addr) (m c : Nat) (l : List (BitVec 8)) (n : Nat) (w : World) (h : BSl w w.heap.size a m l) (hm : m ≤ 1099511627776) (h0 : a = none → m = 0) (hn : n < 4294967296) :
    Calls Try.prog 48 #[.slice a m c, .int .u64 n, .int .i64 4] w fun e w' => ∃ g cap, e = .returned (.tuple #[.slice (some ⟨g, 0, none⟩) (m + 4) cap, .nilIface]) ∧
      w'.ownsRow w.heap.size 5 1 (.slice (some ⟨g, 0, none⟩) (m + 4) cap) (m + 4) ((l ++ Num.le n 4).map bv) ∧ Below w.heap.size w w' := by
  have HS := Lib.hid (fun w => sized_yes 4 w rfl)
  have HN := Lib.hid h0
  have hfit : decide (n < 256 ^ 4) = true := by simp; omega
  have HF := Lib.hid (fun w => fits_any n 4 w (by omega) rfl)
  have HP := Lib.hid (fun (k : Int) (w : World) (nb : Nat) (h0 : 0 ≤ k) (hk : k < 8) (hc : w.cell? ⟨nb, 0, none⟩ = some (.int .u64 n)) => part_open n k nb w (by omega) h0 hk hc)
  clear h0 hn
  refine (callsIn_wide (n := 5)).1 ?_
  refine callsIn_of_wp_marks Try.func48 rfl trivial ?_ rfl
  simp only [Try.ntmps48, List.size_toArray, List.length_cons, List.length_nil, Nat.reduceAdd, Nat.reduceSub, Array.replicate_succ, Array.replicate_zero, List.push_toArray, List.append_toArray, List.nil_append, List.cons_append]
  refine wpIn_wide.2 ?_
  have hA : BSl (w.alloc (.cells #[.int .u64 n] 24)) (w.heap.size + 1) a m l := (h.below ((Below.refl w.heap.size w).alloc (Nat.le_refl _) _)).more (by omega)
  have hlen := h.1
  go_wp2_with (first
    | (go_at_call 60; refine (HS.out _).mono ?_; rintro e w' ⟨rfl, rfl⟩)
    | (go_at_call 75; refine (HF.out _).mono ?_; rintro e w' ⟨rfl, rfl⟩)
    | (go_at_call 59; refine (clone_any a m c l _ (by simpa using hA) hm HN.out).mono ?_; rintro e w1 ⟨av, cv, rfl, hown1, hb1⟩; simp only [World.size_alloc] at hown1 hb1; have hc1 := (hb1.cell (p := ⟨w.heap.size, 0, none⟩) (by simp)).trans (Boxed.new w 24 (.int .u64 n)).cell; have hz1 : w.heap.size + 1 ≤ w1.heap.size := by simpa using hb1.size)
    | (go_at_call 76; refine (HP.out _ _ _ (by omega) (by omega) (by rw [World.cell?_alloc_lt _ _ _ (by simp; omega)]; exact hc1)).mono ?_; rintro e w' ⟨rfl, rfl⟩))
  have hP := put_start (.int .u8 (pb n 0)) hb1 hown1 hz1
  clear hA h hc1
  generalize ((w1.alloc (.cells #[.slice av m cv] 22)).alloc (.cells #[.int .u8 (pb n 0)] 5)).alloc (.cells #[.slice (some ⟨w1.heap.size + 1, 0, none⟩) 1 1] 22) = W0 at hP ⊢
  generalize eO : w1.heap.size = O at hP hz1 ⊢
  clear hown1 hb1 eO
  have hl0 : (l.map bv ++ [Value.int .u8 (pb n 0)]) = l.map bv ++ [Value.int .u8 (pb n 0)] := rfl
  clear hl0
  obtain ⟨g0, rc0, V0, hr0, hx0, hy0, hf0, hP0⟩ := put_rest hP [.int .u8 (pb n 3), .int .u8 (pb n 2)] 2 rfl (by omega) (by simp [Value.oneCell']) (by omega)
  have hcR := hP.rest.cell
  have hcN := hP.num.cell
  have hcRa := fun o => (hP.rest.alloc o).cell
  have hcNa := fun o => (hP.num.alloc o).cell
  refine' wp_ends ?first0 ?rest0
  case first0 =>
    go_region_law (first | (refine step_run (by rfl) _ _ (by rfl) (by rfl) (by rfl) hr0 ?_) | (go_simp; go_at_call 76; refine (HP.out _ _ _ ?_ ?_ ?_).mono ?_; omega; omega; (simp [*]); rintro e w' ⟨rfl, rfl⟩))
    all_goals exact ⟨rfl, rfl⟩
  clear hcR hcN hcRa hcNa hr0 hx0 hy0 hf0 hP
  simp only [List.cons_append, List.nil_append, Nat.reduceAdd] at hP0
  generalize V0.setCell ⟨O + 1 + 1, 0, none⟩ (.slice (some ⟨g0, 0, none⟩) 3 rc0) = W1 at hP0 ⊢
  clear V0
  go_wp2
  obtain ⟨g1, rc1, V1, hr1, hx1, hy1, hf1, hP1⟩ := put_rest hP0 [.int .u8 (pb n 1)] 1 rfl (by omega) (by simp [Value.oneCell']) (by omega)
  have hcR := hP0.rest.cell
  have hcN := hP0.num.cell
  have hcRa := fun o => (hP0.rest.alloc o).cell
  have hcNa := fun o => (hP0.num.alloc o).cell
  refine' wp_ends ?first1 ?rest1
  case first1 =>
    go_region_law (first | (refine step_run (by rfl) _ _ (by rfl) (by rfl) (by rfl) hr1 ?_) | (go_simp; go_at_call 76; refine (HP.out _ _ _ ?_ ?_ ?_).mono ?_; omega; omega; (simp [*]); rintro e w' ⟨rfl, rfl⟩))
    all_goals exact ⟨rfl, rfl⟩
  clear hcR hcN hcRa hcNa hr1 hx1 hy1 hf1 hP0
  simp only [List.cons_append, List.nil_append, Nat.reduceAdd] at hP1
  generalize V1.setCell ⟨O + 1 + 1, 0, none⟩ (.slice (some ⟨g1, 0, none⟩) 4 rc1) = W2 at hP1 ⊢
  clear V1
  go_wp2
  obtain ⟨go, rco, Vo, hro, hxo, hfo, hPo, hKo, hUo⟩ := put_out hP1 (.int .u8 (pb n 0)) rfl (by omega)
  have hcO := hP1.out.cell
  have hcR := hP1.rest.cell
  have hc0 := hP1.restRow.cellAt 0 (by decide)
  simp only [List.getElem?_cons_zero] at hc0
  have hcOa := fun o => (hP1.out.alloc o).cell
  refine' wp_ends ?firsto ?resto
  case firsto =>
    go_region_law (refine step_run (by rfl) _ _ (by rfl) (by rfl) (by rfl) hro ?_)
    all_goals exact ⟨rfl, rfl⟩
  clear hcO hcR hc0 hcOa hro hxo hfo hKo hUo hP1
  generalize Vo.setCell ⟨O, 0, none⟩ (.slice (some ⟨go, 0, none⟩) (m + 1) rco) = Wo at hPo ⊢
  clear Vo
  have hcR := hPo.rest.cell
  obtain ⟨hL, hsrc⟩ := rest_bytes hPo.restRow [nbyte n 0, nbyte n 3, nbyte n 2, nbyte n 1] (by simp [bv_nbyte])
  obtain ⟨a', _, s2, _, hcut, hblk⟩ := cut_bytes_at hL hsrc 1 3 (by decide)
  have hsl := fun W => s2 (1 : Int) W rfl rfl
  simp only [List.drop_succ_cons, List.drop_zero, List.take_succ_cons, List.take_zero] at hcut
  clear s2 hL
  go_wp2_with (go_at_call 61; refine (back_calls _ _ _ _).mono ?_; rintro e w' ⟨rfl, rfl⟩)
  have hB0 : Below w.heap.size w (Wo.alloc (.cells #[.slice a' 3 (rc1 - 1)] 22)) := hPo.below.alloc hPo.below.size _
  have hBW : Below Wo.heap.size Wo (Wo.alloc (.cells #[.slice a' 3 (rc1 - 1)] 22)) := (Below.refl _ Wo).alloc (Nat.le_refl _) _
  have bN := Boxed.new Wo 22 (.slice a' 3 (rc1 - 1))
  have hzO : O < Wo.heap.size := hPo.out.lt
  have hzg : g1 < Wo.heap.size := (hPo.restRow.lt g1 rfl).2
  refine range_wide (gf := 80) (lb := #[.pointer (some ⟨Wo.heap.size, 0, none⟩)]) rfl (enters_of Try.func80 (by kernel_rfl) rfl)
    (back_stops_of (α := Nat) (encP [nbyte n 3, nbyte n 2, nbyte n 1] 3) id Fence.wide 4 trivial rfl (by omega) Wo.heap.size 3 (rc1 - 1) (fun b => b = g1 ∨ b = Wo.heap.size) a' _ (fun _ _ => rfl) (by omega) _ (fun b hb => by simp; omega) (.inr rfl) bN.cell
      ⟨hcut.1, fun h0 => by obtain ⟨b, off, e, hb, hc⟩ := (hcut.below hBW).2 h0; obtain ⟨q, e1, e2⟩ := hblk b off e; exact ⟨_, off, e, .inl (by cases e1; exact e2.symm), hc⟩⟩) KS.trans (ks_put (fun b hb => by simp; omega)) (Below.refl _ _) (fun _ => rfl)
    (PutI w w.heap.size O (O + 1 + 1) n (m + 1) (l.map bv ++ [.int .u8 (pb n 0)]) g1 4 rc1 [.int .u8 (pb n 0), .int .u8 (pb n 3), .int .u8 (pb n 2), .int .u8 (pb n 1)] Wo.heap.size (.slice a' 3 (rc1 - 1)) (fun j => bv (ibyte [nbyte n 3, nbyte n 2, nbyte n 1] 3 j)))
    (putI_own (by simp; have := hPo.below.size; omega))
    ⟨⟨_, _, by simpa using hPo.kept (World.grownBy_alloc Wo _ none) (fun r e => by cases e)⟩, bN⟩
    (fun t j => ((t.setIfInBounds 66 (.int .i64 (ix 3 j : Int))).setIfInBounds 67 (.int .u8 ((ibyte [nbyte n 3, nbyte n 2, nbyte n 1] 3 j).toNat : Int))).setIfInBounds 11 (.int .i64 (ix 3 j : Int)))
    ?assign ?body ?done
  case assign =>
    intro lp x W K hK
    unfold encP
    gi_wp2
    exact hK
  case body =>
    intro lp pre j W hI hlt
    obtain ⟨i, hi⟩ : ∃ i : Nat, ix 3 j = i := ⟨_, rfl⟩
    have hik : i < 3 := by unfold ix at hi; omega
    obtain ⟨cb, hcb⟩ : ∃ cb : BitVec 8, ibyte [nbyte n 3, nbyte n 2, nbyte n 1] 3 j = cb := ⟨_, rfl⟩
    obtain ⟨av9, cv9, g9, rc9, V9, hp9, hr9, hx9, hf9, hk9, hks9, hI9⟩ := putI_round hI (by omega) j rfl (by omega)
    have hcO := hp9.out.cell
    have hcR := hp9.rest.cell
    have hcOa := fun o => (hp9.out.alloc o).cell
    have hc1 := put_cell hp9 (nbyte n 0) [nbyte n 3, nbyte n 2, nbyte n 1] (by simp [bv_nbyte]) rfl i hik
    dsimp only
    rw [show ([nbyte n 3, nbyte n 2, nbyte n 1] : List (BitVec 8)).getD i 0 = cb from by rw [← hcb, ← hi]; rfl] at hc1
    try dsimp only at hr9
    rw [hcb] at hr9
    rw [hi, hcb]
    have hi0 : 0 ≤ (i : Int) := by omega
    have hi1 : (i : Int) < 3 := by omega
    obtain ⟨q, hq⟩ : ∃ q : Nat, i + 1 = q := ⟨_, rfl⟩
    have HW := Lib.hid (show IntKind.i64.wrap ((i : Int) + 1) = (q : Int) from by rw [IntKind.wrap_i64]; omega)
    have hq0 : 0 ≤ (q : Int) := by omega
    have hq1 : (q : Int) < 4 := by omega
    rw [hq] at hc1
    clear hq
    have HI := Lib.hid hI9
    have HS := Lib.hid hks9
    clear hI hI9 hks9 hcut hblk
    unfold bv at hr9
    clear hcb hi
    simp only [List.setIfInBounds_toArray, List.set_cons_succ, List.set_cons_zero]
    gi_wp2
    refine' region_in_round (by kernel_rfl) (by kernel_rfl) ?any ?after
    case any =>
      refine wpAny_take (i := 2) (v := ?tv2) rfl (by kernel_rfl) (by kernel_rfl) (by kernel_rfl) (fun _ _ _ h => h) (Or.inl ⟨by rfl, ?thy2⟩) ?trest2
      case thy2 => (intro w; go_simp; with_reducible rfl)
      case trest2 =>
        refine wpAny_take (i := 3) (v := ?tv3) rfl (by kernel_rfl) (by kernel_rfl) (by kernel_rfl) (fun _ _ _ h => h) (Or.inl ⟨by rfl, ?thy3⟩) ?trest3
        case thy3 => (intro w; go_simp; exact vint HW.out)
        case trest3 =>
          refine wpAny_ready (rs := [0, 1]) (by kernel_rfl) (by simp) ?_
          refine AllReady.cons rfl (fun K hK => ?_) ?_
          · go_simp
            refine hK _ _ ?_
            clear hK K
            refine wpAny_ready (rs := [1]) (by kernel_rfl) (by simp) ?_
            refine AllReady.cons rfl (fun K hK => ?_) ?_
            · go_simp
              refine hK _ _ ?_
              clear hK K
              refine wpAny_ready (rs := [4]) (by kernel_rfl) (by simp) ?_
              refine AllReady.cons rfl (fun K hK => ?_) ?_
              · go_simp
                refine hK _ _ ?_
                clear hK K
                refine wpAny_ready (rs := [5]) (by kernel_rfl) (by simp) ?_
                refine AllReady.cons rfl (fun K hK => ?_) ?_
                · go_simp
                  refine hK _ _ ?_
                  clear hK K
                  refine wpAny_ready (rs := [6]) (by kernel_rfl) (by simp) ?_
                  refine AllReady.cons rfl (fun K hK => ?_) ?_
                  · go_simp
                    refine hK _ _ ?_
                    clear hK K
                    refine wpAny_ready (rs := [7]) (by kernel_rfl) (by simp) ?_
                    refine AllReady.cons rfl (fun K hK => ?_) ?_
                    · refine step_run (by rfl) _ _ (by rfl) (by rfl) (by rfl) hr9 ?_
                      refine hK _ _ ?_
                      clear hK K
                      refine wpAny_ready (rs := [8]) (by kernel_rfl) (by simp) ?_
                      refine AllReady.cons rfl (fun K hK => ?_) ?_
                      · go_simp
                        refine hK _ _ ?_
                        clear hK K
                        refine wpAny_done (by kernel_rfl) ?_ _
                        exact ⟨rfl, rfl⟩
                      exact AllReady.nil
                    exact AllReady.nil
                  exact AllReady.nil
                exact AllReady.nil
              exact AllReady.nil
            exact AllReady.nil
          refine AllReady.cons rfl (fun K hK => ?_) ?_
          · go_simp
            refine hK _ _ ?_
            clear hK K
            refine wpAny_ready (rs := [0, 4]) (by kernel_rfl) (by simp) ?_
            refine AllReady.cons rfl (fun K hK => ?_) ?_
            · go_simp
              refine hK _ _ ?_
              clear hK K
              refine wpAny_ready (rs := [4]) (by kernel_rfl) (by simp) ?_
              refine AllReady.cons rfl (fun K hK => ?_) ?_
              · go_simp
                refine hK _ _ ?_
                clear hK K
                refine wpAny_ready (rs := [5]) (by kernel_rfl) (by simp) ?_
                refine AllReady.cons rfl (fun K hK => ?_) ?_
                · go_simp
                  refine hK _ _ ?_
                  clear hK K
                  refine wpAny_ready (rs := [6]) (by kernel_rfl) (by simp) ?_
                  refine AllReady.cons rfl (fun K hK => ?_) ?_
                  · go_simp
                    refine hK _ _ ?_
                    clear hK K
                    refine wpAny_ready (rs := [7]) (by kernel_rfl) (by simp) ?_
                    refine AllReady.cons rfl (fun K hK => ?_) ?_
                    · refine step_run (by rfl) _ _ (by rfl) (by rfl) (by rfl) hr9 ?_
                      refine hK _ _ ?_
                      clear hK K
                      refine wpAny_ready (rs := [8]) (by kernel_rfl) (by simp) ?_
                      refine AllReady.cons rfl (fun K hK => ?_) ?_
                      · go_simp
                        refine hK _ _ ?_
                        clear hK K
                        refine wpAny_done (by kernel_rfl) ?_ _
                        exact ⟨rfl, rfl⟩
                      exact AllReady.nil
                    exact AllReady.nil
                  exact AllReady.nil
                exact AllReady.nil
              exact AllReady.nil
            refine AllReady.cons rfl (fun K hK => ?_) ?_
            · go_simp
              refine hK _ _ ?_
              clear hK K
              refine wpAny_ready (rs := [0, 5]) (by kernel_rfl) (by simp) ?_
              refine AllReady.cons rfl (fun K hK => ?_) ?_
              · go_simp
                refine hK _ _ ?_
                clear hK K
                refine wpAny_ready (rs := [5]) (by kernel_rfl) (by simp) ?_
                refine AllReady.cons rfl (fun K hK => ?_) ?_
                · go_simp
                  refine hK _ _ ?_
                  clear hK K
                  refine wpAny_ready (rs := [6]) (by kernel_rfl) (by simp) ?_
                  refine AllReady.cons rfl (fun K hK => ?_) ?_
                  · go_simp
                    refine hK _ _ ?_
                    clear hK K
                    refine wpAny_ready (rs := [7]) (by kernel_rfl) (by simp) ?_
                    refine AllReady.cons rfl (fun K hK => ?_) ?_
                    · refine step_run (by rfl) _ _ (by rfl) (by rfl) (by rfl) hr9 ?_
                      refine hK _ _ ?_
                      clear hK K
                      refine wpAny_ready (rs := [8]) (by kernel_rfl) (by simp) ?_
                      refine AllReady.cons rfl (fun K hK => ?_) ?_
                      · go_simp
                        refine hK _ _ ?_
                        clear hK K
                        refine wpAny_done (by kernel_rfl) ?_ _
                        exact ⟨rfl, rfl⟩
                      exact AllReady.nil
                    exact AllReady.nil
                  exact AllReady.nil
                exact AllReady.nil
              refine AllReady.cons rfl (fun K hK => ?_) ?_
              · go_simp
                refine hK _ _ ?_
                clear hK K
                refine wpAny_ready (rs := [0, 6]) (by kernel_rfl) (by simp) ?_
                refine AllReady.cons rfl (fun K hK => ?_) ?_
                · go_simp
                  refine hK _ _ ?_
                  clear hK K
                  refine wpAny_ready (rs := [6]) (by kernel_rfl) (by simp) ?_
                  refine AllReady.cons rfl (fun K hK => ?_) ?_
                  · go_simp
                    refine hK _ _ ?_
                    clear hK K
                    refine wpAny_ready (rs := [7]) (by kernel_rfl) (by simp) ?_
                    refine AllReady.cons rfl (fun K hK => ?_) ?_
                    · refine step_run (by rfl) _ _ (by rfl) (by rfl) (by rfl) hr9 ?_
                      refine hK _ _ ?_
                      clear hK K
                      refine wpAny_ready (rs := [8]) (by kernel_rfl) (by simp) ?_
                      refine AllReady.cons rfl (fun K hK => ?_) ?_
                      · go_simp
                        refine hK _ _ ?_
                        clear hK K
                        refine wpAny_done (by kernel_rfl) ?_ _
                        exact ⟨rfl, rfl⟩
                      exact AllReady.nil
                    exact AllReady.nil
                  exact AllReady.nil
                refine AllReady.cons rfl (fun K hK => ?_) ?_
                · go_simp
                  refine hK _ _ ?_
                  clear hK K
                  refine wpAny_ready (rs := [0]) (by kernel_rfl) (by simp) ?_
                  refine AllReady.cons rfl (fun K hK => ?_) ?_
                  · go_simp
                    refine hK _ _ ?_
                    clear hK K
                    refine wpAny_ready (rs := [7]) (by kernel_rfl) (by simp) ?_
                    refine AllReady.cons rfl (fun K hK => ?_) ?_
                    · refine step_run (by rfl) _ _ (by rfl) (by rfl) (by rfl) hr9 ?_
                      refine hK _ _ ?_
                      clear hK K
                      refine wpAny_ready (rs := [8]) (by kernel_rfl) (by simp) ?_
                      refine AllReady.cons rfl (fun K hK => ?_) ?_
                      · go_simp
                        refine hK _ _ ?_
                        clear hK K
                        refine wpAny_done (by kernel_rfl) ?_ _
                        exact ⟨rfl, rfl⟩
                      exact AllReady.nil
                    exact AllReady.nil
                  exact AllReady.nil
                exact AllReady.nil
              exact AllReady.nil
            exact AllReady.nil
          exact AllReady.nil
    case after =>
      exact ⟨hk9.from _, HS.out, HI.out⟩
  case done =>
    rintro D ys W hD rfl ⟨⟨av2, cv2, hp2⟩, _⟩ hK
    have hfin := out_bytes4 l n
    have hln : m + 1 + (upto id 3).length = m + 4 := by simp [upto]
    rw [hfin, hln] at hp2
    clear hfin hln
    obtain ⟨gf, capf, ef, _, _⟩ := hp2.outRow.form (by omega)
    cases ef
    have hcO := hp2.out.cell
    have hown := hp2.outRow.kept (grownBy_putObj' W D (.deferred none)) (.inr (by
      intro e
      have e2 : some gf = some D := e
      injection e2 with e2
      subst e2
      rcases hp2.outRow.2 with ⟨e1, _⟩ | ⟨q, _, _, e1, _, hgb, _⟩
      · cases e1
      · cases e1
        rw [hK] at hgb
        cases hgb))
    have hbel := hp2.below
    go_wp2
    refine ⟨by simp, .inl ⟨_, _, rfl, run_takeDeferred hK, ?_⟩⟩
    refine ⟨_, results_tmp2 rfl _ _ _, _, _, rfl, hown, hbel.grown (grownBy_putObj' W D (.deferred none)) hbel.size (fun q e => ?_)⟩
    injection e with e
    have := hPo.below.size
    simp only [World.size_alloc] at hD
    omega

end Go.Proofs.Ytpkfjnhjcdcoaaa
