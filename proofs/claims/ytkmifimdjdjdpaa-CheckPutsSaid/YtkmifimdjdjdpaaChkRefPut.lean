/-
  The document's bytes of a checkpoint.
-/
import Derived.Test.YtkmifimdjdjdpaaChkBack
import Derived.Test.YtkmifimdjdjdpaaNdlRefPut
namespace Go.Proofs.Ytkmifimdjdjdpaa
open Go.RowKit

/-- A row of bytes of one's own, and what was below it. -/
def RowS (W0 : World) (m : Nat) (l : List (BitVec 8)) (x : Value) (W : World) : Prop :=
  ∃ b cp, x = .slice (some ⟨b, 0, none⟩) m cp ∧ W.ownsRow W0.heap.size 5 1 (.slice (some ⟨b, 0, none⟩) m cp) m (l.map bv) ∧ Below W0.heap.size W0 W

/-- Bytes of one's own appended to a row of one's own. -/
theorem row_app {W0 W1 W2 : World} {m k b cp b2 : Nat} {l l2 : List (BitVec 8)} (h : W1.ownsRow W0.heap.size 5 1 (.slice (some ⟨b, 0, none⟩) m cp) m (l.map bv)) (B : Below W0.heap.size W0 W1)
    (h2 : W2.ownsRow W1.heap.size 5 1 (.slice (some ⟨b2, 0, none⟩) k k) k (l2.map bv)) (B2 : Below W1.heap.size W1 W2) (hm : m + k ≤ 2199023255552) :
    ∃ b3 cp3 W3, (Builtin.append_ #[22, 22] 22 #[.slice (some ⟨b, 0, none⟩) m cp, .slice (some ⟨b2, 0, none⟩) k k]).run Try.prog W2 = .ok (.slice (some ⟨b3, 0, none⟩) (m + k) cp3) W3 ∧
      W3.ownsRow W0.heap.size 5 1 (.slice (some ⟨b3, 0, none⟩) (m + k) cp3) (m + k) ((l ++ l2).map bv) ∧ Below W0.heap.size W0 W3 ∧ W1.grownBy W3 (some b) ∧ (b3 = b ∨ W2.heap.size ≤ b3) := by
  obtain ⟨b3, cp3, W3, hr, ho, hg, hat⟩ := append_bytes (own_below h B2 (Nat.le_refl _)) k (BSl.row h2 _ rfl) (fun e => by cases e) hm (Nat.le_trans B.size B2.size)
  rw [← List.map_append] at ho
  have hb := (h.lt b rfl)
  have hg1 : W1.grownBy W2 (some b) := ⟨B2.os, B2.tape, B2.output, B2.size, fun q hq _ => B2.block q hq⟩
  refine ⟨b3, cp3, W3, hr, ho, (B.trans (B2.mono B.size)).grown hg (Nat.le_trans B.size B2.size) (fun q e => by injection e with e; omega), grown_trans hg1 hg, ?_⟩
  rcases hat with h | h
  · exact .inl h
  · exact .inr (by omega)

theorem num5_any (n k : Nat) (w : World) (hn : n < 18446744073709551616) (hk : k ≤ 8) (hk1 : 0 < k) :
    Calls Try.prog 49 #[.int .u64 n, .int .i64 k] w fun e w' => ∃ g, e = .returned (.slice (some ⟨g, 0, none⟩) k k) ∧
      w'.ownsRow w.heap.size 5 1 (.slice (some ⟨g, 0, none⟩) k k) k ((Num.le n k).map bv) ∧ Below w.heap.size w w' := by
  go_enter Try.func49, Try.ntmps49
  go_wp2_with fail
  refine (bytes_any n k w hn hk hk1).mono ?_
  rintro e w1 ⟨g, rfl, hg, hown, B1⟩
  go_wp2_with fail
  go_ret
  exact ⟨g, rfl, hown, B1⟩

set_option maxRecDepth 100000 in
set_option maxHeartbeats 8000000 in
theorem rcput_any (v g u : Nat) (a : Option Addr) (n c : Nat) (ps : List PosR) (w : World) (h : PSl w w.heap.size a n ps) (hok : ckR v g u ps = 0) :
    Calls Try.prog 24 #[.agg #[.int .i64 v, .int .i64 g, .int .i64 u, .slice a n c]] w fun e w' => ∃ b cap, e = .returned (.slice (some ⟨b, 0, none⟩) (24 + 24 * n) cap) ∧
      w'.ownsRow w.heap.size 5 1 (.slice (some ⟨b, 0, none⟩) (24 + 24 * n) cap) (24 + 24 * n) ((ckBytes v g u ps).map bv) ∧ Below w.heap.size w w' := by
  obtain ⟨hn, hh, hlk⟩ := ck_ok hok
  have HL := Lib.hid h.1
  have hnl := h.1
  have hn4 : n ≤ 4096 := by omega
  obtain ⟨W0, hW0⟩ : ∃ W0, w.alloc (.cells #[.int .i64 v, .int .i64 g, .int .i64 u, .slice a n c] 40) = W0 := ⟨_, rfl⟩
  have BA : Below w.heap.size w W0 := by rw [← hW0]; exact (Below.refl _ _).alloc (Nat.le_refl _) _
  have hK : Blk W0 w.heap.size 40 #[.int .i64 v, .int .i64 g, .int .i64 u, .slice a n c] := by rw [← hW0]; exact Blk.made w _ _
  have HC := Lib.hid fun (W : World) (B : Below W0.heap.size W0 W) => (hK.below B hK.lt).four
  have HP := Lib.hid fun (W : World) (B : Below W0.heap.size W0 W) => h.below (BA.trans (B.mono BA.size))
  have BW := Lib.hid fun (W : World) (B : Below W0.heap.size W0 W) => BA.trans (B.mono BA.size)
  have HLK := Lib.hid hlk
  obtain ⟨b1, b2, b3, b4, b5, b6⟩ := hh
  have hws : w.heap.size ≤ W0.heap.size := BA.size
  have hv0 : (0 : Int) ≤ v := by omega
  have hg0 : (0 : Int) ≤ g := by omega
  have hnn : (0 : Int) ≤ n := by omega
  have hnn4 : (n : Int) ≤ 4096 := by omega
  have HWV := Lib.hid (show IntKind.u64.wrap (v : Int) = v from IntWalk.u64_in _ (by omega))
  clear h hK BA hnl hlk hn hok
  go_enter Try.func24, Try.ntmps24
  go_wp2_with fail
  clear hW0
  go_cut [3] (fun x wx => RowS W0 8 (Num.le 1128811344 4 ++ Num.le v 4) x wx)
  case first =>
    refine wp_region_held_drew (S := fun W => Below W0.heap.size W0 W) (by kernel_rfl) ((Below.refl _ _).drew) (fun hS => ?_)
    refine wpAnyH_take (i := 1) (v := ?_) rfl (by kernel_rfl) (by kernel_rfl) (by kernel_rfl) (fun _ _ _ h => h) (Or.inl ⟨by kernel_rfl, ?_⟩) hS ?_
    rotate_left
    · intro W hW; go_simp; try with_reducible rfl
    refine wpAnyH_take (i := 2) (v := ?_) rfl (by kernel_rfl) (by kernel_rfl) (by kernel_rfl) (fun _ _ _ h => h) (Or.inl ⟨by kernel_rfl, ?_⟩) hS ?_
    rotate_left
    · intro W hW; obtain ⟨c0, c1, c2, c3⟩ := HC.out W hW; go_simp; try with_reducible rfl
    refine wpAnyH_take (i := 3) (v := ?_) rfl (by kernel_rfl) (by kernel_rfl) (by kernel_rfl) (fun _ _ _ h => h) (Or.inl ⟨by kernel_rfl, ?_⟩) hS ?_
    rotate_left
    · intro W hW; go_simp; rw [HWV.out]; try with_reducible rfl
    refine wpAnyH_ready (rs := [0]) (by kernel_rfl) (by simp) ?_
    refine AllReadyH.cons rfl (fun K hK => ?_) AllReadyH.nil
    go_simp
    refine (num5_any 1128811344 4 _ (by decide) (by decide) (by decide)).mono ?_
    rintro e w1 ⟨q1, rfl, ho1, B1⟩
    have ho1 := own_more (base' := W0.heap.size) ho1 hS.size
    have hT := hS.trans (B1.mono hS.size)
    go_simp
    refine hK.out _ _ ?_ (fun hN => ?_)
    · first | exact hT | exact hS | exact hS.alloc hS.size _ | exact hS.drew
    clear hK K
    try clear hT
    clear hS
    have hS := hN
    clear hN
    refine wpAnyH_ready (rs := [4]) (by kernel_rfl) (by simp) ?_
    refine AllReadyH.cons rfl (fun K hK => ?_) AllReadyH.nil
    go_simp
    refine (num5_any v 4 _ (by omega) (by decide) (by decide)).mono ?_
    rintro e w2 ⟨q2, rfl, ho2, B2⟩
    obtain ⟨q3, cp3, W3, hr3, ho3, B3, -, -⟩ := row_app ho1 hS ho2 B2 (by omega)
    have hT := hS.trans (B2.mono hS.size)
    clear ho1 ho2
    go_simp
    refine hK.out _ _ ?_ (fun hN => ?_)
    · first | exact hT | exact hS | exact hS.alloc hS.size _ | exact hS.drew
    clear hK K
    try clear hT
    clear hS
    have hS := hN
    clear hN
    refine wpAnyH_ready (rs := [5]) (by kernel_rfl) (by simp) ?_
    refine AllReadyH.cons rfl (fun K hK => ?_) AllReadyH.nil
    have hT := B3
    refine step_run_g (by kernel_rfl) _ _ (by rfl) (by rfl) (by rfl) hr3 ?_
    clear hr3
    refine hK.out _ _ ?_ (fun hN => ?_)
    · first | exact hT | exact hS | exact hS.alloc hS.size _ | exact hS.drew
    clear hK K
    try clear hT
    clear hS
    have hS := hN
    clear hN
    refine wpAnyH_take (i := 6) (v := ?_) rfl (by kernel_rfl) (by kernel_rfl) (by kernel_rfl) (fun _ _ _ h => h) (Or.inl ⟨by kernel_rfl, ?_⟩) hS ?_
    rotate_left
    · intro W hW; go_simp; try with_reducible rfl
    refine wpAnyH_done (by kernel_rfl) ?_ _
    go_wp2_with fail
    go_meet
    exact ⟨q3, cp3, rfl, ho3, hS⟩
  case rest =>
    obtain ⟨q0, cp0, rfl, ho0, B0⟩ := hcut
    obtain ⟨c0, c1, c2, c3⟩ := HC.out _ B0
    go_wp2_with fail
    refine (num5_any g 4 _ (by omega) (by decide) (by decide)).mono ?_
    rintro e w1 ⟨t1, rfl, hx1, Bx1⟩
    obtain ⟨q1, cp1, v1, hr1, ho1, B1, -, -⟩ := row_app ho0 B0 hx1 Bx1 (by omega)
    clear c0 c1 c2 c3 ho0 B0 hx1 Bx1
    obtain ⟨c0, c1, c2, c3⟩ := HC.out _ B1
    go_wp2_with (at_builtin; refine list_run (by rfl) _ _ rfl rfl rfl hr1 ?_; clear hr1)
    go_wp2_with fail
    refine (num5_any u 4 _ (by omega) (by decide) (by decide)).mono ?_
    rintro e w2 ⟨t2, rfl, hx2, Bx2⟩
    obtain ⟨q2, cp2, v2, hr2, ho2, B2, -, -⟩ := row_app ho1 B1 hx2 Bx2 (by omega)
    clear c0 c1 c2 c3 ho1 B1 hx2 Bx2
    obtain ⟨c0, c1, c2, c3⟩ := HC.out _ B2
    go_wp2_with (at_builtin; refine list_run (by rfl) _ _ rfl rfl rfl hr2 ?_; clear hr2)
    go_wp2_with fail
    refine (num5_any n 4 _ (by omega) (by decide) (by decide)).mono ?_
    rintro e w3 ⟨t3, rfl, hx3, Bx3⟩
    obtain ⟨q3, cp3, v3, hr3, ho3, B3, -, -⟩ := row_app ho2 B2 hx3 Bx3 (by omega)
    clear c0 c1 c2 c3 ho2 B2 hx3 Bx3
    obtain ⟨c0, c1, c2, c3⟩ := HC.out _ B3
    go_wp2_with (at_builtin; refine list_run (by rfl) _ _ rfl rfl rfl hr3 ?_; clear hr3)
    have HLE := Lib.hid (hdL_length v g u n 5)
    have HBD := Lib.hid (show ckBody v g u ps = hdL v g u n 5 ++ posAll ps from by unfold ckBody; rw [HL.out])
    have HR0 := Lib.hid (show RowS W0 20 (hdL v g u n 5 ++ posAll (ps.take 0)) (.slice (some ⟨q3, 0, none⟩) 20 cp3) v3 from by
      refine ⟨q3, cp3, rfl, ?_, B3⟩
      rw [show hdL v g u n 5 ++ posAll (ps.take 0) = Num.le 1128811344 4 ++ Num.le v 4 ++ Num.le g 4 ++ Num.le u 4 ++ Num.le n 4 from by rw [hdL_five]; exact List.append_nil _]
      exact ho3)
    generalize hdL v g u n 5 = L5 at *
    clear ho3 B3
    go_loopw [3, 4] (fun x iv wr => ∃ i : Nat, i ≤ n ∧ iv = .int .i64 i ∧ RowS W0 (20 + 24 * i) (L5 ++ posAll (ps.take i)) x wr) (fun _ iv _ => n - (intOf iv).toNat)
    case atStart => exact ⟨0, by omega, rfl, HR0.out⟩
    case round =>
      clear HR0 c0 c1 c2 c3
      obtain ⟨i, hi, rfl, q0, cp0, rfl, ho0, B0⟩ := hrel
      by_cases hin : i < n
      · obtain ⟨b, off, ha, -, hcell⟩ := (HP.out _ B0).2.2 (by omega)
        subst ha
        obtain ⟨c0, c1, c2, c3, c4⟩ := psl_cells (B := 0) HL.out hcell i hin rfl
        obtain ⟨-, -, -, k3⟩ := HC.out _ B0
        have hpo := lok_at HLK.out (i := i) (by rw [HL.out]; exact hin)
        obtain ⟨hk, hck, -⟩ := (HP.out _ B0).2.1 (ps.getD i dP) (getD_mem (by rw [HL.out]; exact hin))
        have hta := posAll_take ps i (by rw [HL.out]; exact hin)
        generalize ps.getD i dP = p at *
        obtain ⟨key, po, pl, ck, pg⟩ := p
        have hpo : 0 ≤ po ∧ po ≤ 16777216 ∧ 0 ≤ pl ∧ pl ≤ 4096 ∧ (pg = true → pl = 0) := hpo
        obtain ⟨o0, o1, o2, o3, -⟩ := hpo
        obtain ⟨pon, rfl⟩ : ∃ k : Nat, po = k := ⟨po.toNat, by omega⟩
        obtain ⟨pln, rfl⟩ : ∃ k : Nat, pl = k := ⟨pl.toNat, by omega⟩
        dsimp only at *
        have hk' : (key : Int) < 18446744073709551616 := by omega
        have hck' : (ck : Int) < 4294967296 := by omega
        have hta : L5 ++ posAll (ps.take (i + 1)) = L5 ++ posAll (ps.take i) ++ Num.le key 8 ++ Num.le pon 4 ++ Num.le pln 4 ++ Num.le ck 4 ++ Num.le (pgone pg) 4 := by
          rw [hta, ← List.append_assoc, ← five_app]; rfl
        have HTA := Lib.hid hta
        generalize L5 ++ posAll (ps.take i) = l at *
        obtain ⟨m, hm⟩ : ∃ m, 20 + 24 * i = m := ⟨_, rfl⟩
        rw [hm] at ho0 ⊢
        have hm1 : m ≤ 100000 := by omega
        have HM := Lib.hid (show 20 + 24 * (i + 1) = m + 8 + 4 + 4 + 4 + 4 from by omega)
        have hi0 : (0 : Int) ≤ i := by omega
        have hi1 : (i : Int) < n := by omega
        have hqz := (ho0.lt q0 rfl).2
        clear hcell hta hm
        go_upto_region 9 with fail
        have hP6 := Blk.made wr 82 #[.int .u64 key, .int .i64 pon, .int .i64 pln, .int .u32 ck, .bool pg]
        have ho0 := ho0.alloc (.cells #[.int .u64 key, .int .i64 pon, .int .i64 pln, .int .u32 ck, .bool pg] 82)
        have B0 := B0.alloc B0.size (.cells #[.int .u64 key, .int .i64 pon, .int .i64 pln, .int .u32 ck, .bool pg] 82)
        clear c0 c1 c2 c3 c4 k3
        generalize wr.alloc (.cells #[.int .u64 key, .int .i64 pon, .int .i64 pln, .int .u32 ck, .bool pg] 82) = w6 at *
        generalize wr.heap.size = gp at *
        have hne0 : q0 ≠ gp := by omega
        have hlt0 : gp < w6.heap.size := hP6.lt
        obtain ⟨d0, d1, d2, d3, d4⟩ : _ ∧ _ ∧ _ ∧ _ ∧ _ := ⟨hP6.cell 0, hP6.cell 1, hP6.cell 2, hP6.cell 3, hP6.cell 4⟩
        cases pg with
        | false =>
          rw [show pgone false = 0 from rfl] at HTA
          go_wp2_with fail
          refine (num5_any key 8 _ (by omega) (by decide) (by decide)).mono ?_
          rintro e w1 ⟨t1, rfl, hx1, Bx1⟩
          obtain ⟨q1, cp1, v1, hr1, ho1, B1, hg1, hat1⟩ := row_app ho0 B0 hx1 Bx1 (by omega)
          have hP7 := hP6.grown hg1 (fun e => by injection e with e; omega)
          have hne1 : q1 ≠ gp := by have := Bx1.size; omega
          have hlt1 := hP7.lt
          clear d0 d1 d2 d3 d4
          obtain ⟨d0, d1, d2, d3, d4⟩ : _ ∧ _ ∧ _ ∧ _ ∧ _ := ⟨hP7.cell 0, hP7.cell 1, hP7.cell 2, hP7.cell 3, hP7.cell 4⟩
          clear hx1 Bx1 hg1 hat1 ho0 B0 hP6 hne0 hlt0
          go_wp2_with (at_builtin; refine list_run (by rfl) _ _ rfl rfl rfl hr1 ?_; clear hr1)
          go_wp2_with fail
          refine (num5_any pon 4 _ (by omega) (by decide) (by decide)).mono ?_
          rintro e w2 ⟨t2, rfl, hx2, Bx2⟩
          obtain ⟨q2, cp2, v2, hr2, ho2, B2, hg2, hat2⟩ := row_app ho1 B1 hx2 Bx2 (by omega)
          have hP8 := hP7.grown hg2 (fun e => by injection e with e; omega)
          have hne2 : q2 ≠ gp := by have := Bx2.size; omega
          have hlt2 := hP8.lt
          clear d0 d1 d2 d3 d4
          obtain ⟨d0, d1, d2, d3, d4⟩ : _ ∧ _ ∧ _ ∧ _ ∧ _ := ⟨hP8.cell 0, hP8.cell 1, hP8.cell 2, hP8.cell 3, hP8.cell 4⟩
          clear hx2 Bx2 hg2 hat2 ho1 B1 hP7 hne1 hlt1
          go_wp2_with (at_builtin; refine list_run (by rfl) _ _ rfl rfl rfl hr2 ?_; clear hr2)
          go_wp2_with fail
          refine (num5_any pln 4 _ (by omega) (by decide) (by decide)).mono ?_
          rintro e w3 ⟨t3, rfl, hx3, Bx3⟩
          obtain ⟨q3, cp3, v3, hr3, ho3, B3, hg3, hat3⟩ := row_app ho2 B2 hx3 Bx3 (by omega)
          have hP9 := hP8.grown hg3 (fun e => by injection e with e; omega)
          have hne3 : q3 ≠ gp := by have := Bx3.size; omega
          have hlt3 := hP9.lt
          clear d0 d1 d2 d3 d4
          obtain ⟨d0, d1, d2, d3, d4⟩ : _ ∧ _ ∧ _ ∧ _ ∧ _ := ⟨hP9.cell 0, hP9.cell 1, hP9.cell 2, hP9.cell 3, hP9.cell 4⟩
          clear hx3 Bx3 hg3 hat3 ho2 B2 hP8 hne2 hlt2
          go_wp2_with (at_builtin; refine list_run (by rfl) _ _ rfl rfl rfl hr3 ?_; clear hr3)
          go_wp2_with fail
          refine (num5_any ck 4 _ (by omega) (by decide) (by decide)).mono ?_
          rintro e w4 ⟨t4, rfl, hx4, Bx4⟩
          obtain ⟨q4, cp4, v4, hr4, ho4, B4, hg4, hat4⟩ := row_app ho3 B3 hx4 Bx4 (by omega)
          have hP10 := hP9.grown hg4 (fun e => by injection e with e; omega)
          have hne4 : q4 ≠ gp := by have := Bx4.size; omega
          have hlt4 := hP10.lt
          clear d0 d1 d2 d3 d4
          obtain ⟨d0, d1, d2, d3, d4⟩ : _ ∧ _ ∧ _ ∧ _ ∧ _ := ⟨hP10.cell 0, hP10.cell 1, hP10.cell 2, hP10.cell 3, hP10.cell 4⟩
          clear hx4 Bx4 hg4 hat4 ho3 B3 hP9 hne3 hlt3
          go_wp2_with (at_builtin; refine list_run (by rfl) _ _ rfl rfl rfl hr4 ?_; clear hr4)
          go_wp2_with fail
          refine (num5_any 0 4 _ (by omega) (by decide) (by decide)).mono ?_
          rintro e w5 ⟨t5, rfl, hx5, Bx5⟩
          obtain ⟨q5, cp5, v5, hr5, ho5, B5, hg5, hat5⟩ := row_app ho4 B4 hx5 Bx5 (by omega)
          have HO5 := Lib.hid ho5
          have HB5 := Lib.hid B5
          clear d0 d1 d2 d3 d4 hx5 Bx5 hg5 hat5 ho4 B4 hP10 hne4 hlt4 ho5 B5
          go_wp2_with (at_builtin; refine list_run (by rfl) _ _ rfl rfl rfl hr5 ?_; clear hr5)
          go_roundw
          case rel => exact ⟨i + 1, by omega, by go_num, q5, cp5, by rw [HM.out], by rw [HM.out, HTA.out]; exact HO5.out, HB5.out⟩
          case measure => simp [intOf]; omega
        | true =>
          rw [show pgone true = 1 from rfl] at HTA
          go_wp2_with fail
          refine (num5_any key 8 _ (by omega) (by decide) (by decide)).mono ?_
          rintro e w1 ⟨t1, rfl, hx1, Bx1⟩
          obtain ⟨q1, cp1, v1, hr1, ho1, B1, hg1, hat1⟩ := row_app ho0 B0 hx1 Bx1 (by omega)
          have hP7 := hP6.grown hg1 (fun e => by injection e with e; omega)
          have hne1 : q1 ≠ gp := by have := Bx1.size; omega
          have hlt1 := hP7.lt
          clear d0 d1 d2 d3 d4
          obtain ⟨d0, d1, d2, d3, d4⟩ : _ ∧ _ ∧ _ ∧ _ ∧ _ := ⟨hP7.cell 0, hP7.cell 1, hP7.cell 2, hP7.cell 3, hP7.cell 4⟩
          clear hx1 Bx1 hg1 hat1 ho0 B0 hP6 hne0 hlt0
          go_wp2_with (at_builtin; refine list_run (by rfl) _ _ rfl rfl rfl hr1 ?_; clear hr1)
          go_wp2_with fail
          refine (num5_any pon 4 _ (by omega) (by decide) (by decide)).mono ?_
          rintro e w2 ⟨t2, rfl, hx2, Bx2⟩
          obtain ⟨q2, cp2, v2, hr2, ho2, B2, hg2, hat2⟩ := row_app ho1 B1 hx2 Bx2 (by omega)
          have hP8 := hP7.grown hg2 (fun e => by injection e with e; omega)
          have hne2 : q2 ≠ gp := by have := Bx2.size; omega
          have hlt2 := hP8.lt
          clear d0 d1 d2 d3 d4
          obtain ⟨d0, d1, d2, d3, d4⟩ : _ ∧ _ ∧ _ ∧ _ ∧ _ := ⟨hP8.cell 0, hP8.cell 1, hP8.cell 2, hP8.cell 3, hP8.cell 4⟩
          clear hx2 Bx2 hg2 hat2 ho1 B1 hP7 hne1 hlt1
          go_wp2_with (at_builtin; refine list_run (by rfl) _ _ rfl rfl rfl hr2 ?_; clear hr2)
          go_wp2_with fail
          refine (num5_any pln 4 _ (by omega) (by decide) (by decide)).mono ?_
          rintro e w3 ⟨t3, rfl, hx3, Bx3⟩
          obtain ⟨q3, cp3, v3, hr3, ho3, B3, hg3, hat3⟩ := row_app ho2 B2 hx3 Bx3 (by omega)
          have hP9 := hP8.grown hg3 (fun e => by injection e with e; omega)
          have hne3 : q3 ≠ gp := by have := Bx3.size; omega
          have hlt3 := hP9.lt
          clear d0 d1 d2 d3 d4
          obtain ⟨d0, d1, d2, d3, d4⟩ : _ ∧ _ ∧ _ ∧ _ ∧ _ := ⟨hP9.cell 0, hP9.cell 1, hP9.cell 2, hP9.cell 3, hP9.cell 4⟩
          clear hx3 Bx3 hg3 hat3 ho2 B2 hP8 hne2 hlt2
          go_wp2_with (at_builtin; refine list_run (by rfl) _ _ rfl rfl rfl hr3 ?_; clear hr3)
          go_wp2_with fail
          refine (num5_any ck 4 _ (by omega) (by decide) (by decide)).mono ?_
          rintro e w4 ⟨t4, rfl, hx4, Bx4⟩
          obtain ⟨q4, cp4, v4, hr4, ho4, B4, hg4, hat4⟩ := row_app ho3 B3 hx4 Bx4 (by omega)
          have hP10 := hP9.grown hg4 (fun e => by injection e with e; omega)
          have hne4 : q4 ≠ gp := by have := Bx4.size; omega
          have hlt4 := hP10.lt
          clear d0 d1 d2 d3 d4
          obtain ⟨d0, d1, d2, d3, d4⟩ : _ ∧ _ ∧ _ ∧ _ ∧ _ := ⟨hP10.cell 0, hP10.cell 1, hP10.cell 2, hP10.cell 3, hP10.cell 4⟩
          clear hx4 Bx4 hg4 hat4 ho3 B3 hP9 hne3 hlt3
          go_wp2_with (at_builtin; refine list_run (by rfl) _ _ rfl rfl rfl hr4 ?_; clear hr4)
          go_wp2_with fail
          refine (num5_any 1 4 _ (by omega) (by decide) (by decide)).mono ?_
          rintro e w5 ⟨t5, rfl, hx5, Bx5⟩
          obtain ⟨q5, cp5, v5, hr5, ho5, B5, hg5, hat5⟩ := row_app ho4 B4 hx5 Bx5 (by omega)
          have HO5 := Lib.hid ho5
          have HB5 := Lib.hid B5
          clear d0 d1 d2 d3 d4 hx5 Bx5 hg5 hat5 ho4 B4 hP10 hne4 hlt4 ho5 B5
          go_wp2_with (at_builtin; refine list_run (by rfl) _ _ rfl rfl rfl hr5 ?_; clear hr5)
          go_roundw
          case rel => exact ⟨i + 1, by omega, by go_num, q5, cp5, by rw [HM.out], by rw [HM.out, HTA.out]; exact HO5.out, HB5.out⟩
          case measure => simp [intOf]; omega
      · obtain rfl : i = n := by omega
        rw [List.take_of_length_le (by rw [HL.out]; omega)] at ho0
        rw [← HBD.out] at ho0
        obtain ⟨-, -, -, k3⟩ := HC.out _ B0
        have hbl := BSl.row ho0 _ rfl
        have HO := Lib.hid (of_ref (some ⟨q0, 0, none⟩) (20 + 24 * i) cp0 (ckBody v g u ps) wr hbl (by omega))
        have HCB := Lib.hid (show ckBytes v g u ps = ckBody v g u ps ++ Num.le (Crc.of (ckBody v g u ps)).toNat 4 from rfl)
        have hx := (Crc.of (ckBody v g u ps)).isLt
        generalize ckBody v g u ps = bd at *
        generalize (Crc.of bd).toNat = x at *
        clear hbl
        go_wp2_with fail
        refine HO.out.mono ?_
        rintro e wz ⟨rfl, rfl⟩
        go_wp2_with fail
        refine (tail_ref x _ (by omega)).mono ?_
        rintro e w1 ⟨t1, rfl, hx1, B1⟩
        obtain ⟨q1, cp1, v1, hr1, ho1, B2, -, -⟩ := row_app ho0 B0 hx1 B1 (by omega)
        have HO1 := Lib.hid (own_more ho1 hws)
        have HB2 := Lib.hid (BW.out _ B2)
        clear ho0 B0 hx1 B1 ho1 B2 k3
        go_wp2_with (at_builtin; refine list_run (by rfl) _ _ rfl rfl rfl hr1 ?_; clear hr1)
        go_ret
        rw [← HCB.out, show 20 + 24 * i + 4 = 24 + 24 * i from by omega] at HO1
        exact ⟨q1, cp1, by rw [show 24 + 24 * i = 20 + 24 * i + 4 from by omega]; rfl, HO1.out, HB2.out⟩

end Go.Proofs.Ytkmifimdjdjdpaa
