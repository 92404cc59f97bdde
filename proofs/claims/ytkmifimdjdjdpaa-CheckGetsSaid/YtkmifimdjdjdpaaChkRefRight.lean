/-
  The document's Right of a checkpoint.
-/
import Derived.Test.YtkmifimdjdjdpaaChkRight
import Derived.BigQuiet
namespace Go.Proofs.Ytkmifimdjdjdpaa
open Go.RowKit

theorem lok_false {ps : List PosR} {i : Nat} (h : lokB ps i = false) : ∀ m, i ≤ m → lokB ps m = false := by
  intro m hm
  induction m with
  | zero => obtain rfl : i = 0 := by omega
            exact h
  | succ m ih =>
    by_cases e : i = m + 1
    · rw [← e]; exact h
    · rw [lokB, ih (by omega)]; simp

set_option maxRecDepth 100000 in
set_option maxHeartbeats 8000000 in
theorem rright_any (v g u : Int) (a : Option Addr) (n c : Nat) (ps : List PosR) (w : World) (h : PSl w w.heap.size a n ps) (hn : n ≤ 9223372036854775807) :
    Calls Try.prog 19 #[.agg #[.int .i64 v, .int .i64 g, .int .i64 u, .slice a n c]] w fun e w' => e = .returned (.int .i64 (ckR v g u ps : Nat)) ∧ Below w.heap.size w w' := by
  have HL := Lib.hid h.1
  have BA := (Below.refl w.heap.size w).alloc (Nat.le_refl _) (.cells #[.int .i64 v, .int .i64 g, .int .i64 u, .slice a n c] 40)
  by_cases hbig : 4096 < n
  · have HR := Lib.hid (show ckR v g u ps = 2 from by unfold ckR; rw [if_pos (by rw [HL.out]; exact hbig)])
    have HB := Lib.hid BA
    clear h BA
    go_enter Try.func19, Try.ntmps19
    go_wp2_with fail
    go_ret
    exact ⟨by rw [HR.out]; rfl, HB.out⟩
  have hn4 : n ≤ 4096 := by omega
  obtain ⟨W0, hW0⟩ : ∃ W0, w.alloc (.cells #[.int .i64 v, .int .i64 g, .int .i64 u, .slice a n c] 40) = W0 := ⟨_, rfl⟩
  rw [hW0] at BA
  have hK : Blk W0 w.heap.size 40 #[.int .i64 v, .int .i64 g, .int .i64 u, .slice a n c] := by rw [← hW0]; exact Blk.made w _ _
  have HC := Lib.hid fun (W : World) (B : Below W0.heap.size W0 W) => (hK.below B hK.lt).four
  have HP := Lib.hid fun (W : World) (B : Below W0.heap.size W0 W) => h.below (BA.trans (B.mono BA.size))
  have BW := Lib.hid fun (W : World) (B : Below W0.heap.size W0 W) => BA.trans (B.mono BA.size)
  have HR := Lib.hid (show ckR v g u ps = if headB v g u && lokB ps n then 0 else 1 from by unfold ckR; rw [if_neg (by rw [HL.out]; exact hbig), HL.out])
  have HO : headP v g u → headB v g u = true := fun h => decide_eq_true h
  have HN : ¬ headP v g u → headB v g u = false := fun h => decide_eq_false h
  have HPD : headP v g u ↔ (1 ≤ v ∧ v ≤ 65535 ∧ 1 ≤ g ∧ g ≤ 2147483647 ∧ 0 ≤ u ∧ u ≤ 16777216) := Iff.rfl
  generalize headB v g u = hb at *
  generalize headP v g u = hP at *
  rw [HPD] at HO HN
  have HO := Lib.hid HO
  have HN := Lib.hid HN
  obtain ⟨c0, c1, c2, c3⟩ := HC.out W0 (Below.refl _ _)
  clear h hK BA hbig HPD
  go_enter Try.func19, Try.ntmps19
  go_upto_region 3 with fail
  go_cut [36] (fun x wx => x = .bool (!hb) ∧ W0 = wx)
  case first =>
    by_cases h1 : 1 ≤ v
    · by_cases h2 : v ≤ 65535
      · by_cases h3 : 1 ≤ g
        · by_cases h4 : g ≤ 2147483647
          · by_cases h5 : 0 ≤ u
            · by_cases h6 : u ≤ 16777216
              · have HD := Lib.hid (HO.out ⟨h1, h2, h3, h4, h5, h6⟩)
                go_wp2_with fail
                go_meet
                exact ⟨by rw [HD.out]; simp [*], rfl⟩
              · have HD := Lib.hid (HN.out (fun h => h6 h.2.2.2.2.2))
                go_wp2_with fail
                go_meet
                exact ⟨by rw [HD.out]; simp [*], rfl⟩
            · have HD := Lib.hid (HN.out (fun h => h5 h.2.2.2.2.1))
              go_wp2_with fail
              go_meet
              exact ⟨by rw [HD.out]; simp [*], rfl⟩
          · have HD := Lib.hid (HN.out (fun h => h4 h.2.2.2.1))
            go_wp2_with fail
            go_meet
            exact ⟨by rw [HD.out]; simp [*], rfl⟩
        · have HD := Lib.hid (HN.out (fun h => h3 h.2.2.1))
          go_wp2_with fail
          go_meet
          exact ⟨by rw [HD.out]; simp [*], rfl⟩
      · have HD := Lib.hid (HN.out (fun h => h2 h.2.1))
        go_wp2_with fail
        go_meet
        exact ⟨by rw [HD.out]; simp [*], rfl⟩
    · have HD := Lib.hid (HN.out (fun h => h1 h.1))
      go_wp2_with fail
      go_meet
      exact ⟨by rw [HD.out]; simp [*], rfl⟩
  case rest =>
    obtain ⟨rfl, rfl⟩ := hcut
    clear hW0 c0 c1 c2 c3
    cases hb with
    | false =>
      have HE := Lib.hid (show ckR v g u ps = 1 from by rw [HR.out]; rfl)
      rw [show (!false) = true from rfl]
      go_wp2_with fail
      go_ret
      exact ⟨by rw [HE.out]; rfl, BW.out _ (Below.refl _ _)⟩
    | true =>
    rw [show (!true) = false from rfl]
    go_wp2_with fail
    go_loopw [3] (fun iv wr => ∃ i : Nat, i ≤ n ∧ iv = .int .i64 i ∧ lokB ps i = true ∧ Below W0.heap.size W0 wr) (fun iv _ => n - (intOf iv).toNat)
    case atStart => exact ⟨0, by omega, rfl, rfl, Below.refl _ _⟩
    case round =>
      obtain ⟨i, hi, rfl, hokl, B⟩ := hrel
      have hC3 := (HC.out wr B).2.2.2
      by_cases hlt : i < n
      · obtain ⟨b, off, ha, -, hcell⟩ := (HP.out wr B).2.2 (by omega)
        subst ha
        obtain ⟨c0, c1, c2, c3, c4⟩ := psl_cells (B := 0) HL.out hcell i hlt rfl
        have hst : lokB ps (i + 1) = (lokB ps i && (ps.getD i dP).okB && (decide (i = 0) || decide ((ps.getD (i - 1) dP).key < (ps.getD i dP).key))) := rfl
        have hprev : ∃ q : PosR, ps.getD (i - 1) dP = q ∧ (0 < i → wr.cell? ⟨b, off + (i - 1) * 5, none⟩ = some (.int .u64 q.key)) := ⟨_, rfl, fun h0 => (psl_cells (B := 0) HL.out hcell (i - 1) (by omega) rfl).1⟩
        obtain ⟨q, hq, hqc⟩ := hprev
        rw [hq, hokl] at hst
        obtain ⟨qk, hqk⟩ : ∃ k, q.key = k := ⟨_, rfl⟩
        rw [hqk] at hst hqc
        generalize hpp : ps.getD i dP = p at hst c0 c1 c2 c3 c4
        obtain ⟨key, po, pl, pc, pg⟩ := p
        dsimp only at *
        have hokP : (0 ≤ po ∧ po ≤ 16777216 ∧ 0 ≤ pl ∧ pl ≤ 4096 ∧ (pg = true → pl = 0)) → PosR.okB ⟨key, po, pl, pc, pg⟩ = true := fun h => decide_eq_true h
        have hnoP : ¬ (0 ≤ po ∧ po ≤ 16777216 ∧ 0 ≤ pl ∧ pl ≤ 4096 ∧ (pg = true → pl = 0)) → PosR.okB ⟨key, po, pl, pc, pg⟩ = false := fun h => decide_eq_false h
        generalize PosR.okB ⟨key, po, pl, pc, pg⟩ = rp at *
        have hi0 : (0 : Int) ≤ i := by omega
        have hi1 : (i : Int) < n := by omega
        have BAL : Below wr.heap.size wr (wr.alloc (.cells #[.int .u64 key, .int .i64 po, .int .i64 pl, .int .u32 pc, .bool pg] 82)) := (Below.refl _ wr).alloc (Nat.le_refl _) _
        have B1 := B.trans (BAL.mono B.size)
        have hKp := Blk.made wr 82 #[.int .u64 key, .int .i64 po, .int .i64 pl, .int .u32 pc, .bool pg]
        have HCL := Lib.hid fun (W : World) (Bx : Below (wr.alloc (.cells #[.int .u64 key, .int .i64 po, .int .i64 pl, .int .u32 pc, .bool pg] 82)).heap.size (wr.alloc (.cells #[.int .u64 key, .int .i64 po, .int .i64 pl, .int .u32 pc, .bool pg] 82)) W) =>
          show W.cell? ⟨w.heap.size, 3, none⟩ = some (.slice (some ⟨b, off, none⟩) n c) ∧ W.cell? ⟨wr.heap.size, 0, none⟩ = some (.int .u64 key) ∧ W.cell? ⟨wr.heap.size, 1, none⟩ = some (.int .i64 po) ∧ W.cell? ⟨wr.heap.size, 2, none⟩ = some (.int .i64 pl) ∧ W.cell? ⟨wr.heap.size, 3, none⟩ = some (.int .u32 pc) ∧ W.cell? ⟨wr.heap.size, 4, none⟩ = some (.bool pg) from
          ⟨(HC.out W (B1.trans (Bx.mono B1.size))).2.2.2, (hKp.below Bx hKp.lt).cell 0, (hKp.below Bx hKp.lt).cell 1, (hKp.below Bx hKp.lt).cell 2, (hKp.below Bx hKp.lt).cell 3, (hKp.below Bx hKp.lt).cell 4⟩
        have HCQ := Lib.hid fun (h0 : 0 < i) (W : World) (Bx : Below (wr.alloc (.cells #[.int .u64 key, .int .i64 po, .int .i64 pl, .int .u32 pc, .bool pg] 82)).heap.size (wr.alloc (.cells #[.int .u64 key, .int .i64 po, .int .i64 pl, .int .u32 pc, .bool pg] 82)) W) =>
          show W.cell? ⟨b, off + (i - 1) * 5, none⟩ = some (.int .u64 qk) from by
            have hlt2 := World.block_lt_of_cell? _ _ (hqc h0)
            exact ((BAL.cell (p := ⟨b, off + (i - 1) * 5, none⟩) hlt2 ▸ (Bx.cell (p := ⟨b, off + (i - 1) * 5, none⟩) (Nat.lt_of_lt_of_le hlt2 BAL.size)))).trans (hqc h0)
        have HBAD := Lib.hid (show lokB ps (i + 1) = false → ckR v g u ps = 1 from fun hf => by rw [HR.out, lok_false hf n (by omega)]; rfl)
        clear hcell hq hqc hqk hpp BAL hKp hokl
        have HST := Lib.hid hst
        have HOKP := Lib.hid hokP
        have HNOP := Lib.hid hnoP
        clear hst hokP hnoP
        by_cases h1 : po < 0
        · have hd1 : decide (po < 0) = true := decide_eq_true h1
          have HE := Lib.hid (HBAD.out (by rw [HST.out, HNOP.out (fun h => by omega)]; rfl))
          go_wp2_with fail
          generalize wr.alloc (.cells #[.int .u64 key, .int .i64 po, .int .i64 pl, .int .u32 pc, .bool pg] 82) = W1 at *
          obtain ⟨d0, d1, d2, d3, d4, d5⟩ := HCL.out W1 (Below.refl _ _)
          have hS := fun m => below_drewN (Below.refl W1.heap.size W1) m
          go_quiet (fail)
          go_wp2_with fail
          go_ret
          exact ⟨by rw [HE.out]; rfl, BW.out _ (B1.trans ((hS _).mono B1.size))⟩
        have hd1 : decide (po < 0) = false := decide_eq_false h1
        by_cases h2 : 16777216 < po
        · have hd2 : decide (16777216 < po) = true := decide_eq_true h2
          have HE := Lib.hid (HBAD.out (by rw [HST.out, HNOP.out (fun h => by omega)]; rfl))
          go_wp2_with fail
          generalize wr.alloc (.cells #[.int .u64 key, .int .i64 po, .int .i64 pl, .int .u32 pc, .bool pg] 82) = W1 at *
          obtain ⟨d0, d1, d2, d3, d4, d5⟩ := HCL.out W1 (Below.refl _ _)
          have hS := fun m => below_drewN (Below.refl W1.heap.size W1) m
          go_quiet (fail)
          go_wp2_with fail
          go_ret
          exact ⟨by rw [HE.out]; rfl, BW.out _ (B1.trans ((hS _).mono B1.size))⟩
        have hd2 : decide (16777216 < po) = false := decide_eq_false h2
        by_cases h3 : pl < 0
        · have hd3 : decide (pl < 0) = true := decide_eq_true h3
          have HE := Lib.hid (HBAD.out (by rw [HST.out, HNOP.out (fun h => by omega)]; rfl))
          go_wp2_with fail
          generalize wr.alloc (.cells #[.int .u64 key, .int .i64 po, .int .i64 pl, .int .u32 pc, .bool pg] 82) = W1 at *
          obtain ⟨d0, d1, d2, d3, d4, d5⟩ := HCL.out W1 (Below.refl _ _)
          have hS := fun m => below_drewN (Below.refl W1.heap.size W1) m
          go_quiet (fail)
          go_wp2_with fail
          go_ret
          exact ⟨by rw [HE.out]; rfl, BW.out _ (B1.trans ((hS _).mono B1.size))⟩
        have hd3 : decide (pl < 0) = false := decide_eq_false h3
        by_cases h4 : 4096 < pl
        · have hd4 : decide (4096 < pl) = true := decide_eq_true h4
          have HE := Lib.hid (HBAD.out (by rw [HST.out, HNOP.out (fun h => by omega)]; rfl))
          go_wp2_with fail
          generalize wr.alloc (.cells #[.int .u64 key, .int .i64 po, .int .i64 pl, .int .u32 pc, .bool pg] 82) = W1 at *
          obtain ⟨d0, d1, d2, d3, d4, d5⟩ := HCL.out W1 (Below.refl _ _)
          have hS := fun m => below_drewN (Below.refl W1.heap.size W1) m
          go_quiet (fail)
          go_wp2_with fail
          go_ret
          exact ⟨by rw [HE.out]; rfl, BW.out _ (B1.trans ((hS _).mono B1.size))⟩
        have hd4 : decide (4096 < pl) = false := decide_eq_false h4
        cases pg with
        | false =>
          have HOK := Lib.hid (HOKP.out ⟨by omega, by omega, by omega, by omega, fun h => by cases h⟩)
          by_cases h0 : i = 0
          · have HE := Lib.hid (show lokB ps (i + 1) = true from by rw [HST.out, HOK.out, h0]; simp)
            have h0' : decide ((0 : Int) < i) = false := by rw [decide_eq_false_iff_not]; omega
            have h0n : decide (0 < i) = false := by rw [decide_eq_false_iff_not]; omega
            have h0p : ¬ 0 < i := by omega
            have HH0 := Lib.hid h0
            clear h0
            go_wp2_with fail
            generalize wr.alloc (.cells #[.int .u64 key, .int .i64 po, .int .i64 pl, .int .u32 pc, .bool false] 82) = W1 at *
            obtain ⟨d0, d1, d2, d3, d4, d5⟩ := HCL.out W1 (Below.refl _ _)
            have hS := fun m => below_drewN (Below.refl W1.heap.size W1) m
            go_quiet (fail)
            go_wp2_with fail
            refine ⟨⟨i + 1, by omega, by go_num, HE.out, B1.trans ((hS _).mono B1.size)⟩, ?_⟩
            simp [intOf]; omega
          · have h0' : decide ((0 : Int) < i) = true := by rw [decide_eq_true_eq]; omega
            have h0n : decide (0 < i) = true := by rw [decide_eq_true_eq]; omega
            have h0p : 0 < i := by omega
            obtain ⟨k, hk⟩ : ∃ k, i - 1 = k := ⟨_, rfl⟩
            have HCQ := HCQ.out (by omega)
            rw [hk] at HCQ
            have HCQ := Lib.hid HCQ
            have HW := Lib.hid (show IntKind.i64.wrap ((i : Int) - 1) = (k : Int) from by rw [IntWalk.i64_in _ (by omega)]; omega)
            have hk0 : (0 : Int) ≤ k := by omega
            have hk1 : (k : Int) < n := by omega
            by_cases hkk : qk < key
            · have HE := Lib.hid (show lokB ps (i + 1) = true from by rw [HST.out, HOK.out]; simp [hkk])
              have hkk' : decide ((key : Int) ≤ (qk : Int)) = false := by rw [decide_eq_false_iff_not]; omega
              have hkn : decide (key ≤ qk) = false := by rw [decide_eq_false_iff_not]; omega
              clear hk h0
              go_wp2_with fail
              generalize wr.alloc (.cells #[.int .u64 key, .int .i64 po, .int .i64 pl, .int .u32 pc, .bool false] 82) = W1 at *
              obtain ⟨d0, d1, d2, d3, d4, d5⟩ := HCL.out W1 (Below.refl _ _)
              have e0 := HCQ.out W1 (Below.refl _ _)
              have hw := HW.out
              have hS := fun m => below_drewN (Below.refl W1.heap.size W1) m
              go_quiet (fail)
              go_wp2_with fail
              refine ⟨⟨i + 1, by omega, by go_num, HE.out, B1.trans ((hS _).mono B1.size)⟩, ?_⟩
              simp [intOf]; omega
            · have HE := Lib.hid (HBAD.out (by rw [HST.out, HOK.out]; simp [hkk, h0]))
              have hkk' : decide ((key : Int) ≤ (qk : Int)) = true := by rw [decide_eq_true_eq]; omega
              have hkn : decide (key ≤ qk) = true := by rw [decide_eq_true_eq]; omega
              clear hk h0
              go_wp2_with fail
              generalize wr.alloc (.cells #[.int .u64 key, .int .i64 po, .int .i64 pl, .int .u32 pc, .bool false] 82) = W1 at *
              obtain ⟨d0, d1, d2, d3, d4, d5⟩ := HCL.out W1 (Below.refl _ _)
              have e0 := HCQ.out W1 (Below.refl _ _)
              have hw := HW.out
              have hS := fun m => below_drewN (Below.refl W1.heap.size W1) m
              go_quiet (fail)
              go_wp2_with fail
              go_ret
              exact ⟨by rw [HE.out]; rfl, BW.out _ (B1.trans ((hS _).mono B1.size))⟩
        | true =>
          by_cases h5 : 0 < pl
          · have hd5 : decide (0 < pl) = true := decide_eq_true h5
            have HE := Lib.hid (HBAD.out (by rw [HST.out, HNOP.out (fun h => by have := h.2.2.2.2 rfl; omega)]; rfl))
            go_wp2_with fail
            generalize wr.alloc (.cells #[.int .u64 key, .int .i64 po, .int .i64 pl, .int .u32 pc, .bool true] 82) = W1 at *
            obtain ⟨d0, d1, d2, d3, d4, d5⟩ := HCL.out W1 (Below.refl _ _)
            have hS := fun m => below_drewN (Below.refl W1.heap.size W1) m
            go_quiet (fail)
            go_wp2_with fail
            go_ret
            exact ⟨by rw [HE.out]; rfl, BW.out _ (B1.trans ((hS _).mono B1.size))⟩
          · have hd5 : decide (0 < pl) = false := decide_eq_false h5
            have HOK := Lib.hid (HOKP.out ⟨by omega, by omega, by omega, by omega, fun _ => by omega⟩)
            by_cases h0 : i = 0
            · have HE := Lib.hid (show lokB ps (i + 1) = true from by rw [HST.out, HOK.out, h0]; simp)
              have h0' : decide ((0 : Int) < i) = false := by rw [decide_eq_false_iff_not]; omega
              have h0n : decide (0 < i) = false := by rw [decide_eq_false_iff_not]; omega
              have h0p : ¬ 0 < i := by omega
              have HH0 := Lib.hid h0
              clear h0
              go_wp2_with fail
              generalize wr.alloc (.cells #[.int .u64 key, .int .i64 po, .int .i64 pl, .int .u32 pc, .bool true] 82) = W1 at *
              obtain ⟨d0, d1, d2, d3, d4, d5⟩ := HCL.out W1 (Below.refl _ _)
              have hS := fun m => below_drewN (Below.refl W1.heap.size W1) m
              go_quiet (fail)
              go_wp2_with fail
              refine ⟨⟨i + 1, by omega, by go_num, HE.out, B1.trans ((hS _).mono B1.size)⟩, ?_⟩
              simp [intOf]; omega
            · have h0' : decide ((0 : Int) < i) = true := by rw [decide_eq_true_eq]; omega
              have h0n : decide (0 < i) = true := by rw [decide_eq_true_eq]; omega
              have h0p : 0 < i := by omega
              obtain ⟨k, hk⟩ : ∃ k, i - 1 = k := ⟨_, rfl⟩
              have HCQ := HCQ.out (by omega)
              rw [hk] at HCQ
              have HCQ := Lib.hid HCQ
              have HW := Lib.hid (show IntKind.i64.wrap ((i : Int) - 1) = (k : Int) from by rw [IntWalk.i64_in _ (by omega)]; omega)
              have hk0 : (0 : Int) ≤ k := by omega
              have hk1 : (k : Int) < n := by omega
              by_cases hkk : qk < key
              · have HE := Lib.hid (show lokB ps (i + 1) = true from by rw [HST.out, HOK.out]; simp [hkk])
                have hkk' : decide ((key : Int) ≤ (qk : Int)) = false := by rw [decide_eq_false_iff_not]; omega
                have hkn : decide (key ≤ qk) = false := by rw [decide_eq_false_iff_not]; omega
                clear hk h0
                go_wp2_with fail
                generalize wr.alloc (.cells #[.int .u64 key, .int .i64 po, .int .i64 pl, .int .u32 pc, .bool true] 82) = W1 at *
                obtain ⟨d0, d1, d2, d3, d4, d5⟩ := HCL.out W1 (Below.refl _ _)
                have e0 := HCQ.out W1 (Below.refl _ _)
                have hw := HW.out
                have hS := fun m => below_drewN (Below.refl W1.heap.size W1) m
                go_quiet (fail)
                go_wp2_with fail
                refine ⟨⟨i + 1, by omega, by go_num, HE.out, B1.trans ((hS _).mono B1.size)⟩, ?_⟩
                simp [intOf]; omega
              · have HE := Lib.hid (HBAD.out (by rw [HST.out, HOK.out]; simp [hkk, h0]))
                have hkk' : decide ((key : Int) ≤ (qk : Int)) = true := by rw [decide_eq_true_eq]; omega
                have hkn : decide (key ≤ qk) = true := by rw [decide_eq_true_eq]; omega
                clear hk h0
                go_wp2_with fail
                generalize wr.alloc (.cells #[.int .u64 key, .int .i64 po, .int .i64 pl, .int .u32 pc, .bool true] 82) = W1 at *
                obtain ⟨d0, d1, d2, d3, d4, d5⟩ := HCL.out W1 (Below.refl _ _)
                have e0 := HCQ.out W1 (Below.refl _ _)
                have hw := HW.out
                have hS := fun m => below_drewN (Below.refl W1.heap.size W1) m
                go_quiet (fail)
                go_wp2_with fail
                go_ret
                exact ⟨by rw [HE.out]; rfl, BW.out _ (B1.trans ((hS _).mono B1.size))⟩
      · obtain rfl : i = n := by omega
        have HE := Lib.hid (show ckR v g u ps = 0 from by rw [HR.out, hokl]; rfl)
        clear hokl
        go_wp2_with fail
        go_ret
        exact ⟨by rw [HE.out]; rfl, BW.out _ B⟩

end Go.Proofs.Ytkmifimdjdjdpaa
