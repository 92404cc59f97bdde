/-
  check.Right.
-/
import Derived.Test.YtkmifimdjdjdpaaChk
import Derived.Test.YtkmifimdjdjdpaaNdl
namespace Go.Proofs.Ytkmifimdjdjdpaa
open Go.RowKit

def headP (v g u : Int) : Prop := 1 ≤ v ∧ v ≤ 65535 ∧ 1 ≤ g ∧ g ≤ 2147483647 ∧ 0 ≤ u ∧ u ≤ 16777216
instance (v g u : Int) : Decidable (headP v g u) := by unfold headP; infer_instance
def headB (v g u : Int) : Bool := decide (headP v g u)
def dP : PosR := ⟨0, 0, 0, 0, false⟩
/-- Are the first i positions right? -/
def lokB (ps : List PosR) : Nat → Bool
  | 0 => true
  | i + 1 => lokB ps i && (ps.getD i dP).okB && (decide (i = 0) || decide ((ps.getD (i - 1) dP).key < (ps.getD i dP).key))
/-- May the checkpoint be? -/
def ckR (v g u : Int) (ps : List PosR) : Nat := if 4096 < ps.length then 2 else if headB v g u && lokB ps ps.length then 0 else 1
theorem ckR_le (v g u : Int) (ps : List PosR) : ckR v g u ps ≤ 17 := by unfold ckR; split <;> (try split) <;> omega

/-- The cells of the i-th position. -/
theorem psl_cells {w : World} {B n : Nat} {b off : Nat} {ps : List PosR} (hl : ps.length = n) (hcell : ∀ i j, i < n → j < 5 → w.cell? ⟨b, off + i * 5 + j, none⟩ = (flatP ps)[i * 5 + j]?) (i : Nat) (hi : i < n) (_ : B = B) :
    w.cell? ⟨b, off + i * 5, none⟩ = some (.int .u64 (ps.getD i dP).key) ∧ w.cell? ⟨b, off + i * 5 + 1, none⟩ = some (.int .i64 (ps.getD i dP).off) ∧ w.cell? ⟨b, off + i * 5 + 2, none⟩ = some (.int .i64 (ps.getD i dP).len) ∧
      w.cell? ⟨b, off + i * 5 + 3, none⟩ = some (.int .u32 (ps.getD i dP).ck) ∧ w.cell? ⟨b, off + i * 5 + 4, none⟩ = some (.bool (ps.getD i dP).gone) := by
  have hil : i < ps.length := by omega
  have e : ps.getD i dP = ps[i] := by simp [List.getD, hil]
  have hc : ∀ j, j < 5 → w.cell? ⟨b, off + i * 5 + j, none⟩ = (ps[i]).cells[j]? := fun j hj => by
    rw [← flatP_at ps i j hj hil]
    exact hcell i j hi hj
  rw [e]
  exact ⟨hc 0 (by omega), hc 1 (by omega), hc 2 (by omega), hc 3 (by omega), hc 4 (by omega)⟩

set_option maxRecDepth 100000 in
set_option maxHeartbeats 4000000 in
theorem right_any (v g u : Int) (a : Option Addr) (n c : Nat) (ps : List PosR) (w : World) (h : PSl w w.heap.size a n ps) (hn : n ≤ 9223372036854775807) :
    Calls Try.prog 22 #[.agg #[.int .i64 v, .int .i64 g, .int .i64 u, .slice a n c]] w fun e w' => e = .returned (errc (ckR v g u ps)) ∧ Below w.heap.size w w' := by
  have HL := Lib.hid h.1
  have BA := (Below.refl w.heap.size w).alloc (Nat.le_refl _) (.cells #[.int .i64 v, .int .i64 g, .int .i64 u, .slice a n c] 46)
  by_cases hbig : 4096 < n
  · have HR := Lib.hid (show ckR v g u ps = 2 from by unfold ckR; rw [if_pos (by rw [HL.out]; exact hbig)])
    have HB := Lib.hid BA
    clear h BA
    go_enter Try.func22, Try.ntmps22
    go_wp2_with fail
    go_ret
    exact ⟨by rw [HR.out]; rfl, HB.out⟩
  have hn4 : n ≤ 4096 := by omega
  obtain ⟨W0, hW0⟩ : ∃ W0, w.alloc (.cells #[.int .i64 v, .int .i64 g, .int .i64 u, .slice a n c] 46) = W0 := ⟨_, rfl⟩
  rw [hW0] at BA
  have hK : Blk W0 w.heap.size 46 #[.int .i64 v, .int .i64 g, .int .i64 u, .slice a n c] := by rw [← hW0]; exact Blk.made w _ _
  have HC := Lib.hid fun (W : World) (B : Below W0.heap.size W0 W) => (hK.below B hK.lt).four
  have HP := Lib.hid fun (W : World) (B : Below W0.heap.size W0 W) => h.below (BA.trans (B.mono BA.size))
  have BW := Lib.hid fun (W : World) (B : Below W0.heap.size W0 W) => BA.trans (B.mono BA.size)
  have HR := Lib.hid (show ckR v g u ps = if headB v g u && lokB ps n then 0 else 1 from by unfold ckR; rw [if_neg (by rw [HL.out]; exact hbig), HL.out])
  have HO : headP v g u → headB v g u = true := fun h => decide_eq_true h
  have HN : ¬ headP v g u → headB v g u = false := fun h => decide_eq_false h
  have HPD : headP v g u ↔ (1 ≤ v ∧ v ≤ 65535 ∧ 1 ≤ g ∧ g ≤ 2147483647 ∧ 0 ≤ u ∧ u ≤ 16777216) := Iff.rfl
  generalize headB v g u = hb at *
  generalize headP v g u = hP at *
  rw [HPD] at HO HN
  have HO := Lib.hid HO
  have HN := Lib.hid HN
  obtain ⟨c0, c1, c2, c3⟩ := HC.out W0 (Below.refl _ _)
  clear h hK BA hbig HPD
  go_enter Try.func22, Try.ntmps22
  go_upto_region 3 with fail
  go_cut [3] (fun x wx => x = .bool hb ∧ W0 = wx)
  case first =>
    by_cases h1 : 1 ≤ v
    · by_cases h2 : v ≤ 65535
      · by_cases h3 : 1 ≤ g
        · by_cases h4 : g ≤ 2147483647
          · by_cases h5 : 0 ≤ u
            · by_cases h6 : u ≤ 16777216
              · have HD := Lib.hid (HO.out ⟨h1, h2, h3, h4, h5, h6⟩)
                go_wp2_with fail
                go_meet
                exact ⟨by rw [HD.out], rfl⟩
              · have HD := Lib.hid (HN.out (fun h => h6 h.2.2.2.2.2))
                go_wp2_with fail
                go_meet
                exact ⟨by rw [HD.out], rfl⟩
            · have HD := Lib.hid (HN.out (fun h => h5 h.2.2.2.2.1))
              go_wp2_with fail
              go_meet
              exact ⟨by rw [HD.out], rfl⟩
          · have HD := Lib.hid (HN.out (fun h => h4 h.2.2.2.1))
            go_wp2_with fail
            go_meet
            exact ⟨by rw [HD.out], rfl⟩
        · have HD := Lib.hid (HN.out (fun h => h3 h.2.2.1))
          go_wp2_with fail
          go_meet
          exact ⟨by rw [HD.out], rfl⟩
      · have HD := Lib.hid (HN.out (fun h => h2 h.2.1))
        go_wp2_with fail
        go_meet
        exact ⟨by rw [HD.out], rfl⟩
    · have HD := Lib.hid (HN.out (fun h => h1 h.1))
      go_wp2_with fail
      go_meet
      exact ⟨by rw [HD.out], rfl⟩
  case rest =>
    obtain ⟨rfl, rfl⟩ := hcut
    clear hW0
    go_wp2_with fail
    clear c0 c1 c2 c3
    go_loopw [3, 42] (fun x iv wr => ∃ i : Nat, i ≤ n ∧ iv = .int .i64 i ∧ x = .bool (hb && lokB ps i) ∧ Below W0.heap.size W0 wr) (fun _ iv _ => n - (intOf iv).toNat)
    case atStart => exact ⟨0, by omega, rfl, by simp [lokB], Below.refl _ _⟩
    case round =>
      obtain ⟨i, hi, rfl, rfl, B⟩ := hrel
      by_cases hlt : i < n
      · obtain ⟨b, off, ha, -, hcell⟩ := (HP.out wr B).2.2 (by omega)
        subst ha
        obtain ⟨c0, c1, c2, c3, c4⟩ := psl_cells (B := 0) HL.out hcell i hlt rfl
        have hst : lokB ps (i + 1) = (lokB ps i && (ps.getD i dP).okB && (decide (i = 0) || decide ((ps.getD (i - 1) dP).key < (ps.getD i dP).key))) := rfl
        have hprev : ∃ q : PosR, ps.getD (i - 1) dP = q ∧ (0 < i → wr.cell? ⟨b, off + (i - 1) * 5, none⟩ = some (.int .u64 q.key)) := ⟨_, rfl, fun h0 => (psl_cells (B := 0) HL.out hcell (i - 1) (by omega) rfl).1⟩
        obtain ⟨q, hq, hqc⟩ := hprev
        rw [hq] at hst
        obtain ⟨p, hp⟩ : ∃ p, ps.getD i dP = p := ⟨_, rfl⟩
        rw [hp] at hst c0 c1 c2 c3 c4
        obtain ⟨okl, hokl⟩ : ∃ r, lokB ps i = r := ⟨_, rfl⟩
        rw [hokl] at hst ⊢
        have hi0 : (0 : Int) ≤ i := by omega
        have hi1 : (i : Int) < n := by omega
        have BAL : Below wr.heap.size wr (wr.alloc (.cells #[.int .u64 p.key, .int .i64 p.off, .int .i64 p.len, .int .u32 p.ck, .bool p.gone] 60)) := (Below.refl _ wr).alloc (Nat.le_refl _) _
        have B1 := B.trans (BAL.mono B.size)
        have hKp := Blk.made wr 60 #[.int .u64 p.key, .int .i64 p.off, .int .i64 p.len, .int .u32 p.ck, .bool p.gone]
        obtain ⟨rp, hrp⟩ : ∃ r, p.okB = r := ⟨_, rfl⟩
        have HRP := Lib.hid hrp
        rw [hrp] at hst
        have HCL := Lib.hid fun (W : World) (Bx : Below (wr.alloc (.cells #[.int .u64 p.key, .int .i64 p.off, .int .i64 p.len, .int .u32 p.ck, .bool p.gone] 60)).heap.size (wr.alloc (.cells #[.int .u64 p.key, .int .i64 p.off, .int .i64 p.len, .int .u32 p.ck, .bool p.gone] 60)) W) =>
          show W.cell? ⟨w.heap.size, 3, none⟩ = some (.slice (some ⟨b, off, none⟩) n c) ∧ W.cell? ⟨wr.heap.size, 0, none⟩ = some (.int .u64 p.key) ∧ W.cell? ⟨wr.heap.size, 1, none⟩ = some (.int .i64 p.off) ∧ W.cell? ⟨wr.heap.size, 2, none⟩ = some (.int .i64 p.len) ∧ W.cell? ⟨wr.heap.size, 3, none⟩ = some (.int .u32 p.ck) ∧ W.cell? ⟨wr.heap.size, 4, none⟩ = some (.bool p.gone) from
          ⟨(HC.out W (B1.trans (Bx.mono B1.size))).2.2.2, (hKp.below Bx hKp.lt).cell 0, (hKp.below Bx hKp.lt).cell 1, (hKp.below Bx hKp.lt).cell 2, (hKp.below Bx hKp.lt).cell 3, (hKp.below Bx hKp.lt).cell 4⟩
        have HCQ := Lib.hid fun (h0 : 0 < i) (W : World) (Bx : Below (wr.alloc (.cells #[.int .u64 p.key, .int .i64 p.off, .int .i64 p.len, .int .u32 p.ck, .bool p.gone] 60)).heap.size (wr.alloc (.cells #[.int .u64 p.key, .int .i64 p.off, .int .i64 p.len, .int .u32 p.ck, .bool p.gone] 60)) W) =>
          show W.cell? ⟨b, off + (i - 1) * 5, none⟩ = some (.int .u64 q.key) from by
            have hlt2 := World.block_lt_of_cell? _ _ (hqc h0)
            exact ((BAL.cell (p := ⟨b, off + (i - 1) * 5, none⟩) hlt2 ▸ (Bx.cell (p := ⟨b, off + (i - 1) * 5, none⟩) (Nat.lt_of_lt_of_le hlt2 BAL.size)))).trans (hqc h0)
        clear hcell hq hqc hp hokl hrp BAL hKp
        cases okl with
        | false =>
          have HSTEP := Lib.hid (show (hb && lokB ps (i + 1)) = false from by rw [hst]; simp)
          rw [show (hb && false) = false from by simp]
          clear hst
          go_wp2_with fail
          generalize wr.alloc (.cells #[.int .u64 p.key, .int .i64 p.off, .int .i64 p.len, .int .u32 p.ck, .bool p.gone] 60) = W1 at *
          refine wp_region_held_drew (S := fun W => Below W1.heap.size W1 W) (by kernel_rfl) ((Below.refl _ _).drew) (fun hS => ?_)
          refine wpAnyH_take (i := 0) (v := ?_) rfl (by kernel_rfl) (by kernel_rfl) (by kernel_rfl) (fun _ _ _ h => h) (Or.inl ⟨by kernel_rfl, ?_⟩) hS ?_
          rotate_left
          · intro W hW; go_simp; try with_reducible rfl
          refine wpAnyH_take (i := 1) (v := ?_) rfl (by kernel_rfl) (by kernel_rfl) (by kernel_rfl) (fun _ _ _ h => h) (Or.inl ⟨by kernel_rfl, ?_⟩) hS ?_
          rotate_left
          · intro W hW; go_simp; try with_reducible rfl
          refine wpAnyH_take (i := 2) (v := undef) rfl (by kernel_rfl) (by kernel_rfl) (by kernel_rfl) (fun _ _ _ h => h) (Or.inr ⟨by kernel_rfl, rfl⟩) hS ?_
          refine wpAnyH_take (i := 3) (v := undef) rfl (by kernel_rfl) (by kernel_rfl) (by kernel_rfl) (fun _ _ _ h => h) (Or.inr ⟨by kernel_rfl, rfl⟩) hS ?_
          refine wpAnyH_take (i := 4) (v := ?_) rfl (by kernel_rfl) (by kernel_rfl) (by kernel_rfl) (fun _ _ _ h => h) (Or.inl ⟨by kernel_rfl, ?_⟩) hS ?_
          rotate_left
          · intro W hW; go_simp; try with_reducible rfl
          refine wpAnyH_take (i := 5) (v := ?_) rfl (by kernel_rfl) (by kernel_rfl) (by kernel_rfl) (fun _ _ _ h => h) (Or.inl ⟨by kernel_rfl, ?_⟩) hS ?_
          rotate_left
          · intro W hW; go_simp; try with_reducible rfl
          refine wpAnyH_take (i := 6) (v := undef) rfl (by kernel_rfl) (by kernel_rfl) (by kernel_rfl) (fun _ _ _ h => h) (Or.inr ⟨by kernel_rfl, rfl⟩) hS ?_
          refine wpAnyH_take (i := 7) (v := undef) rfl (by kernel_rfl) (by kernel_rfl) (by kernel_rfl) (fun _ _ _ h => h) (Or.inr ⟨by kernel_rfl, rfl⟩) hS ?_
          refine wpAnyH_take (i := 8) (v := undef) rfl (by kernel_rfl) (by kernel_rfl) (by kernel_rfl) (fun _ _ _ h => h) (Or.inr ⟨by kernel_rfl, rfl⟩) hS ?_
          refine wpAnyH_take (i := 9) (v := undef) rfl (by kernel_rfl) (by kernel_rfl) (by kernel_rfl) (fun _ _ _ h => h) (Or.inr ⟨by kernel_rfl, rfl⟩) hS ?_
          refine wpAnyH_take (i := 10) (v := undef) rfl (by kernel_rfl) (by kernel_rfl) (by kernel_rfl) (fun _ _ _ h => h) (Or.inr ⟨by kernel_rfl, rfl⟩) hS ?_
          refine wpAnyH_take (i := 11) (v := undef) rfl (by kernel_rfl) (by kernel_rfl) (by kernel_rfl) (fun _ _ _ h => h) (Or.inr ⟨by kernel_rfl, rfl⟩) hS ?_
          refine wpAnyH_take (i := 12) (v := undef) rfl (by kernel_rfl) (by kernel_rfl) (by kernel_rfl) (fun _ _ _ h => h) (Or.inr ⟨by kernel_rfl, rfl⟩) hS ?_
          refine wpAnyH_take (i := 13) (v := undef) rfl (by kernel_rfl) (by kernel_rfl) (by kernel_rfl) (fun _ _ _ h => h) (Or.inr ⟨by kernel_rfl, rfl⟩) hS ?_
          refine wpAnyH_take (i := 14) (v := undef) rfl (by kernel_rfl) (by kernel_rfl) (by kernel_rfl) (fun _ _ _ h => h) (Or.inr ⟨by kernel_rfl, rfl⟩) hS ?_
          refine wpAnyH_take (i := 15) (v := undef) rfl (by kernel_rfl) (by kernel_rfl) (by kernel_rfl) (fun _ _ _ h => h) (Or.inr ⟨by kernel_rfl, rfl⟩) hS ?_
          refine wpAnyH_take (i := 16) (v := undef) rfl (by kernel_rfl) (by kernel_rfl) (by kernel_rfl) (fun _ _ _ h => h) (Or.inr ⟨by kernel_rfl, rfl⟩) hS ?_
          refine wpAnyH_take (i := 17) (v := undef) rfl (by kernel_rfl) (by kernel_rfl) (by kernel_rfl) (fun _ _ _ h => h) (Or.inr ⟨by kernel_rfl, rfl⟩) hS ?_
          refine wpAnyH_take (i := 18) (v := undef) rfl (by kernel_rfl) (by kernel_rfl) (by kernel_rfl) (fun _ _ _ h => h) (Or.inr ⟨by kernel_rfl, rfl⟩) hS ?_
          refine wpAnyH_take (i := 19) (v := undef) rfl (by kernel_rfl) (by kernel_rfl) (by kernel_rfl) (fun _ _ _ h => h) (Or.inr ⟨by kernel_rfl, rfl⟩) hS ?_
          refine wpAnyH_take (i := 20) (v := ?_) rfl (by kernel_rfl) (by kernel_rfl) (by kernel_rfl) (fun _ _ _ h => h) (Or.inl ⟨by kernel_rfl, ?_⟩) hS ?_
          rotate_left
          · intro W hW; go_simp; try with_reducible rfl
          refine wpAnyH_take (i := 21) (v := ?_) rfl (by kernel_rfl) (by kernel_rfl) (by kernel_rfl) (fun _ _ _ h => h) (Or.inl ⟨by kernel_rfl, ?_⟩) hS ?_
          rotate_left
          · intro W hW; go_simp; try with_reducible rfl
          refine wpAnyH_done (by kernel_rfl) ?_ _
          go_wp2_with fail
          go_roundw
          case rel => exact ⟨i + 1, by omega, by go_num, by rw [HSTEP.out], B1.trans (hS.mono B1.size)⟩
          case measure => simp [intOf]; omega
        | true =>
          cases hb with
          | false =>
            have HSTEP := Lib.hid (show (false && lokB ps (i + 1)) = false from by simp)
            rw [show (false && true) = false from rfl]
            clear hst
            go_wp2_with fail
            generalize wr.alloc (.cells #[.int .u64 p.key, .int .i64 p.off, .int .i64 p.len, .int .u32 p.ck, .bool p.gone] 60) = W1 at *
            refine wp_region_held_drew (S := fun W => Below W1.heap.size W1 W) (by kernel_rfl) ((Below.refl _ _).drew) (fun hS => ?_)
            refine wpAnyH_take (i := 0) (v := ?_) rfl (by kernel_rfl) (by kernel_rfl) (by kernel_rfl) (fun _ _ _ h => h) (Or.inl ⟨by kernel_rfl, ?_⟩) hS ?_
            rotate_left
            · intro W hW; go_simp; try with_reducible rfl
            refine wpAnyH_take (i := 1) (v := ?_) rfl (by kernel_rfl) (by kernel_rfl) (by kernel_rfl) (fun _ _ _ h => h) (Or.inl ⟨by kernel_rfl, ?_⟩) hS ?_
            rotate_left
            · intro W hW; go_simp; try with_reducible rfl
            refine wpAnyH_take (i := 2) (v := undef) rfl (by kernel_rfl) (by kernel_rfl) (by kernel_rfl) (fun _ _ _ h => h) (Or.inr ⟨by kernel_rfl, rfl⟩) hS ?_
            refine wpAnyH_take (i := 3) (v := undef) rfl (by kernel_rfl) (by kernel_rfl) (by kernel_rfl) (fun _ _ _ h => h) (Or.inr ⟨by kernel_rfl, rfl⟩) hS ?_
            refine wpAnyH_take (i := 4) (v := ?_) rfl (by kernel_rfl) (by kernel_rfl) (by kernel_rfl) (fun _ _ _ h => h) (Or.inl ⟨by kernel_rfl, ?_⟩) hS ?_
            rotate_left
            · intro W hW; go_simp; try with_reducible rfl
            refine wpAnyH_take (i := 5) (v := ?_) rfl (by kernel_rfl) (by kernel_rfl) (by kernel_rfl) (fun _ _ _ h => h) (Or.inl ⟨by kernel_rfl, ?_⟩) hS ?_
            rotate_left
            · intro W hW; go_simp; try with_reducible rfl
            refine wpAnyH_take (i := 6) (v := undef) rfl (by kernel_rfl) (by kernel_rfl) (by kernel_rfl) (fun _ _ _ h => h) (Or.inr ⟨by kernel_rfl, rfl⟩) hS ?_
            refine wpAnyH_take (i := 7) (v := undef) rfl (by kernel_rfl) (by kernel_rfl) (by kernel_rfl) (fun _ _ _ h => h) (Or.inr ⟨by kernel_rfl, rfl⟩) hS ?_
            refine wpAnyH_take (i := 8) (v := undef) rfl (by kernel_rfl) (by kernel_rfl) (by kernel_rfl) (fun _ _ _ h => h) (Or.inr ⟨by kernel_rfl, rfl⟩) hS ?_
            refine wpAnyH_take (i := 9) (v := undef) rfl (by kernel_rfl) (by kernel_rfl) (by kernel_rfl) (fun _ _ _ h => h) (Or.inr ⟨by kernel_rfl, rfl⟩) hS ?_
            refine wpAnyH_take (i := 10) (v := undef) rfl (by kernel_rfl) (by kernel_rfl) (by kernel_rfl) (fun _ _ _ h => h) (Or.inr ⟨by kernel_rfl, rfl⟩) hS ?_
            refine wpAnyH_take (i := 11) (v := undef) rfl (by kernel_rfl) (by kernel_rfl) (by kernel_rfl) (fun _ _ _ h => h) (Or.inr ⟨by kernel_rfl, rfl⟩) hS ?_
            refine wpAnyH_take (i := 12) (v := undef) rfl (by kernel_rfl) (by kernel_rfl) (by kernel_rfl) (fun _ _ _ h => h) (Or.inr ⟨by kernel_rfl, rfl⟩) hS ?_
            refine wpAnyH_take (i := 13) (v := undef) rfl (by kernel_rfl) (by kernel_rfl) (by kernel_rfl) (fun _ _ _ h => h) (Or.inr ⟨by kernel_rfl, rfl⟩) hS ?_
            refine wpAnyH_take (i := 14) (v := undef) rfl (by kernel_rfl) (by kernel_rfl) (by kernel_rfl) (fun _ _ _ h => h) (Or.inr ⟨by kernel_rfl, rfl⟩) hS ?_
            refine wpAnyH_take (i := 15) (v := undef) rfl (by kernel_rfl) (by kernel_rfl) (by kernel_rfl) (fun _ _ _ h => h) (Or.inr ⟨by kernel_rfl, rfl⟩) hS ?_
            refine wpAnyH_take (i := 16) (v := undef) rfl (by kernel_rfl) (by kernel_rfl) (by kernel_rfl) (fun _ _ _ h => h) (Or.inr ⟨by kernel_rfl, rfl⟩) hS ?_
            refine wpAnyH_take (i := 17) (v := undef) rfl (by kernel_rfl) (by kernel_rfl) (by kernel_rfl) (fun _ _ _ h => h) (Or.inr ⟨by kernel_rfl, rfl⟩) hS ?_
            refine wpAnyH_take (i := 18) (v := undef) rfl (by kernel_rfl) (by kernel_rfl) (by kernel_rfl) (fun _ _ _ h => h) (Or.inr ⟨by kernel_rfl, rfl⟩) hS ?_
            refine wpAnyH_take (i := 19) (v := undef) rfl (by kernel_rfl) (by kernel_rfl) (by kernel_rfl) (fun _ _ _ h => h) (Or.inr ⟨by kernel_rfl, rfl⟩) hS ?_
            refine wpAnyH_take (i := 20) (v := ?_) rfl (by kernel_rfl) (by kernel_rfl) (by kernel_rfl) (fun _ _ _ h => h) (Or.inl ⟨by kernel_rfl, ?_⟩) hS ?_
            rotate_left
            · intro W hW; go_simp; try with_reducible rfl
            refine wpAnyH_take (i := 21) (v := ?_) rfl (by kernel_rfl) (by kernel_rfl) (by kernel_rfl) (fun _ _ _ h => h) (Or.inl ⟨by kernel_rfl, ?_⟩) hS ?_
            rotate_left
            · intro W hW; go_simp; try with_reducible rfl
            refine wpAnyH_done (by kernel_rfl) ?_ _
            go_wp2_with fail
            go_roundw
            case rel => exact ⟨i + 1, by omega, by go_num, by rw [HSTEP.out], B1.trans (hS.mono B1.size)⟩
            case measure => simp [intOf]; omega
          | true =>
            rw [show (true && true) = true from rfl]
            cases rp with
            | false =>
              have HSTEP := Lib.hid (show (true && lokB ps (i + 1)) = false from by rw [hst]; simp)
              clear hst
              go_wp2_with fail
              generalize wr.alloc (.cells #[.int .u64 p.key, .int .i64 p.off, .int .i64 p.len, .int .u32 p.ck, .bool p.gone] 60) = W1 at *
              refine wp_region_held_drew (S := fun W => Below W1.heap.size W1 W) (by kernel_rfl) ((Below.refl _ _).drew) (fun hS => ?_)
              refine wpAnyH_take (i := 0) (v := ?_) rfl (by kernel_rfl) (by kernel_rfl) (by kernel_rfl) (fun _ _ _ h => h) (Or.inl ⟨by kernel_rfl, ?_⟩) hS ?_
              rotate_left
              · intro W hW; go_simp; try with_reducible rfl
              refine wpAnyH_take (i := 1) (v := ?_) rfl (by kernel_rfl) (by kernel_rfl) (by kernel_rfl) (fun _ _ _ h => h) (Or.inl ⟨by kernel_rfl, ?_⟩) hS ?_
              rotate_left
              · intro W hW; go_simp; try with_reducible rfl
              refine wpAnyH_take (i := 2) (v := ?_) rfl (by kernel_rfl) (by kernel_rfl) (by kernel_rfl) (fun _ _ _ h => h) (Or.inl ⟨by kernel_rfl, ?_⟩) hS ?_
              rotate_left
              · intro W hW; obtain ⟨d0, d1, d2, d3, d4, d5⟩ := HCL.out W hW; go_simp; try with_reducible rfl
              refine wpAnyH_ready (rs := [3]) (by kernel_rfl) (by simp) ?_
              refine AllReadyH.cons rfl (fun K hK => ?_) AllReadyH.nil
              go_simp
              refine (pos_any p _).mono ?_
              rintro e W2 ⟨rfl, B2⟩
              have hT := hS.trans (B2.mono hS.size)
              rw [HRP.out]
              go_simp
              refine hK.out _ _ ?_ (fun hN => ?_)
              · first | exact hT | exact hS | exact hS.alloc hS.size _ | exact hS.drew
              clear hK K
              try clear hT
              clear hS
              have hS := hN
              clear hN
              refine wpAnyH_take (i := 4) (v := ?_) rfl (by kernel_rfl) (by kernel_rfl) (by kernel_rfl) (fun _ _ _ h => h) (Or.inl ⟨by kernel_rfl, ?_⟩) hS ?_
              rotate_left
              · intro W hW; go_simp; try with_reducible rfl
              refine wpAnyH_take (i := 5) (v := ?_) rfl (by kernel_rfl) (by kernel_rfl) (by kernel_rfl) (fun _ _ _ h => h) (Or.inl ⟨by kernel_rfl, ?_⟩) hS ?_
              rotate_left
              · intro W hW; go_simp; try with_reducible rfl
              refine wpAnyH_take (i := 6) (v := undef) rfl (by kernel_rfl) (by kernel_rfl) (by kernel_rfl) (fun _ _ _ h => h) (Or.inr ⟨by kernel_rfl, rfl⟩) hS ?_
              refine wpAnyH_take (i := 7) (v := undef) rfl (by kernel_rfl) (by kernel_rfl) (by kernel_rfl) (fun _ _ _ h => h) (Or.inr ⟨by kernel_rfl, rfl⟩) hS ?_
              refine wpAnyH_take (i := 8) (v := undef) rfl (by kernel_rfl) (by kernel_rfl) (by kernel_rfl) (fun _ _ _ h => h) (Or.inr ⟨by kernel_rfl, rfl⟩) hS ?_
              refine wpAnyH_take (i := 9) (v := undef) rfl (by kernel_rfl) (by kernel_rfl) (by kernel_rfl) (fun _ _ _ h => h) (Or.inr ⟨by kernel_rfl, rfl⟩) hS ?_
              refine wpAnyH_take (i := 10) (v := undef) rfl (by kernel_rfl) (by kernel_rfl) (by kernel_rfl) (fun _ _ _ h => h) (Or.inr ⟨by kernel_rfl, rfl⟩) hS ?_
              refine wpAnyH_take (i := 11) (v := undef) rfl (by kernel_rfl) (by kernel_rfl) (by kernel_rfl) (fun _ _ _ h => h) (Or.inr ⟨by kernel_rfl, rfl⟩) hS ?_
              refine wpAnyH_take (i := 12) (v := undef) rfl (by kernel_rfl) (by kernel_rfl) (by kernel_rfl) (fun _ _ _ h => h) (Or.inr ⟨by kernel_rfl, rfl⟩) hS ?_
              refine wpAnyH_take (i := 13) (v := undef) rfl (by kernel_rfl) (by kernel_rfl) (by kernel_rfl) (fun _ _ _ h => h) (Or.inr ⟨by kernel_rfl, rfl⟩) hS ?_
              refine wpAnyH_take (i := 14) (v := undef) rfl (by kernel_rfl) (by kernel_rfl) (by kernel_rfl) (fun _ _ _ h => h) (Or.inr ⟨by kernel_rfl, rfl⟩) hS ?_
              refine wpAnyH_take (i := 15) (v := undef) rfl (by kernel_rfl) (by kernel_rfl) (by kernel_rfl) (fun _ _ _ h => h) (Or.inr ⟨by kernel_rfl, rfl⟩) hS ?_
              refine wpAnyH_take (i := 16) (v := undef) rfl (by kernel_rfl) (by kernel_rfl) (by kernel_rfl) (fun _ _ _ h => h) (Or.inr ⟨by kernel_rfl, rfl⟩) hS ?_
              refine wpAnyH_take (i := 17) (v := undef) rfl (by kernel_rfl) (by kernel_rfl) (by kernel_rfl) (fun _ _ _ h => h) (Or.inr ⟨by kernel_rfl, rfl⟩) hS ?_
              refine wpAnyH_take (i := 18) (v := undef) rfl (by kernel_rfl) (by kernel_rfl) (by kernel_rfl) (fun _ _ _ h => h) (Or.inr ⟨by kernel_rfl, rfl⟩) hS ?_
              refine wpAnyH_take (i := 19) (v := undef) rfl (by kernel_rfl) (by kernel_rfl) (by kernel_rfl) (fun _ _ _ h => h) (Or.inr ⟨by kernel_rfl, rfl⟩) hS ?_
              refine wpAnyH_take (i := 20) (v := ?_) rfl (by kernel_rfl) (by kernel_rfl) (by kernel_rfl) (fun _ _ _ h => h) (Or.inl ⟨by kernel_rfl, ?_⟩) hS ?_
              rotate_left
              · intro W hW; go_simp; try with_reducible rfl
              refine wpAnyH_take (i := 21) (v := ?_) rfl (by kernel_rfl) (by kernel_rfl) (by kernel_rfl) (fun _ _ _ h => h) (Or.inl ⟨by kernel_rfl, ?_⟩) hS ?_
              rotate_left
              · intro W hW; go_simp; try with_reducible rfl
              refine wpAnyH_done (by kernel_rfl) ?_ _
              go_wp2_with fail
              go_roundw
              case rel => exact ⟨i + 1, by omega, by go_num, by rw [HSTEP.out], B1.trans (hS.mono B1.size)⟩
              case measure => simp [intOf]; omega
            | true =>
              by_cases h0 : i = 0
              · have HSTEP := Lib.hid (show (true && lokB ps (i + 1)) = true from by rw [hst, h0]; simp)
                have h0' : ((i : Int) == 0) = true := by rw [h0]; rfl
                have HH0 := Lib.hid h0
                clear hst h0
                go_wp2_with fail
                generalize wr.alloc (.cells #[.int .u64 p.key, .int .i64 p.off, .int .i64 p.len, .int .u32 p.ck, .bool p.gone] 60) = W1 at *
                refine wp_region_held_drew (S := fun W => Below W1.heap.size W1 W) (by kernel_rfl) ((Below.refl _ _).drew) (fun hS => ?_)
                refine wpAnyH_take (i := 0) (v := ?_) rfl (by kernel_rfl) (by kernel_rfl) (by kernel_rfl) (fun _ _ _ h => h) (Or.inl ⟨by kernel_rfl, ?_⟩) hS ?_
                rotate_left
                · intro W hW; go_simp; try with_reducible rfl
                refine wpAnyH_take (i := 1) (v := ?_) rfl (by kernel_rfl) (by kernel_rfl) (by kernel_rfl) (fun _ _ _ h => h) (Or.inl ⟨by kernel_rfl, ?_⟩) hS ?_
                rotate_left
                · intro W hW; go_simp; try with_reducible rfl
                refine wpAnyH_take (i := 2) (v := ?_) rfl (by kernel_rfl) (by kernel_rfl) (by kernel_rfl) (fun _ _ _ h => h) (Or.inl ⟨by kernel_rfl, ?_⟩) hS ?_
                rotate_left
                · intro W hW; obtain ⟨d0, d1, d2, d3, d4, d5⟩ := HCL.out W hW; go_simp; try with_reducible rfl
                refine wpAnyH_ready (rs := [3]) (by kernel_rfl) (by simp) ?_
                refine AllReadyH.cons rfl (fun K hK => ?_) AllReadyH.nil
                go_simp
                refine (pos_any p _).mono ?_
                rintro e W2 ⟨rfl, B2⟩
                have hT := hS.trans (B2.mono hS.size)
                rw [HRP.out]
                go_simp
                refine hK.out _ _ ?_ (fun hN => ?_)
                · first | exact hT | exact hS | exact hS.alloc hS.size _ | exact hS.drew
                clear hK K
                try clear hT
                clear hS
                have hS := hN
                clear hN
                refine wpAnyH_take (i := 4) (v := ?_) rfl (by kernel_rfl) (by kernel_rfl) (by kernel_rfl) (fun _ _ _ h => h) (Or.inl ⟨by kernel_rfl, ?_⟩) hS ?_
                rotate_left
                · intro W hW; go_simp; try with_reducible rfl
                refine wpAnyH_take (i := 5) (v := ?_) rfl (by kernel_rfl) (by kernel_rfl) (by kernel_rfl) (fun _ _ _ h => h) (Or.inl ⟨by kernel_rfl, ?_⟩) hS ?_
                rotate_left
                · intro W hW; go_simp; try with_reducible rfl
                refine wpAnyH_take (i := 6) (v := ?_) rfl (by kernel_rfl) (by kernel_rfl) (by kernel_rfl) (fun _ _ _ h => h) (Or.inl ⟨by kernel_rfl, ?_⟩) hS ?_
                rotate_left
                · intro W hW; go_simp; try with_reducible rfl
                refine wpAnyH_take (i := 7) (v := ?_) rfl (by kernel_rfl) (by kernel_rfl) (by kernel_rfl) (fun _ _ _ h => h) (Or.inl ⟨by kernel_rfl, ?_⟩) hS ?_
                rotate_left
                · intro W hW; go_simp; try with_reducible rfl
                refine wpAnyH_take (i := 8) (v := ?_) rfl (by kernel_rfl) (by kernel_rfl) (by kernel_rfl) (fun _ _ _ h => h) (Or.inl ⟨by kernel_rfl, ?_⟩) hS ?_
                rotate_left
                · intro W hW; go_simp; try with_reducible rfl
                refine wpAnyH_take (i := 9) (v := undef) rfl (by kernel_rfl) (by kernel_rfl) (by kernel_rfl) (fun _ _ _ h => h) (Or.inr ⟨by kernel_rfl, rfl⟩) hS ?_
                refine wpAnyH_take (i := 10) (v := undef) rfl (by kernel_rfl) (by kernel_rfl) (by kernel_rfl) (fun _ _ _ h => h) (Or.inr ⟨by kernel_rfl, rfl⟩) hS ?_
                refine wpAnyH_take (i := 11) (v := undef) rfl (by kernel_rfl) (by kernel_rfl) (by kernel_rfl) (fun _ _ _ h => h) (Or.inr ⟨by kernel_rfl, rfl⟩) hS ?_
                refine wpAnyH_take (i := 12) (v := undef) rfl (by kernel_rfl) (by kernel_rfl) (by kernel_rfl) (fun _ _ _ h => h) (Or.inr ⟨by kernel_rfl, rfl⟩) hS ?_
                refine wpAnyH_take (i := 13) (v := undef) rfl (by kernel_rfl) (by kernel_rfl) (by kernel_rfl) (fun _ _ _ h => h) (Or.inr ⟨by kernel_rfl, rfl⟩) hS ?_
                refine wpAnyH_take (i := 14) (v := undef) rfl (by kernel_rfl) (by kernel_rfl) (by kernel_rfl) (fun _ _ _ h => h) (Or.inr ⟨by kernel_rfl, rfl⟩) hS ?_
                refine wpAnyH_take (i := 15) (v := undef) rfl (by kernel_rfl) (by kernel_rfl) (by kernel_rfl) (fun _ _ _ h => h) (Or.inr ⟨by kernel_rfl, rfl⟩) hS ?_
                refine wpAnyH_take (i := 16) (v := undef) rfl (by kernel_rfl) (by kernel_rfl) (by kernel_rfl) (fun _ _ _ h => h) (Or.inr ⟨by kernel_rfl, rfl⟩) hS ?_
                refine wpAnyH_take (i := 17) (v := undef) rfl (by kernel_rfl) (by kernel_rfl) (by kernel_rfl) (fun _ _ _ h => h) (Or.inr ⟨by kernel_rfl, rfl⟩) hS ?_
                refine wpAnyH_take (i := 18) (v := undef) rfl (by kernel_rfl) (by kernel_rfl) (by kernel_rfl) (fun _ _ _ h => h) (Or.inr ⟨by kernel_rfl, rfl⟩) hS ?_
                refine wpAnyH_take (i := 19) (v := ?_) rfl (by kernel_rfl) (by kernel_rfl) (by kernel_rfl) (fun _ _ _ h => h) (Or.inl ⟨by kernel_rfl, ?_⟩) hS ?_
                rotate_left
                · intro W hW; go_simp; try with_reducible rfl
                refine wpAnyH_take (i := 20) (v := ?_) rfl (by kernel_rfl) (by kernel_rfl) (by kernel_rfl) (fun _ _ _ h => h) (Or.inl ⟨by kernel_rfl, ?_⟩) hS ?_
                rotate_left
                · intro W hW; go_simp; try with_reducible rfl
                refine wpAnyH_take (i := 21) (v := ?_) rfl (by kernel_rfl) (by kernel_rfl) (by kernel_rfl) (fun _ _ _ h => h) (Or.inl ⟨by kernel_rfl, ?_⟩) hS ?_
                rotate_left
                · intro W hW; go_simp; try with_reducible rfl
                refine wpAnyH_done (by kernel_rfl) ?_ _
                go_wp2_with fail
                go_roundw
                case rel => exact ⟨i + 1, by omega, by go_num, by rw [HSTEP.out], B1.trans (hS.mono B1.size)⟩
                case measure => simp [intOf]; omega
              · have h0' : ((i : Int) == 0) = false := by rw [beq_eq_false_iff_ne]; omega
                obtain ⟨k, hk⟩ : ∃ k, i - 1 = k := ⟨_, rfl⟩
                have HCQ := HCQ.out (by omega)
                rw [hk] at HCQ
                have HCQ := Lib.hid HCQ
                have HW := Lib.hid (show IntKind.i64.wrap ((i : Int) - 1) = (k : Int) from by rw [IntWalk.i64_in _ (by omega)]; omega)
                have hk0 : (0 : Int) ≤ k := by omega
                have hk1 : (k : Int) < n := by omega
                by_cases hkk : q.key < p.key
                · have HSTEP := Lib.hid (show (true && lokB ps (i + 1)) = true from by rw [hst]; simp [hkk])
                  have hkk' : decide ((q.key : Int) < (p.key : Int)) = true := by rw [decide_eq_true_eq]; omega
                  clear hst hk h0
                  go_wp2_with fail
                  generalize wr.alloc (.cells #[.int .u64 p.key, .int .i64 p.off, .int .i64 p.len, .int .u32 p.ck, .bool p.gone] 60) = W1 at *
                  refine wp_region_held_drew (S := fun W => Below W1.heap.size W1 W) (by kernel_rfl) ((Below.refl _ _).drew) (fun hS => ?_)
                  refine wpAnyH_take (i := 0) (v := ?_) rfl (by kernel_rfl) (by kernel_rfl) (by kernel_rfl) (fun _ _ _ h => h) (Or.inl ⟨by kernel_rfl, ?_⟩) hS ?_
                  rotate_left
                  · intro W hW; go_simp; try with_reducible rfl
                  refine wpAnyH_take (i := 1) (v := ?_) rfl (by kernel_rfl) (by kernel_rfl) (by kernel_rfl) (fun _ _ _ h => h) (Or.inl ⟨by kernel_rfl, ?_⟩) hS ?_
                  rotate_left
                  · intro W hW; go_simp; try with_reducible rfl
                  refine wpAnyH_take (i := 2) (v := ?_) rfl (by kernel_rfl) (by kernel_rfl) (by kernel_rfl) (fun _ _ _ h => h) (Or.inl ⟨by kernel_rfl, ?_⟩) hS ?_
                  rotate_left
                  · intro W hW; obtain ⟨d0, d1, d2, d3, d4, d5⟩ := HCL.out W hW; have e0 := HCQ.out W hW; go_simp; try with_reducible rfl
                  refine wpAnyH_ready (rs := [3]) (by kernel_rfl) (by simp) ?_
                  refine AllReadyH.cons rfl (fun K hK => ?_) AllReadyH.nil
                  go_simp
                  refine (pos_any p _).mono ?_
                  rintro e W2 ⟨rfl, B2⟩
                  have hT := hS.trans (B2.mono hS.size)
                  rw [HRP.out]
                  go_simp
                  refine hK.out _ _ ?_ (fun hN => ?_)
                  · first | exact hT | exact hS | exact hS.alloc hS.size _ | exact hS.drew
                  clear hK K
                  try clear hT
                  clear hS
                  have hS := hN
                  clear hN
                  refine wpAnyH_take (i := 4) (v := ?_) rfl (by kernel_rfl) (by kernel_rfl) (by kernel_rfl) (fun _ _ _ h => h) (Or.inl ⟨by kernel_rfl, ?_⟩) hS ?_
                  rotate_left
                  · intro W hW; go_simp; try with_reducible rfl
                  refine wpAnyH_take (i := 5) (v := ?_) rfl (by kernel_rfl) (by kernel_rfl) (by kernel_rfl) (fun _ _ _ h => h) (Or.inl ⟨by kernel_rfl, ?_⟩) hS ?_
                  rotate_left
                  · intro W hW; go_simp; try with_reducible rfl
                  refine wpAnyH_take (i := 6) (v := ?_) rfl (by kernel_rfl) (by kernel_rfl) (by kernel_rfl) (fun _ _ _ h => h) (Or.inl ⟨by kernel_rfl, ?_⟩) hS ?_
                  rotate_left
                  · intro W hW; go_simp; try with_reducible rfl
                  refine wpAnyH_take (i := 7) (v := ?_) rfl (by kernel_rfl) (by kernel_rfl) (by kernel_rfl) (fun _ _ _ h => h) (Or.inl ⟨by kernel_rfl, ?_⟩) hS ?_
                  rotate_left
                  · intro W hW; go_simp; try with_reducible rfl
                  refine wpAnyH_take (i := 8) (v := ?_) rfl (by kernel_rfl) (by kernel_rfl) (by kernel_rfl) (fun _ _ _ h => h) (Or.inl ⟨by kernel_rfl, ?_⟩) hS ?_
                  rotate_left
                  · intro W hW; go_simp; try with_reducible rfl
                  refine wpAnyH_take (i := 9) (v := ?_) rfl (by kernel_rfl) (by kernel_rfl) (by kernel_rfl) (fun _ _ _ h => h) (Or.inl ⟨by kernel_rfl, ?_⟩) hS ?_
                  rotate_left
                  · intro W hW; go_simp; try with_reducible rfl
                  refine wpAnyH_take (i := 10) (v := ?_) rfl (by kernel_rfl) (by kernel_rfl) (by kernel_rfl) (fun _ _ _ h => h) (Or.inl ⟨by kernel_rfl, ?_⟩) hS ?_
                  rotate_left
                  · intro W hW; obtain ⟨d0, d1, d2, d3, d4, d5⟩ := HCL.out W hW; have e0 := HCQ.out W hW; go_simp; try with_reducible rfl
                  refine wpAnyH_take (i := 11) (v := ?_) rfl (by kernel_rfl) (by kernel_rfl) (by kernel_rfl) (fun _ _ _ h => h) (Or.inl ⟨by kernel_rfl, ?_⟩) hS ?_
                  rotate_left
                  · intro W hW; go_simp; try with_reducible rfl
                  refine wpAnyH_take (i := 12) (v := ?_) rfl (by kernel_rfl) (by kernel_rfl) (by kernel_rfl) (fun _ _ _ h => h) (Or.inl ⟨by kernel_rfl, ?_⟩) hS ?_
                  rotate_left
                  · intro W hW; go_simp; rw [HW.out]; try with_reducible rfl
                  refine wpAnyH_take (i := 13) (v := ?_) rfl (by kernel_rfl) (by kernel_rfl) (by kernel_rfl) (fun _ _ _ h => h) (Or.inl ⟨by kernel_rfl, ?_⟩) hS ?_
                  rotate_left
                  · intro W hW; go_simp; try with_reducible rfl
                  refine wpAnyH_take (i := 14) (v := ?_) rfl (by kernel_rfl) (by kernel_rfl) (by kernel_rfl) (fun _ _ _ h => h) (Or.inl ⟨by kernel_rfl, ?_⟩) hS ?_
                  rotate_left
                  · intro W hW; go_simp; try with_reducible rfl
                  refine wpAnyH_take (i := 15) (v := ?_) rfl (by kernel_rfl) (by kernel_rfl) (by kernel_rfl) (fun _ _ _ h => h) (Or.inl ⟨by kernel_rfl, ?_⟩) hS ?_
                  rotate_left
                  · intro W hW; obtain ⟨d0, d1, d2, d3, d4, d5⟩ := HCL.out W hW; have e0 := HCQ.out W hW; go_simp; try with_reducible rfl
                  refine wpAnyH_take (i := 16) (v := ?_) rfl (by kernel_rfl) (by kernel_rfl) (by kernel_rfl) (fun _ _ _ h => h) (Or.inl ⟨by kernel_rfl, ?_⟩) hS ?_
                  rotate_left
                  · intro W hW; go_simp; try with_reducible rfl
                  refine wpAnyH_take (i := 17) (v := ?_) rfl (by kernel_rfl) (by kernel_rfl) (by kernel_rfl) (fun _ _ _ h => h) (Or.inl ⟨by kernel_rfl, ?_⟩) hS ?_
                  rotate_left
                  · intro W hW; obtain ⟨d0, d1, d2, d3, d4, d5⟩ := HCL.out W hW; have e0 := HCQ.out W hW; go_simp; try with_reducible rfl
                  refine wpAnyH_take (i := 18) (v := ?_) rfl (by kernel_rfl) (by kernel_rfl) (by kernel_rfl) (fun _ _ _ h => h) (Or.inl ⟨by kernel_rfl, ?_⟩) hS ?_
                  rotate_left
                  · intro W hW; go_simp; try with_reducible rfl
                  refine wpAnyH_take (i := 19) (v := ?_) rfl (by kernel_rfl) (by kernel_rfl) (by kernel_rfl) (fun _ _ _ h => h) (Or.inl ⟨by kernel_rfl, ?_⟩) hS ?_
                  rotate_left
                  · intro W hW; go_simp; try with_reducible rfl
                  refine wpAnyH_take (i := 20) (v := ?_) rfl (by kernel_rfl) (by kernel_rfl) (by kernel_rfl) (fun _ _ _ h => h) (Or.inl ⟨by kernel_rfl, ?_⟩) hS ?_
                  rotate_left
                  · intro W hW; go_simp; try with_reducible rfl
                  refine wpAnyH_take (i := 21) (v := ?_) rfl (by kernel_rfl) (by kernel_rfl) (by kernel_rfl) (fun _ _ _ h => h) (Or.inl ⟨by kernel_rfl, ?_⟩) hS ?_
                  rotate_left
                  · intro W hW; go_simp; try with_reducible rfl
                  refine wpAnyH_done (by kernel_rfl) ?_ _
                  go_wp2_with fail
                  go_roundw
                  case rel => exact ⟨i + 1, by omega, by go_num, by rw [HSTEP.out], B1.trans (hS.mono B1.size)⟩
                  case measure => simp [intOf]; omega
                · have HSTEP := Lib.hid (show (true && lokB ps (i + 1)) = false from by rw [hst]; simp [hkk, h0])
                  have hkk' : decide ((q.key : Int) < (p.key : Int)) = false := by rw [decide_eq_false_iff_not]; omega
                  clear hst hk h0
                  go_wp2_with fail
                  generalize wr.alloc (.cells #[.int .u64 p.key, .int .i64 p.off, .int .i64 p.len, .int .u32 p.ck, .bool p.gone] 60) = W1 at *
                  refine wp_region_held_drew (S := fun W => Below W1.heap.size W1 W) (by kernel_rfl) ((Below.refl _ _).drew) (fun hS => ?_)
                  refine wpAnyH_take (i := 0) (v := ?_) rfl (by kernel_rfl) (by kernel_rfl) (by kernel_rfl) (fun _ _ _ h => h) (Or.inl ⟨by kernel_rfl, ?_⟩) hS ?_
                  rotate_left
                  · intro W hW; go_simp; try with_reducible rfl
                  refine wpAnyH_take (i := 1) (v := ?_) rfl (by kernel_rfl) (by kernel_rfl) (by kernel_rfl) (fun _ _ _ h => h) (Or.inl ⟨by kernel_rfl, ?_⟩) hS ?_
                  rotate_left
                  · intro W hW; go_simp; try with_reducible rfl
                  refine wpAnyH_take (i := 2) (v := ?_) rfl (by kernel_rfl) (by kernel_rfl) (by kernel_rfl) (fun _ _ _ h => h) (Or.inl ⟨by kernel_rfl, ?_⟩) hS ?_
                  rotate_left
                  · intro W hW; obtain ⟨d0, d1, d2, d3, d4, d5⟩ := HCL.out W hW; have e0 := HCQ.out W hW; go_simp; try with_reducible rfl
                  refine wpAnyH_ready (rs := [3]) (by kernel_rfl) (by simp) ?_
                  refine AllReadyH.cons rfl (fun K hK => ?_) AllReadyH.nil
                  go_simp
                  refine (pos_any p _).mono ?_
                  rintro e W2 ⟨rfl, B2⟩
                  have hT := hS.trans (B2.mono hS.size)
                  rw [HRP.out]
                  go_simp
                  refine hK.out _ _ ?_ (fun hN => ?_)
                  · first | exact hT | exact hS | exact hS.alloc hS.size _ | exact hS.drew
                  clear hK K
                  try clear hT
                  clear hS
                  have hS := hN
                  clear hN
                  refine wpAnyH_take (i := 4) (v := ?_) rfl (by kernel_rfl) (by kernel_rfl) (by kernel_rfl) (fun _ _ _ h => h) (Or.inl ⟨by kernel_rfl, ?_⟩) hS ?_
                  rotate_left
                  · intro W hW; go_simp; try with_reducible rfl
                  refine wpAnyH_take (i := 5) (v := ?_) rfl (by kernel_rfl) (by kernel_rfl) (by kernel_rfl) (fun _ _ _ h => h) (Or.inl ⟨by kernel_rfl, ?_⟩) hS ?_
                  rotate_left
                  · intro W hW; go_simp; try with_reducible rfl
                  refine wpAnyH_take (i := 6) (v := ?_) rfl (by kernel_rfl) (by kernel_rfl) (by kernel_rfl) (fun _ _ _ h => h) (Or.inl ⟨by kernel_rfl, ?_⟩) hS ?_
                  rotate_left
                  · intro W hW; go_simp; try with_reducible rfl
                  refine wpAnyH_take (i := 7) (v := ?_) rfl (by kernel_rfl) (by kernel_rfl) (by kernel_rfl) (fun _ _ _ h => h) (Or.inl ⟨by kernel_rfl, ?_⟩) hS ?_
                  rotate_left
                  · intro W hW; go_simp; try with_reducible rfl
                  refine wpAnyH_take (i := 8) (v := ?_) rfl (by kernel_rfl) (by kernel_rfl) (by kernel_rfl) (fun _ _ _ h => h) (Or.inl ⟨by kernel_rfl, ?_⟩) hS ?_
                  rotate_left
                  · intro W hW; go_simp; try with_reducible rfl
                  refine wpAnyH_take (i := 9) (v := ?_) rfl (by kernel_rfl) (by kernel_rfl) (by kernel_rfl) (fun _ _ _ h => h) (Or.inl ⟨by kernel_rfl, ?_⟩) hS ?_
                  rotate_left
                  · intro W hW; go_simp; try with_reducible rfl
                  refine wpAnyH_take (i := 10) (v := ?_) rfl (by kernel_rfl) (by kernel_rfl) (by kernel_rfl) (fun _ _ _ h => h) (Or.inl ⟨by kernel_rfl, ?_⟩) hS ?_
                  rotate_left
                  · intro W hW; obtain ⟨d0, d1, d2, d3, d4, d5⟩ := HCL.out W hW; have e0 := HCQ.out W hW; go_simp; try with_reducible rfl
                  refine wpAnyH_take (i := 11) (v := ?_) rfl (by kernel_rfl) (by kernel_rfl) (by kernel_rfl) (fun _ _ _ h => h) (Or.inl ⟨by kernel_rfl, ?_⟩) hS ?_
                  rotate_left
                  · intro W hW; go_simp; try with_reducible rfl
                  refine wpAnyH_take (i := 12) (v := ?_) rfl (by kernel_rfl) (by kernel_rfl) (by kernel_rfl) (fun _ _ _ h => h) (Or.inl ⟨by kernel_rfl, ?_⟩) hS ?_
                  rotate_left
                  · intro W hW; go_simp; rw [HW.out]; try with_reducible rfl
                  refine wpAnyH_take (i := 13) (v := ?_) rfl (by kernel_rfl) (by kernel_rfl) (by kernel_rfl) (fun _ _ _ h => h) (Or.inl ⟨by kernel_rfl, ?_⟩) hS ?_
                  rotate_left
                  · intro W hW; go_simp; try with_reducible rfl
                  refine wpAnyH_take (i := 14) (v := ?_) rfl (by kernel_rfl) (by kernel_rfl) (by kernel_rfl) (fun _ _ _ h => h) (Or.inl ⟨by kernel_rfl, ?_⟩) hS ?_
                  rotate_left
                  · intro W hW; go_simp; try with_reducible rfl
                  refine wpAnyH_take (i := 15) (v := ?_) rfl (by kernel_rfl) (by kernel_rfl) (by kernel_rfl) (fun _ _ _ h => h) (Or.inl ⟨by kernel_rfl, ?_⟩) hS ?_
                  rotate_left
                  · intro W hW; obtain ⟨d0, d1, d2, d3, d4, d5⟩ := HCL.out W hW; have e0 := HCQ.out W hW; go_simp; try with_reducible rfl
                  refine wpAnyH_take (i := 16) (v := ?_) rfl (by kernel_rfl) (by kernel_rfl) (by kernel_rfl) (fun _ _ _ h => h) (Or.inl ⟨by kernel_rfl, ?_⟩) hS ?_
                  rotate_left
                  · intro W hW; go_simp; try with_reducible rfl
                  refine wpAnyH_take (i := 17) (v := ?_) rfl (by kernel_rfl) (by kernel_rfl) (by kernel_rfl) (fun _ _ _ h => h) (Or.inl ⟨by kernel_rfl, ?_⟩) hS ?_
                  rotate_left
                  · intro W hW; obtain ⟨d0, d1, d2, d3, d4, d5⟩ := HCL.out W hW; have e0 := HCQ.out W hW; go_simp; try with_reducible rfl
                  refine wpAnyH_take (i := 18) (v := ?_) rfl (by kernel_rfl) (by kernel_rfl) (by kernel_rfl) (fun _ _ _ h => h) (Or.inl ⟨by kernel_rfl, ?_⟩) hS ?_
                  rotate_left
                  · intro W hW; go_simp; try with_reducible rfl
                  refine wpAnyH_take (i := 19) (v := ?_) rfl (by kernel_rfl) (by kernel_rfl) (by kernel_rfl) (fun _ _ _ h => h) (Or.inl ⟨by kernel_rfl, ?_⟩) hS ?_
                  rotate_left
                  · intro W hW; go_simp; try with_reducible rfl
                  refine wpAnyH_take (i := 20) (v := ?_) rfl (by kernel_rfl) (by kernel_rfl) (by kernel_rfl) (fun _ _ _ h => h) (Or.inl ⟨by kernel_rfl, ?_⟩) hS ?_
                  rotate_left
                  · intro W hW; go_simp; try with_reducible rfl
                  refine wpAnyH_take (i := 21) (v := ?_) rfl (by kernel_rfl) (by kernel_rfl) (by kernel_rfl) (fun _ _ _ h => h) (Or.inl ⟨by kernel_rfl, ?_⟩) hS ?_
                  rotate_left
                  · intro W hW; go_simp; try with_reducible rfl
                  refine wpAnyH_done (by kernel_rfl) ?_ _
                  go_wp2_with fail
                  go_roundw
                  case rel => exact ⟨i + 1, by omega, by go_num, by rw [HSTEP.out], B1.trans (hS.mono B1.size)⟩
                  case measure => simp [intOf]; omega
      · obtain rfl : i = n := by omega
        cases hr : (hb && lokB ps i) with
        | false =>
          have HE := Lib.hid (show ckR v g u ps = 1 from by rw [HR.out, hr]; rfl)
          clear hr
          go_wp2_with fail
          go_ret
          exact ⟨by rw [HE.out]; rfl, BW.out _ B⟩
        | true =>
          have HE := Lib.hid (show ckR v g u ps = 0 from by rw [HR.out, hr]; rfl)
          clear hr
          go_wp2_with fail
          go_ret
          exact ⟨by rw [HE.out]; rfl, BW.out _ B⟩

end Go.Proofs.Ytkmifimdjdjdpaa
