/-
  The document's Put (layer 8).
-/
import Derived.Test.YtmmmakfmpopniaaIdxRef
namespace Go.Proofs.Ytmmmakfmpopniaa
open Go.RowKit
set_option linter.unusedVariables false

theorem take_one {L : List PosR} {i : Nat} (h : i < L.length) : L.take (i + 1) = L.take i ++ [L.getD i dP] := by
  rw [List.take_succ_eq_append_getElem h]; simp [List.getD, h]
theorem psl_at {w : World} {B n b off i : Nat} {L : List PosR} (h : PSl w B (some ⟨b, off, none⟩) n L) (hi : i < n) :
    w.cell? ⟨b, off + i * 5, none⟩ = some (.int .u64 (L.getD i dP).key) ∧ w.cell? ⟨b, off + i * 5 + 1, none⟩ = some (.int .i64 (L.getD i dP).off) ∧ w.cell? ⟨b, off + i * 5 + 2, none⟩ = some (.int .i64 (L.getD i dP).len) ∧ w.cell? ⟨b, off + i * 5 + 3, none⟩ = some (.int .u32 (L.getD i dP).ck) ∧ w.cell? ⟨b, off + i * 5 + 4, none⟩ = some (.bool (L.getD i dP).gone) := by
  obtain ⟨b', off', e, -, hc⟩ := h.2.2 (by omega)
  cases e
  exact psl_cells (B := 0) h.1 hc i hi rfl
theorem rst_len (k r i : Nat) (L : List PosR) : (rst k r i L).length ≤ L.length := by
  unfold rst
  refine Nat.le_trans (List.length_filter_le _ _) ?_
  rw [List.length_take, List.length_drop]; omega
/-- append of one of the document's positions. -/
theorem append_r {W : World} {base k : Nat} {v : Value} {xs : List Value} (hown : W.ownsRow base 40 5 v k xs) (q : PosR) (hk : k ≤ 1000000) (hbase : base ≤ W.heap.size) :
    ∃ g cap W2, (Builtin.append_ #[22, 22] 22 #[v, .slice (some ⟨W.heap.size, 0, none⟩) 1 1]).run Try.prog (W.alloc (.cells #[.int .u64 q.key, .int .i64 q.off, .int .i64 q.len, .int .u32 q.ck, .bool q.gone] 40)) = .ok (.slice (some ⟨g, 0, none⟩) (k + 1) cap) W2 ∧
      W2.ownsRow base 40 5 (.slice (some ⟨g, 0, none⟩) (k + 1) cap) (k + 1) (xs ++ q.cells) ∧ W.grownBy W2 v.ownBlock := by
  obtain ⟨i0, hi, hz0, hz1, hz2⟩ := info_parts info_rpos
  obtain ⟨g2, cap2, W2, hr, ho2, hg2, -, -⟩ := append_elem (P := Try.prog) Try.underlying22 hi hz0 hz1 hz2 rfl (by decide) hown q.cells q.cells_length q.cells_one (by omega) (by unfold maxLen; omega) hbase
  exact ⟨g2, cap2, W2, hr, ho2, hg2⟩
/-- A row of one's own that stands for a list. -/
def RwP (W0 : World) (base : Nat) (v : Value) (M : List PosR) (W : World) : Prop := W.ownsRow base 40 5 v M.length (flatP M) ∧ Below base W0 W
theorem RwP.more {W0 W : World} {base : Nat} {v : Value} {M : List PosR} (h : RwP W0 base v M W) (q : PosR) (hk : M.length ≤ 1000000) (hbase : base ≤ W.heap.size) :
    ∃ g cap W2, (Builtin.append_ #[22, 22] 22 #[v, .slice (some ⟨W.heap.size, 0, none⟩) 1 1]).run Try.prog (W.alloc (.cells #[.int .u64 q.key, .int .i64 q.off, .int .i64 q.len, .int .u32 q.ck, .bool q.gone] 40)) = .ok (.slice (some ⟨g, 0, none⟩) (M.length + 1) cap) W2 ∧ RwP W0 base (.slice (some ⟨g, 0, none⟩) (M.length + 1) cap) (M ++ [q]) W2 := by
  obtain ⟨g, cap, W2, hr, ho, hg⟩ := append_r h.1 q hk hbase
  refine ⟨g, cap, W2, hr, ?_, h.2.grown hg hbase (fun k e => (h.1.lt k e).1)⟩
  rw [List.length_append, flatP_snoc]
  exact ho
theorem RwP.on {W0 W W' : World} {base : Nat} {v : Value} {M : List PosR} (h : RwP W0 base v M W) (hb : Below W.heap.size W W') (hbase : base ≤ W.heap.size) : RwP W0 base v M W' :=
  ⟨own_belowI h.1 hb (Nat.le_refl _), h.2.trans (hb.mono hbase)⟩

set_option maxRecDepth 100000 in
set_option maxHeartbeats 4000000 in
theorem rput8_any (a : Option Addr) (n c : Nat) (L : List PosR) (p : PosR) (w : World) (h : PSl w w.heap.size a n L) (hs : Srt PosR.key L) (hn : n ≤ 4095) :
    Calls Try.prog 14 #[.slice a n c, .agg #[.int .u64 p.key, .int .i64 p.off, .int .i64 p.len, .int .u32 p.ck, .bool p.gone]] w fun e w' => ∃ v, e = .returned (.tuple #[v, .bool true]) ∧ w'.ownsRow w.heap.size 40 5 v (insK PosR.key p L).length (flatP (insK PosR.key p L)) ∧ Below w.heap.size w w' := by
  obtain ⟨w1, hw1, hM1, hB1⟩ : ∃ X, w.alloc (.cells #[.int .u64 p.key, .int .i64 p.off, .int .i64 p.len, .int .u32 p.ck, .bool p.gone] 40) = X ∧ Blk X w.heap.size 40 #[.int .u64 p.key, .int .i64 p.off, .int .i64 p.len, .int .u32 p.ck, .bool p.gone] ∧ Below w.heap.size w X := ⟨_, rfl, Blk.made _ _ _, (Below.refl _ _).alloc (Nat.le_refl _) _⟩
  have HB1 := Lib.hid hB1
  have HM := Lib.hid fun (W : World) (B0 : Below w1.heap.size w1 W) => blk_fives (hM1.below B0 hM1.lt)
  have HH := Lib.hid fun (W : World) (B0 : Below w1.heap.size w1 W) => (show PSl W W.heap.size a n L from (h.below (hB1.trans (B0.mono hB1.size))).more (hB1.trans (B0.mono hB1.size)).size)
  have EF := Lib.hid (rfind8_any a n c L p.key w1 (HH.out w1 (Below.refl _ _)) hs (by omega))
  have HS := Lib.hid hs
  have HL := Lib.hid h.1
  have HK := Lib.hid (insK_rst (p := p) hs)
  obtain ⟨r, hr⟩ : ∃ r, lo PosR.key p.key L = r := ⟨_, rfl⟩
  have hrl : r ≤ n := by have := lo_le (key := PosR.key) p.key L; rw [hr, h.1] at this; exact this
  have HR := Lib.hid hr
  rw [hr] at HK
  obtain ⟨c0, -, -, -, -⟩ := blk_fives hM1
  clear h hs hr hM1 hB1
  obtain ⟨f, hf⟩ : ∃ f, fndI p.key L = f := ⟨_, rfl⟩
  rw [hf] at EF
  clear hf
  have hnz : ¬ (4096 ≤ (n : Int)) := by omega
  have hnz2 : decide (4096 ≤ (n : Int)) = false := decide_eq_false hnz
  go_enter Try.func14, Try.ntmps14
  go_upto_region 2 with fail
  try rw [hw1]
  clear hw1
  go_cut [17] (fun v wx => v = .bool false ∧ w1 = wx)
  case first =>
    go_wp2_with fail
    refine EF.out.mono ?_
    rintro e w2 ⟨rfl, rfl⟩
    by_cases hf0 : f < 0
    · have hfb : decide (f < 0) = true := decide_eq_true hf0
      go_wp2_with fail
      go_meet
      exact ⟨rfl, rfl⟩
    · have hfb : decide (f < 0) = false := decide_eq_false hf0
      go_wp2_with fail
      go_meet
      exact ⟨rfl, rfl⟩
  case rest =>
    obtain ⟨rfl, rfl⟩ := hcut
    clear EF hnz hnz2 c0
    have HW0 := Lib.hid (show RwP w1 w1.heap.size (.slice none 0 0) (L.take 0) w1 from ⟨World.ownsRow_nil _ _ _ _, Below.refl _ _⟩)
    go_wp2_with fail
    go_loopw [6, 7] (fun v iv wr => ∃ i : Nat, i ≤ r ∧ iv = .int .i64 i ∧ RwP w1 w1.heap.size v (L.take i) wr) (fun _ iv _ => n - (intOf iv).toNat)
    case atStart => exact ⟨0, by omega, rfl, HW0.out⟩
    case round =>
      obtain ⟨i, hi, rfl, hW⟩ := hrel
      have HW := Lib.hid hW
      clear hW HW0
      by_cases hir : i < r
      · have hin : i < n := by omega
        have hiz : (i : Int) < (n : Int) := by omega
        have hlk : (L.getD i dP).key < p.key := by
          have e : L.getD i dP = L[i]'(by rw [HL.out]; exact hin) := by simp [List.getD, HL.out, hin]
          rw [e]; exact lo_lt (key := PosR.key) p.key L i (by rw [HL.out]; exact hin) (by rw [HR.out]; exact hir)
        obtain ⟨b, off, ha, -, -⟩ := (HH.out _ HW.out.2).2.2 (by omega)
        subst ha
        have HC := Lib.hid fun (W : World) (B0 : Below w1.heap.size w1 W) => psl_at (HH.out W B0) hin
        have HT := Lib.hid (take_one (L := L) (i := i) (by rw [HL.out]; exact hin))
        generalize L.getD i dP = q at *
        have hb1 : decide ((q.key : Int) < (p.key : Int)) = true := decide_eq_true (by omega)
        have hb2 : decide (q.key < p.key) = true := decide_eq_true hlk
        have hbi : decide ((i : Int) < (n : Int)) = true := decide_eq_true hiz
        have hbj : decide (i < n) = true := decide_eq_true hin
        go_upto_region 5 with fail
        refine wp_region_held_drew (S := fun W => Below wr.heap.size wr W) (by kernel_rfl) ((Below.refl _ _).drew) (fun hS => ?_)
        refine wpAnyH_take (i := 0) (v := ?_) rfl (by kernel_rfl) (by kernel_rfl) (by kernel_rfl) (fun _ _ _ h => h) (Or.inl ⟨by kernel_rfl, ?_⟩) hS ?_
        rotate_left
        · intro W hW; go_simp; try with_reducible rfl
        refine wpAnyH_take (i := 1) (v := ?_) rfl (by kernel_rfl) (by kernel_rfl) (by kernel_rfl) (fun _ _ _ h => h) (Or.inl ⟨by kernel_rfl, ?_⟩) hS ?_
        rotate_left
        · intro W hW; go_simp; try with_reducible rfl
        refine wpAnyH_take (i := 2) (v := ?_) rfl (by kernel_rfl) (by kernel_rfl) (by kernel_rfl) (fun _ _ _ h => h) (Or.inl ⟨by kernel_rfl, ?_⟩) hS ?_
        rotate_left
        · intro W hW; go_simp; try with_reducible rfl
        refine wpAnyH_take (i := 3) (v := ?_) rfl (by kernel_rfl) (by kernel_rfl) (by kernel_rfl) (fun _ _ _ h => h) (Or.inl ⟨by kernel_rfl, ?_⟩) hS ?_
        rotate_left
        · intro W hW; go_simp; try with_reducible rfl
        refine wpAnyH_take (i := 4) (v := ?_) rfl (by kernel_rfl) (by kernel_rfl) (by kernel_rfl) (fun _ _ _ h => h) (Or.inl ⟨by kernel_rfl, ?_⟩) hS ?_
        rotate_left
        · intro W hW; go_simp; try with_reducible rfl
        refine wpAnyH_take (i := 5) (v := ?_) rfl (by kernel_rfl) (by kernel_rfl) (by kernel_rfl) (fun _ _ _ h => h) (Or.inl ⟨by kernel_rfl, ?_⟩) hS ?_
        rotate_left
        · intro W hW; go_simp; try with_reducible rfl
        refine wpAnyH_take (i := 6) (v := ?_) rfl (by kernel_rfl) (by kernel_rfl) (by kernel_rfl) (fun _ _ _ h => h) (Or.inl ⟨by kernel_rfl, ?_⟩) hS ?_
        rotate_left
        · intro W hW; go_simp; try with_reducible rfl
        refine wpAnyH_take (i := 7) (v := ?_) rfl (by kernel_rfl) (by kernel_rfl) (by kernel_rfl) (fun _ _ _ h => h) (Or.inl ⟨by kernel_rfl, ?_⟩) hS ?_
        rotate_left
        · intro W hW; go_simp; try with_reducible rfl
        refine wpAnyH_take (i := 8) (v := ?_) rfl (by kernel_rfl) (by kernel_rfl) (by kernel_rfl) (fun _ _ _ h => h) (Or.inl ⟨by kernel_rfl, ?_⟩) hS ?_
        rotate_left
        · intro W hW; go_simp; try with_reducible rfl
        refine wpAnyH_take (i := 9) (v := ?_) rfl (by kernel_rfl) (by kernel_rfl) (by kernel_rfl) (fun _ _ _ h => h) (Or.inl ⟨by kernel_rfl, ?_⟩) hS ?_
        rotate_left
        · intro W hW; obtain ⟨p0, -, -, -, -⟩ := HM.out W (HW.out.2.trans (hW.mono HW.out.2.size)); obtain ⟨q0, -, -, -, -⟩ := HC.out W (HW.out.2.trans (hW.mono HW.out.2.size)); go_simp; try with_reducible rfl
        refine wpAnyH_take (i := 10) (v := ?_) rfl (by kernel_rfl) (by kernel_rfl) (by kernel_rfl) (fun _ _ _ h => h) (Or.inl ⟨by kernel_rfl, ?_⟩) hS ?_
        rotate_left
        · intro W hW; go_simp; try with_reducible rfl
        refine wpAnyH_take (i := 11) (v := ?_) rfl (by kernel_rfl) (by kernel_rfl) (by kernel_rfl) (fun _ _ _ h => h) (Or.inl ⟨by kernel_rfl, ?_⟩) hS ?_
        rotate_left
        · intro W hW; obtain ⟨p0, -, -, -, -⟩ := HM.out W (HW.out.2.trans (hW.mono HW.out.2.size)); obtain ⟨q0, -, -, -, -⟩ := HC.out W (HW.out.2.trans (hW.mono HW.out.2.size)); go_simp; try with_reducible rfl
        refine wpAnyH_take (i := 12) (v := ?_) rfl (by kernel_rfl) (by kernel_rfl) (by kernel_rfl) (fun _ _ _ h => h) (Or.inl ⟨by kernel_rfl, ?_⟩) hS ?_
        rotate_left
        · intro W hW; go_simp; try with_reducible rfl
        refine wpAnyH_take (i := 13) (v := ?_) rfl (by kernel_rfl) (by kernel_rfl) (by kernel_rfl) (fun _ _ _ h => h) (Or.inl ⟨by kernel_rfl, ?_⟩) hS ?_
        rotate_left
        · intro W hW; go_simp; try with_reducible rfl
        refine wpAnyH_done (by kernel_rfl) ?_ _
        go_simp
        have HW2 := Lib.hid (HW.out.on hS HW.out.2.size)
        clear hS HW
        generalize wr.drew = w3 at *
        obtain ⟨v6, c6, rfl, -⟩ := own_form_any HW2.out.1
        obtain ⟨g2, cap2, w4, hr, hW4⟩ := HW2.out.more q (by rw [List.length_take]; omega) HW2.out.2.size
        have hlt : (L.take i).length = i := by rw [List.length_take, HL.out]; omega
        rw [hlt] at hr hW4
        rw [← HT.out] at hW4
        have HW4 := Lib.hid hW4
        obtain ⟨q0, q1, q2, q3, q4⟩ := HC.out _ HW2.out.2
        rw [hlt]
        clear hW4 HW2 hlt
        go_upto_region 6 with fail
        go_wp2_with (at_builtin; refine list_run (by rfl) _ _ rfl rfl rfl hr ?_; clear hr)
        go_roundw
        case rel => exact ⟨i + 1, by omega, by go_num, HW4.out⟩
        case measure => simp [intOf]; omega
      · obtain rfl : i = r := by omega
        clear hir
        go_upto_region 5 with fail
        go_cut [32] (fun v wx => v = .bool false ∧ Below wr.heap.size wr wx)
        case first =>
          by_cases hin : i < n
          · have hiz : (i : Int) < (n : Int) := by omega
            have hlk : p.key ≤ (L.getD i dP).key := by
              have e : L.getD i dP = L[i]'(by rw [HL.out]; exact hin) := by simp [List.getD, HL.out, hin]
              rw [e]; exact lo_ge p.key L HS.out i (by rw [HL.out]; exact hin) (by rw [HR.out]; exact Nat.le_refl _)
            obtain ⟨b, off, ha, -, -⟩ := (HH.out _ HW.out.2).2.2 (by omega)
            subst ha
            have HC := Lib.hid fun (W : World) (B0 : Below w1.heap.size w1 W) => psl_at (HH.out W B0) hin
            generalize L.getD i dP = q at *
            have hb1 : decide ((q.key : Int) < (p.key : Int)) = false := decide_eq_false (by omega)
            have hb2 : decide (q.key < p.key) = false := decide_eq_false (by omega)
            have hbn : ¬ (q.key < p.key) := by omega
            have hbi : decide ((i : Int) < (n : Int)) = true := decide_eq_true hiz
            have hbj : decide (i < n) = true := decide_eq_true hin
            refine wp_region_held_drew (S := fun W => Below wr.heap.size wr W) (by kernel_rfl) ((Below.refl _ _).drew) (fun hS => ?_)
            refine wpAnyH_take (i := 0) (v := ?_) rfl (by kernel_rfl) (by kernel_rfl) (by kernel_rfl) (fun _ _ _ h => h) (Or.inl ⟨by kernel_rfl, ?_⟩) hS ?_
            rotate_left
            · intro W hW; go_simp; try with_reducible rfl
            refine wpAnyH_take (i := 1) (v := ?_) rfl (by kernel_rfl) (by kernel_rfl) (by kernel_rfl) (fun _ _ _ h => h) (Or.inl ⟨by kernel_rfl, ?_⟩) hS ?_
            rotate_left
            · intro W hW; go_simp; try with_reducible rfl
            refine wpAnyH_take (i := 2) (v := ?_) rfl (by kernel_rfl) (by kernel_rfl) (by kernel_rfl) (fun _ _ _ h => h) (Or.inl ⟨by kernel_rfl, ?_⟩) hS ?_
            rotate_left
            · intro W hW; go_simp; try with_reducible rfl
            refine wpAnyH_take (i := 3) (v := ?_) rfl (by kernel_rfl) (by kernel_rfl) (by kernel_rfl) (fun _ _ _ h => h) (Or.inl ⟨by kernel_rfl, ?_⟩) hS ?_
            rotate_left
            · intro W hW; go_simp; try with_reducible rfl
            refine wpAnyH_take (i := 4) (v := ?_) rfl (by kernel_rfl) (by kernel_rfl) (by kernel_rfl) (fun _ _ _ h => h) (Or.inl ⟨by kernel_rfl, ?_⟩) hS ?_
            rotate_left
            · intro W hW; go_simp; try with_reducible rfl
            refine wpAnyH_take (i := 5) (v := ?_) rfl (by kernel_rfl) (by kernel_rfl) (by kernel_rfl) (fun _ _ _ h => h) (Or.inl ⟨by kernel_rfl, ?_⟩) hS ?_
            rotate_left
            · intro W hW; go_simp; try with_reducible rfl
            refine wpAnyH_take (i := 6) (v := ?_) rfl (by kernel_rfl) (by kernel_rfl) (by kernel_rfl) (fun _ _ _ h => h) (Or.inl ⟨by kernel_rfl, ?_⟩) hS ?_
            rotate_left
            · intro W hW; go_simp; try with_reducible rfl
            refine wpAnyH_take (i := 7) (v := ?_) rfl (by kernel_rfl) (by kernel_rfl) (by kernel_rfl) (fun _ _ _ h => h) (Or.inl ⟨by kernel_rfl, ?_⟩) hS ?_
            rotate_left
            · intro W hW; go_simp; try with_reducible rfl
            refine wpAnyH_take (i := 8) (v := ?_) rfl (by kernel_rfl) (by kernel_rfl) (by kernel_rfl) (fun _ _ _ h => h) (Or.inl ⟨by kernel_rfl, ?_⟩) hS ?_
            rotate_left
            · intro W hW; go_simp; try with_reducible rfl
            refine wpAnyH_take (i := 9) (v := ?_) rfl (by kernel_rfl) (by kernel_rfl) (by kernel_rfl) (fun _ _ _ h => h) (Or.inl ⟨by kernel_rfl, ?_⟩) hS ?_
            rotate_left
            · intro W hW; obtain ⟨p0, -, -, -, -⟩ := HM.out W (HW.out.2.trans (hW.mono HW.out.2.size)); obtain ⟨q0, -, -, -, -⟩ := HC.out W (HW.out.2.trans (hW.mono HW.out.2.size)); go_simp; try with_reducible rfl
            refine wpAnyH_take (i := 10) (v := ?_) rfl (by kernel_rfl) (by kernel_rfl) (by kernel_rfl) (fun _ _ _ h => h) (Or.inl ⟨by kernel_rfl, ?_⟩) hS ?_
            rotate_left
            · intro W hW; go_simp; try with_reducible rfl
            refine wpAnyH_take (i := 11) (v := ?_) rfl (by kernel_rfl) (by kernel_rfl) (by kernel_rfl) (fun _ _ _ h => h) (Or.inl ⟨by kernel_rfl, ?_⟩) hS ?_
            rotate_left
            · intro W hW; obtain ⟨p0, -, -, -, -⟩ := HM.out W (HW.out.2.trans (hW.mono HW.out.2.size)); obtain ⟨q0, -, -, -, -⟩ := HC.out W (HW.out.2.trans (hW.mono HW.out.2.size)); go_simp; try with_reducible rfl
            refine wpAnyH_take (i := 12) (v := ?_) rfl (by kernel_rfl) (by kernel_rfl) (by kernel_rfl) (fun _ _ _ h => h) (Or.inl ⟨by kernel_rfl, ?_⟩) hS ?_
            rotate_left
            · intro W hW; go_simp; try with_reducible rfl
            refine wpAnyH_take (i := 13) (v := ?_) rfl (by kernel_rfl) (by kernel_rfl) (by kernel_rfl) (fun _ _ _ h => h) (Or.inl ⟨by kernel_rfl, ?_⟩) hS ?_
            rotate_left
            · intro W hW; go_simp; try with_reducible rfl
            refine wpAnyH_done (by kernel_rfl) ?_ _
            go_simp
            have HF := Lib.hid hS
            clear hS
            go_wp2_with fail
            go_meet
            exact ⟨rfl, HF.out⟩
          · obtain rfl : i = n := by omega
            have hiz : ¬ ((i : Int) < (i : Int)) := by omega
            have hbi : decide ((i : Int) < (i : Int)) = false := decide_eq_false hiz
            have hbj : decide (i < i) = false := decide_eq_false (by omega)
            refine wp_region_held_drew (S := fun W => Below wr.heap.size wr W) (by kernel_rfl) ((Below.refl _ _).drew) (fun hS => ?_)
            refine wpAnyH_take (i := 0) (v := ?_) rfl (by kernel_rfl) (by kernel_rfl) (by kernel_rfl) (fun _ _ _ h => h) (Or.inl ⟨by kernel_rfl, ?_⟩) hS ?_
            rotate_left
            · intro W hW; go_simp; try with_reducible rfl
            refine wpAnyH_take (i := 1) (v := ?_) rfl (by kernel_rfl) (by kernel_rfl) (by kernel_rfl) (fun _ _ _ h => h) (Or.inl ⟨by kernel_rfl, ?_⟩) hS ?_
            rotate_left
            · intro W hW; go_simp; try with_reducible rfl
            refine wpAnyH_take (i := 2) (v := ?_) rfl (by kernel_rfl) (by kernel_rfl) (by kernel_rfl) (fun _ _ _ h => h) (Or.inl ⟨by kernel_rfl, ?_⟩) hS ?_
            rotate_left
            · intro W hW; go_simp; try with_reducible rfl
            refine wpAnyH_take (i := 3) (v := ?_) rfl (by kernel_rfl) (by kernel_rfl) (by kernel_rfl) (fun _ _ _ h => h) (Or.inl ⟨by kernel_rfl, ?_⟩) hS ?_
            rotate_left
            · intro W hW; go_simp; try with_reducible rfl
            refine wpAnyH_take (i := 4) (v := ?_) rfl (by kernel_rfl) (by kernel_rfl) (by kernel_rfl) (fun _ _ _ h => h) (Or.inl ⟨by kernel_rfl, ?_⟩) hS ?_
            rotate_left
            · intro W hW; go_simp; try with_reducible rfl
            refine wpAnyH_take (i := 5) (v := undef) rfl (by kernel_rfl) (by kernel_rfl) (by kernel_rfl) (fun _ _ _ h => h) (Or.inr ⟨by kernel_rfl, rfl⟩) hS ?_
            refine wpAnyH_take (i := 6) (v := undef) rfl (by kernel_rfl) (by kernel_rfl) (by kernel_rfl) (fun _ _ _ h => h) (Or.inr ⟨by kernel_rfl, rfl⟩) hS ?_
            refine wpAnyH_take (i := 7) (v := undef) rfl (by kernel_rfl) (by kernel_rfl) (by kernel_rfl) (fun _ _ _ h => h) (Or.inr ⟨by kernel_rfl, rfl⟩) hS ?_
            refine wpAnyH_take (i := 8) (v := undef) rfl (by kernel_rfl) (by kernel_rfl) (by kernel_rfl) (fun _ _ _ h => h) (Or.inr ⟨by kernel_rfl, rfl⟩) hS ?_
            refine wpAnyH_take (i := 9) (v := undef) rfl (by kernel_rfl) (by kernel_rfl) (by kernel_rfl) (fun _ _ _ h => h) (Or.inr ⟨by kernel_rfl, rfl⟩) hS ?_
            refine wpAnyH_take (i := 10) (v := undef) rfl (by kernel_rfl) (by kernel_rfl) (by kernel_rfl) (fun _ _ _ h => h) (Or.inr ⟨by kernel_rfl, rfl⟩) hS ?_
            refine wpAnyH_take (i := 11) (v := undef) rfl (by kernel_rfl) (by kernel_rfl) (by kernel_rfl) (fun _ _ _ h => h) (Or.inr ⟨by kernel_rfl, rfl⟩) hS ?_
            refine wpAnyH_take (i := 12) (v := undef) rfl (by kernel_rfl) (by kernel_rfl) (by kernel_rfl) (fun _ _ _ h => h) (Or.inr ⟨by kernel_rfl, rfl⟩) hS ?_
            refine wpAnyH_take (i := 13) (v := ?_) rfl (by kernel_rfl) (by kernel_rfl) (by kernel_rfl) (fun _ _ _ h => h) (Or.inl ⟨by kernel_rfl, ?_⟩) hS ?_
            rotate_left
            · intro W hW; go_simp; try with_reducible rfl
            refine wpAnyH_done (by kernel_rfl) ?_ _
            go_simp
            have HF := Lib.hid hS
            clear hS
            go_wp2_with fail
            go_meet
            exact ⟨rfl, HF.out⟩
        case rest =>
          obtain ⟨rfl, hB⟩ := hcut
          have HW2 := Lib.hid (HW.out.on hB HW.out.2.size)
          clear hB HW
          obtain ⟨v6, c6, rfl, -⟩ := own_form_any HW2.out.1
          obtain ⟨g2, cap2, w4, hr, hW4⟩ := HW2.out.more p (by rw [List.length_take]; omega) HW2.out.2.size
          have hlt : (L.take i).length = i := by rw [List.length_take, HL.out]; omega
          rw [hlt] at hr
          rw [hlt] at hW4
          have HLT := Lib.hid hlt
          have HW4 := Lib.hid (show RwP w1 w1.heap.size (.slice (some ⟨g2, 0, none⟩) (i + 1) cap2) (L.take i ++ p :: rst p.key i i L) w4 from by
            have e : rst p.key i i L = [] := by unfold rst; rw [Nat.sub_self, List.take_zero]; rfl
            rw [e]; exact hW4)
          obtain ⟨p0, p1, p2, p3, p4⟩ := HM.out _ HW2.out.2
          rw [hlt]
          clear hW4 HW2 hlt
          go_wp2_with (at_builtin; refine list_run (by rfl) _ _ rfl rfl rfl hr ?_; clear hr)
          clear p0 p1 p2 p3 p4
          go_loopw [6, 7] (fun v iv wr => ∃ j : Nat, i ≤ j ∧ j ≤ n ∧ iv = .int .i64 j ∧ RwP w1 w1.heap.size v (L.take i ++ p :: rst p.key i j L) wr) (fun _ iv _ => n - (intOf iv).toNat)
          case atStart => exact ⟨i, by omega, hrl, rfl, HW4.out⟩
          case round =>
            obtain ⟨j, hj0, hj, rfl, hW⟩ := hrel
            have HW := Lib.hid hW
            clear hW HW4
            by_cases hin : j < n
            · have hiz : (j : Int) < (n : Int) := by omega
              obtain ⟨b, off, ha, -, -⟩ := (HH.out _ HW.out.2).2.2 (by omega)
              subst ha
              have HC := Lib.hid fun (W : World) (B0 : Below w1.heap.size w1 W) => psl_at (HH.out W B0) hin
              have HT := Lib.hid (rst_step (k := p.key) (r := i) (i := j) (L := L) (by rw [HL.out]; exact hin) hj0)
              have HLJ := Lib.hid (rst_len p.key i j L)
              generalize L.getD j dP = q at *
              go_upto_region 11 with fail
              refine wp_region_held_drew (S := fun W => Below wr.heap.size wr W) (by kernel_rfl) ((Below.refl _ _).drew) (fun hS => ?_)
              refine wpAnyH_take (i := 0) (v := ?_) rfl (by kernel_rfl) (by kernel_rfl) (by kernel_rfl) (fun _ _ _ h => h) (Or.inl ⟨by kernel_rfl, ?_⟩) hS ?_
              rotate_left
              · intro W hW; go_simp; try with_reducible rfl
              refine wpAnyH_take (i := 1) (v := ?_) rfl (by kernel_rfl) (by kernel_rfl) (by kernel_rfl) (fun _ _ _ h => h) (Or.inl ⟨by kernel_rfl, ?_⟩) hS ?_
              rotate_left
              · intro W hW; go_simp; try with_reducible rfl
              refine wpAnyH_take (i := 2) (v := ?_) rfl (by kernel_rfl) (by kernel_rfl) (by kernel_rfl) (fun _ _ _ h => h) (Or.inl ⟨by kernel_rfl, ?_⟩) hS ?_
              rotate_left
              · intro W hW; go_simp; try with_reducible rfl
              refine wpAnyH_take (i := 3) (v := ?_) rfl (by kernel_rfl) (by kernel_rfl) (by kernel_rfl) (fun _ _ _ h => h) (Or.inl ⟨by kernel_rfl, ?_⟩) hS ?_
              rotate_left
              · intro W hW; go_simp; try with_reducible rfl
              refine wpAnyH_take (i := 4) (v := ?_) rfl (by kernel_rfl) (by kernel_rfl) (by kernel_rfl) (fun _ _ _ h => h) (Or.inl ⟨by kernel_rfl, ?_⟩) hS ?_
              rotate_left
              · intro W hW; obtain ⟨p0, -, -, -, -⟩ := HM.out W (HW.out.2.trans (hW.mono HW.out.2.size)); obtain ⟨q0, -, -, -, -⟩ := HC.out W (HW.out.2.trans (hW.mono HW.out.2.size)); go_simp; try with_reducible rfl
              refine wpAnyH_take (i := 5) (v := ?_) rfl (by kernel_rfl) (by kernel_rfl) (by kernel_rfl) (fun _ _ _ h => h) (Or.inl ⟨by kernel_rfl, ?_⟩) hS ?_
              rotate_left
              · intro W hW; go_simp; try with_reducible rfl
              refine wpAnyH_take (i := 6) (v := ?_) rfl (by kernel_rfl) (by kernel_rfl) (by kernel_rfl) (fun _ _ _ h => h) (Or.inl ⟨by kernel_rfl, ?_⟩) hS ?_
              rotate_left
              · intro W hW; obtain ⟨p0, -, -, -, -⟩ := HM.out W (HW.out.2.trans (hW.mono HW.out.2.size)); obtain ⟨q0, -, -, -, -⟩ := HC.out W (HW.out.2.trans (hW.mono HW.out.2.size)); go_simp; try with_reducible rfl
              refine wpAnyH_take (i := 7) (v := ?_) rfl (by kernel_rfl) (by kernel_rfl) (by kernel_rfl) (fun _ _ _ h => h) (Or.inl ⟨by kernel_rfl, ?_⟩) hS ?_
              rotate_left
              · intro W hW; go_simp; try with_reducible rfl
              refine wpAnyH_done (by kernel_rfl) ?_ _
              go_simp
              have HW2 := Lib.hid (HW.out.on hS HW.out.2.size)
              clear hS HW
              generalize wr.drew = w3 at *
              obtain ⟨v6, c6, rfl, -⟩ := own_form_any HW2.out.1
              by_cases hk : q.key = p.key
              · have hb1 : ((q.key : Int) != (p.key : Int)) = false := by rw [hk]; exact bne_self_eq_false _
                have HE := Lib.hid (show rst p.key i (j + 1) L = rst p.key i j L from by rw [HT.out, if_neg (by simpa using hk), List.append_nil])
                clear HT hk
                go_wp2_with fail
                go_roundw
                case rel => exact ⟨j + 1, by omega, by omega, by go_num, by rw [HE.out]; exact HW2.out⟩
                case measure => simp [intOf]; omega
              · have hb1 : ((q.key : Int) != (p.key : Int)) = true := by rw [bne_iff_ne]; omega
                have HE := Lib.hid (show L.take i ++ p :: rst p.key i (j + 1) L = (L.take i ++ p :: rst p.key i j L) ++ [q] from by rw [HT.out, if_pos hk]; simp)
                obtain ⟨g3, cap3, w4, hr, hW4⟩ := HW2.out.more q (by rw [List.length_append, List.length_cons, List.length_take]; have := HLJ.out; have := HL.out; omega) HW2.out.2.size
                obtain ⟨ml, hml⟩ : ∃ ml, (L.take i ++ p :: rst p.key i j L).length = ml := ⟨_, rfl⟩
                have hmz : (ml : Int) ≤ 10000 := by rw [← hml, List.length_append, List.length_cons, List.length_take]; have := HLJ.out; have := HL.out; omega
                rw [hml] at hr hW4
                rw [← HE.out] at hW4
                have HW4 := Lib.hid hW4
                obtain ⟨q0, q1, q2, q3, q4⟩ := HC.out _ HW2.out.2
                rw [hml]
                clear hW4 HT hk hml
                go_upto_region 12 with fail
                go_wp2_with (at_builtin; refine list_run (by rfl) _ _ rfl rfl rfl hr ?_; clear hr)
                go_roundw
                case rel => exact ⟨j + 1, by omega, by omega, by go_num, HW4.out⟩
                case measure => simp [intOf]; omega
            · obtain rfl : j = n := by omega
              have hiz : ¬ ((j : Int) < (j : Int)) := by omega
              have HKK := Lib.hid (show insK PosR.key p L = L.take i ++ p :: rst p.key i j L from by rw [HK.out, HL.out])
              rw [← HKK.out] at HW
              go_wp2_with fail
              go_ret2
              exact ⟨_, rfl, own_more_any HW.out.1 HB1.out.size, HB1.out.trans (HW.out.2.mono HB1.out.size)⟩
end Go.Proofs.Ytmmmakfmpopniaa
