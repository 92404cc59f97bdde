/-
  Two checkpoints alike: the program's positions as the document's; the document's Same; the law's same.
-/
import Derived.Test.YtmmmakfmpopniaaChkOf
import Derived.BigQuiet
import Derived.Deep.RegionHeld3
namespace Go.Proofs.Ytmmmakfmpopniaa
open Go.RowKit

theorem info_rpos : (Try.prog.info? 40).map (fun i => (i.zero, i.size, i.bytes)) = some (some (.agg #[.int .u64 0, .int .i64 0, .int .i64 0, .int .u32 0, .bool false]), 5, 32) := by kernel_rfl

set_option maxRecDepth 100000 in
set_option maxHeartbeats 1000000 in
/-- The program's positions as the document's. -/
theorem to_any5 (a : Option Addr) (n c : Nat) (ps : List PosR) (w : World) (h : PSl w w.heap.size a n ps) (hn : n ≤ 1000000) :
    Calls Try.prog 16 #[.slice a n c] w fun e w' => ∃ v, e = .returned v ∧ w'.ownsRow w.heap.size 40 5 v n (flatP ps) ∧ Below w.heap.size w w' := by
  obtain ⟨i0, hi, hz0, hz1, hz2⟩ := info_parts info_rpos
  have HI := Lib.hid hi
  have HZ0 := Lib.hid hz0
  have HZ1 := Lib.hid hz1
  have HZ2 := Lib.hid hz2
  have HL := Lib.hid h.1
  have HC := Lib.hid h.2.2
  clear hi hz0 hz1 hz2 h
  go_enter Try.func16, Try.ntmps16
  go_wp2_with fail
  go_loopw [3, 4] (fun v iv wr => ∃ i : Nat, i ≤ n ∧ iv = .int .i64 i ∧ wr.ownsRow w.heap.size 40 5 v i (flatP (ps.take i)) ∧ Below w.heap.size w wr) (fun _ iv _ => n - (intOf iv).toNat)
  case atStart => exact ⟨0, by omega, rfl, ⟨by simp [flatP], .inl ⟨rfl, rfl⟩⟩, Below.refl _ _⟩
  case round =>
    obtain ⟨i, hi, rfl, hown, B⟩ := hrel
    by_cases hlt : i < n
    · obtain ⟨b, off, ha, hb, hcell⟩ := HC.out (by omega)
      subst ha
      have hil : i < ps.length := by rw [HL.out]; exact hlt
      obtain ⟨p, hp⟩ : ∃ p, ps[i] = p := ⟨_, rfl⟩
      have hc : ∀ j, j < 5 → wr.cell? ⟨b, off + i * 5 + j, none⟩ = p.cells[j]? := fun j hj => by
        rw [← hp, ← flatP_at ps i j hj hil]
        exact (B.cell (p := ⟨b, off + i * 5 + j, none⟩) hb).trans (hcell i j hlt hj)
      have c0 : wr.cell? ⟨b, off + i * 5, none⟩ = some (.int .u64 p.key) := hc 0 (by omega)
      have c1 : wr.cell? ⟨b, off + i * 5 + 1, none⟩ = some (.int .i64 p.off) := hc 1 (by omega)
      have c2 : wr.cell? ⟨b, off + i * 5 + 2, none⟩ = some (.int .i64 p.len) := hc 2 (by omega)
      have c3 : wr.cell? ⟨b, off + i * 5 + 3, none⟩ = some (.int .u32 p.ck) := hc 3 (by omega)
      have c4 : wr.cell? ⟨b, off + i * 5 + 4, none⟩ = some (.bool p.gone) := hc 4 (by omega)
      obtain ⟨g2, cap2, W2, hr, ho2, hg2, -, -⟩ := append_elem (P := Try.prog) Try.underlying22 HI.out HZ0.out HZ1.out HZ2.out rfl (by decide) hown p.cells p.cells_length p.cells_one (by omega) (by unfold maxLen; omega) B.size
      have B2 := B.grown hg2 B.size (fun q e => (hown.lt q e).1)
      have HT := Lib.hid (show ps.take (i + 1) = ps.take i ++ [p] from by rw [List.take_succ_eq_append_getElem hil, hp])
      rw [← flatP_snoc, ← HT.out] at ho2
      have HO := Lib.hid ho2
      have hi0 : (0 : Int) ≤ i := by omega
      have hi1 : (i : Int) < n := by omega
      have hr : (Builtin.append_ #[22, 22] 22 #[u3, .slice (some ⟨wr.heap.size, 0, none⟩) 1 1]).run Try.prog (wr.alloc (.cells #[.int .u64 p.key, .int .i64 p.off, .int .i64 p.len, .int .u32 p.ck, .bool p.gone] 40)) = .ok (.slice (some ⟨g2, 0, none⟩) (i + 1) cap2) W2 := hr
      clear hc ho2 hown hp hg2 hcell
      go_wp2_with (at_builtin; refine list_run (by rfl) _ _ rfl rfl rfl hr ?_; clear hr)
      go_roundw
      case rel => exact ⟨i + 1, by omega, by go_num, HO.out, B2⟩
      case measure => simp [intOf]; omega
    · obtain rfl : i = n := by omega
      rw [List.take_of_length_le (by rw [HL.out]; omega)] at hown
      have HO := Lib.hid hown
      clear hown
      go_wp2_with fail
      go_ret
      exact ⟨_, rfl, HO.out, B⟩


deriving instance DecidableEq for PosR

theorem pos_neq (w : World) (p q : PosR) : (binOp .neq 40 (.agg #[.int .u64 p.key, .int .i64 p.off, .int .i64 p.len, .int .u32 p.ck, .bool p.gone]) (.agg #[.int .u64 q.key, .int .i64 q.off, .int .i64 q.len, .int .u32 q.ck, .bool q.gone])).run Try.prog w = .ok (.bool (!decide (p = q))) w := by
  obtain ⟨k, o, l, c, g⟩ := p
  obtain ⟨k', o', l', c', g'⟩ := q
  simp only [PosR.mk.injEq]
  simp [go_sem]
  by_cases h1 : k = k' <;> by_cases h2 : o = o' <;> by_cases h3 : l = l' <;> by_cases h4 : c = c' <;> by_cases h5 : g = g' <;> simp [h1, h2, h3, h4, h5, Int.ofNat_inj]

theorem take_step {ps qs : List PosR} {i : Nat} (hp : i < ps.length) (hq : i < qs.length) (h : ps.take i = qs.take i) (he : ps.getD i dP = qs.getD i dP) : ps.take (i + 1) = qs.take (i + 1) := by
  have e1 : ps.getD i dP = ps[i] := by simp [List.getD, hp]
  have e2 : qs.getD i dP = qs[i] := by simp [List.getD, hq]
  rw [List.take_succ_eq_append_getElem hp, List.take_succ_eq_append_getElem hq, h, ← e1, ← e2, he]

set_option maxRecDepth 100000 in
set_option maxHeartbeats 2000000 in
theorem rsame_any (a a' : Option Addr) (n c n' c' : Nat) (ps qs : List PosR) (w : World) {B B' : Nat} (h : PSl w B a n ps) (h' : PSl w B' a' n' qs) (hn : n ≤ 1000000) :
    Calls Try.prog 15 #[.slice a n c, .slice a' n' c'] w fun e w' => e = .returned (.bool (decide (ps = qs))) ∧ ∃ q, w' = w.drewN q := by
  by_cases hne : n = n'
  · subst hne
    have HL := Lib.hid h.1
    have HL' := Lib.hid h'.1
    have HC := Lib.hid h.2.2
    have HC' := Lib.hid h'.2.2
    have HX := Lib.hid fun (p q : PosR) (W : World) => pos_neq W p q
    clear h h'
    go_enter Try.func15, Try.ntmps15
    go_wp2_with fail
    go_loopw [5] (fun iv wr => ∃ i : Nat, i ≤ n ∧ iv = .int .i64 i ∧ ps.take i = qs.take i ∧ ∃ q, wr = w.drewN q) (fun iv _ => n - (intOf iv).toNat)
    case atStart => exact ⟨0, by omega, rfl, rfl, 0, rfl⟩
    case round =>
      obtain ⟨i, hi, rfl, heq, q, rfl⟩ := hrel
      by_cases hlt : i < n
      · obtain ⟨b, off, ha, -, hcell⟩ := HC.out (by omega)
        obtain ⟨b', off', ha', -, hcell'⟩ := HC'.out (by omega)
        subst ha
        subst ha'
        obtain ⟨c0, c1, c2, c3, c4⟩ := psl_cells (B := 0) HL.out hcell i hlt rfl
        obtain ⟨d0, d1, d2, d3, d4⟩ := psl_cells (B := 0) HL'.out hcell' i hlt rfl
        have hstep := Lib.hid fun (he : ps.getD i dP = qs.getD i dP) => take_step (by rw [HL.out]; exact hlt) (by rw [HL'.out]; exact hlt) heq he
        have hstop := Lib.hid (show ps.getD i dP ≠ qs.getD i dP → decide (ps = qs) = false from fun hx => decide_eq_false fun e => hx (by rw [e]))
        have hx := fun W => HX.out (ps.getD i dP) (qs.getD i dP) W
        generalize ps.getD i dP = p1 at *
        generalize qs.getD i dP = p2 at *
        have hi0 : (0 : Int) ≤ i := by omega
        have hi1 : (i : Int) < n := by omega
        clear hcell hcell' heq
        by_cases he : p1 = p2
        · have HT := Lib.hid (hstep.out he)
          rw [decide_eq_true he] at hx
          simp only [Bool.not_true] at hx
          clear he
          go_wp2_with fail
          go_quiet (fail)
          go_wp2_with fail
          go_roundw
          case rel => exact ⟨i + 1, by omega, by go_num, HT.out, _, rfl⟩
          case measure => simp [intOf]; omega
        · have HT := Lib.hid (hstop.out he)
          rw [decide_eq_false he] at hx
          simp only [Bool.not_false] at hx
          clear he
          go_wp2_with fail
          go_quiet (fail)
          go_wp2_with fail
          go_ret
          exact ⟨by rw [HT.out]; rfl, _, World.drewN_drewN _ _ _⟩
      · obtain rfl : i = n := by omega
        have HE := Lib.hid (show decide (ps = qs) = true from decide_eq_true (by
          rw [List.take_of_length_le (by rw [HL.out]; omega), List.take_of_length_le (by rw [HL'.out]; omega)] at heq
          exact heq))
        clear heq
        go_wp2_with fail
        go_ret
        exact ⟨by rw [HE.out]; rfl, _, rfl⟩
  · have HE := Lib.hid (show decide (ps = qs) = false from decide_eq_false fun e => hne (by rw [← h.1, ← h'.1, e]))
    have hnn : ((n : Int) != (n' : Int)) = true := by rw [bne_iff_ne]; omega
    clear h h'
    go_enter Try.func15, Try.ntmps15
    go_wp2_with fail
    go_ret
    exact ⟨by rw [HE.out]; rfl, 0, rfl⟩

theorem psl_own_same {W : World} {base k c : Nat} {T : TypeId} {a : Option Addr} {ps : List PosR} (h : W.ownsRow base T 5 (.slice a k c) k (flatP ps))
    (hb : ∀ p ∈ ps, p.key < 18446744073709551616 ∧ p.ck < 4294967296 ∧ -9223372036854775808 ≤ p.off ∧ p.off ≤ 9223372036854775807 ∧ -9223372036854775808 ≤ p.len ∧ p.len ≤ 9223372036854775807) : PSl W W.heap.size a k ps := by
  have hl := h.1
  rw [flatP_length] at hl
  refine ⟨by omega, hb, fun hk => ?_⟩
  rcases h.2 with ⟨_, e2⟩ | ⟨g, cap, cur, e1, -, e3, e4, -, e6, e7⟩
  · omega
  · cases e1
    refine ⟨g, 0, rfl, (Array.getElem?_eq_some_iff.1 e3).1, fun i j hi hj => ?_⟩
    rw [cell_of_row W g _ cur _ (0, 0) e3, ← e7, List.getElem?_take, if_pos (by omega), Nat.zero_add]
    simp

end Go.Proofs.Ytmmmakfmpopniaa
