/-
  index: New, Len, From.
-/
import Derived.Test.YtmmmakfmpopniaaIdxPut
namespace Go.Proofs.Ytmmmakfmpopniaa
open Go.RowKit
set_option linter.unusedVariables false

theorem Tw.base {w w' : World} {base B : Nat} {v : Value} {L : List PosR} (h : IdR w base B v L) (t : Tw w w' B v.ownBlock) : Below base w w' :=
  t.below h.bb (fun k e => (h.row.lt k e).1) (Nat.le_trans h.bb (Nat.le_of_lt h.k.lt))
theorem insAll_take {ps : List PosR} {i : Nat} (h : i < ps.length) : insAll PosR.key [] (ps.take (i + 1)) = insK PosR.key (ps.getD i dP) (insAll PosR.key [] (ps.take i)) := by
  rw [List.take_succ_eq_append_getElem h, insAll_snoc]
  simp [List.getD, h]
theorem insAll_len {ps : List PosR} {i n : Nat} (h : ps.length = n) (hi : i ≤ n) : (insAll PosR.key [] (ps.take i)).length ≤ i := by
  have := insAll_length_le (key := PosR.key) (ps.take i) []
  simp only [List.length_nil, List.length_take] at this
  omega
theorem getD_in {ps : List PosR} {i : Nat} (hi : i < ps.length) (h : ∀ p ∈ ps, PosB p) : PosB (ps.getD i dP) := by
  have e : ps.getD i dP = ps[i] := by simp [List.getD, hi]
  rw [e]; exact h _ (List.getElem_mem hi)

set_option maxRecDepth 100000 in
set_option maxHeartbeats 2000000 in
theorem inew_any (a : Option Addr) (n c : Nat) (ps : List PosR) (w : World) (h : PSl w w.heap.size a n ps) (hn : n ≤ 4095) :
    Calls Try.prog 8 #[.slice a n c] w fun e w' => ∃ B v, e = .returned (.pointer (some ⟨B, 0, none⟩)) ∧ IdR w' w.heap.size B v (insAll PosR.key [] ps) ∧ Below w.heap.size w w' := by
  have HH := Lib.hid h
  have hL := h.1
  clear h
  go_enter Try.func8, Try.ntmps8
  go_upto_region 2 with fail
  obtain ⟨w1, hw1, hI1, hB1⟩ : ∃ X, w.alloc (.cells #[.slice none 0 0] 52) = X ∧ IdR X w.heap.size w.heap.size (.slice none 0 0) [] ∧ Below w.heap.size w X := ⟨_, rfl, ⟨Blk.made _ _ _, Nat.le_refl _, World.ownsRow_nil _ _ _ _, List.Pairwise.nil, fun p hp => absurd hp (by simp), by simp⟩, (Below.refl _ _).alloc (Nat.le_refl _) _⟩
  rw [hw1]
  have HI1 := Lib.hid hI1
  have HB1 := Lib.hid hB1
  clear hw1 hI1 hB1
  go_wp2_with fail
  go_loopw [10] (fun iv wr => ∃ i : Nat, i ≤ n ∧ iv = .int .i64 i ∧ ∃ v, IdR wr w.heap.size w.heap.size v (insAll PosR.key [] (ps.take i)) ∧ Below w.heap.size w wr) (fun iv _ => n - (intOf iv).toNat)
  case atStart => exact ⟨0, by omega, rfl, _, HI1.out, HB1.out⟩
  case round =>
    obtain ⟨i, hi, rfl, v, hI, hB⟩ := hrel
    clear HI1 HB1
    have HI := Lib.hid hI
    have HB := Lib.hid hB
    clear hI hB
    by_cases hlt : i < n
    · obtain ⟨b, off, ha, hbb, hcell⟩ := HH.out.2.2 (by omega)
      subst ha
      obtain ⟨c0, c1, c2, c3, c4⟩ := psl_cells (w := wr) (B := 0) HH.out.1 (fun i j hi hj => (HB.out.cell (p := ⟨b, off + i * 5 + j, none⟩) hbb).trans (hcell i j hi hj)) i hlt rfl
      have HT := Lib.hid (insAll_take (ps := ps) (i := i) (by omega))
      have HP := Lib.hid (getD_in (ps := ps) (i := i) (by omega) HH.out.2.1)
      have HLN := Lib.hid (insAll_len (ps := ps) (i := i) hL (by omega))
      clear hcell
      generalize ps.getD i dP = p at *
      have hi0 : (0 : Int) ≤ i := by omega
      have hi1 : (i : Int) < n := by omega
      go_upto_region 5 with fail
      obtain ⟨w2, hw2, hM2, hB2⟩ : ∃ X, wr.alloc (.cells #[.int .u64 p.key, .int .i64 p.off, .int .i64 p.len, .int .u32 p.ck, .bool p.gone] 32) = X ∧ Blk X wr.heap.size 32 #[.int .u64 p.key, .int .i64 p.off, .int .i64 p.len, .int .u32 p.ck, .bool p.gone] ∧ Below wr.heap.size wr X := ⟨_, rfl, Blk.made _ _ _, (Below.refl _ _).alloc (Nat.le_refl _) _⟩
      rw [hw2]
      have HI2 := Lib.hid (HI.out.on hB2)
      have HB2 := Lib.hid (HB.out.trans (hB2.mono HB.out.size))
      clear c0 c1 c2 c3 c4
      obtain ⟨c0, c1, c2, c3, c4⟩ := blk_fives hM2
      clear hw2 hM2 hB2
      have E := Lib.hid (iput_any HI2.out p HP.out (by have := HLN.out; omega))
      rw [← HT.out] at E
      go_wp2_with fail
      refine E.out.mono ?_
      rintro e w3 ⟨v3, rfl, hI3, ht3, -⟩
      have HI3 := Lib.hid hI3
      have HB3 := Lib.hid (HB2.out.trans (Tw.base HI2.out ht3))
      clear hI3 ht3 E HI HI2 HB HB2 c0 c1 c2 c3 c4
      go_wp2_with fail
      go_roundw
      case rel => exact ⟨i + 1, by omega, by go_num, v3, HI3.out, HB3.out⟩
      case measure => simp [intOf]; omega
    · obtain rfl : i = n := by omega
      have HT := Lib.hid (show ps.take i = ps from List.take_of_length_le (by omega))
      rw [HT.out] at HI
      go_wp2_with fail
      go_ret
      exact ⟨_, v, rfl, HI.out, HB.out⟩
/-- How many are gone. -/
def goneN (L : List PosR) : Nat := L.countP (fun p => p.gone)
theorem goneN_take {L : List PosR} {i : Nat} (h : i < L.length) : goneN (L.take (i + 1)) = goneN (L.take i) + (if (L.getD i dP).gone then 1 else 0) := by
  have e : L.getD i dP = L[i] := by simp [List.getD, h]
  unfold goneN
  rw [List.take_succ_eq_append_getElem h, List.countP_append, e]
  congr 1
  cases hg : (L[i]).gone <;> simp [hg]
theorem goneN_le (L : List PosR) : goneN L ≤ L.length := List.countP_le_length
set_option maxRecDepth 100000 in
set_option maxHeartbeats 2000000 in
theorem ilen_any {w : World} {base B : Nat} {v : Value} {L : List PosR} (h : IdR w base B v L) :
    Calls Try.prog 18 #[.pointer (some ⟨B, 0, none⟩)] w fun e w' => e = .returned (.tuple #[.int .i64 ((L.length : Int) - (goneN L : Int)), .int .i64 (goneN L : Int)]) ∧ Below w.heap.size w w' := by
  obtain ⟨a, c, rfl, hc, hp⟩ := h.psl
  have HH := Lib.hid hp
  have HK := Lib.hid fun (W : World) (B0 : Below w.heap.size w W) => (show W.cell? ⟨B, 0, none⟩ = some (.slice a L.length c) from (h.k.below B0 h.k.lt).cell 0)
  have hl := h.len
  have k0 := HK.out w (Below.refl _ _)
  clear h hp
  go_enter Try.func18, Try.ntmps18
  go_wp2_with fail
  go_loopw [3, 13] (fun gv iv wr => ∃ i : Nat, i ≤ L.length ∧ iv = .int .i64 i ∧ gv = .int .i64 (goneN (L.take i) : Int) ∧ Below w.heap.size w wr) (fun _ iv _ => L.length - (intOf iv).toNat)
  case atStart => exact ⟨0, by omega, rfl, rfl, Below.refl _ _⟩
  case round =>
    obtain ⟨i, hi, rfl, rfl, hB⟩ := hrel
    have HB := Lib.hid hB
    clear hB
    by_cases hlt : i < L.length
    · obtain ⟨b, off, ha, hbb, hcell⟩ := HH.out.2.2 (by omega)
      subst ha
      obtain ⟨c0, c1, c2, c3, c4⟩ := psl_cells (w := wr) (B := 0) HH.out.1 (fun i j hi hj => (HB.out.cell (p := ⟨b, off + i * 5 + j, none⟩) hbb).trans (hcell i j hi hj)) i hlt rfl
      have HT := Lib.hid (goneN_take (L := L) (i := i) (by omega))
      have hgl := goneN_le (L.take i)
      rw [List.length_take] at hgl
      have hgz : (goneN (L.take i) : Int) ≤ 4096 := by omega
      have hgz0 : (0 : Int) ≤ (goneN (L.take i) : Int) := by omega
      have hlz : (L.length : Int) ≤ 4096 := by omega
      clear hcell hgl
      generalize goneN (L.take i) = g at *
      generalize L.getD i dP = p at *
      obtain ⟨pk, po, pl, pc, pg⟩ := p
      dsimp only at c0 c1 c2 c3 c4 HT
      have hi0 : (0 : Int) ≤ i := by omega
      have hi1 : (i : Int) < (L.length : Int) := by omega
      go_upto_region 6 with fail
      have HB2 := Lib.hid (HB.out.alloc HB.out.size (.cells #[.int .u64 pk, .int .i64 po, .int .i64 pl, .int .u32 pc, .bool pg] 32))
      clear k0
      cases pg with
      | true =>
        go_wp2_with fail
        go_roundw
        case rel => exact ⟨i + 1, by omega, by go_num, by rw [HT.out]; go_num, HB2.out⟩
        case measure => simp [intOf]; omega
      | false =>
        go_wp2_with fail
        go_roundw
        case rel => exact ⟨i + 1, by omega, by go_num, by rw [HT.out]; rfl, HB2.out⟩
        case measure => simp [intOf]; omega
    · have hie : i = L.length := by omega
      subst hie
      have HT := Lib.hid (show L.take L.length = L from List.take_length)
      rw [HT.out]
      have hgl := goneN_le L
      have hgz : (goneN L : Int) ≤ (L.length : Int) := by omega
      have hlz : (L.length : Int) ≤ 4096 := by omega
      have k0 := HK.out _ HB.out
      go_wp2_with fail
      go_ret2
      exact ⟨rfl, HB.out⟩

end Go.Proofs.Ytmmmakfmpopniaa
