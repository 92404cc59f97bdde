/-
  Checkpoints: positions, plainly; check.pos; the copy of a list of positions.
-/
import Derived.Test.YtmmmakfmpopniaaOpen
import Derived.Test.YtmmmakfmpopniaaElem
import Derived.Test.YtmmmakfmpopniaaRef02
import Derived.Deep.DeepCutAuto
import Derived.Deep.RegionHeld3
namespace Go.Proofs.Ytmmmakfmpopniaa
open Go.RowKit

/-- A position. -/
structure PosR where
  key : Nat
  off : Int
  len : Int
  ck : Nat
  gone : Bool
def PosR.ok (p : PosR) : Prop := 0 ≤ p.off ∧ p.off ≤ 16777216 ∧ 0 ≤ p.len ∧ p.len ≤ 4096 ∧ (p.gone = true → p.len = 0)
instance (p : PosR) : Decidable p.ok := by unfold PosR.ok; infer_instance
def PosR.okB (p : PosR) : Bool := decide p.ok
def PosR.cells (p : PosR) : List Value := [.int .u64 p.key, .int .i64 p.off, .int .i64 p.len, .int .u32 p.ck, .bool p.gone]
theorem PosR.cells_length (p : PosR) : p.cells.length = 5 := rfl
theorem PosR.cells_one (p : PosR) : ∀ u ∈ p.cells, u.oneCell' = true := by
  intro u hu
  simp only [PosR.cells, List.mem_cons, List.not_mem_nil, or_false] at hu
  rcases hu with rfl | rfl | rfl | rfl | rfl <;> rfl
def flatP (ps : List PosR) : List Value := ps.flatMap PosR.cells
theorem flatP_length (ps : List PosR) : (flatP ps).length = ps.length * 5 := by
  induction ps with
  | nil => rfl
  | cons p ps ih =>
    show (p.cells ++ flatP ps).length = _
    rw [List.length_append, ih, PosR.cells_length, List.length_cons]; omega
theorem flatP_snoc (ps : List PosR) (p : PosR) : flatP (ps ++ [p]) = flatP ps ++ p.cells := by simp [flatP]
theorem flatP_at (ps : List PosR) (i j : Nat) (hj : j < 5) (hi : i < ps.length) : (flatP ps)[i * 5 + j]? = (ps[i]).cells[j]? := by
  induction ps generalizing i with
  | nil => simp at hi
  | cons p ps ih =>
    show (p.cells ++ flatP ps)[i * 5 + j]? = _
    cases i with
    | zero =>
      rw [Nat.zero_mul, Nat.zero_add, List.getElem?_append_left (by rw [PosR.cells_length]; exact hj)]
      rfl
    | succ i =>
      rw [List.getElem?_append_right (by rw [PosR.cells_length]; omega), PosR.cells_length, show (i + 1) * 5 + j - 5 = i * 5 + j from by omega]
      exact ih i (by simpa using hi)

/-- A slice of positions that reads as ps. -/
def PSl (w : World) (B : Nat) (a : Option Addr) (n : Nat) (ps : List PosR) : Prop :=
  ps.length = n ∧ (∀ p ∈ ps, p.key < 18446744073709551616 ∧ p.ck < 4294967296 ∧ -9223372036854775808 ≤ p.off ∧ p.off ≤ 9223372036854775807 ∧ -9223372036854775808 ≤ p.len ∧ p.len ≤ 9223372036854775807) ∧
  (0 < n → ∃ b off, a = some ⟨b, off, none⟩ ∧ b < B ∧ ∀ i j, i < n → j < 5 → w.cell? ⟨b, off + i * 5 + j, none⟩ = (flatP ps)[i * 5 + j]?)
theorem PSl.below {w w' : World} {B n : Nat} {a : Option Addr} {ps : List PosR} (h : PSl w B a n ps) (hb : Below B w w') : PSl w' B a n ps :=
  ⟨h.1, h.2.1, fun h0 => by obtain ⟨b, off, e, hlt, hc⟩ := h.2.2 h0; exact ⟨b, off, e, hlt, fun i j hi hj => (hb.cell (p := ⟨b, off + i * 5 + j, none⟩) hlt).trans (hc i j hi hj)⟩⟩
theorem PSl.more {w : World} {B B' n : Nat} {a : Option Addr} {ps : List PosR} (h : PSl w B a n ps) (hB : B ≤ B') : PSl w B' a n ps :=
  ⟨h.1, h.2.1, fun h0 => by obtain ⟨b, off, e, hlt, hc⟩ := h.2.2 h0; exact ⟨b, off, e, by omega, hc⟩⟩

theorem info_pos : (Try.prog.info? 32).map (fun i => (i.zero, i.size, i.bytes)) = some (some (.agg #[.int .u64 0, .int .i64 0, .int .i64 0, .int .u32 0, .bool false]), 5, 32) := by kernel_rfl

set_option maxRecDepth 100000 in
set_option maxHeartbeats 1000000 in
/-- The document's positions as the program's. -/
theorem of_any5 (a : Option Addr) (n c : Nat) (ps : List PosR) (w : World) (h : PSl w w.heap.size a n ps) (hn : n ≤ 4398046510976) :
    Calls Try.prog 9 #[.slice a n c] w fun e w' => ∃ v, e = .returned v ∧ w'.ownsRow w.heap.size 32 5 v n (flatP ps) ∧ Below w.heap.size w w' := by
  obtain ⟨i0, hi, hz0, hz1, hz2⟩ := info_parts info_pos
  have HI := Lib.hid hi
  have HZ0 := Lib.hid hz0
  have HZ1 := Lib.hid hz1
  have HZ2 := Lib.hid hz2
  have HL := Lib.hid h.1
  have HC := Lib.hid h.2.2
  clear hi hz0 hz1 hz2 h
  go_enter Try.func9, Try.ntmps9
  go_wp2_with fail
  go_loopw [3, 4] (fun v iv wr => ∃ i : Nat, i ≤ n ∧ iv = .int .i64 i ∧ wr.ownsRow w.heap.size 32 5 v i (flatP (ps.take i)) ∧ Below w.heap.size w wr) (fun _ iv _ => n - (intOf iv).toNat)
  case atStart => exact ⟨0, by omega, rfl, ⟨by simp [flatP], .inl ⟨rfl, rfl⟩⟩, Below.refl _ _⟩
  case round =>
    obtain ⟨i, hi, rfl, hown, B⟩ := hrel
    by_cases hlt : i < n
    · obtain ⟨b, off, ha, hb, hcell⟩ := HC.out (by omega)
      subst ha
      have hil : i < ps.length := by rw [HL.out]; exact hlt
      obtain ⟨p, hp⟩ : ∃ p, ps[i] = p := ⟨_, rfl⟩
      have hc : ∀ j, j < 5 → wr.cell? ⟨b, off + i * 5 + j, none⟩ = p.cells[j]? := fun j hj => by
        rw [← hp, ← flatP_at ps i j hj hil]
        exact (B.cell (p := ⟨b, off + i * 5 + j, none⟩) hb).trans (hcell i j hlt hj)
      have c0 : wr.cell? ⟨b, off + i * 5, none⟩ = some (.int .u64 p.key) := hc 0 (by omega)
      have c1 : wr.cell? ⟨b, off + i * 5 + 1, none⟩ = some (.int .i64 p.off) := hc 1 (by omega)
      have c2 : wr.cell? ⟨b, off + i * 5 + 2, none⟩ = some (.int .i64 p.len) := hc 2 (by omega)
      have c3 : wr.cell? ⟨b, off + i * 5 + 3, none⟩ = some (.int .u32 p.ck) := hc 3 (by omega)
      have c4 : wr.cell? ⟨b, off + i * 5 + 4, none⟩ = some (.bool p.gone) := hc 4 (by omega)
      obtain ⟨g2, cap2, W2, hr, ho2, hg2, -, -⟩ := append_elem (P := Try.prog) Try.underlying26 HI.out HZ0.out HZ1.out HZ2.out rfl (by decide) hown p.cells p.cells_length p.cells_one (by omega) (by unfold maxLen; omega) B.size
      have B2 := B.grown hg2 B.size (fun q e => (hown.lt q e).1)
      have HT := Lib.hid (show ps.take (i + 1) = ps.take i ++ [p] from by rw [List.take_succ_eq_append_getElem hil, hp])
      rw [← flatP_snoc, ← HT.out] at ho2
      have HO := Lib.hid ho2
      have hi0 : (0 : Int) ≤ i := by omega
      have hi1 : (i : Int) < n := by omega
      have hr : (Builtin.append_ #[26, 26] 26 #[u3, .slice (some ⟨wr.heap.size, 0, none⟩) 1 1]).run Try.prog (wr.alloc (.cells #[.int .u64 p.key, .int .i64 p.off, .int .i64 p.len, .int .u32 p.ck, .bool p.gone] 32)) = .ok (.slice (some ⟨g2, 0, none⟩) (i + 1) cap2) W2 := hr
      clear hc ho2 hown hp hg2 hcell
      go_wp2_with (at_builtin; refine list_run (by rfl) _ _ rfl rfl rfl hr ?_; clear hr)
      go_roundw
      case rel => exact ⟨i + 1, by omega, by go_num, HO.out, B2⟩
      case measure => simp [intOf]; omega
    · obtain rfl : i = n := by omega
      rw [List.take_of_length_le (by rw [HL.out]; omega)] at hown
      have HO := Lib.hid hown
      clear hown
      go_wp2_with fail
      go_ret
      exact ⟨_, rfl, HO.out, B⟩

end Go.Proofs.Ytmmmakfmpopniaa
