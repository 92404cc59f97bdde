/-
  check.Right.
-/
import Derived.Test.YtmmmakfmpopniaaChk
import Derived.Test.YtmmmakfmpopniaaNdl
namespace Go.Proofs.Ytmmmakfmpopniaa
open Go.RowKit

def headP (v g u : Int) : Prop := 1 ≤ v ∧ v ≤ 65535 ∧ 1 ≤ g ∧ g ≤ 2147483647 ∧ 0 ≤ u ∧ u ≤ 16777216
instance (v g u : Int) : Decidable (headP v g u) := by unfold headP; infer_instance
def headB (v g u : Int) : Bool := decide (headP v g u)
def dP : PosR := ⟨0, 0, 0, 0, false⟩
/-- Are the first i positions right? -/
def lokB (ps : List PosR) : Nat → Bool
  | 0 => true
  | i + 1 => lokB ps i && (ps.getD i dP).okB && (decide (i = 0) || decide ((ps.getD (i - 1) dP).key < (ps.getD i dP).key))
/-- May the checkpoint be? -/
def ckR (v g u : Int) (ps : List PosR) : Nat := if 4096 < ps.length then 2 else if headB v g u && lokB ps ps.length then 0 else 1
theorem ckR_le (v g u : Int) (ps : List PosR) : ckR v g u ps ≤ 17 := by unfold ckR; split <;> (try split) <;> omega

/-- The cells of the i-th position. -/
theorem psl_cells {w : World} {B n : Nat} {b off : Nat} {ps : List PosR} (hl : ps.length = n) (hcell : ∀ i j, i < n → j < 5 → w.cell? ⟨b, off + i * 5 + j, none⟩ = (flatP ps)[i * 5 + j]?) (i : Nat) (hi : i < n) (_ : B = B) :
    w.cell? ⟨b, off + i * 5, none⟩ = some (.int .u64 (ps.getD i dP).key) ∧ w.cell? ⟨b, off + i * 5 + 1, none⟩ = some (.int .i64 (ps.getD i dP).off) ∧ w.cell? ⟨b, off + i * 5 + 2, none⟩ = some (.int .i64 (ps.getD i dP).len) ∧
      w.cell? ⟨b, off + i * 5 + 3, none⟩ = some (.int .u32 (ps.getD i dP).ck) ∧ w.cell? ⟨b, off + i * 5 + 4, none⟩ = some (.bool (ps.getD i dP).gone) := by
  have hil : i < ps.length := by omega
  have e : ps.getD i dP = ps[i] := by simp [List.getD, hil]
  have hc : ∀ j, j < 5 → w.cell? ⟨b, off + i * 5 + j, none⟩ = (ps[i]).cells[j]? := fun j hj => by
    rw [← flatP_at ps i j hj hil]
    exact hcell i j hi hj
  rw [e]
  exact ⟨hc 0 (by omega), hc 1 (by omega), hc 2 (by omega), hc 3 (by omega), hc 4 (by omega)⟩

end Go.Proofs.Ytmmmakfmpopniaa
