/-
  bytes.Equal; needle.Same; the document's Same.
-/
import Derived.Test.YtcdlmpiihcopaaaDoorNdlGet
import Derived.Laws.BytesArg
namespace Go.Proofs.YtcdlmpiihcopaaaDoor
open Go.RowKit

def bstr (l : List (BitVec 8)) : ByteArray := strOfNums (l.map fun c => (c.toNat : Int))
theorem bstr_inj {l l' : List (BitVec 8)} : (bstr l = bstr l') ↔ l = l' := by
  constructor
  · intro h
    have h1 : (bstr l).data.toList = (bstr l').data.toList := by rw [h]
    have h2 : ∀ L : List (BitVec 8), (bstr L).data.toList = L.map fun c => UInt8.ofNat c.toNat := fun L => by simp [bstr, strOfNums]
    rw [h2, h2] at h1
    have h3 := congrArg (List.map fun u : UInt8 => BitVec.ofNat 8 u.toNat) h1
    rw [List.map_map, List.map_map] at h3
    have h4 : ∀ L : List (BitVec 8), L.map ((fun u : UInt8 => BitVec.ofNat 8 u.toNat) ∘ fun c => UInt8.ofNat c.toNat) = L := fun L => by
      conv => rhs; rw [← List.map_id L]
      apply List.map_congr_left
      intro c _
      have hc := c.isLt
      apply BitVec.eq_of_toNat_eq
      simp
    rw [h4, h4] at h3
    exact h3
  · rintro rfl; rfl

theorem conv_any {W : World} {B n : Nat} {a : Option Addr} {l : List (BitVec 8)} (c : Nat) (h : BSl W B a n l) :
    (convert 27 9 (.slice a n c)).run Tryd.prog W = .ok (.string (bstr l)) W := by
  cases a with
  | none =>
    obtain rfl := bsl_nil0 h rfl
    have hl : l = [] := List.eq_nil_of_length_eq_zero h.1
    subst hl
    exact run_convert_bytes_nil W 27 5 Tryd.underlying27 Tryd.underlying5 0 c 9 Tryd.underlying9
  | some ad =>
    rcases Nat.eq_zero_or_pos n with rfl | hpos
    · have hl : l = [] := List.eq_nil_of_length_eq_zero h.1
      subst hl
      rw [run_convert_bytes_string W _ _ _ _ _ _ Tryd.underlying27 Tryd.underlying5 Tryd.underlying9, run_bytesToString W ad 0 c [] (by simp [loadCells, loadCellsFrom])]
      rfl
    · obtain ⟨b, off, e, hb, hc⟩ := h.2 hpos
      cases e
      exact run_convert_bytes_arg W 27 5 Tryd.underlying27 Tryd.underlying5 b off n c (l.map fun c => (c.toNat : Int)) (by rw [List.length_map, h.1]) (fun i hi => by
        rw [hc i hi]
        have : i < l.length := by rw [h.1]; exact hi
        simp [bv, List.getD, this]) 9 Tryd.underlying9

/-- Are two needles alike? -/
def ndSame (key ck : Nat) (g : Bool) (l : List (BitVec 8)) (key' ck' : Nat) (g' : Bool) (l' : List (BitVec 8)) : Bool := decide (key = key' ∧ ck = ck' ∧ g = g' ∧ l = l')

end Go.Proofs.YtcdlmpiihcopaaaDoor
