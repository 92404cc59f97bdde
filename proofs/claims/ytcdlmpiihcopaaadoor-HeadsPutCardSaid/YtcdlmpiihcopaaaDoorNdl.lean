/-
  Needles: their bytes, plainly; the contracts of needle.Check, Size, head, and of the document's Check and num.
-/
import Derived.Test.YtcdlmpiihcopaaaDoorOpen
import Derived.Test.YtcdlmpiihcopaaaDoorZero
import Derived.Test.YtcdlmpiihcopaaaDoorZeros
import Derived.Test.YtcdlmpiihcopaaaDoorRef02
import Derived.Deep.DeepCutAuto
namespace Go.Proofs.YtcdlmpiihcopaaaDoor
open Go.RowKit

/-- So many noughts. -/
def zs (k : Nat) : List (BitVec 8) := List.replicate k 0#8
theorem zs_length (k : Nat) : (zs k).length = k := List.length_replicate
theorem zs_bv (k : Nat) : (zs k).map bv = List.replicate k (Value.int .u8 0) := by unfold zs; rw [List.map_replicate]; rfl
theorem zs_add (j k : Nat) : zs j ++ zs k = zs (j + k) := List.replicate_append_replicate
def padn (n : Nat) : Nat := (8 - n % 8) % 8
theorem padv_nat (n : Nat) : padv (n : Int) = (padn n : Nat) := by unfold padv padn; rw [if_neg (by omega)]; omega
def flagN (g : Bool) : Nat := if g then 1 else 0

/-- The 24 bytes ahead of the sum. -/
def ndHead (key ck : Nat) (g : Bool) (n : Nat) : List (BitVec 8) := Num.le 1313162572 4 ++ Num.le (flagN g) 4 ++ Num.le key 8 ++ Num.le ck 4 ++ Num.le n 4
def ndSum (key ck : Nat) (g : Bool) (l : List (BitVec 8)) : Nat := (Crc.of (ndHead key ck g l.length ++ l)).toNat
/-- A needle's bytes. -/
def ndBytes (key ck : Nat) (g : Bool) (l : List (BitVec 8)) : List (BitVec 8) :=
  ndHead key ck g l.length ++ Num.le (ndSum key ck g l) 4 ++ zs 4 ++ l ++ zs (padn l.length)
theorem ndHead_length (key ck : Nat) (g : Bool) (n : Nat) : (ndHead key ck g n).length = 24 := by simp [ndHead, Num.le_length]
theorem ndBytes_length (key ck : Nat) (g : Bool) (l : List (BitVec 8)) : (ndBytes key ck g l).length = 32 + l.length + padn l.length := by
  simp [ndBytes, ndHead_length, Num.le_length, zs_length]; omega
/-- May it be? -/
def chk (g : Bool) (n : Nat) : Nat := if 4096 < n then 2 else if g = true ∧ 0 < n then 1 else 0
theorem chk_le (g : Bool) (n : Nat) : chk g n ≤ 17 := by unfold chk; split <;> (try split) <;> omega
theorem chk_ok {g : Bool} {n : Nat} (h : chk g n = 0) : n ≤ 4096 ∧ (g = true → n = 0) := by
  unfold chk at h
  split at h
  · omega
  · split at h
    · omega
    · next h1 h2 => exact ⟨by omega, fun hg => by cases n with | zero => rfl | succ n => exact absurd ⟨hg, by omega⟩ h2⟩

theorem Blk.four {w : World} {B : Nat} {T : TypeId} {v0 v1 v2 v3 : Value} (h : Blk w B T #[v0, v1, v2, v3]) :
    w.cell? ⟨B, 0, none⟩ = some v0 ∧ w.cell? ⟨B, 1, none⟩ = some v1 ∧ w.cell? ⟨B, 2, none⟩ = some v2 ∧ w.cell? ⟨B, 3, none⟩ = some v3 :=
  ⟨h.cell 0, h.cell 1, h.cell 2, h.cell 3⟩

/-- How many bytes of so much data. -/
def sizev (n : Int) : Int := if 0 ≤ n ∧ n ≤ 4096 then 32 + n + padv n else 0

end Go.Proofs.YtcdlmpiihcopaaaDoor
