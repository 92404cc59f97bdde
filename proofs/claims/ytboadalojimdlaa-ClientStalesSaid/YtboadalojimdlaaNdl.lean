/-
  Needles: their bytes, plainly; the contracts of needle.Check, Size, head, and of the document's Check and num.
-/
import Derived.Test.YtboadalojimdlaaOpen
import Derived.Test.YtboadalojimdlaaZero
import Derived.Test.YtboadalojimdlaaZeros
import Derived.Test.YtboadalojimdlaaRef02
import Derived.Deep.DeepCutAuto
namespace Go.Proofs.Ytboadalojimdlaa
open Go.RowKit

/-- So many noughts. -/
def zs (k : Nat) : List (BitVec 8) := List.replicate k 0#8
theorem zs_length (k : Nat) : (zs k).length = k := List.length_replicate
theorem zs_bv (k : Nat) : (zs k).map bv = List.replicate k (Value.int .u8 0) := by unfold zs; rw [List.map_replicate]; rfl
theorem zs_add (j k : Nat) : zs j ++ zs k = zs (j + k) := List.replicate_append_replicate
def padn (n : Nat) : Nat := (8 - n % 8) % 8
theorem padv_nat (n : Nat) : padv (n : Int) = (padn n : Nat) := by unfold padv padn; rw [if_neg (by omega)]; omega
def flagN (g : Bool) : Nat := if g then 1 else 0

/-- The 24 bytes ahead of the sum. -/
def ndHead (key ck : Nat) (g : Bool) (n : Nat) : List (BitVec 8) := Num.le 1313162572 4 ++ Num.le (flagN g) 4 ++ Num.le key 8 ++ Num.le ck 4 ++ Num.le n 4
def ndSum (key ck : Nat) (g : Bool) (l : List (BitVec 8)) : Nat := (Crc.of (ndHead key ck g l.length ++ l)).toNat
/-- A needle's bytes. -/
def ndBytes (key ck : Nat) (g : Bool) (l : List (BitVec 8)) : List (BitVec 8) :=
  ndHead key ck g l.length ++ Num.le (ndSum key ck g l) 4 ++ zs 4 ++ l ++ zs (padn l.length)
theorem ndHead_length (key ck : Nat) (g : Bool) (n : Nat) : (ndHead key ck g n).length = 24 := by simp [ndHead, Num.le_length]
theorem ndBytes_length (key ck : Nat) (g : Bool) (l : List (BitVec 8)) : (ndBytes key ck g l).length = 32 + l.length + padn l.length := by
  simp [ndBytes, ndHead_length, Num.le_length, zs_length]; omega
/-- May it be? -/
def chk (g : Bool) (n : Nat) : Nat := if 4096 < n then 2 else if g = true ∧ 0 < n then 1 else 0
theorem chk_le (g : Bool) (n : Nat) : chk g n ≤ 17 := by unfold chk; split <;> (try split) <;> omega
theorem chk_ok {g : Bool} {n : Nat} (h : chk g n = 0) : n ≤ 4096 ∧ (g = true → n = 0) := by
  unfold chk at h
  split at h
  · omega
  · split at h
    · omega
    · next h1 h2 => exact ⟨by omega, fun hg => by cases n with | zero => rfl | succ n => exact absurd ⟨hg, by omega⟩ h2⟩

theorem Blk.four {w : World} {B : Nat} {T : TypeId} {v0 v1 v2 v3 : Value} (h : Blk w B T #[v0, v1, v2, v3]) :
    w.cell? ⟨B, 0, none⟩ = some v0 ∧ w.cell? ⟨B, 1, none⟩ = some v1 ∧ w.cell? ⟨B, 2, none⟩ = some v2 ∧ w.cell? ⟨B, 3, none⟩ = some v3 :=
  ⟨h.cell 0, h.cell 1, h.cell 2, h.cell 3⟩

theorem needle_check (key ck : Nat) (g : Bool) (a : Option Addr) (n c : Nat) (w : World) (hn : n ≤ 9223372036854775807) :
    Calls Try.prog 73 #[.agg #[.int .u64 key, .int .u32 ck, .bool g, .slice a n c]] w fun e w' => e = .returned (errc (chk g n)) ∧ Below w.heap.size w w' := by
  have B := (Below.refl w.heap.size w).alloc (Nat.le_refl _) (.cells #[.int .u64 key, .int .u32 ck, .bool g, .slice a n c] 51)
  by_cases h1 : 4096 < n
  · have HE := Lib.hid (show errc (chk g n) = er 2 from by rw [show chk g n = 2 from if_pos h1]; rfl)
    cases g
    all_goals
      go_enter Try.func73, Try.ntmps73
      go_wp2_with fail
      go_ret
      exact ⟨by rw [HE.out]; rfl, B⟩
  · cases g with
    | false =>
      have HE := Lib.hid (show errc (chk false n) = errc 0 from by rw [show chk false n = 0 from by simp [chk, h1]])
      go_enter Try.func73, Try.ntmps73
      go_wp2_with fail
      go_ret
      exact ⟨by rw [HE.out]; rfl, B⟩
    | true =>
      by_cases h2 : 0 < n
      · have HE := Lib.hid (show errc (chk true n) = er 1 from by rw [show chk true n = 1 from by simp [chk, h1, h2]]; rfl)
        go_enter Try.func73, Try.ntmps73
        go_wp2_with fail
        go_ret
        exact ⟨by rw [HE.out]; rfl, B⟩
      · have HE := Lib.hid (show errc (chk true n) = errc 0 from by rw [show chk true n = 0 from by simp [chk, h1, h2]])
        obtain rfl : n = 0 := by omega
        go_enter Try.func73, Try.ntmps73
        go_wp2_with fail
        go_ret
        exact ⟨by rw [HE.out]; rfl, B⟩

theorem ref3_check (key ck : Nat) (g : Bool) (a : Option Addr) (n c : Nat) (w : World) (hn : n ≤ 9223372036854775807) :
    Calls Try.prog 36 #[.agg #[.int .u64 key, .int .u32 ck, .bool g, .slice a n c]] w fun e w' => e = .returned (.int .i64 (chk g n : Nat)) ∧ Below w.heap.size w w' := by
  have B := (Below.refl w.heap.size w).alloc (Nat.le_refl _) (.cells #[.int .u64 key, .int .u32 ck, .bool g, .slice a n c] 58)
  by_cases h1 : 4096 < n
  · have HE := Lib.hid (show chk g n = 2 from if_pos h1)
    cases g
    all_goals
      go_enter Try.func36, Try.ntmps36
      go_wp2_with fail
      go_ret
      exact ⟨by rw [HE.out]; rfl, B⟩
  · cases g with
    | false =>
      have HE := Lib.hid (show chk false n = 0 from by simp [chk, h1])
      go_enter Try.func36, Try.ntmps36
      go_wp2_with fail
      go_ret
      exact ⟨by rw [HE.out]; rfl, B⟩
    | true =>
      by_cases h2 : 0 < n
      · have HE := Lib.hid (show chk true n = 1 from by simp [chk, h1, h2])
        go_enter Try.func36, Try.ntmps36
        go_wp2_with fail
        go_ret
        exact ⟨by rw [HE.out]; rfl, B⟩
      · have HE := Lib.hid (show chk true n = 0 from by simp [chk, h1, h2])
        obtain rfl : n = 0 := by omega
        go_enter Try.func36, Try.ntmps36
        go_wp2_with fail
        go_ret
        exact ⟨by rw [HE.out]; rfl, B⟩

/-- How many bytes of so much data. -/
def sizev (n : Int) : Int := if 0 ≤ n ∧ n ≤ 4096 then 32 + n + padv n else 0

end Go.Proofs.Ytboadalojimdlaa
