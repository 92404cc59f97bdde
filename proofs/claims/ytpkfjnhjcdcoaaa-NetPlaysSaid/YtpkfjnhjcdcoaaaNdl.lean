/-
  Needles: their bytes, plainly; the contracts of needle.Check, Size, head, and of the document's Check and num.
-/
import Derived.Test.YtpkfjnhjcdcoaaaOpen
import Derived.Test.YtpkfjnhjcdcoaaaZero
import Derived.Test.YtpkfjnhjcdcoaaaZeros
import Derived.Test.YtpkfjnhjcdcoaaaRef02
import Derived.Deep.DeepCutAuto
namespace Go.Proofs.Ytpkfjnhjcdcoaaa
open Go.RowKit

/-- So many noughts. -/
def zs (k : Nat) : List (BitVec 8) := List.replicate k 0#8
theorem zs_length (k : Nat) : (zs k).length = k := List.length_replicate
theorem zs_bv (k : Nat) : (zs k).map bv = List.replicate k (Value.int .u8 0) := by unfold zs; rw [List.map_replicate]; rfl
theorem zs_add (j k : Nat) : zs j ++ zs k = zs (j + k) := List.replicate_append_replicate
def padn (n : Nat) : Nat := (8 - n % 8) % 8
theorem padv_nat (n : Nat) : padv (n : Int) = (padn n : Nat) := by unfold padv padn; rw [if_neg (by omega)]; omega
def flagN (g : Bool) : Nat := if g then 1 else 0

/-- The 24 bytes ahead of the sum. -/
def ndHead (key ck : Nat) (g : Bool) (n : Nat) : List (BitVec 8) := Num.le 1313162572 4 ++ Num.le (flagN g) 4 ++ Num.le key 8 ++ Num.le ck 4 ++ Num.le n 4
def ndSum (key ck : Nat) (g : Bool) (l : List (BitVec 8)) : Nat := (Crc.of (ndHead key ck g l.length ++ l)).toNat
/-- A needle's bytes. -/
def ndBytes (key ck : Nat) (g : Bool) (l : List (BitVec 8)) : List (BitVec 8) :=
  ndHead key ck g l.length ++ Num.le (ndSum key ck g l) 4 ++ zs 4 ++ l ++ zs (padn l.length)
theorem ndHead_length (key ck : Nat) (g : Bool) (n : Nat) : (ndHead key ck g n).length = 24 := by simp [ndHead, Num.le_length]
theorem ndBytes_length (key ck : Nat) (g : Bool) (l : List (BitVec 8)) : (ndBytes key ck g l).length = 32 + l.length + padn l.length := by
  simp [ndBytes, ndHead_length, Num.le_length, zs_length]; omega
/-- May it be? -/
def chk (g : Bool) (n : Nat) : Nat := if 4096 < n then 2 else if g = true ∧ 0 < n then 1 else 0
theorem chk_le (g : Bool) (n : Nat) : chk g n ≤ 17 := by unfold chk; split <;> (try split) <;> omega
theorem chk_ok {g : Bool} {n : Nat} (h : chk g n = 0) : n ≤ 4096 ∧ (g = true → n = 0) := by
  unfold chk at h
  split at h
  · omega
  · split at h
    · omega
    · next h1 h2 => exact ⟨by omega, fun hg => by cases n with | zero => rfl | succ n => exact absurd ⟨hg, by omega⟩ h2⟩

theorem Blk.four {w : World} {B : Nat} {T : TypeId} {v0 v1 v2 v3 : Value} (h : Blk w B T #[v0, v1, v2, v3]) :
    w.cell? ⟨B, 0, none⟩ = some v0 ∧ w.cell? ⟨B, 1, none⟩ = some v1 ∧ w.cell? ⟨B, 2, none⟩ = some v2 ∧ w.cell? ⟨B, 3, none⟩ = some v3 :=
  ⟨h.cell 0, h.cell 1, h.cell 2, h.cell 3⟩

theorem needle_check (key ck : Nat) (g : Bool) (a : Option Addr) (n c : Nat) (w : World) (hn : n ≤ 9223372036854775807) :
    Calls Try.prog 68 #[.agg #[.int .u64 key, .int .u32 ck, .bool g, .slice a n c]] w fun e w' => e = .returned (errc (chk g n)) ∧ Below w.heap.size w w' := by
  have B := (Below.refl w.heap.size w).alloc (Nat.le_refl _) (.cells #[.int .u64 key, .int .u32 ck, .bool g, .slice a n c] 27)
  by_cases h1 : 4096 < n
  · have HE := Lib.hid (show errc (chk g n) = er 2 from by rw [show chk g n = 2 from if_pos h1]; rfl)
    cases g
    all_goals
      go_enter Try.func68, Try.ntmps68
      go_wp2_with fail
      go_ret
      exact ⟨by rw [HE.out]; rfl, B⟩
  · cases g with
    | false =>
      have HE := Lib.hid (show errc (chk false n) = errc 0 from by rw [show chk false n = 0 from by simp [chk, h1]])
      go_enter Try.func68, Try.ntmps68
      go_wp2_with fail
      go_ret
      exact ⟨by rw [HE.out]; rfl, B⟩
    | true =>
      by_cases h2 : 0 < n
      · have HE := Lib.hid (show errc (chk true n) = er 1 from by rw [show chk true n = 1 from by simp [chk, h1, h2]]; rfl)
        go_enter Try.func68, Try.ntmps68
        go_wp2_with fail
        go_ret
        exact ⟨by rw [HE.out]; rfl, B⟩
      · have HE := Lib.hid (show errc (chk true n) = errc 0 from by rw [show chk true n = 0 from by simp [chk, h1, h2]])
        obtain rfl : n = 0 := by omega
        go_enter Try.func68, Try.ntmps68
        go_wp2_with fail
        go_ret
        exact ⟨by rw [HE.out]; rfl, B⟩

theorem ref3_check (key ck : Nat) (g : Bool) (a : Option Addr) (n c : Nat) (w : World) (hn : n ≤ 9223372036854775807) :
    Calls Try.prog 22 #[.agg #[.int .u64 key, .int .u32 ck, .bool g, .slice a n c]] w fun e w' => e = .returned (.int .i64 (chk g n : Nat)) ∧ Below w.heap.size w w' := by
  have B := (Below.refl w.heap.size w).alloc (Nat.le_refl _) (.cells #[.int .u64 key, .int .u32 ck, .bool g, .slice a n c] 34)
  by_cases h1 : 4096 < n
  · have HE := Lib.hid (show chk g n = 2 from if_pos h1)
    cases g
    all_goals
      go_enter Try.func22, Try.ntmps22
      go_wp2_with fail
      go_ret
      exact ⟨by rw [HE.out]; rfl, B⟩
  · cases g with
    | false =>
      have HE := Lib.hid (show chk false n = 0 from by simp [chk, h1])
      go_enter Try.func22, Try.ntmps22
      go_wp2_with fail
      go_ret
      exact ⟨by rw [HE.out]; rfl, B⟩
    | true =>
      by_cases h2 : 0 < n
      · have HE := Lib.hid (show chk true n = 1 from by simp [chk, h1, h2])
        go_enter Try.func22, Try.ntmps22
        go_wp2_with fail
        go_ret
        exact ⟨by rw [HE.out]; rfl, B⟩
      · have HE := Lib.hid (show chk true n = 0 from by simp [chk, h1, h2])
        obtain rfl : n = 0 := by omega
        go_enter Try.func22, Try.ntmps22
        go_wp2_with fail
        go_ret
        exact ⟨by rw [HE.out]; rfl, B⟩

/-- How many bytes of so much data. -/
def sizev (n : Int) : Int := if 0 ≤ n ∧ n ≤ 4096 then 32 + n + padv n else 0

theorem size_any (n : Int) (w : World) (h0 : -9223372036854775808 ≤ n) (h1 : n ≤ 9223372036854775807) :
    Calls Try.prog 63 #[.int .i64 n] w fun e w' => e = .returned (.int .i64 (sizev n)) ∧ w = w' := by
  by_cases hn : n < 0
  · have HE := Lib.hid (show sizev n = 0 from if_neg (by omega))
    go_enter Try.func63, Try.ntmps63
    go_wp2_with fail
    go_ret
    exact ⟨by rw [HE.out]; rfl, rfl⟩
  · by_cases hb : 4096 < n
    · have HE := Lib.hid (show sizev n = 0 from if_neg (by omega))
      go_enter Try.func63, Try.ntmps63
      go_wp2_with fail
      go_ret
      exact ⟨by rw [HE.out]; rfl, rfl⟩
    · have HE := Lib.hid (show sizev n = 32 + n + padv n from if_pos (by omega))
      have hp : 0 ≤ padv n ∧ padv n < 8 := by unfold padv; rw [if_neg (by omega)]; omega
      obtain ⟨hp0, hp1⟩ := hp
      go_enter Try.func63, Try.ntmps63
      go_wp2_with fail
      refine (pad_any n w h0 h1).mono ?_
      rintro e w1 ⟨rfl, rfl⟩
      go_wp2_with fail
      go_ret
      exact ⟨by rw [HE.out]; rfl, rfl⟩

set_option maxRecDepth 100000 in
set_option maxHeartbeats 4000000 in
theorem head_any (key ck : Nat) (g : Bool) (a : Option Addr) (n c : Nat) (w : World) (hk : key < 18446744073709551616) (hck : ck < 4294967296) (hn : n < 4294967296) :
    Calls Try.prog 73 #[.agg #[.int .u64 key, .int .u32 ck, .bool g, .slice a n c]] w fun e w' => ∃ b cap, e = .returned (.slice (some ⟨b, 0, none⟩) 24 cap) ∧
      w'.ownsRow w.heap.size 5 1 (.slice (some ⟨b, 0, none⟩) 24 cap) 24 ((ndHead key ck g n).map bv) ∧ Below w.heap.size w w' := by
  have hK := Blk.made w 27 #[.int .u64 key, .int .u32 ck, .bool g, .slice a n c]
  have BA := (Below.refl w.heap.size w).alloc (Nat.le_refl _) (.cells #[.int .u64 key, .int .u32 ck, .bool g, .slice a n c] 27)
  have hlt := hK.lt
  obtain ⟨f, hf⟩ : ∃ f, flagN g = f := ⟨_, rfl⟩
  have hf2 : f < 256 ^ 4 := by rw [← hf]; unfold flagN; split <;> decide
  have HF := Lib.hid hf
  cases g
  all_goals
    have hf' := hf
    simp [flagN] at hf'
    subst hf'
    clear hf
    go_enter Try.func73, Try.ntmps73
    go_wp2_with fail
    refine (put_ok none 0 0 [] 1313162572 4 _ (BSl.nil _ _ _) (by decide) (fun _ => rfl) rfl (by decide)).mono ?_
    rintro e w1 ⟨g1, c1, rfl, ho1, B1⟩
    simp only [Nat.zero_add, List.nil_append] at ho1
    have hK1 := Lib.hid (hK.below B1 hlt)
    have B1 := BA.trans (B1.mono BA.size)
    go_wp2_with fail
    refine (put_ok (some ⟨g1, 0, none⟩) 4 c1 _ _ 4 w1 (bsl_own ho1) (by decide) (fun e => by cases e) rfl hf2).mono ?_
    rintro e w2 ⟨g2, c2, rfl, ho2, B2⟩
    have hK2 := Lib.hid (hK1.out.below B2 (hK1.out.lt))
    have B2 := B1.trans (B2.mono B1.size)
    obtain ⟨k0, k1, k2, k3⟩ := hK2.out.four
    clear ho1 B1 hK1
    go_wp2_with fail
    refine (put_ok (some ⟨g2, 0, none⟩) 8 c2 _ key 8 w2 (bsl_own ho2) (by decide) (fun e => by cases e) rfl (by omega)).mono ?_
    rintro e w3 ⟨g3, c3, rfl, ho3, B3⟩
    have hK3 := Lib.hid (hK2.out.below B3 (hK2.out.lt))
    have B3 := B2.trans (B3.mono B2.size)
    clear k0 k1 k2 k3 ho2 B2 hK2
    obtain ⟨k0, k1, k2, k3⟩ := hK3.out.four
    go_wp2_with fail
    refine (put_ok (some ⟨g3, 0, none⟩) 16 c3 _ ck 4 w3 (bsl_own ho3) (by decide) (fun e => by cases e) rfl (by omega)).mono ?_
    rintro e w4 ⟨g4, c4, rfl, ho4, B4⟩
    have hK4 := Lib.hid (hK3.out.below B4 (hK3.out.lt))
    have B4 := B3.trans (B4.mono B3.size)
    clear k0 k1 k2 k3 ho3 B3 hK3
    obtain ⟨k0, k1, k2, k3⟩ := hK4.out.four
    go_wp2_with fail
    refine (put_ok (some ⟨g4, 0, none⟩) 20 c4 _ n 4 w4 (bsl_own ho4) (by decide) (fun e => by cases e) rfl (by omega)).mono ?_
    rintro e w5 ⟨g5, c5, rfl, ho5, B5⟩
    have ho5 := own_more ho5 B4.size
    have B5 := B4.trans (B5.mono B4.size)
    clear k0 k1 k2 k3 ho4 B4 hK4
    go_wp2_with fail
    go_ret
    refine ⟨g5, c5, rfl, ?_, B5⟩
    unfold ndHead
    rw [HF.out]
    exact ho5

end Go.Proofs.Ytpkfjnhjcdcoaaa
