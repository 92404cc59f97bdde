/-
  The contract of pack.Put: at each size; a size that is none; a number that is too long.
-/
import Derived.Test.YtpkfjnhjcdcoaaaPutWalk1
import Derived.Test.YtpkfjnhjcdcoaaaPutWalk2
import Derived.Test.YtpkfjnhjcdcoaaaPutWalk4
import Derived.Test.YtpkfjnhjcdcoaaaPutWalk8
namespace Go.Proofs.Ytpkfjnhjcdcoaaa
open Go.RowKit Go.Shelf

theorem put_ok (a : Option Addr) (m c : Nat) (l : List (BitVec 8)) (n k : Nat) (w : World) (h : BSl w w.heap.size a m l) (hm : m ≤ 1099511627776) (h0 : a = none → m = 0) (hk : isSize (k : Int) = true) (hn : n < 256 ^ k) :
    Calls Try.prog 48 #[.slice a m c, .int .u64 n, .int .i64 k] w fun e w' => ∃ g cap, e = .returned (.tuple #[.slice (some ⟨g, 0, none⟩) (m + k) cap, .nilIface]) ∧
      w'.ownsRow w.heap.size 5 1 (.slice (some ⟨g, 0, none⟩) (m + k) cap) (m + k) ((l ++ Num.le n k).map bv) ∧ Below w.heap.size w w' := by
  rcases isSize_le hk with rfl | rfl | rfl | rfl
  · exact put1 a m c l n w h hm h0 hn
  · exact put2 a m c l n w h hm h0 hn
  · exact put4 a m c l n w h hm h0 hn
  · exact put8 a m c l n w h hm h0 hn

set_option maxRecDepth 100000 in
theorem put_arg (a : Option Addr) (m c : Nat) (n : Nat) (k : Int) (w : World) (hk : isSize k = false) :
    Calls Try.prog 48 #[.slice a m c, .int .u64 n, .int .i64 k] w fun e w' => e = .returned (.tuple #[.slice none 0 0, er 1]) ∧ Below w.heap.size w w' := by
  have HK := Lib.hid hk
  clear hk
  go_enter Try.func48, Try.ntmps48
  go_wp2_with (go_at_call 60; refine (sized_no _ _ HK.out).mono ?_; rintro e w' ⟨rfl, rfl⟩)
  go_ret2
  exact ⟨rfl, (Below.refl _ w).alloc (Nat.le_refl _) _⟩

set_option maxRecDepth 100000 in
theorem put_long (a : Option Addr) (m c : Nat) (n k : Nat) (w : World) (hk : isSize (k : Int) = true) (hn : 256 ^ k ≤ n) (hn2 : n < 18446744073709551616) :
    Calls Try.prog 48 #[.slice a m c, .int .u64 n, .int .i64 k] w fun e w' => e = .returned (.tuple #[.slice none 0 0, er 2]) ∧ Below w.heap.size w w' := by
  have HF := Lib.hid (fun w => fits_any n k w hn2 hk)
  have hd : decide (n < 256 ^ k) = false := by simp; omega
  rw [hd] at HF
  have HK := Lib.hid hk
  clear hk hd hn
  go_enter Try.func48, Try.ntmps48
  go_wp2_with (first
    | (go_at_call 60; refine (sized_yes _ _ HK.out).mono ?_; rintro e w' ⟨rfl, rfl⟩)
    | (go_at_call 75; refine (HF.out _).mono ?_; rintro e w' ⟨rfl, rfl⟩))
  go_ret2
  exact ⟨rfl, (Below.refl _ w).alloc (Nat.le_refl _) _⟩

end Go.Proofs.Ytpkfjnhjcdcoaaa
