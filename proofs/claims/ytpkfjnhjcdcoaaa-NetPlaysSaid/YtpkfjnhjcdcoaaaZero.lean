/-
  pack.Zero, pack.Pad, pack.Whole.
-/
import Derived.Test.YtpkfjnhjcdcoaaaMore
namespace Go.Proofs.Ytpkfjnhjcdcoaaa
open Go.RowKit

attribute [local go_sem] Oper.semAt_some

theorem zero1_any (x : Int) (w : World) :
    Calls Try.prog 83 #[.int .u8 x] w fun e w' => e = .returned (.bool (x != 0)) ∧ w = w' := by
  go_enter Try.func83, Try.ntmps83
  go_wp2_with fail
  go_ret
  exact ⟨rfl, rfl⟩

/-- Is a byte other than nought? -/
def nz (l : List (BitVec 8)) : Bool := l.any (fun x => x != 0#8)
theorem nz_next (l : List (BitVec 8)) (i : Nat) (h : i < l.length) : nz (l.take (i + 1)) = (nz (l.take i) || l.getD i 0 != 0#8) := by
  unfold nz
  rw [List.take_succ_eq_append_getElem h, List.any_append]
  simp [List.getD, h]
theorem nz_true (l : List (BitVec 8)) (i : Nat) (h : i < l.length) (hx : l.getD i 0 ≠ 0#8) : nz l = true := by
  unfold nz
  rw [List.any_eq_true]
  refine ⟨l[i], List.getElem_mem h, ?_⟩
  simpa [List.getD, h] using hx

set_option maxRecDepth 100000 in
theorem indexf_any (a : Option Addr) (n c : Nat) (l : List (BitVec 8)) (w : World) {B : Nat} (h : BSl w B a n l) (hn : n ≤ 1099511627776) :
    Calls Try.prog 84 #[.slice a n c, .func (.func 83) #[] #[]] w fun e w' => ∃ i : Int, e = .returned (.int .i64 i) ∧ -1 ≤ i ∧ i ≤ n ∧ (decide (0 ≤ i) = nz l) ∧ w = w' := by
  have hlen := h.1
  go_enter Try.func84, Try.ntmps84
  go_wp2_with fail
  go_loopw [8] (fun iv wr => ∃ i : Nat, i ≤ n ∧ iv = .int .i64 i ∧ nz (l.take i) = false ∧ wr = w)
    (fun iv _ => n - (intOf iv).toNat)
  case atStart => exact ⟨0, by omega, rfl, rfl, rfl⟩
  case round =>
    obtain ⟨i, hi, rfl, hs, rfl⟩ := hrel
    by_cases hlt : i < n
    · obtain ⟨b, off, rfl, _, hc⟩ := h.at_ hlt
      have hnext := nz_next l i (by omega)
      have htrue := nz_true l i (by omega)
      rw [hs, Bool.false_or] at hnext
      unfold bv at hc
      generalize l.getD i 0 = x at *
      have hx := x.isLt
      by_cases hxz : x = 0#8
      · have hz : ((x.toNat : Int) != 0) = false := by rw [hxz]; rfl
        have HX := Lib.hid hxz
        clear hxz
        go_wp2_with fail
        refine (zero1_any _ _).mono ?_
        rintro e w1 ⟨rfl, rfl⟩
        rw [hz]
        go_wp2_with fail
        go_roundw
        case rel => exact ⟨i + 1, by omega, by go_num, by rw [hnext, HX.out]; rfl, trivial⟩
        case measure => simp [intOf]; omega
      · have hz : ((x.toNat : Int) != 0) = true := by
          rw [bne_iff_ne]
          intro e
          exact hxz (BitVec.eq_of_toNat_eq (by simpa using e))
        have ht := htrue hxz
        go_wp2_with fail
        refine (zero1_any _ _).mono ?_
        rintro e w1 ⟨rfl, rfl⟩
        rw [hz]
        go_wp2_with fail
        go_ret
        exact ⟨i, rfl, by omega, by omega, by rw [ht]; simp, rfl⟩
    · obtain rfl : i = n := by omega
      rw [List.take_of_length_le (by omega)] at hs
      go_wp2_with fail
      go_ret
      exact ⟨-1, rfl, by omega, by omega, by rw [hs]; rfl, rfl⟩

theorem contains_any (a : Option Addr) (n c : Nat) (l : List (BitVec 8)) (w : World) {B : Nat} (h : BSl w B a n l) (hn : n ≤ 1099511627776) :
    Calls Try.prog 82 #[.slice a n c, .func (.func 83) #[] #[]] w fun e w' => e = .returned (.bool (nz l)) ∧ w = w' := by
  have H := Lib.hid (indexf_any a n c l w h hn)
  go_enter Try.func82, Try.ntmps82
  go_wp2_with fail
  refine H.out.mono ?_
  rintro e w1 ⟨i, rfl, h1, h2, h3, rfl⟩
  go_wp2_with fail
  go_ret
  exact ⟨rfl, rfl⟩

theorem zero_any (a : Option Addr) (n c : Nat) (l : List (BitVec 8)) (w : World) {B : Nat} (h : BSl w B a n l) (hn : n ≤ 1099511627776) :
    Calls Try.prog 65 #[.slice a n c] w fun e w' => e = .returned (.bool (!nz l)) ∧ w = w' := by
  have H := Lib.hid (contains_any a n c l w h hn)
  go_enter Try.func65, Try.ntmps65
  go_wp2_with fail
  refine H.out.mono ?_
  rintro e w1 ⟨rfl, rfl⟩
  go_wp2_with fail
  go_ret
  exact ⟨rfl, rfl⟩

/-- How many bytes lack. -/
def padv (n : Int) : Int := if n < 0 then 0 else (8 - n % 8) % 8

theorem pad_any (n : Int) (w : World) (h0 : -9223372036854775808 ≤ n) (h1 : n ≤ 9223372036854775807) :
    Calls Try.prog 74 #[.int .i64 n] w fun e w' => e = .returned (.int .i64 (padv n)) ∧ w = w' := by
  by_cases hn : n < 0
  · go_enter Try.func74, Try.ntmps74
    go_wp2_with fail
    go_ret
    exact ⟨ret_int (by unfold padv; rw [if_pos hn]), rfl⟩
  · have hn0 : 0 ≤ n := by omega
    have hm0 : 0 ≤ n % 8 := by omega
    have hm1 : n % 8 < 8 := by omega
    go_enter Try.func74, Try.ntmps74
    go_wp2_with fail
    go_ret
    exact ⟨ret_int (by unfold padv; rw [if_neg (by omega)]; omega), rfl⟩

theorem refpad_any (n : Int) (w : World) (h0 : -9223372036854775808 ≤ n) (h1 : n ≤ 9223372036854775807) :
    Calls Try.prog 70 #[.int .i64 n] w fun e w' => e = .returned (.int .i64 (padv n)) ∧ w = w' := by
  by_cases hn : n < 0
  · have hg : decide (0 ≤ n) = false := by simp; omega
    go_enter Try.func70, Try.ntmps70
    go_wp2_with fail
    go_loopw [3] (fun kv wr => kv = .int .i64 0 ∧ wr = w) (fun _ _ => 0)
    case atStart => exact ⟨rfl, rfl⟩
    case round =>
      obtain ⟨rfl, rfl⟩ := hrel
      go_wp2_with fail
      go_ret
      exact ⟨ret_int (by unfold padv; rw [if_pos hn]), rfl⟩
  · have hn0 : 0 ≤ n := by omega
    have hm0 : 0 ≤ n % 8 := by omega
    have hm1 : n % 8 < 8 := by omega
    go_enter Try.func70, Try.ntmps70
    go_wp2_with fail
    go_loopw [3] (fun kv wr => ∃ k : Nat, (k : Int) ≤ (8 - n % 8) % 8 ∧ kv = .int .i64 k ∧ wr = w) (fun kv _ => 8 - (intOf kv).toNat)
    case atStart => exact ⟨0, by omega, rfl, rfl⟩
    case round =>
      obtain ⟨k, hk, rfl, rfl⟩ := hrel
      by_cases hlt : (k : Int) < (8 - n % 8) % 8
      · have hz : ((n % 8 + k) % 8 != 0) = true := by rw [bne_iff_ne]; omega
        go_wp2_with fail
        go_roundw
        case rel => exact ⟨k + 1, by omega, by go_num, trivial⟩
        case measure => simp [intOf]; omega
      · have hz : ((n % 8 + k) % 8 != 0) = false := by rw [bne_eq_false_iff_eq]; omega
        go_wp2_with fail
        go_ret
        exact ⟨ret_int (by unfold padv; rw [if_neg (by omega)]; omega), rfl⟩

end Go.Proofs.Ytpkfjnhjcdcoaaa
