/-
  The document's answer for layer 1 (corncribref01): Sized, Same, Bytes, Number.
-/
import Derived.Test.YtpkfjnhjcdcoaaaPack
namespace Go.Proofs.Ytpkfjnhjcdcoaaa
open Go.RowKit

attribute [local go_sem] Oper.semAt_some

theorem same_any (a a' : Option Addr) (n n' c c' : Nat) (l l' : List (BitVec 8)) (w : World) {B B' : Nat} (h : BSl w B a n l) (h' : BSl w B' a' n' l') (hn : n ≤ 1099511627776) :
    Calls Try.prog 21 #[.slice a n c, .slice a' n' c'] w fun e w' => e = .returned (.bool (decide (l = l'))) ∧ ∃ q, w' = w.drewN q := by
  have hlen := h.1
  have hlen' := h'.1
  by_cases hne : n = n'
  · subst hne
    go_enter Try.func21, Try.ntmps21
    go_wp2_with fail
    go_loopw [5] (fun iv wr => ∃ i : Nat, i ≤ n ∧ iv = .int .i64 i ∧ l.take i = l'.take i ∧ ∃ q, wr = w.drewN q)
      (fun iv _ => n - (intOf iv).toNat)
    case atStart => exact ⟨0, by omega, rfl, rfl, 0, rfl⟩
    case round =>
      obtain ⟨i, hi, rfl, hs, q, rfl⟩ := hrel
      by_cases hlt : i < n
      · obtain ⟨b, off, rfl, _, hc⟩ := h.at_ hlt
        obtain ⟨b', off', rfl, _, hc'⟩ := h'.at_ hlt
        unfold bv at hc hc'
        have e1 : l.take (i + 1) = l.take i ++ [l.getD i 0] := by
          rw [List.take_succ_eq_append_getElem (by omega)]
          simp [List.getD, show i < l.length by omega]
        have e2 : l'.take (i + 1) = l'.take i ++ [l'.getD i 0] := by
          rw [List.take_succ_eq_append_getElem (by omega)]
          simp [List.getD, show i < l'.length by omega]
        generalize l.getD i 0 = x at *
        generalize l'.getD i 0 = y at *
        by_cases hxy : x = y
        · subst hxy
          have hb : ((x.toNat : Int) != (x.toNat : Int)) = false := by simp
          go_wp2_with fail
          go_region
          all_goals
            go_wp2_with fail
            go_roundw
            case rel => exact ⟨i + 1, by omega, by go_num, by rw [e1, e2, hs], q + 1, rfl⟩
            case measure => simp [intOf]; omega
        · have hb : ((x.toNat : Int) != (y.toNat : Int)) = true := by
            simp only [bne_iff_ne, ne_eq]
            intro e
            exact hxy (BitVec.eq_of_toNat_eq (by omega))
          have hll : l ≠ l' := by
            rintro rfl
            rw [e1] at e2
            simp at e2
            exact hxy e2
          go_wp2_with fail
          go_region
          all_goals
            go_wp2_with fail
            go_ret
            exact ⟨ret_bool (by simp [hll]), q + 1, rfl⟩
      · obtain rfl : i = n := by omega
        have hll : l = l' := by
          rw [List.take_of_length_le (by omega), List.take_of_length_le (by omega)] at hs
          exact hs
        go_wp2_with fail
        go_ret
        exact ⟨ret_bool (by simp [hll]), q, rfl⟩
  · have hne2 : ((n : Int) != (n' : Int)) = true := by
      simp only [bne_iff_ne, ne_eq]
      omega
    go_enter Try.func21, Try.ntmps21
    go_wp2_with fail
    go_ret
    refine ⟨ret_bool ?_, 0, rfl⟩
    symm
    simp only [decide_eq_false_iff_not]
    rintro rfl
    omega

/-- A row with its first bytes written. -/
theorem BSl.row {W : World} {base g k c : Nat} {xs : List Value} (h : W.ownsRow base 5 1 (.slice (some ⟨g, 0, none⟩) k c) k xs) (l : List (BitVec 8)) (hl : xs = l.map bv) : BSl W W.heap.size (some ⟨g, 0, none⟩) k l := by
  have hlen : l.length = k := by have := h.1; rw [hl, List.length_map] at this; omega
  refine ⟨hlen, fun hs => ⟨g, 0, rfl, (h.lt g rfl).2, fun j hj => ?_⟩⟩
  rw [Nat.zero_add, h.cellAt j (by omega), hl, List.getElem?_map, List.getElem?_eq_getElem (by omega)]
  simp [List.getD, show j < l.length by omega]

/-- i bytes of a number are written, the rest is nought. -/
def partly (n k i : Nat) : List (BitVec 8) := Num.le n i ++ List.replicate (k - i) 0

theorem le_snoc (n i : Nat) : Num.le n (i + 1) = Num.le n i ++ [BitVec.ofNat 8 (n / 256 ^ i)] := by
  induction i generalizing n with
  | zero => simp [Num.le]
  | succ i ih =>
    have h := ih (n / 256)
    have e : Num.le n (i + 1 + 1) = BitVec.ofNat 8 n :: Num.le (n / 256) (i + 1) := rfl
    rw [e, h, Nat.div_div_eq_div_mul, Nat.pow_succ, Nat.mul_comm 256]
    rfl

theorem partly_next (n k i : Nat) (h : i < k) : (partly n k i).set i (BitVec.ofNat 8 (n / 256 ^ i)) = partly n k (i + 1) := by
  unfold partly
  obtain ⟨r, hr⟩ : ∃ r, k - i = r + 1 := ⟨k - i - 1, by omega⟩
  rw [le_snoc, hr, show k - (i + 1) = r by omega, List.replicate_succ, List.set_append_right _ _ (by rw [Num.le_length]; exact Nat.le_refl _), Num.le_length, Nat.sub_self]
  simp

set_option maxRecDepth 100000 in
theorem number_any (a : Option Addr) (n c : Nat) (l : List (BitVec 8)) (w : World) {B : Nat} (h : BSl w B a n l) (hn : n ≤ 8) :
    Calls Try.prog 41 #[.slice a n c] w fun e w' => e = .returned (.int .u64 (Num.num l : Nat)) ∧ w = w' := by
  go_enter Try.func41, Try.ntmps41
  go_wp2_with fail
  go_loopw [3, 4] (fun nv iv wr => ∃ i : Nat, i ≤ n ∧ iv = .int .i64 ((i : Int) - 1) ∧ nv = .int .u64 ((Num.num (l.drop i) : Nat) : Int) ∧ wr = w)
    (fun _ iv _ => (intOf iv + 1).toNat)
  case atStart => exact ⟨n, by omega, rfl, by rw [List.drop_of_length_le (by have := h.1; omega)]; rfl, rfl⟩
  case round =>
    obtain ⟨i, hi, rfl, rfl, rfl⟩ := hrel
    cases i with
    | zero =>
      go_wp2_with fail
      go_ret
      exact ⟨ret_int (by rw [List.drop_zero]), rfl⟩
    | succ i =>
      obtain ⟨b, off, rfl, _, hc⟩ := h.at_ (show i < n by omega)
      have hlen := h.1
      have hnext : Num.num (l.drop i) = (l.getD i 0).toNat + 256 * Num.num (l.drop (i + 1)) := by
        rw [List.drop_eq_getElem_cons (by omega)]
        simp [Num.num, List.getD, show i < l.length by omega]
      have hv : Num.num (l.drop (i + 1)) < 72057594037927936 := by
        have h1 := Num.num_lt (l.drop (i + 1))
        have h2 : 256 ^ (l.drop (i + 1)).length ≤ 256 ^ 7 := Nat.pow_le_pow_right (by omega) (by rw [List.length_drop]; omega)
        have h3 : (256 : Nat) ^ 7 = 72057594037927936 := by decide
        omega
      unfold bv at hc
      have hx := (l.getD i 0).isLt
      generalize l.getD i 0 = x at *
      generalize Num.num (l.drop (i + 1)) = v at *
      go_wp2_with fail
      go_roundw
      case rel => exact ⟨i, by omega, rfl, vint (by rw [hnext]; omega), trivial⟩
      case measure => simp [intOf]

end Go.Proofs.Ytpkfjnhjcdcoaaa
