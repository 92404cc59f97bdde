/-
  The document's answer for layer 2 (corncribref02): Step, Of, Tail.
-/
import Derived.Test.YtpkfjnhjcdcoaaaSeal
namespace Go.Proofs.Ytpkfjnhjcdcoaaa
open Go.RowKit

theorem one_bit (r : BitVec 32) (b : Bool) : Crc.one (r ^^^ (if b then 1#32 else 0#32)) = (if (r.getLsbD 0 != b) then (r >>> 1) ^^^ 0x82F63B78#32 else r >>> 1) := by
  have hs : ((if b then 1#32 else 0#32 : BitVec 32)) >>> 1 = 0#32 := by cases b <;> decide
  unfold Crc.one
  rw [BitVec.ushiftRight_xor_distrib, hs, BitVec.xor_zero, BitVec.getLsbD_xor]
  cases h : r.getLsbD 0 <;> cases b <;> simp

theorem step_ref (r : BitVec 32) (b : Bool) (w : World) :
    Calls Try.prog 69 #[.int .u32 (r.toNat : Int), .int .u32 (if b then 1 else 0)] w fun e w' => e = .returned (.int .u32 ((Crc.one (r ^^^ (if b then 1#32 else 0#32))).toNat : Int)) ∧ w = w' := by
  rw [one_bit]
  have hr := r.isLt
  have hbit : (r.getLsbD 0) = ((r.toNat : Int) % 2 == 1) := by
    rw [BitVec.getLsbD]
    rw [Bool.eq_iff_iff, Nat.testBit_zero, beq_iff_eq, decide_eq_true_eq]
    omega
  have hsh : (r.toNat : Int) / (2 : Int) = ((r >>> 1).toNat : Int) := by
    rw [BitVec.toNat_ushiftRight, Nat.shiftRight_eq_div_pow]
    omega
  have hx : bits .xor .u32 ((r >>> 1).toNat : Int) 2197175160 = (((r >>> 1) ^^^ 0x82F63B78#32).toNat : Int) := xor32 (r >>> 1) 0x82F63B78#32
  have hsl := (r >>> 1).isLt
  rw [hbit]
  generalize (r >>> 1) ^^^ 0x82F63B78#32 = y at *
  generalize r >>> 1 = z at *
  clear hbit
  cases hpar : ((r.toNat : Int) % 2 == 1) <;> cases b
  all_goals
    go_enter Try.func69, Try.ntmps69
    go_wp2_with fail
    go_ret
    first | exact ⟨rfl, rfl⟩ | exact ⟨ret_int hx, rfl⟩ | exact ⟨ret_int hsh, rfl⟩

/-- A byte's bits, k of them gone. -/
theorem bit_of (c : BitVec 8) (k : Nat) : ((c.toNat / 2 ^ k : Nat) : Int) % 2 = (if c.getLsbD k then 1 else 0) := by
  have h : c.getLsbD k = decide (c.toNat / 2 ^ k % 2 = 1) := by
    rw [BitVec.getLsbD, Nat.testBit_eq_decide_div_mod_eq]
  rw [h]
  by_cases h1 : c.toNat / 2 ^ k % 2 = 1
  · rw [if_pos (by simpa using h1)]; omega
  · rw [if_neg (by simpa using h1)]; omega

set_option maxRecDepth 100000 in
set_option maxHeartbeats 2000000 in
theorem of_ref (a : Option Addr) (n c : Nat) (l : List (BitVec 8)) (w : World) {B : Nat} (h : BSl w B a n l) (hn : n ≤ 1099511627776) :
    Calls Try.prog 42 #[.slice a n c] w fun e w' => e = .returned (.int .u32 ((Crc.of l).toNat : Int)) ∧ w = w' := by
  have hlen := h.1
  go_enter Try.func42, Try.ntmps42
  go_wp2_with fail
  go_loopw [3, 4] (fun rv iv wr => ∃ i : Nat, i ≤ n ∧ iv = .int .i64 i ∧ rv = .int .u32 ((Crc.run (~~~ 0#32) (l.take i)).toNat : Int) ∧ wr = w) (fun _ iv _ => n - (intOf iv).toNat)
  case atStart => exact ⟨0, by omega, rfl, rfl, rfl⟩
  case round =>
    obtain ⟨i, hi, rfl, rfl, rfl⟩ := hrel
    by_cases hlt : i < n
    · obtain ⟨b, off, rfl, hb, hc⟩ := h.at_ hlt
      have hnext : l.take (i + 1) = l.take i ++ [l.getD i 0] := by
        rw [List.take_succ_eq_append_getElem (by omega)]
        simp [List.getD, show i < l.length by omega]
      have hrun := congrArg (Crc.run (~~~ 0#32)) hnext
      rw [Crc.run_snoc] at hrun
      unfold bv at hc
      generalize l.getD i 0 = x at *
      generalize Crc.run (~~~ 0#32) (l.take i) = r at *
      have h8 := Crc.steps8 r x
      clear hnext
      go_wp2_with fail
      go_loopw [3, 5, 6] (fun rv xv kv wq => ∃ k : Nat, k ≤ 8 ∧ kv = .int .i64 k ∧ xv = .int .u8 ((x.toNat / 2 ^ k : Nat) : Int) ∧ rv = .int .u32 ((Crc.steps r x k).toNat : Int) ∧ wq = wr) (fun _ _ kv _ => 8 - (intOf kv).toNat)
      case atStart => exact ⟨0, by omega, rfl, by simp, rfl, rfl⟩
      case round =>
        obtain ⟨k, hk, rfl, rfl, rfl, rfl⟩ := hrel
        by_cases hk8 : k < 8
        · have hst : Crc.steps r x (k + 1) = Crc.one (Crc.steps r x k ^^^ (if x.getLsbD k then 1#32 else 0#32)) := rfl
          have hbit := bit_of x k
          have hdiv : x.toNat / 2 ^ (k + 1) = x.toNat / 2 ^ k / 2 := by rw [Nat.pow_succ, Nat.div_div_eq_div_mul]
          have hle : x.toNat / 2 ^ k ≤ x.toNat := Nat.div_le_self _ _
          have hx := x.isLt
          generalize x.toNat / 2 ^ k = q at *
          generalize Crc.steps r x k = s at *
          generalize x.getLsbD k = bb at *
          have S := Lib.hid (step_ref s bb wr)
          have HS := Lib.hid hst
          have HD := Lib.hid hdiv
          clear hst hdiv h8 hrun
          have hs := s.isLt
          cases bb
          all_goals
            simp only [if_true, Bool.false_eq_true, if_false] at hbit S
            go_wp2_with fail
            refine S.out.mono ?_
            rintro e w1 ⟨rfl, rfl⟩
            go_wp2_with fail
            refine ⟨⟨k + 1, by omega, by go_num, by rw [HD.out]; exact vint (by omega), by rw [HS.out]; simp, trivial⟩, ?_⟩
            simp [intOf]; omega
        · obtain rfl : k = 8 := by omega
          rw [h8]
          go_wp2_with fail
          refine ⟨⟨i + 1, by omega, by go_num, by rw [hrun], trivial⟩, ?_⟩
          simp [intOf]; omega
    · obtain rfl : i = n := by omega
      rw [List.take_of_length_le (by omega)]
      have hof : ((Crc.of l).toNat : Int) = 4294967295 - ((Crc.run (~~~ 0#32) l).toNat : Int) := by
        show (((~~~ (Crc.run (~~~ 0#32) l)) : BitVec 32).toNat : Int) = _
        rw [BitVec.toNat_not]
        have := (Crc.run (~~~ 0#32) l).isLt
        omega
      have hr := (Crc.run (~~~ 0#32) l).isLt
      generalize Crc.run (~~~ 0#32) l = r at *
      have HO := Lib.hid hof
      clear hof
      go_wp2_with fail
      go_ret
      exact ⟨ret_int HO.out.symm, rfl⟩

end Go.Proofs.Ytpkfjnhjcdcoaaa
