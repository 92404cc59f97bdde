/-
  corncribref04.Digits: the digits of any number.
-/
import Derived.Test.YtcdlmpiihcopaaaDoorHdNames
import Derived.Test.YtcdlmpiihcopaaaDoorNdlSame
import Derived.Lib.ItoaMem
namespace Go.Proofs.YtcdlmpiihcopaaaDoor
open Go.RowKit
set_option linter.unusedVariables false

theorem dig_small {n : Nat} (h : n < 10) : Lib.decDigits n = [UInt8.ofNat (48 + n)] := by rw [Lib.decDigits, dif_pos h]
theorem dig_big {n : Nat} (h : ¬ n < 10) : Lib.decDigits n = Lib.decDigits (n / 10) ++ Lib.decDigits (n % 10) := by
  rw [Lib.decDigits, dif_neg h, dig_small (n := n % 10) (by omega)]
theorem one_digit {n : Nat} (h : n < 10) : bstr [BitVec.ofNat 8 (48 + n)] = bs (Lib.decDigits n) := by
  rw [dig_small h]
  unfold bstr bs
  apply ByteArray.ext
  have h' : n = 0 ∨ n = 1 ∨ n = 2 ∨ n = 3 ∨ n = 4 ∨ n = 5 ∨ n = 6 ∨ n = 7 ∨ n = 8 ∨ n = 9 := by omega
  rcases h' with rfl | rfl | rfl | rfl | rfl | rfl | rfl | rfl | rfl | rfl <;> rfl
set_option maxRecDepth 100000 in
set_option maxHeartbeats 4000000 in
theorem digits_nat (n : Nat) : ∀ w : World, n ≤ 9223372036854775807 → Calls Tryd.prog 12 #[.int .i64 (n : Int)] w fun e w' => e = .returned (.string (bs (Lib.decDigits n))) ∧ Below w.heap.size w w' := by
  induction n using Nat.strongRecOn with
  | ind n ih =>
    intro w hmax
    have b0 : decide ((n : Int) < 0) = false := decide_eq_false (by omega)
    by_cases hs : n < 10
    · have b1 : decide ((9 : Int) < (n : Int)) = false := decide_eq_false (by omega)
      have hnz : (n : Int) ≤ 9 := by omega
      obtain ⟨d, hd⟩ : ∃ d : Nat, 48 + n = d := ⟨_, rfl⟩
      have hdz : (48 : Int) + (n : Int) = (d : Int) := by omega
      have hd57 : (d : Int) ≤ 57 := by omega
      have K := Blk.made w 5 #[.int .u8 (d : Int)]
      have hcv := conv_any 1 (K.bytes [BitVec.ofNat 8 d] (by show [Value.int .u8 (d : Int)] = [bv (BitVec.ofNat 8 d)]; unfold bv; rw [BitVec.toNat_ofNat, show d % 2 ^ 8 = d from by omega]) K.lt (show [BitVec.ofNat 8 d].length = 1 from rfl))
      rw [← hd, one_digit hs, hd] at hcv
      have HB := Lib.hid ((Below.refl w.heap.size w).alloc (Nat.le_refl _) (.cells #[.int .u8 (d : Int)] 5))
      clear ih hs hmax hd K
      generalize bs (Lib.decDigits n) = s at *
      go_enter Tryd.func12, Tryd.ntmps12
      go_wp2_with fail
      go_ret
      exact ⟨rfl, HB.out⟩
    · have b1 : decide ((9 : Int) < (n : Int)) = true := decide_eq_true (by omega)
      obtain ⟨p, hp⟩ : ∃ p : Nat, n / 10 = p := ⟨_, rfl⟩
      obtain ⟨q, hq⟩ : ∃ q : Nat, n % 10 = q := ⟨_, rfl⟩
      have hpz : (n : Int) / 10 = (p : Int) := by omega
      have hpt : (n : Int).tdiv 10 = (p : Int) := by rw [Int.tdiv_eq_ediv_of_nonneg (by omega)]; exact hpz
      have hqz : (n : Int) % 10 = (q : Int) := by omega
      have hqt : (n : Int).tmod 10 = (q : Int) := by rw [Int.tmod_eq_emod_of_nonneg (by omega)]; exact hqz
      have hwp : wrap64 (p : Int) = (p : Int) := by unfold wrap64; omega
      have hwq : (q : Int) ≤ 9 := by omega
      have E1 := Lib.hid fun W => ih p (by omega) W (by omega)
      have E2 := Lib.hid fun W => ih q (by omega) W (by omega)
      have HE := Lib.hid (show bs (Lib.decDigits p) ++ bs (Lib.decDigits q) = bs (Lib.decDigits n) from by rw [bs_append, ← hp, ← hq, ← dig_big hs])
      have l1 : (bs (Lib.decDigits p)).size ≤ 20 := by
        have := dig_len 19 p (by omega)
        unfold bs; show (Lib.decDigits p).toArray.size ≤ 20
        simpa using this
      have l2 : (bs (Lib.decDigits q)).size ≤ 20 := by
        have := dig_len 19 q (by omega)
        unfold bs; show (Lib.decDigits q).toArray.size ≤ 20
        simpa using this
      clear ih hs hmax hp hq
      generalize bs (Lib.decDigits n) = s at *
      generalize bs (Lib.decDigits p) = s1 at *
      generalize bs (Lib.decDigits q) = s2 at *
      go_enter Tryd.func12, Tryd.ntmps12
      go_wp2_with fail
      refine (E1.out _).mono ?_
      rintro e w1 ⟨rfl, B1⟩
      have HB1 := Lib.hid B1
      clear B1
      go_wp2_with fail
      refine (E2.out _).mono ?_
      rintro e w2 ⟨rfl, B2⟩
      have HB2 := Lib.hid (HB1.out.trans (B2.mono HB1.out.size))
      clear B2
      go_wp2_with fail
      go_ret
      exact ⟨by rw [← HE.out]; rfl, HB2.out⟩
theorem bs_size (l : List UInt8) (k : Nat) (h : l.length ≤ k) : (bs l).size ≤ k := by
  unfold bs
  show l.toArray.size ≤ k
  simpa using h
set_option maxRecDepth 100000 in
set_option maxHeartbeats 4000000 in
theorem digits_neg (k : Nat) : ∀ (n : Int) (w : World), n = -(k : Int) → 1 ≤ k → k ≤ 9223372036854775808 → Calls Tryd.prog 12 #[.int .i64 n] w fun e w' => e = .returned (.string (bs (45 :: Lib.decDigits k))) ∧ Below w.heap.size w w' := by
  induction k using Nat.strongRecOn with
  | ind k ih =>
    intro n w hn hk hmax
    have b0 : decide (n < 0) = true := decide_eq_true (by omega)
    by_cases hs : k < 10
    · have b1 : decide (n < -9) = false := decide_eq_false (by omega)
      have hn1 : -9 ≤ n := by omega
      have hn2 : n ≤ 0 := by omega
      have hneg : -n = (k : Int) := by omega
      have E1 := Lib.hid fun W => digits_nat k W (by omega)
      have HE := Lib.hid (show (⟨#[45]⟩ : ByteArray) ++ bs (Lib.decDigits k) = bs (45 :: Lib.decDigits k) from by show bs [45] ++ _ = _; rw [bs_append]; rfl)
      have l1 : (bs (Lib.decDigits k)).size ≤ 20 := bs_size _ _ (dig_len 19 k (by omega))
      clear ih hs hmax hn hk
      generalize bs (45 :: Lib.decDigits k) = s at *
      generalize bs (Lib.decDigits k) = s1 at *
      go_enter Tryd.func12, Tryd.ntmps12
      go_wp2_with fail
      refine (E1.out _).mono ?_
      rintro e w1 ⟨rfl, B1⟩
      have HB1 := Lib.hid B1
      clear B1
      go_wp2_with fail
      go_ret
      exact ⟨by rw [← HE.out]; rfl, HB1.out⟩
    · have b1 : decide (n < -9) = true := decide_eq_true (by omega)
      obtain ⟨p, hp⟩ : ∃ p : Nat, k / 10 = p := ⟨_, rfl⟩
      obtain ⟨q, hq⟩ : ∃ q : Nat, k % 10 = q := ⟨_, rfl⟩
      obtain ⟨n1, hn1⟩ : ∃ n1 : Int, n.tdiv 10 = n1 := ⟨_, rfl⟩
      obtain ⟨n2, hn2⟩ : ∃ n2 : Int, n.tmod 10 = n2 := ⟨_, rfl⟩
      have e1 : n1 = -(p : Int) := by rw [← hn1, hn, Int.neg_tdiv, Int.tdiv_eq_ediv_of_nonneg (by omega)]; omega
      have e2 : n2 = -(q : Int) := by rw [← hn2, hn, Int.neg_tmod, Int.tmod_eq_emod_of_nonneg (by omega)]; omega
      have hneg : -n2 = (q : Int) := by omega
      have h20 : n2 ≤ 0 := by omega
      have h29 : -9 ≤ n2 := by omega
      have E1 := Lib.hid fun W => ih p (by omega) n1 W e1 (by omega) (by omega)
      have E2 := Lib.hid fun W => digits_nat q W (by omega)
      have HE := Lib.hid (show bs (45 :: Lib.decDigits p) ++ bs (Lib.decDigits q) = bs (45 :: Lib.decDigits k) from by rw [bs_append, ← hp, ← hq, List.cons_append, ← dig_big hs])
      have l1 : (bs (45 :: Lib.decDigits p)).size ≤ 21 := bs_size _ _ (by have := dig_len 19 p (by omega); rw [List.length_cons]; omega)
      have l2 : (bs (Lib.decDigits q)).size ≤ 20 := bs_size _ _ (dig_len 19 q (by omega))
      have hw1 : wrap64 n1 = n1 := by unfold wrap64; omega
      clear ih hs hmax hp hq hn hk e1 e2
      generalize bs (45 :: Lib.decDigits k) = s at *
      generalize bs (45 :: Lib.decDigits p) = s1 at *
      generalize bs (Lib.decDigits q) = s2 at *
      go_enter Tryd.func12, Tryd.ntmps12
      go_wp2_with fail
      refine (E1.out _).mono ?_
      rintro e w1 ⟨rfl, B1⟩
      have HB1 := Lib.hid B1
      clear B1
      go_wp2_with fail
      refine (E2.out _).mono ?_
      rintro e w2 ⟨rfl, B2⟩
      have HB2 := Lib.hid (HB1.out.trans (B2.mono HB1.out.size))
      clear B2
      go_wp2_with fail
      go_ret
      exact ⟨by rw [← HE.out]; rfl, HB2.out⟩
/-- The digits of any number. -/
theorem digits_any (n : Int) (h0 : -9223372036854775808 ≤ n) (h1 : n ≤ 9223372036854775807) (w : World) : Calls Tryd.prog 12 #[.int .i64 n] w fun e w' => e = .returned (.string (bs (Lib.itoa n))) ∧ Below w.heap.size w w' := by
  by_cases hn : n < 0
  · obtain ⟨k, hk⟩ : ∃ k : Nat, n = -(k : Int) := ⟨n.natAbs, by omega⟩
    have := digits_neg k n w hk (by omega) (by omega)
    rwa [← Lib.itoa_neg k (by omega), ← hk] at this
  · obtain ⟨k, rfl⟩ : ∃ k : Nat, n = (k : Int) := ⟨n.toNat, by omega⟩
    have := digits_nat k w (by omega)
    rwa [← Lib.itoa_nonneg] at this
end Go.Proofs.YtcdlmpiihcopaaaDoor
