/-
  The walk of corncriblaw16.OnceKeys.
-/
import Derived.Test.YtboadalojimdlaaOnceKeysLaw
namespace Go.Proofs.Ytboadalojimdlaa
open Go.RowKit

set_option maxRecDepth 100000 in
set_option maxHeartbeats 1000000 in
theorem keys_walk (most n : Nat) (w : World) (hm : most < 256) (hn : n < 256) :
    Calls Try.prog 6 #[.int .u8 most, .int .u8 n] w fun e w' => e = .returned (.bool true) ∧ Below w.heap.size w w' := by
  go_enter Try.func6, Try.ntmps6
  go_wp2_with fail
  refine (once_alive _).mono ?_
  rintro e w1 ⟨rfl, B1⟩
  go_wp2_with fail
  obtain ⟨k, hk, hk0, hk1⟩ : ∃ k : Nat, k = 1 + most % 40 ∧ 1 ≤ k ∧ k ≤ 40 := ⟨_, rfl, by omega, by omega⟩
  have e1 : (1 : Int) + (most : Int) % 40 = k := by omega
  rw [e1]
  have HK := Lib.hid hk
  have HK0 := Lib.hid hk0
  have HK1 := Lib.hid hk1
  clear e1 hk hk0 hk1
  refine (new_ok _ _ (by have := HK0.out; omega) (by have := HK1.out; omega)).mono ?_
  rintro e w2 ⟨rfl, hT2, B2⟩
  have HB2 := Lib.hid (B1.trans (B2.mono B1.size))
  have HG := Lib.hid B1.size
  generalize w1.heap.size = b at *
  have HT2 := Lib.hid hT2
  clear B1 B2 hT2
  go_wp2_with fail
  obtain ⟨N, hN, hN60⟩ : ∃ N : Nat, N = n % 60 ∧ N < 60 := ⟨_, rfl, by omega⟩
  have HN60 := Lib.hid hN60
  have HE2 := Lib.hid (show (n : Int) % 60 = N from by omega)
  clear hN hN60
  go_loopw [8, 9] (fun iv _ wr => ∃ (i : Nat) (L : List MsgR), i ≤ N ∧ iv = .int .i64 i ∧ KL (min i k) L ∧ TBl wr (b + 1) b k L ∧ Below w.heap.size w wr)
    (fun iv _ _ => N - (intOf iv).toNat)
  case atStart => exact ⟨0, [], by omega, rfl, by rw [Nat.zero_min]; rfl, HT2.out, HB2.out⟩
  case round =>
    obtain ⟨i, L, hi, rfl, hL, hT, hB⟩ := hrel
    have HKL := Lib.hid hL
    have HT := Lib.hid hT
    have HB := Lib.hid hB
    clear hL hT hB HT2 HB2
    by_cases hlt : i < N
    · have d0 : decide ((i : Int) < (n : Int) % 60) = true := decide_eq_true (by rw [HE2.out]; omega)
      have hi60 : i < 60 := by have := HN60.out; omega
      by_cases hik : i < k
      · have E := Lib.hid (keep_any _ (kM i none 0) HT.out (BSl.nil _ _ _) (Nat.zero_le _) (Nat.zero_le _))
        rw [HKL.out.code hi60, if_pos hik] at E
        have HI := Lib.hid hi60
        have b0 : decide ((i : Int) < (k : Int)) = true := decide_eq_true (by omega)
        have HIK := Lib.hid hik
        clear hik
        go_wp2_with fail
        refine E.out.mono ?_
        rintro e w3 (⟨hne, _⟩ | ⟨_, rfl, hg3, av, cv, _, ho, hT3⟩)
        · exact absurd rfl hne
        have HB3 := Lib.hid (HB.out.grown hg3 HB.out.size (fun j e => by injection e with e; have := HG.out; omega))
        have HT3 := Lib.hid (show TBl w3 (b + 1) b k (L ++ [kM i av cv]) from hT3)
        clear ho hT3 hg3 E HT HB
        go_wp2_with fail
        refine (code_c 0 _ (by decide)).mono ?_
        rintro e w5 ⟨rfl, rfl⟩
        go_wp2_with fail
        go_roundw
        case rel => exact ⟨i + 1, L ++ [kM i av cv], by omega, by go_num, by rw [show min (i + 1) k = min i k + 1 from by have := HIK.out; omega]; exact ⟨L, av, cv, HKL.out, by rw [show min i k = i from by have := HIK.out; omega]⟩, HT3.out, HB3.out⟩
        case measure => simp [intOf]; omega
      · have E := Lib.hid (keep_any _ (kM i none 0) HT.out (BSl.nil _ _ _) (Nat.zero_le _) (Nat.zero_le _))
        rw [HKL.out.code hi60, if_neg hik] at E
        have HI := Lib.hid hi60
        have b0 : decide ((i : Int) < (k : Int)) = false := decide_eq_false (by omega)
        have b1 : decide ((k : Int) ≤ (i : Int)) = true := decide_eq_true (by omega)
        have HIK := Lib.hid hik
        clear hik
        go_wp2_with fail
        refine E.out.mono ?_
        rintro e w3 (⟨_, rfl, B3⟩ | ⟨hne, _⟩)
        rotate_left
        · exact absurd hne (by decide)
        have HB3 := Lib.hid (HB.out.trans (B3.mono HB.out.size))
        have HT3 := Lib.hid (HT.out.on B3)
        clear B3 E HT HB
        go_wp2_with fail
        refine (code_c 11 _ (by decide)).mono ?_
        rintro e w5 ⟨rfl, rfl⟩
        go_wp2_with fail
        go_roundw
        case rel => exact ⟨i + 1, L, by omega, by go_num, by rw [show min (i + 1) k = min i k from by have := HIK.out; omega]; exact HKL.out, HT3.out, HB3.out⟩
        case measure => simp [intOf]; omega
    · obtain rfl : i = N := by omega
      have d0 : decide ((i : Int) < (n : Int) % 60) = false := decide_eq_false (by rw [HE2.out]; omega)
      go_wp2_with fail
      clear d0
      go_loopw [10, 11, 12] (fun iv _ _ wr => ∃ (j : Nat), j ≤ i ∧ iv = .int .i64 j ∧ TBl wr (b + 1) b k L ∧ Below w.heap.size w wr)
        (fun iv _ _ _ => i - (intOf iv).toNat)
      case atStart => exact ⟨0, by omega, rfl, HT.out, HB.out⟩
      case round =>
        obtain ⟨j, hj, rfl, hT, hB⟩ := hrel
        have HT := Lib.hid hT
        have HB := Lib.hid hB
        clear hT hB
        by_cases hlt : j < i
        · have d1 : decide ((j : Int) < (n : Int) % 60) = true := decide_eq_true (by rw [HE2.out]; omega)
          have hj60 : j < 60 := by have := HN60.out; omega
          by_cases hjk : j < k
          · obtain ⟨av, cv, hf⟩ := HKL.out.yes j (by omega)
            have E := Lib.hid (show Calls Try.prog 24 #[.pointer (some ⟨b + 1, 0, none⟩), .int .i64 ((j % 7 : Nat) : Int), .int .u64 ((j / 7 : Nat) : Int)] wr fun e w' => ∃ av cv, e = .returned (.tuple #[(kM j av cv).vals, errc 0]) ∧ Below wr.heap.size wr w' from
              (find_yes _ _ _ HT.out hf (BSl.nil _ _ _) (Nat.zero_le _) (Nat.zero_le _)).mono (by rintro e w3 ⟨av, cv, rfl, _, _, B⟩; exact ⟨av, cv, rfl, B⟩))
            have b0 : decide ((j : Int) < (k : Int)) = true := decide_eq_true (by omega)
            clear hf
            go_wp2_with fail
            refine E.out.mono ?_
            rintro e w4 ⟨av4, cv4, rfl, B4⟩
            have HB4 := Lib.hid (HB.out.trans (B4.mono HB.out.size))
            have HT4 := Lib.hid (HT.out.on B4)
            unfold kM MsgR.vals
            dsimp only
            clear B4 E HT HB
            go_upto_region 15 with fail
            obtain ⟨w5, hw5, hB5, hk5⟩ : ∃ X, w4.alloc (.cells #[.int .i64 0, .int .i64 ((j : Int) % 7), .int .i64 5, .int .i64 1, .int .i64 0, .int .u64 ((j : Int) / 7), .int .i64 j, .bool false, .int .u64 0, .int .u32 0, .bool false, .slice av4 0 cv4] 53) = X ∧ Below w4.heap.size w4 X ∧ Blk X w4.heap.size 53 #[.int .i64 0, .int .i64 ((j : Int) % 7), .int .i64 5, .int .i64 1, .int .i64 0, .int .u64 ((j : Int) / 7), .int .i64 j, .bool false, .int .u64 0, .int .u32 0, .bool false, .slice av4 0 cv4] := ⟨_, rfl, (Below.refl _ _).alloc (Nat.le_refl _) _, Blk.made _ _ _⟩
            have k6 : w5.cell? ⟨w4.heap.size, 6, none⟩ = some (.int .i64 j) := hk5.cell 6
            have HB5 := Lib.hid (HB4.out.trans (hB5.mono HB4.out.size))
            have HT5 := Lib.hid (HT4.out.on hB5)
            rw [hw5]
            clear hw5 hB5 hk5 HB4 HT4
            go_wp2_with fail
            refine (code_c 0 _ (by decide)).mono ?_
            rintro e w6 ⟨rfl, rfl⟩
            go_wp2_with fail
            go_roundw
            case rel => exact ⟨j + 1, by omega, by go_num, HT5.out, HB5.out⟩
            case measure => simp [intOf]; omega
          · have hf := HKL.out.no j (by omega)
            have E := Lib.hid (show Calls Try.prog 24 #[.pointer (some ⟨b + 1, 0, none⟩), .int .i64 ((j % 7 : Nat) : Int), .int .u64 ((j / 7 : Nat) : Int)] wr fun e w' => e = .returned (.tuple #[mNone.vals, errc 6]) ∧ Below wr.heap.size wr w' from
              find_no _ _ _ HT.out hf)
            have b0 : decide ((j : Int) < (k : Int)) = false := decide_eq_false (by omega)
            have b1 : decide ((k : Int) ≤ (j : Int)) = true := decide_eq_true (by omega)
            have hkj : k ≤ j := by omega
            clear hf
            go_wp2_with fail
            refine E.out.mono ?_
            rintro e w4 ⟨rfl, B4⟩
            have HB4 := Lib.hid (HB.out.trans (B4.mono HB.out.size))
            have HT4 := Lib.hid (HT.out.on B4)
            rw [show mNone.vals = .agg #[.int .i64 0, .int .i64 0, .int .i64 0, .int .i64 0, .int .i64 0, .int .u64 0, .int .i64 0, .bool false, .int .u64 0, .int .u32 0, .bool false, .slice none 0 0] from rfl]
            clear B4 E HT HB
            go_upto_region 15 with fail
            obtain ⟨w5, hw5, hB5⟩ : ∃ X, w4.alloc (.cells #[.int .i64 0, .int .i64 0, .int .i64 0, .int .i64 0, .int .i64 0, .int .u64 0, .int .i64 0, .bool false, .int .u64 0, .int .u32 0, .bool false, .slice none 0 0] 53) = X ∧ Below w4.heap.size w4 X := ⟨_, rfl, (Below.refl _ _).alloc (Nat.le_refl _) _⟩
            have HB5 := Lib.hid (HB4.out.trans (hB5.mono HB4.out.size))
            have HT5 := Lib.hid (HT4.out.on hB5)
            rw [hw5]
            clear hw5 hB5 HB4 HT4
            go_wp2_with fail
            refine (code_c 6 _ (by decide)).mono ?_
            rintro e w6 ⟨rfl, rfl⟩
            go_wp2_with fail
            go_roundw
            case rel => exact ⟨j + 1, by omega, by go_num, HT5.out, HB5.out⟩
            case measure => simp [intOf]; omega
        · obtain rfl : j = i := by omega
          have d1 : decide ((j : Int) < (n : Int) % 60) = false := decide_eq_false (by rw [HE2.out]; omega)
          go_wp2_with fail
          refine (len_any _ HT.out).mono ?_
          rintro e w6 ⟨rfl, rfl⟩
          have e2 := HE2.out
          rw [HKL.out.len]
          by_cases hkj : k ≤ j
          · rw [Nat.min_eq_right hkj]
            go_wp2_with fail
            go_ret
            exact ⟨rfl, HB.out⟩
          · rw [Nat.min_eq_left (by omega)]
            have hjk : j ≤ k := by omega
            have hjk2 : j < k := by omega
            go_wp2_with fail
            go_ret
            exact ⟨rfl, HB.out⟩
theorem keys_all (most n : Int) (w : World) (h0 : 0 ≤ most) (h1 : most ≤ 255) (h2 : 0 ≤ n) (h3 : n ≤ 255) :
    Calls Try.prog 6 #[.int .u8 most, .int .u8 n] w fun e w' => e = .returned (.bool true) ∧ Below w.heap.size w w' := by
  obtain ⟨m, rfl⟩ := Int.eq_ofNat_of_zero_le h0
  obtain ⟨k, rfl⟩ := Int.eq_ofNat_of_zero_le h2
  exact keys_walk m k w (by omega) (by omega)
end Go.Proofs.Ytboadalojimdlaa
