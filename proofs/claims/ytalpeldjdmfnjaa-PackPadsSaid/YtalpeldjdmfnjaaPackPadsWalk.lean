/-
  The walk of corncriblaw01.PackPads.
-/
import Derived.Test.YtalpeldjdmfnjaaZero
namespace Go.Proofs.Ytalpeldjdmfnjaa
open Go.RowKit

set_option maxRecDepth 100000 in
set_option maxHeartbeats 2000000 in
theorem pads_walk (n : Int) (a : Option Addr) (m c : Nat) (l : List (BitVec 8)) (w : World) (h0 : -9223372036854775808 ≤ n) (h1 : n ≤ 9223372036854775807) (h : BSl w w.heap.size a m l) :
    Calls Try.prog 11 #[.int .i64 n, .slice a m c] w fun e w' => e = .returned (.bool true) ∧ Below w.heap.size w w' := by
  by_cases hbig : 3000 < m
  · go_enter Try.func11, Try.ntmps11
    go_wp2_with fail
    refine (pack_alive _).mono ?_
    rintro e w1 ⟨rfl, B1⟩
    go_wp2_with fail
    go_ret
    exact ⟨rfl, B1⟩
  have hm : m ≤ 3000 := by omega
  clear hbig
  have hlen := h.1
  go_enter Try.func11, Try.ntmps11
  go_wp2_with fail
  refine (pack_alive _).mono ?_
  rintro e w1 ⟨rfl, B1⟩
  go_wp2_with fail
  refine (whole_any n w1 h0 h1).mono ?_
  rintro e w2 ⟨v, cf, rfl, rfl, hv⟩
  have HV := Lib.hid hv
  clear hv
  go_wp2_with fail
  go_loopw [7, 8] (fun zv iv wr => ∃ i : Nat, i ≤ m ∧ iv = .int .i64 i ∧ zv = .bool (!nz (l.take i)) ∧ wr = w1) (fun _ iv _ => m - (intOf iv).toNat)
  case atStart => exact ⟨0, by omega, rfl, rfl, rfl⟩
  case round =>
    obtain ⟨i, hi, rfl, rfl, rfl⟩ := hrel
    by_cases hlt : i < m
    · obtain ⟨b, off, rfl, hb, hc⟩ := h.at_ hlt
      have hc : wr.cell? ⟨b, off + i, none⟩ = some (bv (l.getD i 0)) := (B1.cell hb).trans hc
      have hnext := nz_next l i (by omega)
      unfold bv at hc
      have hx := (l.getD i 0).isLt
      have hz : (((l.getD i 0).toNat : Int) == 0) = (!(l.getD i 0 != 0#8)) := by
        rw [Bool.eq_iff_iff]
        simp only [beq_iff_eq, Bool.not_eq_true', bne_eq_false_iff_eq]
        constructor
        · intro e; exact BitVec.eq_of_toNat_eq (by simpa using e)
        · intro e; rw [e]; rfl
      generalize l.getD i 0 = x at *
      cases hz1 : nz (l.take i) with
      | true =>
        have hn2 : nz (l.take (i + 1)) = true := by rw [hnext, hz1]; rfl
        go_wp2_with fail
        refine ⟨⟨i + 1, by omega, by go_num, by rw [hn2]; rfl, trivial⟩, ?_⟩
        simp [intOf]; omega
      | false =>
        have hn2 : nz (l.take (i + 1)) = (x != 0#8) := by rw [hnext, hz1]; rfl
        go_wp2_with fail
        refine ⟨⟨i + 1, by omega, by go_num, by rw [hn2], trivial⟩, ?_⟩
        simp [intOf]; omega
    · obtain rfl : i = m := by omega
      rw [List.take_of_length_le (by omega)]
      have hzz := fun W (B : Below w.heap.size w W) => zero_any a i c l W (h.below B) (by omega)
      have ZZ := Lib.hid hzz
      clear hzz
      cases hz : nz l
      all_goals
        rw [hz] at ZZ
        go_wp2_with fail
        refine (pad_any n wr h0 h1).mono ?_
        rintro e w3 ⟨rfl, rfl⟩
        go_wp2_with fail
        refine (refpad_any n _ h0 h1).mono ?_
        rintro e w3 ⟨rfl, rfl⟩
        go_wp2_with fail
        refine (ZZ.out _ B1).mono ?_
        rintro e w3 ⟨rfl, rfl⟩
        rcases HV.out with ⟨hn, rfl, rfl⟩ | ⟨hn, rfl, rfl⟩ | ⟨hn, hn2, rfl, rfl⟩
        · go_wp2_with fail
          refine (code_c 1 _ (by decide)).mono ?_
          rintro e w4 ⟨rfl, rfl⟩
          go_wp2_with fail
          go_ret
          exact ⟨rfl, B1⟩
        · go_wp2_with fail
          refine (code_c 2 _ (by decide)).mono ?_
          rintro e w4 ⟨rfl, rfl⟩
          go_wp2_with fail
          go_ret
          exact ⟨rfl, B1⟩
        · have hp : 0 ≤ padv n ∧ padv n < 8 ∧ (n + padv n) % 8 = 0 := by unfold padv; rw [if_neg (by omega)]; omega
          obtain ⟨hp0, hp1, hp2⟩ := hp
          have HR := Lib.hid fun W => refpad_any n W h0 h1
          clear HV
          generalize padv n = pv at *
          go_wp2_with fail
          refine (code_c 0 _ (by decide)).mono ?_
          rintro e w4 ⟨rfl, rfl⟩
          go_wp2_with fail
          refine (HR.out _).mono ?_
          rintro e w4 ⟨rfl, rfl⟩
          go_wp2_with fail
          go_ret
          exact ⟨ret_bool (by simp; omega), B1⟩

end Go.Proofs.Ytalpeldjdmfnjaa
