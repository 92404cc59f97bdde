/-
  The walk of corncriblaw01.PackSmall.
-/
import Derived.Test.YtalpeldjdmfnjaaZero
import Derived.Deep.DeepCutAuto
namespace Go.Proofs.Ytalpeldjdmfnjaa
open Go.RowKit

theorem zeros_behind (n p q : Nat) (hpq : p ≤ q) (hn : n < 256 ^ p) : Num.le n q = Num.le n p ++ List.replicate (q - p) 0#8 := by
  obtain ⟨d, rfl⟩ : ∃ d, q = p + d := ⟨q - p, by omega⟩
  rw [Nat.add_sub_cancel_left]
  clear hpq
  induction d with
  | zero => simp
  | succ d ih =>
    rw [← Nat.add_assoc, le_snoc, ih, List.append_assoc]
    congr 1
    have hz : n / 256 ^ (p + d) = 0 := Nat.div_eq_of_lt (Nat.lt_of_lt_of_le hn (Nat.pow_le_pow_right (by omega) (by omega)))
    rw [hz, List.replicate_succ']
theorem nz_zeros (d : Nat) : nz (List.replicate d 0#8) = false := by
  unfold nz
  simp

theorem sizes_sorted (x y : Int) (hx : ∃ p : Nat, x = (p : Int) ∧ isSize (p : Int) = true) (hy : ∃ p : Nat, y = (p : Int) ∧ isSize (p : Int) = true) :
    ∃ p q : Nat, p ≤ q ∧ isSize (p : Int) = true ∧ isSize (q : Int) = true ∧ ((x = p ∧ y = q ∧ decide ((q : Int) < p) = false) ∨ (p < q ∧ x = q ∧ y = p ∧ decide ((p : Int) < q) = true)) := by
  obtain ⟨p, rfl, hp⟩ := hx
  obtain ⟨q, rfl, hq⟩ := hy
  by_cases h : p ≤ q
  · exact ⟨p, q, h, hp, hq, .inl ⟨rfl, rfl, by simp; omega⟩⟩
  · exact ⟨q, p, by omega, hq, hp, .inr ⟨by omega, rfl, rfl, by simp; omega⟩⟩

set_option maxRecDepth 100000 in
set_option maxHeartbeats 4000000 in
theorem small_walk (n : Nat) (i k : Int) (w : World) (hn : n < 18446744073709551616)
    (hi0 : 0 ≤ i) (hi1 : i ≤ 255) (hk0 : 0 ≤ k) (hk1 : k ≤ 255) :
    Calls Try.prog 10 #[.int .u64 n, .int .u8 i, .int .u8 k] w fun e w' => e = .returned (.bool true) ∧ Below w.heap.size w w' := by
  go_enter Try.func10, Try.ntmps10
  go_wp2_with fail
  refine (pack_alive _).mono ?_
  rintro e w1 ⟨rfl, B1⟩
  go_upto_if 29 with fail
  obtain ⟨p, q, hpq, hps, hqs, hsz⟩ := sizes_sorted _ _ (size_shift (if k < i then k else i)) (size_shift (if i < k then k else i))
  generalize wrap64 (2 ^ ((if k < i then k else i) % 4).toNat) = x at hsz ⊢
  generalize wrap64 (2 ^ ((if i < k then k else i) % 4).toNat) = y at hsz ⊢
  have hp8 := isSize_le hps
  have hq8 := isSize_le hqs
  go_cut [7, 8] (fun v7 v8 wx => v7 = .int .i64 p ∧ v8 = .int .i64 q ∧ w1 = wx)
  case first =>
    rcases hsz with ⟨rfl, rfl, hsw⟩ | ⟨hlt, rfl, rfl, hsw⟩
    · go_wp2_with fail
      all_goals
        go_meet
        exact ⟨rfl, rfl, rfl⟩
    · go_wp2_with fail
      all_goals
        go_meet
        exact ⟨rfl, rfl, rfl⟩
  case rest =>
    obtain ⟨rfl, rfl, rfl⟩ := hcut
    clear hsz
    go_wp2_with fail
    refine (put_any none 0 0 [] n p w1 (BSl.nil _ _ _) (by decide) (fun _ => rfl) hn).mono ?_
    rintro e w2 ⟨B2, hput⟩
    have B2 := B1.trans (B2.mono B1.size)
    simp only [Int.toNat_natCast, Nat.zero_add, List.nil_append] at hput
    rcases hput with ⟨hs, _⟩ | ⟨_, hf, rfl⟩ | ⟨_, hf, g, cap, rfl, hown⟩
    · rw [hps] at hs; cases hs
    · go_wp2_with fail
      refine (code_c 2 _ (by decide)).mono ?_
      rintro e w4 ⟨rfl, rfl⟩
      go_wp2_with fail
      refine (code_c 2 _ (by decide)).mono ?_
      rintro e w4 ⟨rfl, rfl⟩
      go_wp2_with fail
      go_ret
      exact ⟨rfl, B2⟩
    · have hfq : n < 256 ^ q := Nat.lt_of_lt_of_le hf (Nat.pow_le_pow_right (by omega) hpq)
      go_wp2_with fail
      refine (code_c 0 _ (by decide)).mono ?_
      rintro e w4 ⟨rfl, rfl⟩
      go_wp2_with fail
      refine (put_ok none 0 0 [] n q w2 (BSl.nil _ _ _) (by decide) (fun _ => rfl) hqs hfq).mono ?_
      rintro e w5 ⟨g2, cap2, rfl, hown2, B3⟩
      simp only [Nat.zero_add, List.nil_append] at hown2
      have hown1 := own_below hown B3 (Nat.le_refl _)
      have B5 := B2.trans (B3.mono B2.size)
      have hb := BSl.row hown2 _ rfl
      have hcap : q ≤ cap2 := by
        rcases hown2.2 with ⟨e1, _⟩ | ⟨_, _, _, e1, _, _, e2, _⟩
        · cases e1
        · cases e1; exact e2
      have G := get_ok (some ⟨g2, 0, none⟩) q cap2 _ 0 q w5 hb hcap (by omega) hqs (by omega)
      rw [List.drop_zero, List.take_of_length_le (by rw [Num.le_length]; omega), Num.num_le_of_lt hfq] at G
      have G := Lib.hid G
      rw [zeros_behind n p q hpq hf] at hb
      rw [Nat.zero_add]
      clear hown B3 B2 B1 hown2
      go_wp2_with fail
      refine G.out.mono ?_
      rintro e w6 ⟨rfl, B6⟩
      obtain ⟨a1, -, -, s3, hc1⟩ := cut_bytes ((hb.below B6).more B6.size) hcap 0 p (by omega)
      obtain ⟨a2, -, s2, -, hc2⟩ := cut_bytes ((hb.below B6).more B6.size) hcap p (q - p) (by omega)
      have hs3 := fun W => s3 (p : Int) W rfl rfl
      have hs2 := fun W => s2 (p : Int) W rfl (by omega)
      rw [List.drop_zero, List.take_append_of_le_length (by rw [Num.le_length]; omega), List.take_of_length_le (by rw [Num.le_length]; omega)] at hc1
      rw [drop_head (by rw [Num.le_length]), List.take_of_length_le (by rw [List.length_replicate]; omega)] at hc2
      have hown1 := own_below hown1 B6 (Nat.le_refl _)
      have B7 := B5.trans (B6.mono B5.size)
      clear s3 s2 G B5 B6 hb
      go_wp2_with fail
      refine (code_c 0 _ (by decide)).mono ?_
      rintro e w7 ⟨rfl, rfl⟩
      go_wp2_with fail
      refine (code_c 0 _ (by decide)).mono ?_
      rintro e w7 ⟨rfl, rfl⟩
      go_wp2_with fail
      refine (same_any _ _ _ _ _ _ _ _ _ hc1 (BSl.row hown1 _ rfl) (by omega)).mono ?_
      rintro e w8 ⟨rfl, qd, rfl⟩
      rw [decide_eq_true rfl]
      go_wp2_with fail
      refine (zero_any _ _ _ _ _ (hc2.below (B := w6.heap.size) (below_drewN (Below.refl _ _) qd)) (by omega)).mono ?_
      rintro e w9 ⟨rfl, rfl⟩
      rw [nz_zeros]
      go_wp2_with fail
      go_ret
      exact ⟨rfl, below_drewN B7 qd⟩


/-- .. as the frame asks for it. -/
theorem small_at (n i k : Int) (w : World) (hn0 : 0 ≤ n) (hn : n ≤ 18446744073709551615) (hi0 : 0 ≤ i) (hi1 : i ≤ 255) (hk0 : 0 ≤ k) (hk1 : k ≤ 255) :
    Calls Try.prog 10 #[.int .u64 n, .int .u8 i, .int .u8 k] w fun e w' => e = .returned (.bool true) ∧ Below w.heap.size w w' := by
  obtain ⟨n, rfl⟩ := Int.eq_ofNat_of_zero_le hn0
  exact small_walk n i k w (by omega) hi0 hi1 hk0 hk1

end Go.Proofs.Ytalpeldjdmfnjaa
