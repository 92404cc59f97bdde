/-
  The walk of corncriblaw01.PackPuts.
-/
import Derived.Test.YtalpeldjdmfnjaaApp
namespace Go.Proofs.Ytalpeldjdmfnjaa
open Go.RowKit

set_option maxRecDepth 100000 in
set_option maxHeartbeats 2000000 in
theorem puts_walk (a : Option Addr) (m c : Nat) (l : List (BitVec 8)) (n : Nat) (k p : Int) (w : World) (h : BSl w w.heap.size a m l) (hc : m ≤ c) (h0 : a = none → m = 0) (hn : n < 18446744073709551616)
    (hp0 : -9223372036854775808 ≤ p) (hp1 : p ≤ 9223372036854775807) (hk0 : -9223372036854775808 ≤ k) (hk1 : k ≤ 9223372036854775807) :
    Calls Try.prog 7 #[.slice a m c, .int .u64 n, .int .i64 k, .int .i64 p] w fun e w' => e = .returned (.bool true) ∧ Below w.heap.size w w' := by
  by_cases hbig : 3000 < m
  · go_enter Try.func7, Try.ntmps7
    go_wp2_with fail
    refine (pack_alive _).mono ?_
    rintro e w1 ⟨rfl, B1⟩
    go_wp2_with fail
    go_ret
    exact ⟨rfl, B1⟩
  have hm : m ≤ 3000 := by omega
  clear hbig
  go_enter Try.func7, Try.ntmps7
  go_wp2_with fail
  refine (pack_alive _).mono ?_
  rintro e w1 ⟨rfl, B1⟩
  go_wp2_with fail
  refine (put_any a m c l n k w1 ((h.below B1).more B1.size) (by omega) h0 hn).mono ?_
  rintro e w2 ⟨B2, hput⟩
  have B2 := B1.trans (B2.mono B1.size)
  have G := get_any a m c l p k
  rcases hput with ⟨hs, rfl⟩ | ⟨hs, hf, rfl⟩ | ⟨hs, hf, g, cap, rfl, hown⟩
  · go_wp2_with fail
    refine (G w2 ((h.below B2).more B2.size) hc (by omega)).mono ?_
    rintro e w3 ⟨v, cf, rfl, B3, hg⟩
    have B3 := B2.trans (B3.mono B2.size)
    obtain ⟨rfl, rfl⟩ : v = 0 ∧ cf = 1 := by
      rcases hg with ⟨_, h1, h2⟩ | ⟨h1, _⟩ | ⟨h1, _⟩
      · exact ⟨h1, h2⟩
      · rw [hs] at h1; cases h1
      · rw [hs] at h1; cases h1
    clear hg
    go_wp2_with fail
    refine (ref_sized _ _).mono ?_
    rintro e w4 ⟨rfl, rfl⟩
    rw [hs]
    go_wp2_with fail
    refine (code_c 1 _ (by decide)).mono ?_
    rintro e w4 ⟨rfl, rfl⟩
    go_wp2_with fail
    refine (code_c 1 _ (by decide)).mono ?_
    rintro e w4 ⟨rfl, rfl⟩
    go_wp2_with fail
    go_ret
    exact ⟨rfl, B3⟩
  · obtain ⟨k, rfl⟩ := Int.eq_ofNat_of_zero_le (show 0 ≤ k by simp only [isSize, Bool.or_eq_true, beq_iff_eq] at hs; omega)
    have hk8 := isSize_le hs
    simp only [Int.toNat_natCast] at *
    go_wp2_with fail
    refine (G w2 ((h.below B2).more B2.size) hc (by omega)).mono ?_
    rintro e w3 ⟨v, cf, rfl, B3, hg⟩
    have B3 := B2.trans (B3.mono B2.size)
    go_wp2_with fail
    refine (ref_sized _ _).mono ?_
    rintro e w4 ⟨rfl, rfl⟩
    rw [hs]
    go_wp2_with fail
    refine (bytes_any n k w3 hn (by omega) (by omega)).mono ?_
    rintro e w4 ⟨gl, rfl, hgl, hol, B4⟩
    rw [show decide (n < 256 ^ k) = false from by simp; omega]
    have B9 := B3.trans (B4.mono B3.size)
    go_wp2_with fail
    refine (code_c 2 _ (by decide)).mono ?_
    rintro e w5 ⟨rfl, rfl⟩
    have hp8 : (-1 : Int) ≤ k := by omega
    rcases hg with ⟨h1, rfl, rfl⟩ | ⟨_, h1, h2, rfl, rfl⟩ | ⟨_, h1, h2, h3, rfl, rfl⟩
    · have h1 : p < 0 := by
        rcases h1 with h1 | h1
        · rw [hs] at h1; cases h1
        · exact h1
      go_wp2_with fail
      refine (code_c 1 _ (by decide)).mono ?_
      rintro e w9 ⟨rfl, rfl⟩
      go_wp2_with fail
      go_ret
      exact ⟨rfl, B9⟩
    · by_cases hpl : (m : Int) < p
      · go_wp2_with fail
        refine (code_c 3 _ (by decide)).mono ?_
        rintro e w9 ⟨rfl, rfl⟩
        go_wp2_with fail
        go_ret
        exact ⟨rfl, B9⟩
      · have h2 : (m : Int) - p < k := by omega
        go_wp2_with fail
        refine (code_c 3 _ (by decide)).mono ?_
        rintro e w9 ⟨rfl, rfl⟩
        go_wp2_with fail
        go_ret
        exact ⟨rfl, B9⟩
    · have hcut := Lib.hid hc
      obtain ⟨p, rfl⟩ := Int.eq_ofNat_of_zero_le h1
      simp only [Int.toNat_natCast]
      obtain ⟨a', s1, _, _, hcut⟩ := cut_bytes ((h.below B9).more B9.size) hc p k (by omega)
      have hsl := fun W => s1 (p : Int) ((p : Int) + k) W rfl rfl
      clear s1
      go_wp2_with fail
      refine (code_c 0 _ (by decide)).mono ?_
      rintro e w8 ⟨rfl, rfl⟩
      have hN := Lib.hid (number_any a' k (c - p) _ _ hcut (by omega))
      go_wp2_with fail
      refine hN.out.mono ?_
      rintro e w8 ⟨rfl, rfl⟩
      go_wp2_with fail
      go_ret
      exact ⟨ret_bool (by simp), B9⟩
  · obtain ⟨k, rfl⟩ := Int.eq_ofNat_of_zero_le (show 0 ≤ k by simp only [isSize, Bool.or_eq_true, beq_iff_eq] at hs; omega)
    have hk8 := isSize_le hs
    simp only [Int.toNat_natCast] at *
    go_wp2_with fail
    refine (G w2 ((h.below B2).more B2.size) hc (by omega)).mono ?_
    rintro e w3 ⟨v, cf, rfl, B3, hg⟩
    have hox := (own_below hown B3 (Nat.le_refl _))
    have B3 := B2.trans (B3.mono B2.size)
    go_wp2_with fail
    refine (ref_sized _ _).mono ?_
    rintro e w4 ⟨rfl, rfl⟩
    rw [hs]
    go_wp2_with fail
    refine (bytes_any n k w3 hn (by omega) (by omega)).mono ?_
    rintro e w4 ⟨gl, rfl, hgl, hol, B4⟩
    rw [show decide (n < 256 ^ k) = true from by simp; exact hf]
    have hox4 := own_below hox B4 (Nat.le_refl _)
    have B5 := B3.trans (B4.mono B3.size)
    obtain ⟨g1, cap1, W1, g2, cap2, W2, hr1, hr2, ho2, Bw⟩ := append_two c ((h.below B5).more B5.size) (Nat.le_refl _) h0 (by omega) k (BSl.row hol _ rfl) (Nat.le_refl _) (fun e => by cases e) (by omega)
    have hs1 := BSl.row (own_below hox4 Bw (Nat.le_refl _)) _ rfl
    have hs2 := BSl.row ho2 _ rfl
    have B9 := B5.trans (Bw.mono B5.size)
    clear hox hown B2 B3 B4 hox4 hol ho2
    go_wp2_with fail
    refine (code_c 0 _ (by decide)).mono ?_
    rintro e w5 ⟨rfl, rfl⟩
    go_wp2_with (first
      | (at_builtin; refine list_run_g (by rfl) _ _ rfl rfl rfl hr1 ?_)
      | (at_builtin; refine list_run_g (by rfl) _ _ rfl rfl rfl hr2 ?_))
    refine (same_any _ _ _ _ _ _ _ _ _ hs1 hs2 (by omega)).mono ?_
    rintro e w5 ⟨rfl, q, rfl⟩
    rw [decide_eq_true rfl]
    replace B9 := below_drewN B9 q
    have hp8 : (-1 : Int) ≤ k := by omega
    rcases hg with ⟨h1, rfl, rfl⟩ | ⟨_, h1, h2, rfl, rfl⟩ | ⟨_, h1, h2, h3, rfl, rfl⟩
    · have h1 : p < 0 := by
        rcases h1 with h1 | h1
        · rw [hs] at h1; cases h1
        · exact h1
      go_wp2_with fail
      refine (code_c 1 _ (by decide)).mono ?_
      rintro e w9 ⟨rfl, rfl⟩
      go_wp2_with fail
      go_ret
      exact ⟨rfl, B9⟩
    · by_cases hpl : (m : Int) < p
      · go_wp2_with fail
        refine (code_c 3 _ (by decide)).mono ?_
        rintro e w9 ⟨rfl, rfl⟩
        go_wp2_with fail
        go_ret
        exact ⟨rfl, B9⟩
      · have h2 : (m : Int) - p < k := by omega
        go_wp2_with fail
        refine (code_c 3 _ (by decide)).mono ?_
        rintro e w9 ⟨rfl, rfl⟩
        go_wp2_with fail
        go_ret
        exact ⟨rfl, B9⟩
    · have hcut := Lib.hid hc
      obtain ⟨p, rfl⟩ := Int.eq_ofNat_of_zero_le h1
      simp only [Int.toNat_natCast]
      obtain ⟨a', s1, _, _, hcut⟩ := cut_bytes ((h.below B9).more B9.size) hc p k (by omega)
      have hsl := fun W => s1 (p : Int) ((p : Int) + k) W rfl rfl
      clear s1
      go_wp2_with fail
      refine (code_c 0 _ (by decide)).mono ?_
      rintro e w8 ⟨rfl, rfl⟩
      have hN := Lib.hid (number_any a' k (c - p) _ _ hcut (by omega))
      go_wp2_with fail
      refine hN.out.mono ?_
      rintro e w8 ⟨rfl, rfl⟩
      go_wp2_with fail
      go_ret
      exact ⟨ret_bool (by simp), B9⟩

theorem BSl.nil0 {w : World} {B n : Nat} {a : Option Addr} {l : List (BitVec 8)} (h : BSl w B a n l) (e : a = none) : n = 0 := by
  rcases Nat.eq_zero_or_pos n with h0 | h0
  · exact h0
  · obtain ⟨b, off, e2, _⟩ := h.2 h0
    rw [e] at e2; cases e2

/-- .. as the frame asks for it. -/
theorem puts_at (a : Option Addr) (m c : Nat) (l : List (BitVec 8)) (n k p : Int) (w : World) (h : BSl w w.heap.size a m l) (hc : m ≤ c) (hn0 : 0 ≤ n) (hn : n ≤ 18446744073709551615)
    (hk0 : -9223372036854775808 ≤ k) (hk1 : k ≤ 9223372036854775807) (hp0 : -9223372036854775808 ≤ p) (hp1 : p ≤ 9223372036854775807) :
    Calls Try.prog 7 #[.slice a m c, .int .u64 n, .int .i64 k, .int .i64 p] w fun e w' => e = .returned (.bool true) ∧ Below w.heap.size w w' := by
  obtain ⟨n, rfl⟩ := Int.eq_ofNat_of_zero_le hn0
  exact puts_walk a m c l n k p w h hc h.nil0 (by omega) hp0 hp1 hk0 hk1

end Go.Proofs.Ytalpeldjdmfnjaa
