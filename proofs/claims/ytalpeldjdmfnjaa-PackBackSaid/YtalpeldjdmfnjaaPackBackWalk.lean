/-
  The walk of corncriblaw01.PackBack.
-/
import Derived.Test.YtalpeldjdmfnjaaMore
namespace Go.Proofs.Ytalpeldjdmfnjaa
open Go.RowKit

set_option maxRecDepth 100000 in
set_option maxHeartbeats 2000000 in
theorem packback_walk (a : Option Addr) (m c : Nat) (l : List (BitVec 8)) (n n' : Nat) (i k : Int) (w : World) (h : BSl w w.heap.size a m l) (h0 : a = none → m = 0) (hn : n < 18446744073709551616) (hn' : n' < 18446744073709551616)
    (hi0 : 0 ≤ i) (hi1 : i ≤ 255) (hk0 : 0 ≤ k) (hk1 : k ≤ 255) :
    Calls Try.prog 8 #[.slice a m c, .int .u64 n, .int .u64 n', .int .u8 i, .int .u8 k] w fun e w' => e = .returned (.bool true) ∧ Below w.heap.size w w' := by
  by_cases hbig : 3000 < m
  · go_enter Try.func8, Try.ntmps8
    go_wp2_with fail
    refine (pack_alive _).mono ?_
    rintro e w1 ⟨rfl, B1⟩
    go_wp2_with fail
    go_ret
    exact ⟨rfl, B1⟩
  have hm : m ≤ 3000 := by omega
  clear hbig
  obtain ⟨p, hp, hps⟩ := size_shift i
  obtain ⟨q, hq, hqs⟩ := size_shift k
  have hp8 := isSize_le hps
  have hq8 := isSize_le hqs
  go_enter Try.func8, Try.ntmps8
  go_wp2_with fail
  refine (pack_alive _).mono ?_
  rintro e w1 ⟨rfl, B1⟩
  obtain ⟨gw, cw, w2, hr, how, hgr, hgw⟩ := append_bytes (World.ownsRow_made (base := w1.heap.size) w1 #[] 0 (Nat.le_refl _) (Nat.zero_le _) rfl) c ((h.below B1).below (Below.alloc (Below.refl w.heap.size w1) B1.size (.cells #[] 5))) h0 (by omega) (by simp)
  simp only [Nat.zero_add, List.nil_append] at hr how
  have B2 : Below w.heap.size w w2 := (B1.alloc B1.size _).grown hgr (by have := B1.size; simp; omega) (fun b e => by injection e with e; have := B1.size; omega)
  go_wp2_with (at_builtin; refine list_run rfl _ _ rfl rfl rfl hr ?_)
  clear hr hgr
  refine (put_any a m c l n p w2 ((h.below B2).more B2.size) (by omega) h0 hn).mono ?_
  rintro e w3 ⟨B3, hput⟩
  have how3 := own_below how B3 (Nat.le_refl _)
  have B4 := B2.trans (B3.mono B2.size)
  clear how B2 B1
  simp only [Int.toNat_natCast] at hput
  rcases hput with ⟨hs, _⟩ | ⟨_, hf, rfl⟩ | ⟨_, hf, g, cap, rfl, hown⟩
  · rw [hps] at hs; cases hs
  · go_wp2_with fail
    refine (code_c 2 _ (by decide)).mono ?_
    rintro e w4 ⟨rfl, rfl⟩
    obtain rfl | rfl | rfl : p = 1 ∨ p = 2 ∨ p = 4 := by
      rcases hp8 with h | h | h | h
      · exact .inl h
      · exact .inr (.inl h)
      · exact .inr (.inr h)
      · subst h; omega
    all_goals
      go_wp2_with fail
      refine (code_c 2 _ (by decide)).mono ?_
      rintro e w4 ⟨rfl, rfl⟩
      go_wp2_with fail
      go_ret
      exact ⟨ret_bool (by simp; omega), B4⟩
  · go_wp2_with fail
    refine (code_c 0 _ (by decide)).mono ?_
    rintro e w4 ⟨rfl, rfl⟩
    have hxr := BSl.row hown _ rfl
    go_wp2_with fail
    refine (put_any (some ⟨g, 0, none⟩) (m + p) cap _ n' q w3 hxr (by omega) (fun e => by cases e) hn').mono ?_
    rintro e w5 ⟨B5, hput⟩
    have how5 := own_below how3 B5 (Nat.le_refl _)
    have B6 := B4.trans (B5.mono B4.size)
    clear how3 B4 hown hxr
    simp only [Int.toNat_natCast] at hput
    rcases hput with ⟨hs, _⟩ | ⟨_, hf2, rfl⟩ | ⟨_, hf2, g2, cap2, rfl, hown⟩
    · rw [hqs] at hs; cases hs
    · go_wp2_with fail
      refine (code_c 2 _ (by decide)).mono ?_
      rintro e w4 ⟨rfl, rfl⟩
      go_wp2_with fail
      refine (code_c 2 _ (by decide)).mono ?_
      rintro e w4 ⟨rfl, rfl⟩
      go_wp2_with fail
      go_ret
      exact ⟨rfl, B6⟩
    · go_wp2_with fail
      refine (code_c 0 _ (by decide)).mono ?_
      rintro e w4 ⟨rfl, rfl⟩
      have hyr := BSl.row hown _ rfl
      have hcap : m + p + q ≤ cap2 := by
        rcases hown.2 with ⟨e1, _⟩ | ⟨_, _, _, e1, _, _, e2, _⟩
        · cases e1
        · cases e1; exact e2
      go_wp2_with fail
      refine (get_ok (some ⟨g2, 0, none⟩) (m + p + q) cap2 _ m p w5 hyr hcap (by omega) hps (by omega)).mono ?_
      rintro e w6 ⟨rfl, B7⟩
      have hl := h.1
      have e1 : (((l ++ Num.le n p) ++ Num.le n' q).drop m).take p = Num.le n p := by
        rw [List.append_assoc, List.drop_append_of_le_length (by omega), List.drop_of_length_le (by omega), List.nil_append, List.take_append_of_le_length (by rw [Num.le_length]; omega), List.take_of_length_le (by rw [Num.le_length]; omega)]
      rw [e1, Num.num_le_of_lt hf]
      have e2 : (((l ++ Num.le n p) ++ Num.le n' q).drop (m + p)).take q = Num.le n' q := by
        rw [drop_head (by rw [List.length_append, Num.le_length]; omega), List.take_of_length_le (by rw [Num.le_length]; omega)]
      have G2 := get_ok (some ⟨g2, 0, none⟩) (m + p + q) cap2 _ (m + p) q w6 ((hyr.below B7).more B7.size) hcap (by omega) hqs (by omega)
      rw [e2, Num.num_le_of_lt hf2] at G2
      simp only [Int.natCast_add] at G2
      have G2 := Lib.hid G2
      go_wp2_with fail
      refine G2.out.mono ?_
      rintro e w7 ⟨rfl, B8⟩
      have how7 := own_below (own_below how5 B7 (Nat.le_refl _)) B8 (Nat.le_refl _)
      have B9 := B6.trans ((B7.trans (B8.mono B7.size)).mono B6.size)
      clear G2 how5 B7 B8 B6 hown hyr B5 B3
      go_wp2_with fail
      refine (code_c 0 _ (by decide)).mono ?_
      rintro e w8 ⟨rfl, rfl⟩
      go_wp2_with fail
      refine (code_c 0 _ (by decide)).mono ?_
      rintro e w8 ⟨rfl, rfl⟩
      go_wp2_with fail
      refine (same_any _ _ _ _ _ _ _ _ _ ((h.below B9).more B9.size) (BSl.row how7 _ rfl) (by omega)).mono ?_
      rintro e w8 ⟨rfl, qd, rfl⟩
      rw [decide_eq_true rfl]
      go_wp2_with fail
      go_ret
      exact ⟨rfl, below_drewN B9 qd⟩

/-- .. as the frame asks for it. -/
theorem packback_at (a : Option Addr) (m c : Nat) (l : List (BitVec 8)) (n n' i k : Int) (w : World) (h : BSl w w.heap.size a m l) (hn0 : 0 ≤ n) (hn : n ≤ 18446744073709551615) (hn0' : 0 ≤ n') (hn' : n' ≤ 18446744073709551615)
    (hi0 : 0 ≤ i) (hi1 : i ≤ 255) (hk0 : 0 ≤ k) (hk1 : k ≤ 255) :
    Calls Try.prog 8 #[.slice a m c, .int .u64 n, .int .u64 n', .int .u8 i, .int .u8 k] w fun e w' => e = .returned (.bool true) ∧ Below w.heap.size w w' := by
  obtain ⟨n, rfl⟩ := Int.eq_ofNat_of_zero_le hn0
  obtain ⟨n', rfl⟩ := Int.eq_ofNat_of_zero_le hn0'
  exact packback_walk a m c l n n' i k w h (bsl_nil0 h) (by omega) (by omega) hi0 hi1 hk0 hk1

end Go.Proofs.Ytalpeldjdmfnjaa
