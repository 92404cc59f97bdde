/-
  sum.Seal, sum.Open.
-/
import Derived.Test.YtpkfjnhjcdcoaaaSum
import Derived.Test.YtpkfjnhjcdcoaaaMore
namespace Go.Proofs.Ytpkfjnhjcdcoaaa
open Go.RowKit

theorem own_cap {W : World} {base : Nat} {e : TypeId} {a : Option Addr} {k c : Nat} {xs : List Value} (h : W.ownsRow base e 1 (.slice a k c) k xs) : k ≤ c := by
  rcases h.2 with ⟨e1, e2⟩ | ⟨_, _, _, e1, _, _, e2, _⟩
  · omega
  · cases e1; exact e2
theorem own_more {W : World} {base base' : Nat} {e : TypeId} {v : Value} {k : Nat} {xs : List Value} (h : W.ownsRow base e 1 v k xs) (hb : base' ≤ base) : W.ownsRow base' e 1 v k xs := by
  refine ⟨h.1, ?_⟩
  rcases h.2 with h2 | ⟨g', cap', cur, e1, e2, e3⟩
  · exact .inl h2
  · exact .inr ⟨g', cap', cur, e1, Nat.le_trans hb e2, e3⟩

theorem of_fits (l : List (BitVec 8)) : (Crc.of l).toNat < 256 ^ 4 := (Crc.of l).isLt

theorem seal_any (a : Option Addr) (n c : Nat) (l : List (BitVec 8)) (w : World) (h : BSl w w.heap.size a n l) (hn : n ≤ 1099511627776) :
    Calls Try.prog 49 #[.slice a n c] w fun e w' => ∃ g cap, e = .returned (.slice (some ⟨g, 0, none⟩) (n + 4) cap) ∧ n + 4 ≤ cap ∧
      w'.ownsRow w.heap.size 5 1 (.slice (some ⟨g, 0, none⟩) (n + 4) cap) (n + 4) ((l ++ Num.le (Crc.of l).toNat 4).map bv) ∧ Below w.heap.size w w' := by
  have O := Lib.hid (of_any a n c l w h hn)
  have P := Lib.hid fun (w' : World) (B : Below w.heap.size w w') => put_ok a n c l (Crc.of l).toNat 4 w' ((h.below B).more B.size) hn (bsl_nil0 h) rfl (of_fits l)
  have hx := (Crc.of l).isLt
  generalize (Crc.of l).toNat = x at *
  go_enter Try.func49, Try.ntmps49
  go_wp2_with fail
  refine O.out.mono ?_
  rintro e w1 ⟨rfl, B1⟩
  go_wp2_with fail
  refine (P.out w1 B1).mono ?_
  rintro e w2 ⟨g, cap, rfl, hown, B2⟩
  go_wp2_with fail
  go_ret
  exact ⟨g, cap, rfl, own_cap hown, own_more hown B1.size, B1.trans (B2.mono B1.size)⟩

/-- sum.Open: too short; not right; right. -/
theorem open_any (a : Option Addr) (n c : Nat) (l : List (BitVec 8)) (w : World) (h : BSl w w.heap.size a n l) (hc : n ≤ c) (hn : n ≤ 1099511627776) :
    Calls Try.prog 36 #[.slice a n c] w fun e w' => Below w.heap.size w w' ∧
      ((n < 4 ∧ e = .returned (.tuple #[.slice none 0 0, errc 3])) ∨
       (4 ≤ n ∧ Num.num (l.drop (n - 4)) ≠ (Crc.of (l.take (n - 4))).toNat ∧ e = .returned (.tuple #[.slice none 0 0, errc 5])) ∨
       (4 ≤ n ∧ Num.num (l.drop (n - 4)) = (Crc.of (l.take (n - 4))).toNat ∧ ∃ av cv, e = .returned (.tuple #[.slice av (n - 4) cv, errc 0]) ∧ n - 4 ≤ cv ∧
         w'.ownsRow w.heap.size 5 1 (.slice av (n - 4) cv) (n - 4) ((l.take (n - 4)).map bv))) := by
  by_cases hlt : n < 4
  · refine (open_short a n c w hlt).mono ?_
    rintro e w' ⟨rfl, rfl⟩
    exact ⟨Below.refl _ _, .inl ⟨hlt, rfl⟩⟩
  · obtain ⟨k, rfl⟩ : ∃ k, n = k + 4 := ⟨n - 4, by omega⟩
    have hlen := h.1
    rw [Nat.add_sub_cancel]
    have G := Lib.hid (get_ok a (k + 4) c l k 4 w h hc hn rfl (by omega))
    rw [show (l.drop k).take 4 = l.drop k from List.take_of_length_le (by rw [List.length_drop]; omega)] at G
    obtain ⟨a', _, _, s3, hcut⟩ := cut_bytes h hc 0 k (by omega)
    rw [List.drop_zero] at hcut
    have hsl := fun W => s3 (k : Int) W rfl rfl
    have hk0 : 0 ≤ (k : Int) := by omega
    clear s3
    have O := Lib.hid fun (w' : World) (B : Below w.heap.size w w') => of_any a' k c (l.take k) w' ((hcut.below B).more B.size) (by omega)
    have C := Lib.hid fun (w' : World) (B : Below w.heap.size w w') => clone_any a' k c (l.take k) w' ((hcut.below B).more B.size) (by omega) (bsl_nil0 hcut)
    have hx := (Crc.of (l.take k)).isLt
    generalize (Crc.of (l.take k)).toNat = x at *
    generalize Num.num (l.drop k) = y at *
    by_cases hxy : y = x
    · subst hxy
      have hne : ((y : Int) != (y : Int)) = false := by simp
      go_enter Try.func36, Try.ntmps36
      go_wp2_with fail
      refine G.out.mono ?_
      rintro e w1 ⟨rfl, B1⟩
      go_wp2_with fail
      refine (O.out w1 B1).mono ?_
      rintro e w2 ⟨rfl, B2⟩
      have B2 := B1.trans (B2.mono B1.size)
      go_wp2_with fail
      refine (C.out w2 B2).mono ?_
      rintro e w3 ⟨av, cv, rfl, hown, B3⟩
      go_wp2_with fail
      go_ret2
      exact ⟨B2.trans (B3.mono B2.size), .inr (.inr ⟨by omega, trivial, av, cv, rfl, own_cap hown, own_more hown B2.size⟩)⟩
    · have hne : ((y : Int) != (x : Int)) = true := by rw [bne_iff_ne]; omega
      go_enter Try.func36, Try.ntmps36
      go_wp2_with fail
      refine G.out.mono ?_
      rintro e w1 ⟨rfl, B1⟩
      go_wp2_with fail
      refine (O.out w1 B1).mono ?_
      rintro e w2 ⟨rfl, B2⟩
      have B2 := B1.trans (B2.mono B1.size)
      go_wp2_with fail
      go_ret2
      exact ⟨B2, .inr (.inl ⟨by omega, hxy, rfl⟩)⟩

end Go.Proofs.Ytpkfjnhjcdcoaaa
