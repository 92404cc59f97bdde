/-
  More small words: lists cut; sizes out of shifts; nil slices.
-/
import Derived.Test.YtpkfjnhjcdcoaaaApp
namespace Go.Proofs.Ytpkfjnhjcdcoaaa
open Go.RowKit

theorem bsl_nil0 {w : World} {B n : Nat} {a : Option Addr} {l : List (BitVec 8)} (h : BSl w B a n l) (e : a = none) : n = 0 := by
  rcases Nat.eq_zero_or_pos n with h0 | h0
  · exact h0
  · obtain ⟨b, off, e2, _⟩ := h.2 h0
    rw [e] at e2; cases e2

theorem drop_head {α : Type} {a b : List α} {k : Nat} (h : a.length = k) : (a ++ b).drop k = b := by
  subst h
  simp

theorem size_shift (i : Int) : ∃ p : Nat, wrap64 (2 ^ (i % 4).toNat) = (p : Int) ∧ isSize (p : Int) = true := by
  have h : i % 4 = 0 ∨ i % 4 = 1 ∨ i % 4 = 2 ∨ i % 4 = 3 := by omega
  rcases h with h | h | h | h <;> rw [h]
  · exact ⟨1, by simp [wrap64], rfl⟩
  · exact ⟨2, by simp [wrap64], rfl⟩
  · exact ⟨4, by simp [wrap64], rfl⟩
  · exact ⟨8, by simp [wrap64], rfl⟩

end Go.Proofs.Ytpkfjnhjcdcoaaa
