/-
  IndexPages, plainly: page by page.
-/
import Derived.Test.YtmmmakfmpopniaaIdxAlive
import Derived.Test.YtmmmakfmpopniaaIdxFrom
namespace Go.Proofs.Ytmmmakfmpopniaa
open Go.RowKit
set_option linter.unusedVariables false

theorem frm_length {f s : Nat} {n : Nat} {L : List PosR} (h : lo PosR.key f L = s) : (frm f n L).length = min n (L.length - s) := by
  unfold frm; rw [h, List.length_take, List.length_drop]; rfl
theorem frm_take {f s : Nat} {n : Nat} {L : List PosR} (h : lo PosR.key f L = s) : L.take s ++ frm f n L = L.take (s + (frm f n L).length) := by
  have hl := frm_length (n := n) h
  unfold frm at hl ⊢
  rw [h] at hl ⊢
  rw [hl, List.take_add]
  congr 1
  show (L.drop s).take n = _
  rw [← List.length_drop, List.take_eq_take_min]
theorem lo_next {L : List PosR} (hs : Srt PosR.key L) {s : Nat} (h : s < L.length) : lo PosR.key ((L.getD s dP).key + 1) L = s + 1 := by
  have e : L.getD s dP = L[s] := by simp [List.getD, h]
  rw [e]
  refine lo_unique hs _ _ (by omega) (fun t ht hlt => ?_) (fun t ht hle => ?_)
  · rcases Nat.lt_or_ge t s with h' | h'
    · have := hs.lt h h'; omega
    · have : t = s := by omega
      subst this; omega
  · have := hs.lt ht (show s < t by omega); omega
theorem last_max {L : List PosR} (hs : Srt PosR.key L) (hi : ∀ p ∈ L, PosB p) {s : Nat} (h : s < L.length) (hk : (L.getD s dP).key = 18446744073709551615) : s + 1 = L.length := by
  have e : L.getD s dP = L[s] := by simp [List.getD, h]
  rw [e] at hk
  rcases Nat.lt_or_ge (s + 1) L.length with h' | h'
  · have h1 := hs.lt h' (show s < s + 1 by omega)
    have h2 := (hi _ (List.getElem_mem h')).1
    omega
  · omega
theorem frm_last {f s : Nat} {n : Nat} {L : List PosR} (h : lo PosR.key f L = s) {j : Nat} (hj : j < (frm f n L).length) : (frm f n L).getD j dP = L.getD (s + j) dP := by
  have hl := frm_length (n := n) h
  have e1 : (frm f n L).getD j dP = (frm f n L)[j] := by simp [List.getD, hj]
  have e2 : L.getD (s + j) dP = L[s + j]'(by omega) := by simp [List.getD, show s + j < L.length by omega]
  rw [e1, e2]
  unfold frm
  simp [h]
end Go.Proofs.Ytmmmakfmpopniaa
