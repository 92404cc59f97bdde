/-
  The answers of OnceKeys: their table.
-/
import Derived.Test.YtboadalojimdlaaOnceAlive
namespace Go.Proofs.Ytboadalojimdlaa
open Go.RowKit

/-- The answer of the round i. -/
def kM (i : Nat) (a : Option Addr) (c : Nat) : MsgR := ⟨0, ((i % 7 : Nat) : Int), 5, 1, 0, i / 7, i, false, 0, 0, false, a, 0, c, []⟩
/-- The table behind j of them. -/
def KL : Nat → List MsgR → Prop
  | 0, L => L = []
  | j + 1, L => ∃ L' av cv, KL j L' ∧ L = L' ++ [kM j av cv]
theorem KL.len : ∀ {j : Nat} {L : List MsgR}, KL j L → L.length = j
  | 0, _, h => by rw [h]; rfl
  | j + 1, _, ⟨L', av, cv, h, e⟩ => by rw [e, List.length_append, h.len]; rfl
theorem kM_find (i j : Nat) (a : Option Addr) (c : Nat) : decide ((kM j a c).tt = ((i % 7 : Nat) : Int) ∧ (kM j a c).id = i / 7) = decide (i = j) := by
  apply decide_eq_decide.2
  show ((((j % 7 : Nat) : Int) = ((i % 7 : Nat) : Int) ∧ j / 7 = i / 7) ↔ i = j)
  omega
theorem KL.no : ∀ {j : Nat} {L : List MsgR} (i : Nat), KL j L → j ≤ i → mFind L ((i % 7 : Nat) : Int) (i / 7) = none
  | 0, _, i, h, _ => by rw [h]; rfl
  | j + 1, _, i, ⟨L', av, cv, h, e⟩, hi => by
    rw [e]
    unfold mFind
    rw [List.find?_append, show L'.find? _ = none from h.no i (by omega), List.find?_cons, kM_find, decide_eq_false (by omega)]
    rfl
theorem KL.yes : ∀ {j : Nat} {L : List MsgR} (i : Nat), KL j L → i < j → ∃ av cv, mFind L ((i % 7 : Nat) : Int) (i / 7) = some (kM i av cv)
  | 0, _, i, h, hi => by omega
  | j + 1, _, i, ⟨L', av, cv, h, e⟩, hi => by
    by_cases hij : i = j
    · refine ⟨av, cv, ?_⟩
      rw [e]
      unfold mFind
      rw [List.find?_append, show L'.find? _ = none from h.no i (by omega), List.find?_cons, kM_find, decide_eq_true hij, hij]
      rfl
    · obtain ⟨a1, c1, h1⟩ := h.yes i (by omega)
      refine ⟨a1, c1, ?_⟩
      rw [e]
      unfold mFind
      rw [List.find?_append, show L'.find? _ = _ from h1]
      rfl
theorem kM_check (i : Nat) (hi : i < 60) : mchk (kM i none 0) = 0 := by
  have h1 : smB ((i % 7 : Nat) : Int) = true := decide_eq_true (by omega)
  have h2 : smB (i : Int) = true := decide_eq_true (by omega)
  unfold mchk kM
  dsimp only
  rw [if_pos ⟨by decide, h1, by decide, by decide, by decide, by decide, by decide, by decide, fun h => absurd h (by decide), h2⟩, if_neg (by decide), if_pos (by decide)]
/-- What Keep answers in the round i. -/
theorem KL.code {i k : Nat} {L : List MsgR} (h : KL (min i k) L) (hi : i < 60) : kpCode L (k : Int) (kM i none 0) = if i < k then 0 else 11 := by
  unfold kpCode
  rw [if_neg (by simp [kM]), if_neg (by rw [kM_check i hi]; simp), show mFind L (kM i none 0).tt (kM i none 0).id = none from h.no i (by omega), if_neg (by simp), h.len]
  by_cases hik : i < k
  · rw [if_pos (by omega), if_pos hik]
  · rw [if_neg (by omega), if_neg hik]
end Go.Proofs.Ytboadalojimdlaa
