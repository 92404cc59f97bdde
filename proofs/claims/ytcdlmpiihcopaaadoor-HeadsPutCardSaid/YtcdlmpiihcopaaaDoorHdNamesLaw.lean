/-
  The names of files: plain lists.
-/
import Derived.Lib.ItoaNum
namespace Go.Proofs.YtcdlmpiihcopaaaDoor
open Go

theorem dig_range (u : Nat) : ∀ x ∈ Lib.decDigits u, 48 ≤ x.toNat ∧ x.toNat ≤ 57 := by
  induction u using Nat.strongRecOn with
  | ind u ih =>
    rw [Lib.decDigits]
    split
    · intro x hx
      rw [List.mem_singleton.1 hx, UInt8.toNat_ofNat']
      omega
    · intro x hx
      rcases List.mem_append.1 hx with h | h
      · exact ih (u / 10) (by omega) x h
      · rw [List.mem_singleton.1 h, UInt8.toNat_ofNat']
        omega
theorem dig_len (k : Nat) : ∀ u, u < 10 ^ (k + 1) → (Lib.decDigits u).length ≤ k + 1 := by
  induction k with
  | zero => intro u h; rw [Lib.decDigits, dif_pos (by simpa using h)]; exact Nat.le_refl _
  | succ k ih =>
    intro u h
    rw [Lib.decDigits]
    split
    · simp
    · rw [List.length_append, List.length_singleton]
      have := ih (u / 10) (by rw [Nat.pow_succ] at h; omega)
      omega
/-- What digits tell. -/
def undig (l : List UInt8) : Nat := l.foldl (fun v x => v * 10 + (x.toNat - 48)) 0
theorem undig_snoc (l : List UInt8) (x : UInt8) : undig (l ++ [x]) = undig l * 10 + (x.toNat - 48) := by unfold undig; rw [List.foldl_append]; rfl
theorem undig_dig (u : Nat) : undig (Lib.decDigits u) = u := by
  induction u using Nat.strongRecOn with
  | ind u ih =>
    rw [Lib.decDigits]
    split
    · show 0 * 10 + ((UInt8.ofNat (48 + u)).toNat - 48) = u
      rw [UInt8.toNat_ofNat']
      omega
    · rw [undig_snoc, ih (u / 10) (by omega), UInt8.toNat_ofNat']
      omega
theorem dig_inj {u v : Nat} (h : Lib.decDigits u = Lib.decDigits v) : u = v := by rw [← undig_dig u, ← undig_dig v, h]
theorem dig_no {u : Nat} {x : UInt8} (h : x.toNat < 48 ∨ 57 < x.toNat) : x ∉ Lib.decDigits u := fun e => by have := dig_range u x e; omega
/-- Two texts that are parted by a sign that neither has ahead of it. -/
theorem split_at {a b c d : List UInt8} {x : UInt8} (ha : x ∉ a) (hb : x ∉ b) (h : a ++ x :: c = b ++ x :: d) : a = b ∧ c = d := by
  induction a generalizing b with
  | nil =>
    cases b with
    | nil => simp at h; exact ⟨rfl, h⟩
    | cons y b =>
      simp at h
      exact absurd (List.mem_cons.2 (.inl h.1)) hb
  | cons z a ih =>
    cases b with
    | nil =>
      simp at h
      exact absurd (List.mem_cons.2 (.inl h.1.symm)) ha
    | cons y b =>
      simp only [List.cons_append, List.cons.injEq] at h
      obtain ⟨rfl, h⟩ := h
      obtain ⟨rfl, h2⟩ := ih (fun e => ha (List.mem_cons_of_mem _ e)) (fun e => hb (List.mem_cons_of_mem _ e)) h
      exact ⟨rfl, h2⟩
/-- The four names. -/
def nmA (v g : Nat) : List UInt8 := 118 :: (Lib.decDigits v ++ 46 :: Lib.decDigits g)
def nmB (v g : Nat) : List UInt8 := 99 :: (Lib.decDigits v ++ 46 :: Lib.decDigits g)
def nmC (v : Nat) : List UInt8 := 109 :: Lib.decDigits v
def nmD (v : Nat) : List UInt8 := 109 :: (Lib.decDigits v ++ [46, 116])
theorem nm_AB (v g w h : Nat) : nmA v g ≠ nmB w h := by unfold nmA nmB; simp
theorem nm_AC (v g w : Nat) : nmA v g ≠ nmC w := by unfold nmA nmC; simp
theorem nm_AD (v g w : Nat) : nmA v g ≠ nmD w := by unfold nmA nmD; simp
theorem nm_BC (v g w : Nat) : nmB v g ≠ nmC w := by unfold nmB nmC; simp
theorem nm_BD (v g w : Nat) : nmB v g ≠ nmD w := by unfold nmB nmD; simp
theorem nm_CD (v w : Nat) : nmC v ≠ nmD w := by
  unfold nmC nmD
  intro e
  injection e with _ e
  have h : (46 : UInt8) ∈ Lib.decDigits v := by rw [e]; simp
  exact dig_no (x := 46) (by decide) h
theorem nm_A {v g w h : Nat} : nmA v g = nmA w h ↔ v = w ∧ g = h := by
  constructor
  · unfold nmA
    intro e
    injection e with _ e
    obtain ⟨e1, e2⟩ := split_at (dig_no (x := 46) (by decide)) (dig_no (x := 46) (by decide)) e
    exact ⟨dig_inj e1, dig_inj e2⟩
  · rintro ⟨rfl, rfl⟩; rfl
theorem nm_B {v g w h : Nat} : nmB v g = nmB w h ↔ v = w ∧ g = h := by
  constructor
  · unfold nmB
    intro e
    injection e with _ e
    obtain ⟨e1, e2⟩ := split_at (dig_no (x := 46) (by decide)) (dig_no (x := 46) (by decide)) e
    exact ⟨dig_inj e1, dig_inj e2⟩
  · rintro ⟨rfl, rfl⟩; rfl
theorem nm_C {v w : Nat} : nmC v = nmC w ↔ v = w := by
  constructor
  · unfold nmC
    intro e
    injection e with _ e
    exact dig_inj e
  · rintro rfl; rfl
theorem nm_D {v w : Nat} : nmD v = nmD w ↔ v = w := by
  constructor
  · unfold nmD
    intro e
    injection e with _ e
    obtain ⟨e1, _⟩ := split_at (dig_no (x := 46) (by decide)) (dig_no (x := 46) (by decide)) e
    exact dig_inj e1
  · rintro rfl; rfl
end Go.Proofs.YtcdlmpiihcopaaaDoor
