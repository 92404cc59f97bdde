/-
  IndexOwn, plainly: unlike keys in whatever order.
-/
import Derived.Test.YtmmmakfmpopniaaIdxAlive
namespace Go.Proofs.Ytmmmakfmpopniaa
open Go.RowKit
set_option linter.unusedVariables false

/-- Where the j-th one comes from. -/
def sgI (n by_ j : Nat) : Nat := (n - 1 - j + by_) % n
/-- The first i in that order. -/
def rotL (A : List PosR) (by_ i : Nat) : List PosR := (List.range i).map fun j => A.getD (sgI A.length by_ j) dP
theorem rotL_snoc (A : List PosR) (by_ i : Nat) : rotL A by_ (i + 1) = rotL A by_ i ++ [A.getD (sgI A.length by_ i) dP] := by simp [rotL, List.range_succ]
theorem rotL_len (A : List PosR) (by_ i : Nat) : (rotL A by_ i).length = i := by simp [rotL]
theorem sgI_lt {n by_ j : Nat} (h : 0 < n) : sgI n by_ j < n := Nat.mod_lt _ h
theorem sgI_inj {n by_ i j : Nat} (hi : i < n) (hj : j < n) (e : sgI n by_ i = sgI n by_ j) : i = j := by
  unfold sgI at e
  have h1 := Nat.div_add_mod (n - 1 - i + by_) n
  have h2 := Nat.div_add_mod (n - 1 - j + by_) n
  rw [e] at h1
  generalize (n - 1 - j + by_) % n = r at *
  generalize (n - 1 - i + by_) / n = a at *
  generalize (n - 1 - j + by_) / n = b at *
  rcases Nat.lt_trichotomy a b with h | h | h
  · have : n * a + n ≤ n * b := by have := Nat.mul_le_mul_left n h; rwa [Nat.mul_succ] at this
    omega
  · subst h; omega
  · have : n * b + n ≤ n * a := by have := Nat.mul_le_mul_left n h; rwa [Nat.mul_succ] at this
    omega
theorem sgI_surj {n by_ t : Nat} (ht : t < n) : ∃ j, j < n ∧ sgI n by_ j = t := by
  refine ⟨(n - 1 - t + by_) % n, Nat.mod_lt _ (by omega), ?_⟩
  unfold sgI
  have h1 := Nat.div_add_mod (n - 1 - t + by_) n
  have hr : (n - 1 - t + by_) % n < n := Nat.mod_lt _ (by omega)
  generalize (n - 1 - t + by_) % n = r at *
  generalize (n - 1 - t + by_) / n = a at *
  have e : n - 1 - r + by_ = t + n * a := by omega
  rw [e, Nat.add_mul_mod_self_left]
  exact Nat.mod_eq_of_lt ht
/-- No two alike. -/
def Dst (A : List PosR) : Prop := ∀ i k (hi : i < A.length) (hk : k < A.length), (A[i]).key = (A[k]).key → i = k
theorem mem_dst {A : List PosR} (hd : Dst A) (x : PosR) : x ∈ insAll PosR.key [] A ↔ x ∈ A := by
  rw [mem_insAll A List.Pairwise.nil]
  constructor
  · rintro (⟨i, hi, rfl, _⟩ | ⟨h, _⟩)
    · exact List.getElem_mem hi
    · cases h
  · intro h
    obtain ⟨i, hi, rfl⟩ := List.getElem_of_mem h
    exact .inl ⟨i, hi, rfl, fun j hj hij e => by have := hd j i hj hi e; omega⟩
theorem len_dst : ∀ {A : List PosR}, Dst A → (insAll PosR.key [] A).length = A.length := by
  intro A hd
  have key : ∀ i, i ≤ A.length → (insAll PosR.key [] (A.take i)).length = i := by
    intro i
    induction i with
    | zero => intro _; simp [insAll]
    | succ i ih =>
      intro hi
      rw [List.take_succ_eq_append_getElem (by omega), insAll_snoc, insK_count (srt_insAll _ List.Pairwise.nil), ih (by omega), if_neg]
      rintro ⟨x, hx, e⟩
      rcases (key_insAll _ _ List.Pairwise.nil).1 ⟨x, hx, e⟩ with ⟨y, hy, _⟩ | ⟨y, hy, e⟩
      · cases hy
      · obtain ⟨j, hj, rfl⟩ := List.getElem_of_mem hy
        rw [List.length_take] at hj
        rw [List.getElem_take] at e
        have := hd j i (by omega) (by omega) e
        omega
  have := key A.length (Nat.le_refl _)
  rwa [List.take_length] at this
theorem rot_dst {A : List PosR} (hd : Dst A) (by_ : Nat) : Dst (rotL A by_ A.length) := by
  intro i k hi hk e
  rw [rotL_len] at hi hk
  have g : ∀ j (hj : j < A.length), (rotL A by_ A.length)[j]'(by rw [rotL_len]; exact hj) = A[sgI A.length by_ j]'(sgI_lt (by omega)) := fun j hj => by
    have := sgI_lt (by_ := by_) (j := j) (show 0 < A.length by omega)
    simp [rotL, List.getD, this]
  rw [g i hi, g k hk] at e
  exact sgI_inj hi hk (hd _ _ _ _ e)
theorem rot_mem (A : List PosR) (by_ : Nat) (x : PosR) : x ∈ rotL A by_ A.length ↔ x ∈ A := by
  unfold rotL
  rw [List.mem_map]
  constructor
  · rintro ⟨j, hj, rfl⟩
    rw [List.mem_range] at hj
    have := sgI_lt (by_ := by_) (j := j) (show 0 < A.length by omega)
    simp only [List.getD, List.getElem?_eq_getElem this, Option.getD_some]
    exact List.getElem_mem _
  · intro h
    obtain ⟨t, ht, rfl⟩ := List.getElem_of_mem h
    obtain ⟨j, hj, e⟩ := sgI_surj (by_ := by_) ht
    refine ⟨j, List.mem_range.2 hj, ?_⟩
    rw [e]; simp [List.getD, ht]
theorem own_law {A : List PosR} (hd : Dst A) (by_ : Nat) : insAll PosR.key [] (rotL A by_ A.length) = insAll PosR.key [] A :=
  srt_ext (srt_insAll _ List.Pairwise.nil) (srt_insAll _ List.Pairwise.nil) fun x => by
    rw [mem_dst (rot_dst hd by_), mem_dst hd, rot_mem]
theorem dst_of {A : List PosR} {n : Nat} (hn : A.length = n) (h : ∀ i, i < n → ∀ k, k < i → (A.getD i dP).key ≠ (A.getD k dP).key) : Dst A := by
  intro i k hi hk e
  have g : ∀ j (hj : j < A.length), A.getD j dP = A[j] := fun j hj => by simp [List.getD, hj]
  rcases Nat.lt_trichotomy i k with hlt | hlt | hlt
  · exact absurd (by rw [g i hi, g k hk]; exact e.symm) (h k (by omega) i hlt)
  · exact hlt
  · exact absurd (by rw [g i hi, g k hk]; exact e) (h i (by omega) k hlt)
end Go.Proofs.Ytmmmakfmpopniaa
