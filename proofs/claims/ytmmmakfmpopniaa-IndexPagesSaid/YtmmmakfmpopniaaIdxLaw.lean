/-
  Lists in order by a key: what is put behind what (plain).
-/
import Derived.WalkKit
namespace Go.Proofs.Ytmmmakfmpopniaa

/-- A list by keys, each ahead of the next. -/
def Srt {α : Type} (key : α → Nat) (l : List α) : Prop := l.Pairwise fun a b => key a < key b
/-- How many stand ahead of a key. -/
def lo {α : Type} (key : α → Nat) (k : Nat) : List α → Nat
  | [] => 0
  | a :: r => if key a < k then lo key k r + 1 else 0
/-- One more. -/
def insK {α : Type} (key : α → Nat) (p : α) : List α → List α
  | [] => [p]
  | q :: r => if key q < key p then q :: insK key p r else if key q = key p then p :: r else p :: q :: r
/-- Many, one behind the other. -/
def insAll {α : Type} (key : α → Nat) (l ps : List α) : List α := ps.foldl (fun m p => insK key p m) l

section
variable {α : Type} {key : α → Nat}
theorem lo_le (k : Nat) : ∀ l : List α, lo key k l ≤ l.length
  | [] => Nat.le_refl _
  | a :: r => by
    unfold lo
    have := lo_le k r
    split <;> simp <;> omega
theorem lo_lt (k : Nat) : ∀ (l : List α) (i : Nat) (h : i < l.length), i < lo key k l → key l[i] < k
  | [], i, h, _ => absurd h (by simp)
  | a :: r, 0, h, h2 => by
    unfold lo at h2
    split at h2
    · assumption
    · omega
  | a :: r, i + 1, h, h2 => by
    unfold lo at h2
    split at h2
    · exact lo_lt k r i (by simpa using h) (by omega)
    · omega
theorem lo_ge (k : Nat) : ∀ (l : List α), Srt key l → ∀ (i : Nat) (h : i < l.length), lo key k l ≤ i → k ≤ key l[i]
  | [], _, i, h, _ => absurd h (by simp)
  | a :: r, hs, 0, h, h2 => by
    unfold lo at h2
    split at h2
    · omega
    · rename_i hn; exact Nat.le_of_not_lt hn
  | a :: r, hs, i + 1, h, h2 => by
    have hs' := List.pairwise_cons.1 hs
    unfold lo at h2
    split at h2
    · exact lo_ge k r hs'.2 i (by simpa using h) (by omega)
    · rename_i hn
      have := hs'.1 _ (List.getElem_mem (l := r) (n := i) (by simpa using h))
      show k ≤ key (r[i]'(by simpa using h))
      omega
theorem Srt.lt {l : List α} (h : Srt key l) {i j : Nat} (hj : j < l.length) (hij : i < j) : key (l[i]'(by omega)) < key l[j] :=
  List.pairwise_iff_getElem.1 h i j (by omega) hj hij
/-- The place: what stands there decides. -/
theorem lo_unique {l : List α} (hs : Srt key l) (k i : Nat) (hi : i ≤ l.length) (h1 : ∀ t (ht : t < l.length), t < i → key l[t] < k) (h2 : ∀ t (ht : t < l.length), i ≤ t → k ≤ key l[t]) : lo key k l = i := by
  have hle := lo_le (key := key) k l
  by_cases h : lo key k l < i
  · have a := h1 (lo key k l) (by omega) h
    have b := lo_ge k l hs (lo key k l) (by omega) (Nat.le_refl _)
    omega
  · by_cases h' : i < lo key k l
    · have a := h2 i (by omega) (Nat.le_refl _)
      have b := lo_lt (key := key) k l i (by omega) h'
      omega
    · omega
theorem insK_lo (p : α) : ∀ l : List α, Srt key l → insK key p l = (if _ : lo key (key p) l < l.length ∧ key (l.getD (lo key (key p) l) p) = key p then l.set (lo key (key p) l) p else l.take (lo key (key p) l) ++ p :: l.drop (lo key (key p) l))
  | [], _ => by simp [insK, lo]
  | q :: r, hs => by
    have hs' := List.pairwise_cons.1 hs
    unfold insK lo
    by_cases h : key q < key p
    · rw [if_pos h, if_pos h, insK_lo p r hs'.2]
      by_cases h2 : lo key (key p) r < r.length ∧ key (r.getD (lo key (key p) r) p) = key p
      · rw [dif_pos h2, dif_pos (by simpa using h2)]; rfl
      · rw [dif_neg h2, dif_neg (by simpa using h2)]; rfl
    · rw [if_neg h, if_neg h]
      by_cases h3 : key q = key p
      · rw [if_pos h3, dif_pos (by simpa using h3)]; rfl
      · rw [if_neg h3, dif_neg (by simpa using h3)]; rfl
theorem mem_insK {p x : α} : ∀ {l : List α}, Srt key l → (x ∈ insK key p l ↔ x = p ∨ (x ∈ l ∧ key x ≠ key p))
  | [], _ => by simp [insK]
  | q :: r, hs => by
    have hs' := List.pairwise_cons.1 hs
    unfold insK
    by_cases h : key q < key p
    · rw [if_pos h, List.mem_cons, mem_insK hs'.2]
      constructor
      · rintro (rfl | rfl | ⟨h1, h2⟩)
        · exact .inr ⟨List.mem_cons_self, by omega⟩
        · exact .inl rfl
        · exact .inr ⟨List.mem_cons_of_mem _ h1, h2⟩
      · rintro (rfl | ⟨h1, h2⟩)
        · exact .inr (.inl rfl)
        · rcases List.mem_cons.1 h1 with rfl | h1
          · exact .inl rfl
          · exact .inr (.inr ⟨h1, h2⟩)
    · rw [if_neg h]
      by_cases h3 : key q = key p
      · rw [if_pos h3, List.mem_cons]
        constructor
        · rintro (rfl | h1)
          · exact .inl rfl
          · exact .inr ⟨List.mem_cons_of_mem _ h1, by have := hs'.1 _ h1; omega⟩
        · rintro (rfl | ⟨h1, h2⟩)
          · exact .inl rfl
          · rcases List.mem_cons.1 h1 with rfl | h1
            · exact absurd h3 h2
            · exact .inr h1
      · rw [if_neg h3, List.mem_cons]
        constructor
        · rintro (rfl | h1)
          · exact .inl rfl
          · refine .inr ⟨h1, ?_⟩
            rcases List.mem_cons.1 h1 with rfl | h1
            · exact h3
            · have := hs'.1 _ h1; omega
        · rintro (rfl | ⟨h1, h2⟩)
          · exact .inl rfl
          · exact .inr h1
theorem srt_insK (p : α) : ∀ {l : List α}, Srt key l → Srt key (insK key p l)
  | [], _ => by simp [insK, Srt]
  | q :: r, hs => by
    have hs' := List.pairwise_cons.1 hs
    unfold insK
    by_cases h : key q < key p
    · rw [if_pos h]
      refine List.pairwise_cons.2 ⟨fun x hx => ?_, srt_insK p hs'.2⟩
      rcases (mem_insK hs'.2).1 hx with rfl | ⟨h1, _⟩
      · exact h
      · exact hs'.1 _ h1
    · rw [if_neg h]
      by_cases h3 : key q = key p
      · rw [if_pos h3]
        exact List.pairwise_cons.2 ⟨fun x hx => by have := hs'.1 _ hx; omega, hs'.2⟩
      · rw [if_neg h3]
        refine List.pairwise_cons.2 ⟨fun x hx => ?_, hs⟩
        rcases List.mem_cons.1 hx with rfl | hx
        · omega
        · have := hs'.1 _ hx; omega
theorem insK_length_le (p : α) : ∀ (l : List α), (insK key p l).length ≤ l.length + 1
  | [] => by simp [insK]
  | q :: r => by
    unfold insK
    have := insK_length_le p r
    split
    · simp; omega
    · split <;> simp
theorem insK_length_ge (p : α) : ∀ (l : List α), l.length ≤ (insK key p l).length
  | [] => by simp
  | q :: r => by
    unfold insK
    have := insK_length_ge p r
    split
    · simp; omega
    · split <;> simp
/-- What is in order is told by what is in it. -/
theorem srt_ext : ∀ {l m : List α}, Srt key l → Srt key m → (∀ x, x ∈ l ↔ x ∈ m) → l = m
  | [], [], _, _, _ => rfl
  | [], b :: s, _, _, h => absurd ((h b).2 List.mem_cons_self) (by simp)
  | a :: r, [], _, _, h => absurd ((h a).1 List.mem_cons_self) (by simp)
  | a :: r, b :: s, h1, h2, h => by
    have h1' := List.pairwise_cons.1 h1
    have h2' := List.pairwise_cons.1 h2
    have e : a = b := by
      rcases List.mem_cons.1 ((h a).1 List.mem_cons_self) with e | e
      · exact e
      · rcases List.mem_cons.1 ((h b).2 List.mem_cons_self) with e' | e'
        · exact e'.symm
        · have x := h2'.1 _ e; have y := h1'.1 _ e'; omega
    subst e
    congr 1
    refine srt_ext h1'.2 h2'.2 fun x => ⟨fun hx => ?_, fun hx => ?_⟩
    · rcases List.mem_cons.1 ((h x).1 (List.mem_cons_of_mem _ hx)) with rfl | e
      · exact absurd (h1'.1 _ hx) (Nat.lt_irrefl _)
      · exact e
    · rcases List.mem_cons.1 ((h x).2 (List.mem_cons_of_mem _ hx)) with rfl | e
      · exact absurd (h2'.1 _ hx) (Nat.lt_irrefl _)
      · exact e
theorem srt_key {l : List α} (h : Srt key l) {x y : α} (hx : x ∈ l) (hy : y ∈ l) (e : key x = key y) : x = y := by
  obtain ⟨i, hi, rfl⟩ := List.getElem_of_mem hx
  obtain ⟨j, hj, rfl⟩ := List.getElem_of_mem hy
  by_cases a : i < j
  · have := h.lt hj a; omega
  · by_cases b : j < i
    · have := h.lt hi b; omega
    · have : i = j := by omega
      subst this; rfl
theorem insAll_snoc (l ps : List α) (p : α) : insAll key l (ps ++ [p]) = insK key p (insAll key l ps) := by simp [insAll]
theorem srt_insAll (ps : List α) : ∀ {l : List α}, Srt key l → Srt key (insAll key l ps) := by
  induction ps with
  | nil => intro l h; exact h
  | cons p r ih => intro l h; exact ih (srt_insK p h)
theorem insAll_length_le (ps : List α) : ∀ l : List α, (insAll key l ps).length ≤ l.length + ps.length := by
  induction ps with
  | nil => intro l; simp [insAll]
  | cons p r ih =>
    intro l
    have a := ih (insK key p l)
    have b := insK_length_le (key := key) p l
    show (insAll key (insK key p l) r).length ≤ _
    simp; omega
/-- The last one of a key counts. -/
theorem mem_insAll {x : α} (ps : List α) : ∀ {l : List α}, Srt key l → (x ∈ insAll key l ps ↔ (∃ i, ∃ h : i < ps.length, x = ps[i] ∧ ∀ j (hj : j < ps.length), i < j → key ps[j] ≠ key x) ∨ (x ∈ l ∧ ∀ p ∈ ps, key p ≠ key x)) := by
  induction ps with
  | nil => intro l h; simp [insAll]
  | cons p r ih =>
    intro l h
    show x ∈ insAll key (insK key p l) r ↔ _
    rw [ih (srt_insK p h), mem_insK h]
    constructor
    · rintro (⟨i, hi, rfl, h2⟩ | ⟨h1, h2⟩)
      · refine .inl ⟨i + 1, by simpa using hi, rfl, fun j hj hij => ?_⟩
        obtain ⟨j, rfl⟩ : ∃ k, j = k + 1 := ⟨j - 1, by omega⟩
        exact h2 j (by simpa using hj) (by omega)
      · rcases h1 with rfl | ⟨h1, h3⟩
        · refine .inl ⟨0, by simp, rfl, fun j hj hij => ?_⟩
          obtain ⟨j, rfl⟩ : ∃ k, j = k + 1 := ⟨j - 1, by omega⟩
          exact h2 _ (List.getElem_mem _)
        · refine .inr ⟨h1, fun q hq => ?_⟩
          rcases List.mem_cons.1 hq with rfl | hq
          · exact fun e => h3 e.symm
          · exact h2 _ hq
    · rintro (⟨i, hi, he, h2⟩ | ⟨h1, h2⟩)
      · cases i with
        | zero =>
          obtain rfl : x = p := he
          refine .inr ⟨.inl rfl, fun q hq => ?_⟩
          obtain ⟨j, hj, rfl⟩ := List.getElem_of_mem hq
          exact h2 (j + 1) (by simpa using hj) (by omega)
        | succ i =>
          refine .inl ⟨i, by simpa using hi, he, fun j hj hij => ?_⟩
          exact h2 (j + 1) (by simpa using hj) (by omega)
      · exact .inr ⟨.inr ⟨h1, fun e => h2 p List.mem_cons_self e.symm⟩, fun q hq => h2 q (List.mem_cons_of_mem _ hq)⟩
end
end Go.Proofs.Ytmmmakfmpopniaa
