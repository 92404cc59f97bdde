/-
  Plain facts on a number's bytes, the lowest one first: no program in sight.
-/
namespace Go.Proofs.Ytpkfjnhjcdcoaaa.Num

/-- k bytes of a number, the lowest one first. -/
def le : Nat → Nat → List (BitVec 8)
  | _, 0 => []
  | n, k + 1 => BitVec.ofNat 8 n :: le (n / 256) k
/-- The number of bytes. -/
def num : List (BitVec 8) → Nat
  | [] => 0
  | c :: l => c.toNat + 256 * num l

theorem le_length (n k : Nat) : (le n k).length = k := by
  induction k generalizing n with
  | zero => rfl
  | succ k ih => simp [le, ih]
theorem num_lt (l : List (BitVec 8)) : num l < 256 ^ l.length := by
  induction l with
  | nil => simp [num]
  | cons c l ih =>
    have := c.isLt
    simp only [num, List.length_cons, Nat.pow_succ]
    omega
theorem num_le (n k : Nat) : num (le n k) = n % 256 ^ k := by
  induction k generalizing n with
  | zero => simp [le, num, Nat.mod_one]
  | succ k ih =>
    simp only [le, num, ih, BitVec.toNat_ofNat]
    rw [show (2 : Nat) ^ 8 = 256 from rfl, Nat.pow_succ, Nat.mul_comm (256 ^ k) 256, Nat.mod_mul]
theorem num_le_of_lt {n k : Nat} (h : n < 256 ^ k) : num (le n k) = n := by rw [num_le, Nat.mod_eq_of_lt h]
theorem le_num (l : List (BitVec 8)) : le (num l) l.length = l := by
  induction l with
  | nil => rfl
  | cons c l ih =>
    have hc := c.isLt
    have h1 : BitVec.ofNat 8 (c.toNat + 256 * num l) = c := by
      apply BitVec.eq_of_toNat_eq
      rw [BitVec.toNat_ofNat, show (2 : Nat) ^ 8 = 256 from rfl]; omega
    have h2 : (c.toNat + 256 * num l) / 256 = num l := by omega
    simp only [num, List.length_cons, le, h1, h2, ih]
theorem le_inj {n m k : Nat} (hn : n < 256 ^ k) (hm : m < 256 ^ k) (h : le n k = le m k) : n = m := by
  rw [← num_le_of_lt hn, ← num_le_of_lt hm, h]
theorem num_append (a b : List (BitVec 8)) : num (a ++ b) = num a + 256 ^ a.length * num b := by
  induction a with
  | nil => simp [num]
  | cons c a ih =>
    simp only [List.cons_append, num, ih, List.length_cons, Nat.pow_succ]
    rw [Nat.mul_add, Nat.mul_comm (256 ^ a.length) 256, Nat.mul_assoc, Nat.add_assoc]
theorem num_inj {a b : List (BitVec 8)} (hl : a.length = b.length) (h : num a = num b) : a = b := by
  rw [← le_num a, ← le_num b, hl, h]

/-- What a loop from behind gathers. -/
def back (v : Nat) (l : List (Nat × BitVec 8)) : Nat := l.foldl (fun v x => v * 256 + x.2.toNat) v
theorem back_snoc (v : Nat) (l : List (Nat × BitVec 8)) (x : Nat × BitVec 8) : back v (l ++ [x]) = back v l * 256 + x.2.toNat := by simp [back]
theorem back_lt (l : List (Nat × BitVec 8)) : back 0 l < 256 ^ l.length := by
  suffices h : ∀ v, back v l < (v + 1) * 256 ^ l.length by simpa using h 0
  induction l with
  | nil => intro v; simp [back]
  | cons x l ih =>
    intro v
    have hx := x.2.isLt
    have h1 := ih (v * 256 + x.2.toNat)
    have h2 : (v * 256 + x.2.toNat + 1) * 256 ^ l.length ≤ ((v + 1) * 256) * 256 ^ l.length := Nat.mul_le_mul_right _ (by omega)
    simp only [back, List.foldl_cons, List.length_cons, Nat.pow_succ] at *
    rw [Nat.mul_comm (256 ^ l.length) 256, ← Nat.mul_assoc]
    omega

theorem num_snoc (l : List (BitVec 8)) (c : BitVec 8) : num (l ++ [c]) = num l + 256 ^ l.length * c.toNat := by rw [num_append]; simp [num]

theorem back_drop (l : List (BitVec 8)) (f : Nat → Nat × BitVec 8) (hf : ∀ j, j < l.length → (f j).2 = l.getD (l.length - 1 - j) 0) (k : Nat) (hk : k ≤ l.length) :
    back 0 ((List.range k).map f) = num (l.drop (l.length - k)) := by
  induction k with
  | zero => simp [back, num]
  | succ k ih =>
    rw [List.range_succ, List.map_append, List.map_cons, List.map_nil, back_snoc, ih (by omega), hf k (by omega)]
    have h1 : l.length - (k + 1) < l.length := by omega
    rw [show l.length - 1 - k = l.length - (k + 1) from by omega, List.drop_eq_getElem_cons h1, num]
    rw [show l.length - (k + 1) + 1 = l.length - k from by omega]
    simp [List.getD, h1]
    omega
theorem back_all (l : List (BitVec 8)) (f : Nat → Nat × BitVec 8) (hf : ∀ j, j < l.length → (f j).2 = l.getD (l.length - 1 - j) 0) :
    back 0 ((List.range l.length).map f) = num l := by
  rw [back_drop l f hf _ (Nat.le_refl _)]; simp

/-- A byte below a number that ends with eight noughts. -/
theorem or_byte (v : Nat) (c : BitVec 8) : v * 256 ||| c.toNat = v * 256 + c.toNat := by
  have h : v * 256 = v <<< 8 := by rw [Nat.shiftLeft_eq]
  have hc : c.toNat < 2 ^ 8 := c.isLt
  rw [h]
  exact (Nat.shiftLeft_add_eq_or_of_lt hc v).symm

end Go.Proofs.Ytpkfjnhjcdcoaaa.Num
