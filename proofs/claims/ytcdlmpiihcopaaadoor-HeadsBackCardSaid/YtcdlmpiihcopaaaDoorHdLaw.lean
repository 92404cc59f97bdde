/-
  What heads' bytes say: plain laws.
-/
import Derived.Test.YtcdlmpiihcopaaaDoorHdRef
import Derived.Test.YtcdlmpiihcopaaaDoorHdMan
namespace Go.Proofs.YtcdlmpiihcopaaaDoor
set_option linter.unusedVariables false

theorem flip_neH (x : BitVec 8) (r : Nat) (h : r < 8) : x ^^^ BitVec.ofNat 8 (2 ^ r) ≠ x := by
  intro e
  have h1 : x ^^^ (x ^^^ BitVec.ofNat 8 (2 ^ r)) = x ^^^ x := by rw [e]
  rw [← BitVec.xor_assoc, BitVec.xor_self, BitVec.zero_xor] at h1
  have h' : r = 0 ∨ r = 1 ∨ r = 2 ∨ r = 3 ∨ r = 4 ∨ r = 5 ∨ r = 6 ∨ r = 7 := by omega
  rcases h' with rfl | rfl | rfl | rfl | rfl | rfl | rfl | rfl <;> exact absurd h1 (by decide)
theorem sealed_turnedH (l : List (BitVec 8)) (j : Nat) (c : BitVec 8) (hj : j < l.length + 4) (hc : c ≠ (l ++ Num.le (Crc.of l).toNat 4).getD j 0) :
    Num.num (((l ++ Num.le (Crc.of l).toNat 4).set j c).drop l.length) ≠ (Crc.of (((l ++ Num.le (Crc.of l).toNat 4).set j c).take l.length)).toNat := by
  have hx : (Crc.of l).toNat < 256 ^ 4 := (Crc.of l).isLt
  by_cases h : j < l.length
  · rw [List.set_append_left _ _ (by simpa using h), List.drop_left' (by simp), List.take_left' (by simp), Num.num_le_of_lt hx]
    intro e
    have e := BitVec.eq_of_toNat_eq e
    have hl : l = l.take j ++ l[j] :: l.drop (j + 1) := by
      rw [List.getElem_cons_drop, List.take_append_drop]
    have hs : l.set j c = l.take j ++ c :: l.drop (j + 1) := List.set_eq_take_append_cons_drop ▸ (if_pos h)
    rw [hs] at e
    conv at e => lhs; rw [hl]
    refine Crc.of_ne_one (l.take j) (l.drop (j + 1)) (l[j]) c (fun e2 => hc ?_) e
    rw [← e2]
    simp [List.getD, List.getElem?_append_left h, h]
  · rw [List.set_append_right _ _ (by simpa using h), List.drop_left' rfl, List.take_left' rfl]
    intro e
    have hl4 : ((Num.le (Crc.of l).toNat 4).set (j - l.length) c).length = 4 := by rw [List.length_set, Num.le_length]
    have h1 := Num.le_num ((Num.le (Crc.of l).toNat 4).set (j - l.length) c)
    rw [hl4, e] at h1
    apply hc
    have h2 := congrArg (fun L => L.getD (j - l.length) 0) h1
    have h3 : j - l.length < 4 := by omega
    simp only [List.getD, List.getElem?_append_right (show l.length ≤ j by omega)] at h2 ⊢
    rw [h2]
    simp [Num.le_length, h3]
theorem flip_valueH (x : BitVec 8) (r : Nat) (h : r < 8) : bits .xor .u8 (x.toNat : Int) (2 ^ r % 256) = ((x ^^^ BitVec.ofNat 8 (2 ^ r)).toNat : Int) := by
  have e : ((2 : Int) ^ r % 256) = ((BitVec.ofNat 8 (2 ^ r)).toNat : Int) := by
    have h' : r = 0 ∨ r = 1 ∨ r = 2 ∨ r = 3 ∨ r = 4 ∨ r = 5 ∨ r = 6 ∨ r = 7 := by omega
    rcases h' with rfl | rfl | rfl | rfl | rfl | rfl | rfl | rfl <;> rfl
  rw [e]
  have hb := (x ^^^ BitVec.ofNat 8 (2 ^ r)).isLt
  show IntKind.u8.wrap ((BitVec.ofInt 8 (x.toNat : Int) ^^^ BitVec.ofInt 8 ((BitVec.ofNat 8 (2 ^ r)).toNat : Int)).toNat : Int) = _
  rw [BitVec.ofInt_natCast, BitVec.ofInt_natCast, BitVec.ofNat_toNat, BitVec.ofNat_toNat, BitVec.setWidth_eq, BitVec.setWidth_eq]
  show ((x ^^^ BitVec.ofNat 8 (2 ^ r)).toNat : Int) % 256 = _
  omega
theorem part_left {A B : List (BitVec 8)} {p k : Nat} (h : p + k ≤ A.length) : ((A ++ B).drop p).take k = (A.drop p).take k := by
  rw [List.drop_append_of_le_length (by omega), List.take_append_of_le_length (by rw [List.length_drop]; omega)]
theorem nums_left {A B : List (BitVec 8)} {p k : Nat} (h : p + k ≤ A.length) : nums (A ++ B) p k = nums A p k := by unfold nums; rw [part_left h]
theorem body_cons (x : Nat) (ws : List Nat) : hdBody (x :: ws) = Num.le x 4 ++ hdBody ws := by unfold hdBody; simp
theorem body_word : ∀ (ws : List Nat) (i : Nat) (x : Nat), ws[i]? = some x → x < 4294967296 → nums (hdBody ws) (4 * i) 4 = x
  | [], i, x, h, _ => by simp at h
  | y :: ws, 0, x, h, hx => by
    simp at h
    subst h
    rw [body_cons, nums_left (by rw [Num.le_length]; omega)]
    unfold nums
    rw [Nat.mul_zero, List.drop_zero, List.take_of_length_le (by rw [Num.le_length]; exact Nat.le_refl _), Num.num_le_of_lt (by omega)]
  | y :: ws, i + 1, x, h, hx => by
    have h' : ws[i]? = some x := by simpa using h
    have := body_word ws i x h' hx
    rw [body_cons]
    unfold nums at this ⊢
    rw [show 4 * (i + 1) = 4 + 4 * i from by omega, ← List.drop_drop, List.drop_left' (Num.le_length y 4)]
    exact this
theorem bytes_word (ws : List Nat) (R : List (BitVec 8)) (i x : Nat) (h : ws[i]? = some x) (hx : x < 4294967296) : nums (hdBytes ws ++ R) (4 * i) 4 = x := by
  have hi : i < ws.length := (List.getElem?_eq_some_iff.1 h).1
  have hl := hdBody_length ws
  unfold hdBytes
  rw [List.append_assoc, nums_left (by omega)]
  exact body_word ws i x h hx
theorem bytes_sum (ws : List Nat) (R : List (BitVec 8)) : nums (hdBytes ws ++ R) (4 * ws.length) 4 = (Crc.of ((hdBytes ws ++ R).take (4 * ws.length))).toNat := by
  unfold hdBytes
  rw [List.append_assoc, List.take_left' (hdBody_length ws)]
  unfold nums
  rw [List.drop_left' (hdBody_length ws), List.take_left' (Num.le_length _ _), Num.num_le_of_lt (of_fits _)]
/-- The number of what is wrong with bytes that were put. -/
theorem code_bytes (ws : List Nat) (R : List (BitVec 8)) (x magic : Nat) (h : ws[0]? = some x) (hx : x < 4294967296) : hdCode (hdBytes ws ++ R) ws.length magic = if x ≠ magic then 4 else 0 := by
  unfold hdCode
  have h0 := bytes_word ws R 0 x h hx
  rw [Nat.mul_zero] at h0
  rw [if_neg (by rw [List.length_append, hdBytes_length]; omega), h0, if_neg (not_not_intro (bytes_sum ws R))]
theorem code_magic {L : List (BitVec 8)} {k magic : Nat} (h : 4 * k + 4 ≤ L.length) (hm : nums L 0 4 ≠ magic) : hdCode L k magic = 4 := by
  unfold hdCode
  rw [if_neg (by omega), if_pos hm]
/-- What was put is got. -/
theorem super_bytes (v g : Nat) (R : List (BitVec 8)) (h : hdRight v g 0 = true) : hdSuper (hdBytes [1129466178, v, g] ++ R) = (v, g, 0) := by
  obtain ⟨h1, h2, h3, h4, -, -⟩ := (of_decide_eq_true h : 1 ≤ (v : Int) ∧ _)
  have hc := code_bytes [1129466178, v, g] R 1129466178 1129466178 rfl (by decide)
  have e1 := bytes_word [1129466178, v, g] R 1 v rfl (by omega)
  have e2 := bytes_word [1129466178, v, g] R 2 g rfl (by omega)
  unfold hdSuper
  rw [show ([1129466178, v, g] : List Nat).length = 3 from rfl] at hc
  rw [hc, if_neg (by decide), e1, e2, if_pos h]
theorem man_bytes (v g u : Nat) (s : Bool) (h : hdRight v g u = true) : hdMan (hdBytes [1296125513, v, g, u, if s then 1 else 0]) = (v, g, u, s, 0) := by
  obtain ⟨h1, h2, h3, h4, h5, h6⟩ := (of_decide_eq_true h : 1 ≤ (v : Int) ∧ _)
  have hs : (if s = true then 1 else 0) < 4294967296 := by split <;> decide
  have hc := code_bytes [1296125513, v, g, u, if s then 1 else 0] [] 1296125513 1296125513 rfl (by decide)
  have e1 := bytes_word [1296125513, v, g, u, if s then 1 else 0] [] 1 v rfl (by omega)
  have e2 := bytes_word [1296125513, v, g, u, if s then 1 else 0] [] 2 g rfl (by omega)
  have e3 := bytes_word [1296125513, v, g, u, if s then 1 else 0] [] 3 u rfl (by omega)
  have e4 := bytes_word [1296125513, v, g, u, if s then 1 else 0] [] 4 _ rfl hs
  rw [List.append_nil] at hc e1 e2 e3 e4
  rw [show ([1296125513, v, g, u, if s then 1 else 0] : List Nat).length = 5 from rfl] at hc
  have hl := hdBytes_length [1296125513, v, g, u, if s then 1 else 0]
  rw [show ([1296125513, v, g, u, if s then 1 else 0] : List Nat).length = 5 from rfl] at hl
  unfold hdMan
  rw [if_neg (by omega), hc, if_neg (by decide), e1, e2, e3, e4, if_pos ⟨by split <;> decide, h⟩]
  cases s <;> rfl
/-- A manifest is no superblock. -/
theorem super_man (v g u q : Nat) : hdSuper (hdBytes [1296125513, v, g, u, q]) = (0, 0, 4) := by
  have e0 := bytes_word [1296125513, v, g, u, q] [] 0 1296125513 rfl (by decide)
  rw [List.append_nil, Nat.mul_zero] at e0
  have hl := hdBytes_length [1296125513, v, g, u, q]
  rw [show ([1296125513, v, g, u, q] : List Nat).length = 5 from rfl] at hl
  have hc : hdCode (hdBytes [1296125513, v, g, u, q]) 3 1129466178 = 4 := code_magic (by omega) (by rw [e0]; decide)
  unfold hdSuper
  rw [hc]
  rfl
/-- A superblock is no manifest. -/
theorem man_super (v g : Nat) (R : List (BitVec 8)) (hR : R.length = 8) : hdMan (hdBytes [1129466178, v, g] ++ R) = (0, 0, 0, false, 4) := by
  have e0 := bytes_word [1129466178, v, g] R 0 1129466178 rfl (by decide)
  rw [Nat.mul_zero] at e0
  have hl := hdBytes_length [1129466178, v, g]
  rw [show ([1129466178, v, g] : List Nat).length = 3 from rfl] at hl
  have hc : hdCode (hdBytes [1129466178, v, g] ++ R) 5 1296125513 = 4 := code_magic (by rw [List.length_append]; omega) (by rw [e0]; decide)
  unfold hdMan
  rw [if_neg (by rw [List.length_append]; omega), hc]
  rfl
theorem man_short (v g : Nat) : hdMan (hdBytes [1129466178, v, g]) = (0, 0, 0, false, 3) := by
  have hl := hdBytes_length [1129466178, v, g]
  rw [show ([1129466178, v, g] : List Nat).length = 3 from rfl] at hl
  have hc : hdCode (hdBytes [1129466178, v, g]) 5 1296125513 = 3 := by unfold hdCode; rw [if_pos (by omega)]
  unfold hdMan
  rw [if_neg (by omega), hc]
  rfl
/-- With one byte turned it isn't. -/
theorem code_turned (ws : List Nat) (j : Nat) (c : BitVec 8) (magic : Nat) (hj : j < 4 * ws.length + 4) (hc : c ≠ (hdBytes ws).getD j 0) : hdCode ((hdBytes ws).set j c) ws.length magic = 4 ∨ hdCode ((hdBytes ws).set j c) ws.length magic = 5 := by
  have h := sealed_turnedH (hdBody ws) j c (by rw [hdBody_length]; exact hj) hc
  rw [hdBody_length] at h
  change Num.num (((hdBytes ws).set j c).drop _) ≠ (Crc.of (((hdBytes ws).set j c).take _)).toNat at h
  have hl : ((hdBytes ws).set j c).length = 4 * ws.length + 4 := by rw [List.length_set, hdBytes_length]
  have hn : nums ((hdBytes ws).set j c) (4 * ws.length) 4 = Num.num (((hdBytes ws).set j c).drop (4 * ws.length)) := by
    unfold nums
    rw [List.take_of_length_le (by rw [List.length_drop, hl]; omega)]
  unfold hdCode
  rw [hn, if_neg (by omega)]
  by_cases hm : nums ((hdBytes ws).set j c) 0 4 ≠ magic
  · left; rw [if_pos hm]
  · right; rw [if_neg hm, if_pos h]
theorem super_turned (v g j : Nat) (c : BitVec 8) (hj : j < 16) (hc : c ≠ (hdBytes [1129466178, v, g]).getD j 0) : ∃ cf, hdSuper ((hdBytes [1129466178, v, g]).set j c) = (0, 0, cf) ∧ (cf = 4 ∨ cf = 5) := by
  have h := code_turned [1129466178, v, g] j c 1129466178 hj hc
  rw [show ([1129466178, v, g] : List Nat).length = 3 from rfl] at h
  refine ⟨hdCode ((hdBytes [1129466178, v, g]).set j c) 3 1129466178, ?_, h⟩
  unfold hdSuper
  rw [if_pos (by omega)]
theorem man_turned (v g u q j : Nat) (c : BitVec 8) (hj : j < 24) (hc : c ≠ (hdBytes [1296125513, v, g, u, q]).getD j 0) : ∃ cf, hdMan ((hdBytes [1296125513, v, g, u, q]).set j c) = (0, 0, 0, false, cf) ∧ (cf = 4 ∨ cf = 5) := by
  have h := code_turned [1296125513, v, g, u, q] j c 1296125513 hj hc
  rw [show ([1296125513, v, g, u, q] : List Nat).length = 5 from rfl] at h
  refine ⟨hdCode ((hdBytes [1296125513, v, g, u, q]).set j c) 5 1296125513, ?_, h⟩
  have hl : ((hdBytes [1296125513, v, g, u, q]).set j c).length = 24 := by rw [List.length_set, hdBytes_length]; rfl
  unfold hdMan
  rw [if_neg (by omega), if_pos (by omega)]
end Go.Proofs.YtcdlmpiihcopaaaDoor
