/-
  Plain: what is put as a checkpoint's bytes is got of them; cut, longer, with one byte turned.
-/
import Derived.Test.YtkmifimdjdjdpaaChkGet
import Derived.Test.YtkmifimdjdjdpaaSumTellsWalk
namespace Go.Proofs.Ytkmifimdjdjdpaa
open Go.RowKit

/-- What a list of positions keeps to. -/
def Fits (ps : List PosR) : Prop := ∀ p ∈ ps, p.key < 18446744073709551616 ∧ p.ck < 4294967296 ∧ -9223372036854775808 ≤ p.off ∧ p.off ≤ 9223372036854775807 ∧ -9223372036854775808 ≤ p.len ∧ p.len ≤ 9223372036854775807

theorem nums_mid (A x C : List (BitVec 8)) (q k : Nat) (h1 : A.length = q) (h2 : x.length = k) : nums (A ++ (x ++ C)) q k = Num.num x := by
  unfold nums
  rw [List.drop_left' h1, List.take_left' h2]
theorem nums_append (L C : List (BitVec 8)) (q k : Nat) (h : q + k ≤ L.length) : nums (L ++ C) q k = nums L q k := by
  unfold nums
  rw [List.drop_append_of_le_length (by omega), List.take_append_of_le_length (by rw [List.length_drop]; omega)]
theorem nums_take (L : List (BitVec 8)) (m q k : Nat) (h : q + k ≤ m) : nums (L.take m) q k = nums L q k := by
  unfold nums
  rw [List.drop_take, List.take_take, Nat.min_eq_left (by omega)]

theorem head_parts (a b c d e C : List (BitVec 8)) (ha : a.length = 4) (hb : b.length = 4) (hc : c.length = 4) (hd : d.length = 4) (he : e.length = 4) :
    nums (a ++ b ++ c ++ d ++ e ++ C) 0 4 = Num.num a ∧ nums (a ++ b ++ c ++ d ++ e ++ C) 4 4 = Num.num b ∧ nums (a ++ b ++ c ++ d ++ e ++ C) 8 4 = Num.num c ∧ nums (a ++ b ++ c ++ d ++ e ++ C) 12 4 = Num.num d ∧ nums (a ++ b ++ c ++ d ++ e ++ C) 16 4 = Num.num e := by
  refine ⟨?_, ?_, ?_, ?_, ?_⟩
  · rw [← nums_mid [] a (b ++ c ++ d ++ e ++ C) 0 4 rfl ha]; simp only [List.append_assoc, List.nil_append]
  · rw [← nums_mid a b (c ++ d ++ e ++ C) 4 4 ha hb]; simp only [List.append_assoc]
  · rw [← nums_mid (a ++ b) c (d ++ e ++ C) 8 4 (by simp [ha, hb]) hc]; simp only [List.append_assoc]
  · rw [← nums_mid (a ++ b ++ c) d (e ++ C) 12 4 (by simp [ha, hb, hc]) hd]; simp only [List.append_assoc]
  · rw [← nums_mid (a ++ b ++ c ++ d) e C 16 4 (by simp [ha, hb, hc, hd]) he]; simp only [List.append_assoc]
theorem pos_parts (A a b c d e C : List (BitVec 8)) (q : Nat) (hA : A.length = q) (ha : a.length = 8) (hb : b.length = 4) (hc : c.length = 4) (hd : d.length = 4) (he : e.length = 4) :
    nums (A ++ (a ++ b ++ c ++ d ++ e ++ C)) q 8 = Num.num a ∧ nums (A ++ (a ++ b ++ c ++ d ++ e ++ C)) (q + 8) 4 = Num.num b ∧ nums (A ++ (a ++ b ++ c ++ d ++ e ++ C)) (q + 12) 4 = Num.num c ∧ nums (A ++ (a ++ b ++ c ++ d ++ e ++ C)) (q + 16) 4 = Num.num d ∧ nums (A ++ (a ++ b ++ c ++ d ++ e ++ C)) (q + 20) 4 = Num.num e := by
  refine ⟨?_, ?_, ?_, ?_, ?_⟩
  · rw [← nums_mid A a (b ++ c ++ d ++ e ++ C) q 8 hA ha]; simp only [List.append_assoc]
  · rw [← nums_mid (A ++ a) b (c ++ d ++ e ++ C) (q + 8) 4 (by simp [hA, ha]) hb]; simp only [List.append_assoc]
  · rw [← nums_mid (A ++ a ++ b) c (d ++ e ++ C) (q + 12) 4 (by simp [hA, ha, hb]) hc]; simp only [List.append_assoc]
  · rw [← nums_mid (A ++ a ++ b ++ c) d (e ++ C) (q + 16) 4 (by simp [hA, ha, hb, hc]) hd]; simp only [List.append_assoc]
  · rw [← nums_mid (A ++ a ++ b ++ c ++ d) e C (q + 20) 4 (by simp [hA, ha, hb, hc, hd]) he]; simp only [List.append_assoc]

theorem nil_five (a b c d e : List (BitVec 8)) : [] ++ a ++ b ++ c ++ d ++ e = a ++ b ++ c ++ d ++ e := by rw [List.nil_append]
theorem hdL_five (v g u n : Nat) : hdL v g u n 5 = Num.le (hdAt v g u n 0) 4 ++ Num.le v 4 ++ Num.le g 4 ++ Num.le u 4 ++ Num.le n 4 := nil_five _ _ _ _ _

theorem posAll_split (ps : List PosR) (i : Nat) (hi : i < ps.length) : posAll ps = posAll (ps.take i) ++ (posBytes (ps.getD i dP) ++ posAll (ps.drop (i + 1))) := by
  have e : ps.getD i dP = ps[i] := by simp [List.getD, hi]
  have h : ps = ps.take i ++ ps[i] :: ps.drop (i + 1) := by rw [List.getElem_cons_drop, List.take_append_drop]
  rw [e]
  conv => lhs; rw [h]
  simp only [posAll, List.flatMap_append, List.flatMap_cons]

section
variable {v g u : Nat} {ps : List PosR} (hok : ckR v g u ps = 0) (hf : Fits ps)
include hok

theorem ck_heads (C : List (BitVec 8)) : nums (ckBody v g u ps ++ C) 0 4 = 1128811344 ∧ nums (ckBody v g u ps ++ C) 4 4 = v ∧ nums (ckBody v g u ps ++ C) 8 4 = g ∧ nums (ckBody v g u ps ++ C) 12 4 = u ∧ nums (ckBody v g u ps ++ C) 16 4 = ps.length := by
  obtain ⟨h1, ⟨a1, a2, a3, a4, a5, a6⟩, -⟩ := ck_ok hok
  obtain ⟨e0, e1, e2, e3, e4⟩ := head_parts (Num.le (hdAt v g u ps.length 0) 4) (Num.le v 4) (Num.le g 4) (Num.le u 4) (Num.le ps.length 4) (posAll ps ++ C) (Num.le_length _ _) (Num.le_length _ _) (Num.le_length _ _) (Num.le_length _ _) (Num.le_length _ _)
  rw [← hdL_five, ← List.append_assoc] at e0 e1 e2 e3 e4
  rw [Num.num_le_of_lt (by show 1128811344 < 256 ^ 4; decide)] at e0
  rw [Num.num_le_of_lt (by omega)] at e1
  rw [Num.num_le_of_lt (by omega)] at e2
  rw [Num.num_le_of_lt (by omega)] at e3
  rw [Num.num_le_of_lt (by omega)] at e4
  exact ⟨e0, e1, e2, e3, e4⟩

include hf
theorem ck_item (C : List (BitVec 8)) (i : Nat) (hi : i < ps.length) : posOf (ckBody v g u ps ++ C) i = ps.getD i dP ∧ nums (ckBody v g u ps ++ C) (20 + 24 * i + 20) 4 ≤ 1 := by
  obtain ⟨-, -, hl⟩ := ck_ok hok
  have hp := lok_at hl hi
  obtain ⟨b1, b2, -⟩ := hf _ (getD_mem hi)
  have hA : (hdL v g u ps.length 5 ++ posAll (ps.take i)).length = 20 + 24 * i := by rw [List.length_append, hdL_length, posAll_length, List.length_take]; omega
  have hL : ckBody v g u ps ++ C = (hdL v g u ps.length 5 ++ posAll (ps.take i)) ++ (posBytes (ps.getD i dP) ++ (posAll (ps.drop (i + 1)) ++ C)) := by
    rw [ckBody, posAll_split ps i hi]; simp only [List.append_assoc]
  generalize ps.getD i dP = p at *
  generalize hdL v g u ps.length 5 ++ posAll (ps.take i) = A at *
  obtain ⟨key, po, pl, ck, pg⟩ := p
  have hp : 0 ≤ po ∧ po ≤ 16777216 ∧ 0 ≤ pl ∧ pl ≤ 4096 ∧ (pg = true → pl = 0) := hp
  obtain ⟨o0, o1, o2, o3, -⟩ := hp
  have b1 : key < 18446744073709551616 := b1
  have b2 : ck < 4294967296 := b2
  obtain ⟨e1, e2, e3, e4, e5⟩ := pos_parts A (Num.le key 8) (Num.le po.toNat 4) (Num.le pl.toNat 4) (Num.le ck 4) (Num.le (pgone pg) 4) (posAll (ps.drop (i + 1)) ++ C) (20 + 24 * i) hA (Num.le_length _ _) (Num.le_length _ _) (Num.le_length _ _) (Num.le_length _ _) (Num.le_length _ _)
  have hpg : pgone pg ≤ 1 := by unfold pgone; split <;> omega
  rw [Num.num_le_of_lt (by omega)] at e1 e2 e3 e4 e5
  have hL : ckBody v g u ps ++ C = A ++ (Num.le key 8 ++ Num.le po.toNat 4 ++ Num.le pl.toNat 4 ++ Num.le ck 4 ++ Num.le (pgone pg) 4 ++ (posAll (ps.drop (i + 1)) ++ C)) := hL
  rw [hL]
  refine ⟨?_, by rw [e5]; exact hpg⟩
  unfold posOf
  rw [e1, e2, e3, e4, e5]
  have hd : decide (pgone pg = 1) = pg := by cases pg <;> rfl
  rw [hd, Int.toNat_of_nonneg o0, Int.toNat_of_nonneg o2]
theorem ck_list (C : List (BitVec 8)) (i : Nat) (hi : i ≤ ps.length) : posL (ckBody v g u ps ++ C) i = ps.take i ∧ oddN (ckBody v g u ps ++ C) i = false := by
  induction i with
  | zero => exact ⟨rfl, rfl⟩
  | succ i ih =>
    obtain ⟨h1, h2⟩ := ih (by omega)
    obtain ⟨h3, h4⟩ := ck_item hok hf C i (by omega)
    have e : ps.getD i dP = ps[i] := by simp [List.getD, show i < ps.length by omega]
    refine ⟨?_, ?_⟩
    · rw [posL, h1, h3, e, List.take_succ_eq_append_getElem (by omega)]
    · rw [oddN, h2, Bool.false_or, decide_eq_false_iff_not]; omega

theorem ckGet_bytes : ckGet (ckBytes v g u ps) = 0 ∧ nums (ckBytes v g u ps) 4 4 = v ∧ nums (ckBytes v g u ps) 8 4 = g ∧ nums (ckBytes v g u ps) 12 4 = u ∧ nums (ckBytes v g u ps) 16 4 = ps.length ∧ posL (ckBytes v g u ps) ps.length = ps := by
  obtain ⟨h1, -, -⟩ := ck_ok hok
  have hlen := ckBody_length v g u ps
  obtain ⟨e0, e1, e2, e3, e4⟩ := ck_heads hok (Num.le (Crc.of (ckBody v g u ps)).toNat 4)
  obtain ⟨p1, p2⟩ := ck_list hok hf (Num.le (Crc.of (ckBody v g u ps)).toNat 4) ps.length (Nat.le_refl _)
  rw [List.take_of_length_le (Nat.le_refl _)] at p1
  have hx : (Crc.of (ckBody v g u ps)).toNat < 256 ^ 4 := (Crc.of _).isLt
  have hL : (ckBytes v g u ps).length = (ckBody v g u ps).length + 4 := by rw [ckBytes, List.length_append, Num.le_length]
  have hd : (ckBytes v g u ps).drop (ckBody v g u ps).length = Num.le (Crc.of (ckBody v g u ps)).toNat 4 := List.drop_left' rfl
  have ht : (ckBytes v g u ps).take (ckBody v g u ps).length = ckBody v g u ps := List.take_left' rfl
  refine ⟨?_, e1, e2, e3, e4, p1⟩
  change nums (ckBytes v g u ps) 0 4 = _ at e0
  change nums (ckBytes v g u ps) 4 4 = _ at e1
  change nums (ckBytes v g u ps) 8 4 = _ at e2
  change nums (ckBytes v g u ps) 12 4 = _ at e3
  change nums (ckBytes v g u ps) 16 4 = _ at e4
  change posL (ckBytes v g u ps) _ = _ at p1
  change oddN (ckBytes v g u ps) _ = _ at p2
  unfold ckGet
  rw [hL, Nat.add_sub_cancel, hd, ht, Num.num_le_of_lt hx, e0, e1, e2, e3, e4, p1, p2, hok, if_neg (by omega), if_neg (by omega), if_neg (by omega), if_neg (by omega), if_neg (by omega), if_neg (by omega), if_neg (by decide), if_neg (by omega)]
omit hf
theorem ckGet_cut (k : Nat) (hk : k < (ckBytes v g u ps).length) : ckGet ((ckBytes v g u ps).take k) = 3 := by
  obtain ⟨h1, -, -⟩ := ck_ok hok
  have hlen := ckBody_length v g u ps
  obtain ⟨e0, -, -, -, e4⟩ := ck_heads hok (Num.le (Crc.of (ckBody v g u ps)).toNat 4)
  have hL : (ckBytes v g u ps).length = (ckBody v g u ps).length + 4 := by rw [ckBytes, List.length_append, Num.le_length]
  change nums (ckBytes v g u ps) 0 4 = _ at e0
  change nums (ckBytes v g u ps) 16 4 = _ at e4
  have hl : ((ckBytes v g u ps).take k).length = k := by rw [List.length_take]; omega
  unfold ckGet
  by_cases h : k < 24
  · rw [hl, if_pos h]
  · rw [hl, if_neg h, nums_take _ _ _ _ (by omega), nums_take _ _ _ _ (by omega), e0, e4, if_neg (by omega), if_neg (by omega), if_pos (by omega)]
theorem ckGet_more (c : BitVec 8) : ckGet (ckBytes v g u ps ++ [c]) = 4 := by
  obtain ⟨h1, -, -⟩ := ck_ok hok
  have hlen := ckBody_length v g u ps
  obtain ⟨e0, -, -, -, e4⟩ := ck_heads hok (Num.le (Crc.of (ckBody v g u ps)).toNat 4)
  have hL : (ckBytes v g u ps).length = (ckBody v g u ps).length + 4 := by rw [ckBytes, List.length_append, Num.le_length]
  change nums (ckBytes v g u ps) 0 4 = _ at e0
  change nums (ckBytes v g u ps) 16 4 = _ at e4
  have hl : (ckBytes v g u ps ++ [c]).length = (ckBytes v g u ps).length + 1 := by rw [List.length_append]; rfl
  unfold ckGet
  rw [hl, nums_append _ _ _ _ (by omega), nums_append _ _ _ _ (by omega), e0, e4, if_neg (by omega), if_neg (by omega), if_neg (by omega), if_neg (by omega), if_pos (by omega)]
end

theorem ckGet_vals (l : List (BitVec 8)) : ckGet l = 0 ∨ ckGet l = 3 ∨ ckGet l = 4 ∨ ckGet l = 5 := by
  unfold ckGet
  repeat' split
  all_goals omega
theorem ckGet_turned (v g u : Nat) (ps : List PosR) (j : Nat) (c : BitVec 8) (hj : j < (ckBytes v g u ps).length) (hc : c ≠ (ckBytes v g u ps).getD j 0) : ckGet ((ckBytes v g u ps).set j c) ≠ 0 := by
  have hL : (ckBytes v g u ps).length = (ckBody v g u ps).length + 4 := by rw [ckBytes, List.length_append, Num.le_length]
  have h := sealed_turned (ckBody v g u ps) j c (by omega) hc
  change Num.num (((ckBytes v g u ps).set j c).drop _) ≠ (Crc.of (((ckBytes v g u ps).set j c).take _)).toNat at h
  have hl : ((ckBytes v g u ps).set j c).length = (ckBody v g u ps).length + 4 := by rw [List.length_set, hL]
  unfold ckGet
  rw [hl, Nat.add_sub_cancel]
  repeat' split
  all_goals first | omega | exact absurd h (by assumption)
end Go.Proofs.Ytkmifimdjdjdpaa
