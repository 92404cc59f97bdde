/-
  Plain: what is put as a needle's bytes is got of them, whatever stands behind; bytes that end too early.
-/
import Derived.Test.YtpkfjnhjcdcoaaaNdlSame
namespace Go.Proofs.Ytpkfjnhjcdcoaaa
open Go.RowKit

theorem nums_at {A C : List (BitVec 8)} {x p k : Nat} (hA : A.length = p) (hx : x < 256 ^ k) : nums (A ++ (Num.le x k ++ C)) p k = x := by
  unfold nums
  rw [List.drop_left' hA, List.take_left' (Num.le_length _ _), Num.num_le_of_lt hx]
theorem nz_zs (k : Nat) : nz (zs k) = false := by unfold nz zs; simp
theorem flagN_lt (g : Bool) : flagN g < 256 ^ 4 := by unfold flagN; split <;> decide

theorem parts_of (a b c d e s z l p r : List (BitVec 8)) (ha : a.length = 4) (hb : b.length = 4) (hc : c.length = 8) (hd : d.length = 4) (he : e.length = 4) (hs : s.length = 4) (hz : z.length = 4) :
    nums (a ++ b ++ c ++ d ++ e ++ s ++ z ++ l ++ p ++ r) 0 4 = Num.num a ∧ nums (a ++ b ++ c ++ d ++ e ++ s ++ z ++ l ++ p ++ r) 4 4 = Num.num b ∧ nums (a ++ b ++ c ++ d ++ e ++ s ++ z ++ l ++ p ++ r) 8 8 = Num.num c ∧
    nums (a ++ b ++ c ++ d ++ e ++ s ++ z ++ l ++ p ++ r) 16 4 = Num.num d ∧ nums (a ++ b ++ c ++ d ++ e ++ s ++ z ++ l ++ p ++ r) 20 4 = Num.num e ∧ nums (a ++ b ++ c ++ d ++ e ++ s ++ z ++ l ++ p ++ r) 24 4 = Num.num s ∧
    nums (a ++ b ++ c ++ d ++ e ++ s ++ z ++ l ++ p ++ r) 28 4 = Num.num z ∧ (a ++ b ++ c ++ d ++ e ++ s ++ z ++ l ++ p ++ r).take 24 = a ++ b ++ c ++ d ++ e ∧ (a ++ b ++ c ++ d ++ e ++ s ++ z ++ l ++ p ++ r).drop 32 = l ++ (p ++ r) := by
  have key : ∀ (A x C : List (BitVec 8)) (q k : Nat), A.length = q → x.length = k → nums (A ++ (x ++ C)) q k = Num.num x := fun A x C q k h1 h2 => by
    unfold nums
    rw [List.drop_left' h1, List.take_left' h2]
  refine ⟨?_, ?_, ?_, ?_, ?_, ?_, ?_, ?_, ?_⟩
  · rw [← key [] a (b ++ c ++ d ++ e ++ s ++ z ++ l ++ p ++ r) 0 4 rfl ha]; simp only [List.append_assoc, List.nil_append]
  · rw [← key a b (c ++ d ++ e ++ s ++ z ++ l ++ p ++ r) 4 4 ha hb]; simp only [List.append_assoc]
  · rw [← key (a ++ b) c (d ++ e ++ s ++ z ++ l ++ p ++ r) 8 8 (by simp [ha, hb]) hc]; simp only [List.append_assoc]
  · rw [← key (a ++ b ++ c) d (e ++ s ++ z ++ l ++ p ++ r) 16 4 (by simp [ha, hb, hc]) hd]; simp only [List.append_assoc]
  · rw [← key (a ++ b ++ c ++ d) e (s ++ z ++ l ++ p ++ r) 20 4 (by simp [ha, hb, hc, hd]) he]; simp only [List.append_assoc]
  · rw [← key (a ++ b ++ c ++ d ++ e) s (z ++ l ++ p ++ r) 24 4 (by simp [ha, hb, hc, hd, he]) hs]; simp only [List.append_assoc]
  · rw [← key (a ++ b ++ c ++ d ++ e ++ s) z (l ++ p ++ r) 28 4 (by simp [ha, hb, hc, hd, he, hs]) hz]; simp only [List.append_assoc]
  · rw [show a ++ b ++ c ++ d ++ e ++ s ++ z ++ l ++ p ++ r = (a ++ b ++ c ++ d ++ e) ++ (s ++ z ++ l ++ p ++ r) from by simp only [List.append_assoc]]
    exact List.take_left' (by simp [ha, hb, hc, hd, he])
  · rw [show a ++ b ++ c ++ d ++ e ++ s ++ z ++ l ++ p ++ r = (a ++ b ++ c ++ d ++ e ++ s ++ z) ++ (l ++ (p ++ r)) from by simp only [List.append_assoc]]
    exact List.drop_left' (by simp [ha, hb, hc, hd, he, hs, hz])

theorem ndGet_bytes (key ck : Nat) (g : Bool) (l rest : List (BitVec 8)) (hk : key < 18446744073709551616) (hck : ck < 4294967296) (hok : chk g l.length = 0) :
    ndGet (ndBytes key ck g l ++ rest) = (key, ck, g, l, 32 + l.length + padn l.length, 0) := by
  obtain ⟨hn, hg⟩ := chk_ok hok
  have hs : ndSum key ck g l < 256 ^ 4 := (Crc.of _).isLt
  have hz : Num.num (zs 4) = 0 := by decide
  have hp : padn l.length < 8 := by unfold padn; omega
  obtain ⟨e0, e4, e8, e16, e20, e24, e28, et, ed⟩ := parts_of (Num.le 1313162572 4) (Num.le (flagN g) 4) (Num.le key 8) (Num.le ck 4) (Num.le l.length 4) (Num.le (ndSum key ck g l) 4) (zs 4) l (zs (padn l.length)) rest
    (Num.le_length _ _) (Num.le_length _ _) (Num.le_length _ _) (Num.le_length _ _) (Num.le_length _ _) (Num.le_length _ _) (zs_length _)
  rw [Num.num_le_of_lt (by decide)] at e0
  rw [Num.num_le_of_lt (flagN_lt g)] at e4
  rw [Num.num_le_of_lt (by omega)] at e8
  rw [Num.num_le_of_lt (by omega)] at e16
  rw [Num.num_le_of_lt (by omega)] at e20
  rw [Num.num_le_of_lt hs] at e24
  rw [hz] at e28
  change nums (ndBytes key ck g l ++ rest) 0 4 = _ at e0
  change nums (ndBytes key ck g l ++ rest) 4 4 = _ at e4
  change nums (ndBytes key ck g l ++ rest) 8 8 = _ at e8
  change nums (ndBytes key ck g l ++ rest) 16 4 = _ at e16
  change nums (ndBytes key ck g l ++ rest) 20 4 = _ at e20
  change nums (ndBytes key ck g l ++ rest) 24 4 = _ at e24
  change nums (ndBytes key ck g l ++ rest) 28 4 = _ at e28
  change (ndBytes key ck g l ++ rest).take 24 = ndHead key ck g l.length at et
  change (ndBytes key ck g l ++ rest).drop 32 = _ at ed
  have ed2 : (ndBytes key ck g l ++ rest).drop (32 + l.length) = zs (padn l.length) ++ rest := by
    rw [← List.drop_drop, ed]
    exact List.drop_left' rfl
  have hl : 32 + l.length + padn l.length ≤ (ndBytes key ck g l ++ rest).length := by rw [List.length_append, ndBytes_length]; omega
  have hf : ¬ ndForm (ndBytes key ck g l ++ rest) := by
    unfold ndForm
    rw [e0, e4, e28, e20]
    rintro (h | h | h | h | ⟨h, h2⟩)
    · exact h rfl
    · unfold flagN at h; split at h <;> omega
    · exact h rfl
    · omega
    · have : g = true := by unfold flagN at h; split at h <;> simp_all
      have := hg this
      omega
  unfold ndGet
  rw [if_neg (by omega), if_neg hf, e20, if_neg (by omega), e24, et, ed, List.take_left' rfl, if_neg (by exact not_not_intro rfl), ed2, List.take_left' (zs_length _), nz_zs, if_neg (by decide), e8, e16, e4]
  have hfl : decide (flagN g = 1) = g := by cases g <;> rfl
  rw [hfl]

/-- Cut anywhere, there is none. -/
theorem ndGet_cut (key ck : Nat) (g : Bool) (l : List (BitVec 8)) (k : Nat) (hk : key < 18446744073709551616) (hck : ck < 4294967296) (hok : chk g l.length = 0) (hcut : k < (ndBytes key ck g l).length) :
    ndGet ((ndBytes key ck g l).take k) = ndBad 3 := by
  have hlen : ((ndBytes key ck g l).take k).length = k := by rw [List.length_take]; omega
  by_cases h32 : k < 32
  · unfold ndGet
    rw [if_pos (by omega)]
  · have hb := ndGet_bytes key ck g l [] hk hck hok
    rw [List.append_nil] at hb
    have hnum : ∀ p j, p + j ≤ 32 → nums ((ndBytes key ck g l).take k) p j = nums (ndBytes key ck g l) p j := fun p j hpj => by
      unfold nums
      rw [List.drop_take, List.take_take, Nat.min_eq_left (by omega)]
    have hform : ndForm ((ndBytes key ck g l).take k) ↔ ndForm (ndBytes key ck g l) := by
      unfold ndForm
      rw [hnum 0 4 (by omega), hnum 4 4 (by omega), hnum 28 4 (by omega), hnum 20 4 (by omega)]
    unfold ndGet at hb
    rw [if_neg (by rw [ndBytes_length]; omega)] at hb
    by_cases hf : ndForm (ndBytes key ck g l)
    · rw [if_pos hf] at hb
      unfold ndBad at hb
      simp at hb
    · rw [if_neg hf] at hb
      by_cases hs : (ndBytes key ck g l).length < 32 + nums (ndBytes key ck g l) 20 4 + padn (nums (ndBytes key ck g l) 20 4)
      · rw [if_pos hs] at hb
        unfold ndBad at hb
        simp at hb
      · unfold ndGet
        rw [if_neg (by omega), if_neg (fun h => hf (hform.1 h)), hnum 20 4 (by omega)]
        rw [if_neg hs] at hb
        split at hb
        · unfold ndBad at hb; simp at hb
        · split at hb
          · unfold ndBad at hb; simp at hb
          · have h5 := congrArg (fun x => x.2.2.2.2.1) hb
            simp only at h5
            rw [if_pos]
            rw [ndBytes_length] at hcut
            omega

end Go.Proofs.Ytpkfjnhjcdcoaaa
