/-
  Messages' bytes, plainly: what is written is read; a bit turned; what is read is bounded.
-/
import Derived.Test.YtpkfjnhjcdcoaaaWirBytes
import Derived.Test.YtpkfjnhjcdcoaaaNdlBack
import Derived.Test.YtpkfjnhjcdcoaaaSumTellsWalk
namespace Go.Proofs.Ytpkfjnhjcdcoaaa
open Go.RowKit

theorem msIn_le (L : List (BitVec 8)) : (msIn L).2 ≤ 17 ∧ (msIn L).1.l.length ≤ L.length ∧ ((msIn L).2 = 0 → mchk (msIn L).1 = 0) := by
  unfold msIn
  split
  · dsimp only
    split
    · exact ⟨by decide, Nat.zero_le _, fun h => by cases h⟩
    · rename_i h0
      split
      · rename_i h1
        refine ⟨Nat.zero_le _, ?_, fun _ => h1.2⟩
        obtain ⟨p, hp⟩ : ∃ p, ndGet (L.drop 24) = p := ⟨_, rfl⟩
        obtain ⟨key, ck, g, lx, all, cf⟩ := p
        rw [hp] at h0 ⊢
        obtain rfl : cf = 0 := Decidable.not_not.1 h0
        obtain ⟨-, -, -, -, -, -, -, -, -, hq⟩ := ndGet_len hp
        show lx.length ≤ L.length
        rw [hq, List.length_take, List.length_drop, List.length_drop]
        omega
      · exact ⟨by decide, Nat.zero_le _, fun h => by cases h⟩
  · split
    · rename_i h1
      exact ⟨Nat.zero_le _, Nat.zero_le _, fun _ => h1.2.2⟩
    · exact ⟨by decide, Nat.zero_le _, fun h => by cases h⟩
theorem msGet_le (L : List (BitVec 8)) : (msGet L).2 ≤ 17 ∧ (msGet L).1.l.length ≤ L.length ∧ ((msGet L).2 = 0 → mchk (msGet L).1 = 0) := by
  unfold msGet
  split
  · exact ⟨by decide, Nat.zero_le _, fun h => by cases h⟩
  · split
    · exact ⟨by decide, Nat.zero_le _, fun h => by cases h⟩
    · obtain ⟨h1, h2, h3⟩ := msIn_le (L.take (L.length - 4))
      exact ⟨h1, Nat.le_trans h2 (by rw [List.length_take]; omega), h3⟩
theorem mSame_of {m m' : MsgR} (h : m.bare = m'.bare) : mSame m m' = true := by
  obtain ⟨fr, tt, kd, vol, life, id, cd, has, key, ck, g, a, n, c, l⟩ := m
  obtain ⟨fr', tt', kd', vol', life', id', cd', has', key', ck', g', a', n', c', l'⟩ := m'
  unfold MsgR.bare at h
  injection h with h1 h2 h3 h4 h5 h6 h7 h8 h9 h10 h11 h12 h13 h14 h15
  subst h1 h2 h3 h4 h5 h6 h7 h8 h9 h10 h11 h15
  unfold mSame mHead ndSame
  simp
theorem bare_of {m m' : MsgR} (h : mSame m m' = true) (hl : m.l.length = m.n) (hl' : m'.l.length = m'.n) : m.bare = m'.bare := by
  obtain ⟨fr, tt, kd, vol, life, id, cd, has, key, ck, g, a, n, c, l⟩ := m
  obtain ⟨fr', tt', kd', vol', life', id', cd', has', key', ck', g', a', n', c', l'⟩ := m'
  unfold mSame mHead ndSame at h
  simp only [Bool.and_eq_true, decide_eq_true_eq] at h
  obtain ⟨⟨rfl, rfl, rfl, rfl, rfl, rfl, rfl, rfl⟩, rfl, rfl, rfl, rfl⟩ := h
  dsimp only at hl hl'
  subst hl hl'
  rfl
theorem nums_head {A C : List (BitVec 8)} {x p k : Nat} (hA : A.length = p) (hx : x < 256 ^ k) : nums (A ++ Num.le x k ++ C) p k = x := by
  rw [List.append_assoc]
  exact nums_at hA hx
/-- What is written is read. -/
theorem msIn_raw (m : MsgR) (hl : m.l.length = m.n) (hi : m.id < 18446744073709551616) (hk : m.key < 18446744073709551616) (hck : m.ck < 4294967296) (hq : mchk m = 0) : msIn (msRaw m) = (m.bare, 0) := by
  obtain ⟨⟨a1, c1⟩, ⟨a2, c2⟩, ⟨a3, c3⟩, ⟨a4, c4⟩, ⟨a5, c5⟩, ⟨a6, c6⟩, -, h8, h9⟩ := mchk_ok hq
  have hlen := msRaw_length m hl
  have hq' : mchk m.bare = 0 := hq
  obtain ⟨fr, tt, kd, vol, life, id, cd, has, key, ck, g, a, n, c, l⟩ := m
  dsimp only at *
  obtain ⟨fr, rfl⟩ := Int.eq_ofNat_of_zero_le a1
  obtain ⟨tt, rfl⟩ := Int.eq_ofNat_of_zero_le a2
  obtain ⟨vol, rfl⟩ := Int.eq_ofNat_of_zero_le (show 0 ≤ vol by omega)
  obtain ⟨life, rfl⟩ := Int.eq_ofNat_of_zero_le a4
  obtain ⟨kd, rfl⟩ := Int.eq_ofNat_of_zero_le (show 0 ≤ kd by omega)
  obtain ⟨cd, rfl⟩ := Int.eq_ofNat_of_zero_le a6
  have f1 : vol < 256 ^ 4 := Nat.lt_of_le_of_lt (show vol ≤ 65535 by omega) (by decide)
  have f2 : life < 256 ^ 4 := Nat.lt_of_le_of_lt (show life ≤ 2147483647 by omega) (by decide)
  have f3 : id < 256 ^ 8 := hi
  have b (x : Nat) (hx : x ≤ 255) : (BitVec.ofNat 8 x).toNat = x := by rw [BitVec.toNat_ofNat, Nat.mod_eq_of_lt (by omega)]
  have e1 := b fr (by omega)
  have e2 := b tt (by omega)
  have e3 := b kd (by omega)
  have e4 := b cd (by omega)
  have hw : (if has = true then 1 else 0 : Nat) < 256 ^ 4 := by cases has <;> decide
  obtain ⟨T, hT⟩ : ∃ T, (if has = true then ndBytes key ck g l else []) = T := ⟨_, rfl⟩
  have hr : msRaw ⟨(fr : Int), (tt : Int), (kd : Int), (vol : Int), (life : Int), id, (cd : Int), has, key, ck, g, a, n, c, l⟩ = [BitVec.ofNat 8 fr, BitVec.ofNat 8 tt, BitVec.ofNat 8 kd, BitVec.ofNat 8 cd] ++ Num.le vol 4 ++ Num.le life 4 ++ Num.le id 8 ++ Num.le (if has = true then 1 else 0) 4 ++ T := by
    rw [← hT]
    rfl
  rw [hr] at hlen ⊢
  have hd : msHead ([BitVec.ofNat 8 fr, BitVec.ofNat 8 tt, BitVec.ofNat 8 kd, BitVec.ofNat 8 cd] ++ Num.le vol 4 ++ Num.le life 4 ++ Num.le id 8 ++ Num.le (if has = true then 1 else 0) 4 ++ T) = ⟨(fr : Int), (tt : Int), (kd : Int), (vol : Int), (life : Int), id, (cd : Int), false, 0, 0, false, none, 0, 0, []⟩ := by
    unfold msHead
    have n1 : nums ([BitVec.ofNat 8 fr, BitVec.ofNat 8 tt, BitVec.ofNat 8 kd, BitVec.ofNat 8 cd] ++ Num.le vol 4 ++ Num.le life 4 ++ Num.le id 8 ++ Num.le (if has = true then 1 else 0) 4 ++ T) 4 4 = vol := by
      simp only [List.append_assoc]
      exact nums_at rfl f1
    have n2 : nums ([BitVec.ofNat 8 fr, BitVec.ofNat 8 tt, BitVec.ofNat 8 kd, BitVec.ofNat 8 cd] ++ Num.le vol 4 ++ Num.le life 4 ++ Num.le id 8 ++ Num.le (if has = true then 1 else 0) 4 ++ T) 8 4 = life := by
      rw [List.append_assoc, List.append_assoc, List.append_assoc (_ ++ Num.le vol 4)]
      exact nums_at (by rw [List.length_append, Num.le_length]; rfl) f2
    have n3 : nums ([BitVec.ofNat 8 fr, BitVec.ofNat 8 tt, BitVec.ofNat 8 kd, BitVec.ofNat 8 cd] ++ Num.le vol 4 ++ Num.le life 4 ++ Num.le id 8 ++ Num.le (if has = true then 1 else 0) 4 ++ T) 12 8 = id := by
      rw [List.append_assoc, List.append_assoc (_ ++ Num.le life 4)]
      exact nums_at (by rw [List.length_append, List.length_append, Num.le_length, Num.le_length]; rfl) f3
    rw [n1, n2, n3]
    show MsgR.mk ((BitVec.ofNat 8 fr).toNat : Int) ((BitVec.ofNat 8 tt).toNat : Int) ((BitVec.ofNat 8 kd).toNat : Int) _ _ _ ((BitVec.ofNat 8 cd).toNat : Int) _ _ _ _ _ _ _ _ = _
    rw [e1, e2, e3, e4]
  have n4 : nums ([BitVec.ofNat 8 fr, BitVec.ofNat 8 tt, BitVec.ofNat 8 kd, BitVec.ofNat 8 cd] ++ Num.le vol 4 ++ Num.le life 4 ++ Num.le id 8 ++ Num.le (if has = true then 1 else 0) 4 ++ T) 20 4 = (if has = true then 1 else 0) := by
    rw [List.append_assoc]
    exact nums_at (by rw [List.length_append, List.length_append, List.length_append, Num.le_length, Num.le_length, Num.le_length]; rfl) hw
  have hdr : ([BitVec.ofNat 8 fr, BitVec.ofNat 8 tt, BitVec.ofNat 8 kd, BitVec.ofNat 8 cd] ++ Num.le vol 4 ++ Num.le life 4 ++ Num.le id 8 ++ Num.le (if has = true then 1 else 0) 4 ++ T).drop 24 = T :=
    List.drop_left' (by simp only [List.length_append, Num.le_length]; rfl)
  unfold msIn
  rw [n4, hdr, hd]
  cases has
  · obtain ⟨rfl, rfl, rfl, rfl⟩ := h9 rfl
    dsimp only [List.length_nil] at hl
    subst hl
    rw [show (if false = true then 1 else 0 : Nat) = 0 from rfl, if_neg (by decide), if_pos ⟨rfl, hlen, hq'⟩]
    rfl
  · have hgn := h8 rfl
    have hg := ndGet_bytes key ck g l [] hk hck (by rw [hl]; exact hgn)
    rw [List.append_nil] at hg
    rw [if_pos rfl] at hT
    rw [← hT, show (if true = true then 1 else 0 : Nat) = 1 from rfl, if_pos rfl, hg]
    dsimp only
    rw [if_neg (by decide), if_pos ⟨by rw [hT]; exact hlen.trans (by rw [hl]; rfl), by subst hl; exact hq'⟩]
    subst hl
    rfl
theorem msGet_bytes (m : MsgR) (hl : m.l.length = m.n) (hi : m.id < 18446744073709551616) (hk : m.key < 18446744073709551616) (hck : m.ck < 4294967296) (hq : mchk m = 0) : msGet (msBytes m) = (m.bare, 0) := by
  have h1 := msRaw_length m hl
  have h2 := msBytes_length m hl
  have h24 : 24 ≤ msLen m := by unfold msLen; split <;> omega
  have hx : (Crc.of (msRaw m)).toNat < 256 ^ 4 := (Crc.of (msRaw m)).isLt
  unfold msGet
  rw [if_neg (by omega), h2, Nat.add_sub_cancel]
  have hd : (msBytes m).drop (msLen m) = Num.le (Crc.of (msRaw m)).toNat 4 := List.drop_left' h1
  have ht : (msBytes m).take (msLen m) = msRaw m := List.take_left' h1
  rw [hd, ht, Num.num_le_of_lt hx, if_neg (not_not_intro rfl)]
  exact msIn_raw m hl hi hk hck hq
/-- .. and with a byte other than it was isn't. -/
theorem msGet_turned (m : MsgR) (hl : m.l.length = m.n) (j : Nat) (c : BitVec 8) (hj : j < msLen m + 4) (hc : c ≠ (msBytes m).getD j 0) : msGet ((msBytes m).set j c) = (mNone, 5) := by
  have h1 := msRaw_length m hl
  have h2 := msBytes_length m hl
  have h24 : 24 ≤ msLen m := by unfold msLen; split <;> omega
  have h := sealed_turned (msRaw m) j c (by rw [h1]; exact hj) hc
  rw [h1] at h
  unfold msGet
  rw [List.length_set, if_neg (by omega), h2, Nat.add_sub_cancel]
  exact if_pos h
theorem msBytes_same (m m' : MsgR) (hl : m.l.length = m.n) (hi : m.id < 18446744073709551616) (hk : m.key < 18446744073709551616) (hck : m.ck < 4294967296) (hq : mchk m = 0)
    (hl' : m'.l.length = m'.n) (hi' : m'.id < 18446744073709551616) (hk' : m'.key < 18446744073709551616) (hck' : m'.ck < 4294967296) (hq' : mchk m' = 0) : decide (msBytes m = msBytes m') = mSame m m' := by
  have h1 := msGet_bytes m hl hi hk hck hq
  have h2 := msGet_bytes m' hl' hi' hk' hck' hq'
  cases hs : mSame m m'
  · refine decide_eq_false (fun e => ?_)
    rw [e, h2] at h1
    injection h1 with h1
    rw [mSame_of h1.symm] at hs
    cases hs
  · refine decide_eq_true ?_
    have hb := bare_of hs hl hl'
    show msBytes m.bare = msBytes m'.bare
    rw [hb]
theorem MsP.is {L : List (BitVec 8)} {w w' : World} {e : Ending} (h : MsP L w e w') {m : MsgR} {cf : Nat} (hg : msGet L = (m, cf)) :
    Below w.heap.size w w' ∧ ∃ a c, e = .returned (.tuple #[MsgR.vals { m with a := a, c := c }, errc cf]) ∧ m.n = m.l.length ∧ m.n ≤ c ∧ w'.ownsRow w.heap.size 5 1 (.slice a m.n c) m.n (m.l.map bv) := by
  obtain ⟨B, m', cf', he, rfl, h1, h2, h3⟩ := h
  rw [hg] at he
  injection he with e1 e2
  subst e1 e2
  exact ⟨B, m'.a, m'.c, rfl, h1, h2, h3⟩
end Go.Proofs.Ytpkfjnhjcdcoaaa
