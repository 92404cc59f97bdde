/-
  The walk of corncriblaw02.SumTells.
-/
import Derived.Test.YtalpeldjdmfnjaaOpen
import Derived.Test.YtalpeldjdmfnjaaSumBurstsWalk
import Derived.Deep.DeepCutAuto
namespace Go.Proofs.Ytalpeldjdmfnjaa
open Go.RowKit

/-- One bit of a byte turned. -/
theorem flip_ne (x : BitVec 8) (r : Nat) (h : r < 8) : x ^^^ BitVec.ofNat 8 (2 ^ r) ≠ x := by
  intro e
  have h1 : x ^^^ (x ^^^ BitVec.ofNat 8 (2 ^ r)) = x ^^^ x := by rw [e]
  rw [← BitVec.xor_assoc, BitVec.xor_self, BitVec.zero_xor] at h1
  have h' : r = 0 ∨ r = 1 ∨ r = 2 ∨ r = 3 ∨ r = 4 ∨ r = 5 ∨ r = 6 ∨ r = 7 := by omega
  rcases h' with rfl | rfl | rfl | rfl | rfl | rfl | rfl | rfl <;> exact absurd h1 (by decide)

/-- Sealed bytes with one byte other than it was are not right. -/
theorem sealed_turned (l : List (BitVec 8)) (j : Nat) (c : BitVec 8) (hj : j < l.length + 4) (hc : c ≠ (l ++ Num.le (Crc.of l).toNat 4).getD j 0) :
    Num.num (((l ++ Num.le (Crc.of l).toNat 4).set j c).drop l.length) ≠ (Crc.of (((l ++ Num.le (Crc.of l).toNat 4).set j c).take l.length)).toNat := by
  have hx : (Crc.of l).toNat < 256 ^ 4 := (Crc.of l).isLt
  by_cases h : j < l.length
  · rw [List.set_append_left _ _ (by simpa using h), List.drop_left' (by simp), List.take_left' (by simp), Num.num_le_of_lt hx]
    intro e
    have e := BitVec.eq_of_toNat_eq e
    have hl : l = l.take j ++ l[j] :: l.drop (j + 1) := by
      rw [List.getElem_cons_drop, List.take_append_drop]
    have hs : l.set j c = l.take j ++ c :: l.drop (j + 1) := List.set_eq_take_append_cons_drop ▸ (if_pos h)
    rw [hs] at e
    conv at e => lhs; rw [hl]
    refine Crc.of_ne_one (l.take j) (l.drop (j + 1)) (l[j]) c (fun e2 => hc ?_) e
    rw [← e2]
    simp [List.getD, List.getElem?_append_left h, h]
  · rw [List.set_append_right _ _ (by simpa using h), List.drop_left' rfl, List.take_left' rfl]
    intro e
    have hl4 : ((Num.le (Crc.of l).toNat 4).set (j - l.length) c).length = 4 := by rw [List.length_set, Num.le_length]
    have h1 := Num.le_num ((Num.le (Crc.of l).toNat 4).set (j - l.length) c)
    rw [hl4, e] at h1
    apply hc
    have h2 := congrArg (fun L => L.getD (j - l.length) 0) h1
    have h3 : j - l.length < 4 := by omega
    simp only [List.getD, List.getElem?_append_right (show l.length ≤ j by omega)] at h2 ⊢
    rw [h2]
    simp [Num.le_length, h3]

/-- The byte that is turned, as the code reckons it. -/
theorem flip_value (x : BitVec 8) (r : Nat) (h : r < 8) : bits .xor .u8 (x.toNat : Int) (2 ^ r % 256) = ((x ^^^ BitVec.ofNat 8 (2 ^ r)).toNat : Int) := by
  have e : ((2 : Int) ^ r % 256) = ((BitVec.ofNat 8 (2 ^ r)).toNat : Int) := by
    have h' : r = 0 ∨ r = 1 ∨ r = 2 ∨ r = 3 ∨ r = 4 ∨ r = 5 ∨ r = 6 ∨ r = 7 := by omega
    rcases h' with rfl | rfl | rfl | rfl | rfl | rfl | rfl | rfl <;> rfl
  rw [e]
  have hb := (x ^^^ BitVec.ofNat 8 (2 ^ r)).isLt
  show IntKind.u8.wrap ((BitVec.ofInt 8 (x.toNat : Int) ^^^ BitVec.ofInt 8 ((BitVec.ofNat 8 (2 ^ r)).toNat : Int)).toNat : Int) = _
  rw [BitVec.ofInt_natCast, BitVec.ofInt_natCast, BitVec.ofNat_toNat, BitVec.ofNat_toNat, BitVec.setWidth_eq, BitVec.setWidth_eq]
  show ((x ^^^ BitVec.ofNat 8 (2 ^ r)).toNat : Int) % 256 = _
  omega

set_option maxRecDepth 100000 in
set_option maxHeartbeats 4000000 in
theorem tells_at (a : Option Addr) (n c : Nat) (l : List (BitVec 8)) (t : Int) (w : World) (h : BSl w w.heap.size a n l) (hc : n ≤ c) (ht0 : 0 ≤ t) (ht1 : t ≤ 65535) :
    Calls Try.prog 13 #[.slice a n c, .int .u16 t] w fun e w' => e = .returned (.bool true) ∧ Below w.heap.size w w' := by
  by_cases hbig : 1000 < n
  · go_enter Try.func13, Try.ntmps13
    go_wp2_with fail
    refine (sum_alive _).mono ?_
    rintro e w1 ⟨rfl, B1⟩
    go_wp2_with fail
    go_ret
    exact ⟨rfl, B1⟩
  have hn : n ≤ 1000 := by omega
  clear hbig
  have hlen := h.1
  obtain ⟨i, hi, hin⟩ : ∃ i : Nat, t % (8 * ((n : Int) + 4)) = i ∧ i < 8 * (n + 4) := by
    have h1 := Int.emod_nonneg t (show 8 * ((n : Int) + 4) ≠ 0 by omega)
    have h2 := Int.emod_lt_of_pos t (show (0 : Int) < 8 * ((n : Int) + 4) by omega)
    exact ⟨(t % (8 * ((n : Int) + 4))).toNat, by omega, by omega⟩
  have HL := Lib.hid hlen
  clear hlen
  go_enter Try.func13, Try.ntmps13
  go_wp2_with fail
  refine (sum_alive _).mono ?_
  rintro e w1 ⟨rfl, B1⟩
  go_wp2_with fail
  refine (seal_any a n c l w1 ((h.below B1).more B1.size) (by omega)).mono ?_
  rintro e w2 ⟨g, cap, rfl, hcap, hown, B2⟩
  have hgl := hown.lt g rfl
  have B2 := B1.trans (B2.mono B1.size)
  go_wp2_with fail
  refine (open_all (some ⟨g, 0, none⟩) (n + 4) cap _ w2 (BSl.row hown _ rfl) hcap (by omega)).mono ?_
  rintro e w3 ⟨av, kx, cv, cf, rfl, B3, hkc, hkx, hcf, lx, hox, hop⟩
  have hx : (Crc.of l).toNat < 256 ^ 4 := (Crc.of l).isLt
  have hdr : (l ++ Num.le (Crc.of l).toNat 4).drop (n + 4 - 4) = Num.le (Crc.of l).toNat 4 := List.drop_left' (by rw [HL.out]; omega)
  have htk : (l ++ Num.le (Crc.of l).toNat 4).take (n + 4 - 4) = l := List.take_left' (by rw [HL.out]; omega)
  rw [hdr, htk, Num.num_le_of_lt hx] at hop
  obtain ⟨rfl, rfl, rfl⟩ : kx = n ∧ cf = 0 ∧ lx = l := by
    rcases hop with ⟨h1, -⟩ | ⟨_, h1, -⟩ | ⟨_, _, h1, h2, h3⟩
    · omega
    · exact absurd rfl h1
    · exact ⟨by omega, h2, h3⟩
  clear hop hdr htk
  have hown3 := own_below hown B3 (Nat.le_refl _)
  have HB1 := Lib.hid B1
  have HB3 := Lib.hid (B2.trans (B3.mono B2.size))
  have HOX := Lib.hid hox
  clear hown hox B1 B3
  have hj : i / 8 < kx + 4 := by omega
  obtain ⟨y, hy⟩ : ∃ y, (lx ++ Num.le (Crc.of lx).toNat 4).getD (i / 8) 0 = y := ⟨_, rfl⟩
  have hcell : w3.cell? ⟨g, i / 8, none⟩ = some (.int .u8 (y.toNat : Int)) := by
    obtain ⟨b, off, e, -, h1⟩ := (BSl.row hown3 _ rfl).at_ hj
    cases e
    rw [Nat.zero_add, hy] at h1
    exact h1
  have hfr : w3.frozen? ⟨g, i / 8, none⟩ = false := hown3.frozenAt _
  have HT := Lib.hid (flip_value y (i % 8) (by omega))
  have HN := Lib.hid (flip_ne y (i % 8) (by omega))
  have HY := Lib.hid hy
  have HO3 := Lib.hid hown3
  clear hy hown3
  go_wp2_with fail
  rw [HT.out]
  have hst := HO3.out.stored (i / 8) (bv (y ^^^ BitVec.ofNat 8 (2 ^ (i % 8))))
  rw [← List.map_set] at hst
  obtain ⟨hown4, hgr4⟩ := hst
  have hox4 := HOX.out.kept hgr4 (by
    cases hb : (Value.slice av kx cv).ownBlock with
    | none => exact .inl rfl
    | some q => right; intro e; injection e with e; have := (HOX.out.lt q hb).1; omega)
  have B4 := HB3.out.grown hgr4 HB3.out.size (fun q e => by injection e with e; have := HB1.out.size; omega)
  have hne := sealed_turned lx (i / 8) (y ^^^ BitVec.ofNat 8 (2 ^ (i % 8))) (by rw [HL.out]; exact hj) (by rw [HY.out]; exact HN.out)
  rw [HL.out] at hne
  unfold bv at hown4 hox4 hgr4 B4
  generalize w3.setCell ⟨g, i / 8, none⟩ (.int .u8 ((y ^^^ BitVec.ofNat 8 (2 ^ (i % 8))).toNat : Int)) = w4 at *
  generalize (lx ++ Num.le (Crc.of lx).toNat 4).set (i / 8) (y ^^^ BitVec.ofNat 8 (2 ^ (i % 8))) = L at *
  have hrow := BSl.row hown4 L rfl
  refine (open_all (some ⟨g, 0, none⟩) (kx + 4) cap L w4 hrow hcap (by omega)).mono ?_
  rintro e w5 ⟨av2, kx2, cv2, cf2, rfl, B5, hkc2, hkx2, hcf2, lx2, hox2, hop⟩
  rw [show kx + 4 - 4 = kx from by omega] at hop
  obtain ⟨rfl, rfl⟩ : kx2 = 0 ∧ cf2 = 5 := by
    rcases hop with ⟨h1, -⟩ | ⟨_, _, h1, h2⟩ | ⟨_, h1, -⟩
    · omega
    · exact ⟨h1, h2⟩
    · exact absurd h1 hne
  have hb5 := bsl_own (own_below hox4 B5 (Nat.le_refl _))
  have B6 := B4.trans (B5.mono B4.size)
  have HA := Lib.hid ((h.below B6).more B6.size)
  clear hop hne hox2 hox4 hown4 hgr4 B4 B5 hrow HY HN HT HOX HO3
  go_wp2_with fail
  refine (code_c 0 _ (by decide)).mono ?_
  rintro e w6 ⟨rfl, rfl⟩
  go_wp2_with fail
  refine (same_any _ _ _ _ _ _ _ _ _ hb5 HA.out (by omega)).mono ?_
  rintro e w6 ⟨rfl, q, rfl⟩
  rw [decide_eq_true rfl]
  go_wp2_with fail
  refine (code_c 5 _ (by decide)).mono ?_
  rintro e w6 ⟨rfl, rfl⟩
  go_wp2_with fail
  go_ret
  exact ⟨rfl, below_drewN B6 q⟩

end Go.Proofs.Ytalpeldjdmfnjaa
