/-
  The walk of corncriblaw02.SumBursts.
-/
import Derived.Test.YtalpeldjdmfnjaaSum
namespace Go.Proofs.Ytalpeldjdmfnjaa
open Go.RowKit

attribute [local go_sem] Oper.semAt_some

/-- Four bytes in a row, turned one behind the other. -/
def turned (l : List (BitVec 8)) (k : Nat) (t : BitVec 32) : Nat → List (BitVec 8)
  | 0 => l
  | i + 1 => (turned l k t i).set (k + i) (l.getD (k + i) 0 ^^^ Crc.part t i)

theorem turned_length (l : List (BitVec 8)) (k : Nat) (t : BitVec 32) (i : Nat) : (turned l k t i).length = l.length := by
  induction i with
  | zero => rfl
  | succ i ih => simp [turned, ih]
theorem turned_far (l : List (BitVec 8)) (k : Nat) (t : BitVec 32) (i j : Nat) (h : k + i ≤ j) : (turned l k t i)[j]? = l[j]? := by
  induction i with
  | zero => rfl
  | succ i ih => rw [turned, List.getElem?_set_ne (by omega)]; exact ih (by omega)

/-- A text with four bytes in a row turned has another sum. -/
theorem turned_ne (l : List (BitVec 8)) (k : Nat) (t : BitVec 32) (h : k + 4 ≤ l.length) (ht : t ≠ 0#32) : Crc.of l ≠ Crc.of (turned l k t 4) := by
  have e : ∃ A c0 c1 c2 c3 Z, l = A ++ ([c0, c1, c2, c3] ++ Z) ∧ A.length = k := by
    refine ⟨l.take k, l[k], l[k + 1], l[k + 2], l[k + 3], l.drop (k + 4), ?_, by rw [List.length_take]; omega⟩
    have e1 := List.drop_eq_getElem_cons (i := k) (l := l) (by omega)
    have e2 := List.drop_eq_getElem_cons (i := k + 1) (l := l) (by omega)
    have e3 := List.drop_eq_getElem_cons (i := k + 2) (l := l) (by omega)
    have e4 := List.drop_eq_getElem_cons (i := k + 3) (l := l) (by omega)
    conv => lhs; rw [← List.take_append_drop k l, e1, e2, e3, e4]
    rfl
  obtain ⟨A, c0, c1, c2, c3, Z, rfl, rfl⟩ := e
  have := Crc.of_ne_four A Z c0 c1 c2 c3 t ht
  have e2 : turned (A ++ ([c0, c1, c2, c3] ++ Z)) A.length t 4 = A ++ ([c0 ^^^ Crc.part t 0, c1 ^^^ Crc.part t 1, c2 ^^^ Crc.part t 2, c3 ^^^ Crc.part t 3] ++ Z) := by
    simp [turned, List.getD]
  rw [e2]
  exact this

theorem turn_value (x : BitVec 8) (t : BitVec 32) (i : Nat) : bits .xor .u8 (x.toNat : Int) ((t.toNat : Int) / (256 ^ i : Nat) % 256) = ((x ^^^ Crc.part t i).toNat : Int) := by
  have e : ((t.toNat : Int) / (256 ^ i : Nat) % 256) = ((Crc.part t i).toNat : Int) := by
    unfold Crc.part
    rw [BitVec.toNat_setWidth, BitVec.toNat_ushiftRight, Nat.shiftRight_eq_div_pow, Nat.pow_mul]
    rw [Int.natCast_emod, Int.natCast_ediv]
    rfl
  rw [e]
  have hb := (x ^^^ Crc.part t i).isLt
  show IntKind.u8.wrap ((BitVec.ofInt 8 (x.toNat : Int) ^^^ BitVec.ofInt 8 ((Crc.part t i).toNat : Int)).toNat : Int) = _
  rw [BitVec.ofInt_natCast, BitVec.ofInt_natCast, BitVec.ofNat_toNat, BitVec.ofNat_toNat, BitVec.setWidth_eq, BitVec.setWidth_eq]
  show ((x ^^^ Crc.part t i).toNat : Int) % 256 = _
  omega

set_option maxRecDepth 100000 in
set_option maxHeartbeats 2000000 in
theorem bursts_walk (a : Option Addr) (n c : Nat) (l : List (BitVec 8)) (at_ : Int) (t : BitVec 32) (w : World) (hl : BSl w w.heap.size a n l) (hat0 : 0 ≤ at_) (hat : at_ ≤ 65535) :
    Calls Try.prog 4 #[.slice a n c, .int .u16 at_, .int .u32 (t.toNat : Int)] w fun e w' => e = .returned (.bool true) ∧ Below w.heap.size w w' := by
  by_cases hbig : n < 4 ∨ 2000 < n ∨ t.toNat = 0
  · have hd : (decide ((n : Int) < 4) = true) ∨ (decide ((n : Int) < 4) = false ∧ decide ((2000 : Int) < n) = true) ∨ (decide ((n : Int) < 4) = false ∧ decide ((2000 : Int) < n) = false ∧ ((t.toNat : Int) == 0) = true) := by
      simp only [decide_eq_true_eq, decide_eq_false_iff_not, beq_iff_eq]
      omega
    clear hbig
    rcases hd with d1 | ⟨d1, d2⟩ | ⟨d1, d2, d3⟩
    all_goals
      go_enter Try.func4, Try.ntmps4
      go_wp2_with fail
      refine (sum_alive _).mono ?_
      rintro e w1 ⟨rfl, B1⟩
      go_wp2_with fail
      go_ret
      exact ⟨rfl, B1⟩
  · have h4 : 4 ≤ n := by omega
    have hn : n ≤ 2000 := by omega
    have ht1 : t ≠ 0#32 := by rintro rfl; exact hbig (.inr (.inr rfl))
    have ht2 := t.isLt
    obtain ⟨i0, hi, hz0, hz1, hz2⟩ := info_parts info_u8
    have hlen := hl.1
    have d1 : decide ((n : Int) < 4) = false := by simp; omega
    have d2 : decide ((2000 : Int) < n) = false := by simp; omega
    have d3 : ((t.toNat : Int) == 0) = false := by
      simp only [beq_eq_false_iff_ne, ne_eq]
      intro e
      exact hbig (.inr (.inr (by omega)))
    clear hbig
    obtain ⟨ab, aoff, rfl, hab, _⟩ := hl.at_ (show 0 < n by omega)
    go_enter Try.func4, Try.ntmps4
    go_wp2_with fail
    refine (sum_alive _).mono ?_
    rintro e w1 ⟨rfl, B1⟩
    have hnews := (hl.below (B1.alloc B1.size (.cells #[] 5))).news
    go_wp2_with (at_builtin; refine wpList_append_own _ rfl _ _ 22 rfl w1.heap.size 5 i0 (.int .u8 0) 1 1 Try.underlying22 hi hz0 hz1 hz2 rfl (by decide) _ 0 [] rfl (World.ownsRow_made w1 #[] 0 (Nat.le_refl _) (Nat.zero_le _) rfl) ⟨ab, aoff, none⟩ n c (l.map bv) rfl (by simp [hlen]) hnews (bv_one l) (by unfold maxLen; omega) (by omega) (by simp) ?_; intro v' w2 hown hgrow _)
    obtain ⟨g, cap, rfl, hg, hlt⟩ := hown.form (by omega)
    have B2 : Below w.heap.size w w2 := (B1.alloc B1.size (.cells #[] 5)).grown hgrow (by simp; have := B1.size; omega) (fun k e => by
      have e' : some w1.heap.size = some k := e
      injection e' with e'
      have := B1.size; omega)
    obtain ⟨k, hk, hk4⟩ : ∃ k : Nat, at_ % ((n : Int) - 3) = k ∧ k + 4 ≤ n := by
      have h1 := Int.emod_nonneg at_ (show (n : Int) - 3 ≠ 0 by omega)
      have h2 := Int.emod_lt_of_pos at_ (show (0 : Int) < (n : Int) - 3 by omega)
      exact ⟨(at_ % ((n : Int) - 3)).toNat, by omega, by omega⟩
    have Hg := B1.size
    clear hgrow hnews B1 hi hz0 hz1 hz2
    simp only [Nat.zero_add, List.nil_append] at hown
    go_wp2_with fail
    rw [hk, Nat.zero_add]
    go_loopw [9] (fun iv wr => ∃ i : Nat, i ≤ 4 ∧ iv = .int .i64 i ∧ wr.ownsRow w1.heap.size 5 1 (.slice (some ⟨g, 0, none⟩) n cap) n ((turned l k t i).map bv) ∧ Below w.heap.size w wr)
      (fun iv _ => 4 - (intOf iv).toNat)
    case atStart => exact ⟨0, by omega, rfl, hown, B2⟩
    case round =>
      clear hown B2
      obtain ⟨i, hi, rfl, hown, Br⟩ := hrel
      by_cases hlt4 : i < 4
      · have hcell : wr.cell? ⟨g, k + i, none⟩ = some (.int .u8 ((l.getD (k + i) 0).toNat : Int)) := by
          rw [hown.cellAt (k + i) (by omega), List.getElem?_map, turned_far _ _ _ _ _ (Nat.le_refl _), List.getElem?_eq_getElem (by omega)]
          simp [List.getD, show k + i < l.length by omega, bv]
        have hfr := hown.frozenAt (k + i)
        have hst := hown.stored (k + i) (bv (l.getD (k + i) 0 ^^^ Crc.part t i))
        have hset : ((turned l k t i).map bv).set (k + i) (bv (l.getD (k + i) 0 ^^^ Crc.part t i)) = (turned l k t (i + 1)).map bv := by
          rw [turned, List.map_set]
        rw [hset] at hst
        have Bs := Br.setCell (p := ⟨g, k + i, none⟩) (by dsimp only; omega) (bv (l.getD (k + i) 0 ^^^ Crc.part t i))
        have hv := turn_value (l.getD (k + i) 0) t i
        unfold bv at hst Bs
        clear hset hown Br
        generalize l.getD (k + i) 0 ^^^ Crc.part t i = y at *
        generalize l.getD (k + i) 0 = x at *
        have hx := x.isLt
        have hy := y.isLt
        have v0 : i = 0 → bits .xor .u8 (x.toNat : Int) ((t.toNat : Int) % 256) = (y.toNat : Int) := fun e => by subst e; rw [show ((256 ^ 0 : Nat) : Int) = 1 from rfl, Int.ediv_one] at hv; exact hv
        have v1 : i = 1 → bits .xor .u8 (x.toNat : Int) ((t.toNat : Int) / 256 % 256) = (y.toNat : Int) := fun e => by subst e; exact hv
        have v2 : i = 2 → bits .xor .u8 (x.toNat : Int) ((t.toNat : Int) / 65536 % 256) = (y.toNat : Int) := fun e => by subst e; exact hv
        have v3 : i = 3 → bits .xor .u8 (x.toNat : Int) ((t.toNat : Int) / 16777216) = (y.toNat : Int) := fun e => by
          subst e
          have h : bits .xor .u8 (x.toNat : Int) ((t.toNat : Int) / 16777216 % 256) = (y.toNat : Int) := hv
          rw [show (t.toNat : Int) / 16777216 % 256 = (t.toNat : Int) / 16777216 by omega] at h
          exact h
        clear hv
        obtain rfl | rfl | rfl | rfl : i = 0 ∨ i = 1 ∨ i = 2 ∨ i = 3 := by omega
        · have hv := v0 rfl
          clear v0 v1 v2 v3
          simp only [Nat.add_zero] at hcell hfr hst Bs
          go_wp2_with fail
          go_roundw
          case rel => exact ⟨1, by omega, rfl, hst.1, Bs⟩
          case measure => simp [intOf]
        · have hv := v1 rfl
          clear v0 v1 v2 v3
          go_wp2_with fail
          go_roundw
          case rel => exact ⟨2, by omega, rfl, hst.1, Bs⟩
          case measure => simp [intOf]
        · have hv := v2 rfl
          clear v0 v1 v2 v3
          go_wp2_with fail
          go_roundw
          case rel => exact ⟨3, by omega, rfl, hst.1, Bs⟩
          case measure => simp [intOf]
        · have hv := v3 rfl
          clear v0 v1 v2 v3
          go_wp2_with fail
          go_roundw
          case rel => exact ⟨4, by omega, rfl, hst.1, Bs⟩
          case measure => simp [intOf]
      · obtain rfl : i = 4 := by omega
        have hne := turned_ne l k t (by omega) ht1
        have hc2 : BSl wr wr.heap.size (some ⟨g, 0, none⟩) n (turned l k t 4) := by
          refine ⟨by rw [turned_length, hlen], fun _ => ⟨g, 0, rfl, (hown.lt g rfl).2, fun j hj => ?_⟩⟩
          rw [Nat.zero_add, hown.cellAt j (by omega), List.getElem?_map, List.getElem?_eq_getElem (by rw [turned_length]; omega)]
          simp [List.getD, show j < (turned l k t 4).length by rw [turned_length]; omega]
        have O1 := Lib.hid (of_any (some ⟨ab, aoff, none⟩) n c l wr ((hl.below Br).more Br.size) (by omega))
        have O2 := Lib.hid fun (w' : World) (B : Below wr.heap.size wr w') => of_any (some ⟨g, 0, none⟩) n cap (turned l k t 4) w' ((hc2.below B).more B.size) (by omega)
        clear hown hc2
        generalize turned l k t 4 = l2 at *
        have hne2 : (((Crc.of l).toNat : Int) == ((Crc.of l2).toNat : Int)) = false := by
          simp only [beq_eq_false_iff_ne, ne_eq]
          intro e
          exact hne (BitVec.eq_of_toNat_eq (by omega))
        generalize Crc.of l = x at *
        generalize Crc.of l2 = y at *
        have hx := x.isLt
        have hy := y.isLt
        go_wp2_with fail
        refine O1.out.mono ?_
        rintro e w3 ⟨rfl, B3⟩
        go_wp2_with fail
        refine (O2.out w3 B3).mono ?_
        rintro e w4 ⟨rfl, B4⟩
        go_wp2_with fail
        go_ret
        exact ⟨ret_bool (by rw [bne, hne2]; rfl), Br.trans ((B3.trans (B4.mono B3.size)).mono Br.size)⟩

/-- .. as the frame asks for it. -/
theorem bursts_at (a : Option Addr) (n c : Nat) (l : List (BitVec 8)) (at_ t : Int) (w : World) (hl : BSl w w.heap.size a n l) (hat0 : 0 ≤ at_) (hat : at_ ≤ 65535) (ht0 : 0 ≤ t) (ht : t ≤ 4294967295) :
    Calls Try.prog 4 #[.slice a n c, .int .u16 at_, .int .u32 t] w fun e w' => e = .returned (.bool true) ∧ Below w.heap.size w w' := by
  have e : t = ((BitVec.ofNat 32 t.toNat).toNat : Int) := by rw [BitVec.toNat_ofNat]; omega
  rw [e]
  exact bursts_walk a n c l at_ _ w hl hat0 hat

end Go.Proofs.Ytalpeldjdmfnjaa
