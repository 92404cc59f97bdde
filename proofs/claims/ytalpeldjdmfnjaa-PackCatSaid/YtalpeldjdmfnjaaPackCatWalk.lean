/-
  The walk of corncriblaw01.PackCat.
-/
import Derived.Test.YtalpeldjdmfnjaaMore
import Derived.Test.YtalpeldjdmfnjaaOpen
import Derived.Test.YtalpeldjdmfnjaaElem
import Derived.Deep.DeepCutAuto
namespace Go.Proofs.Ytalpeldjdmfnjaa
open Go.RowKit

/-- The slice value reads as the numbers ns. -/
def U64s (w : World) (B : Nat) (a : Option Addr) (n : Nat) (ns : List Nat) : Prop :=
  ns.length = n ∧ (∀ i, ns.getD i 0 < 18446744073709551616) ∧ (0 < n → ∃ b off, a = some ⟨b, off, none⟩ ∧ b < B ∧ ∀ k, k < n → w.cell? ⟨b, off + k, none⟩ = some (.int .u64 ((ns.getD k 0 : Nat) : Int)))

def flat (ns : List Nat) : List (BitVec 8) := ns.flatMap fun x => Num.le x 8
theorem flat_length (ns : List Nat) : (flat ns).length = 8 * ns.length := by
  induction ns with
  | nil => rfl
  | cons x ns ih =>
    show (Num.le x 8 ++ flat ns).length = _
    rw [List.length_append, ih, Num.le_length, List.length_cons]
    omega
theorem flat_snoc (ns : List Nat) (i : Nat) (h : i < ns.length) : flat (ns.take (i + 1)) = flat (ns.take i) ++ Num.le (ns.getD i 0) 8 := by
  rw [List.take_succ_eq_append_getElem h]
  unfold flat
  rw [List.flatMap_append]
  simp [List.getD, h]
theorem le_take (x k j : Nat) (h : j ≤ k) : (Num.le x k).take j = Num.le x j := by
  induction j generalizing x k with
  | zero => rfl
  | succ j ih =>
    obtain ⟨k, rfl⟩ : ∃ q, k = q + 1 := ⟨k - 1, by omega⟩
    simp [Num.le, ih (x / 256) k (by omega)]
theorem flat_at (ns : List Nat) (i : Nat) (h : i < ns.length) (j : Nat) (hj : j ≤ 8) : ((flat ns).drop (8 * i)).take j = Num.le (ns.getD i 0) j := by
  have e : flat ns = flat (ns.take i) ++ (Num.le (ns.getD i 0) 8 ++ flat (ns.drop (i + 1))) := by
    conv => lhs; rw [← List.take_append_drop (i + 1) ns]
    show List.flatMap _ (_ ++ _) = _
    rw [List.flatMap_append]
    show flat _ ++ flat _ = _
    rw [flat_snoc ns i h, List.append_assoc]
  rw [e, List.drop_left' (by rw [flat_length, List.length_take]; omega), List.take_append_of_le_length (by rw [Num.le_length]; omega), le_take _ _ _ hj]

theorem low16 (x : Nat) (h : x < 18446744073709551616) : bits .and .u64 (x : Int) 65535 = ((x % 65536 : Nat) : Int) := by
  show IntKind.u64.wrap ((BitVec.ofInt 64 (x : Int) &&& BitVec.ofInt 64 65535).toNat : Int) = _
  rw [BitVec.ofInt_natCast, BitVec.toNat_and, BitVec.toNat_ofNat, Nat.mod_eq_of_lt (by omega)]
  show ((x &&& (2 ^ 16 - 1) : Nat) : Int) % 18446744073709551616 = _
  rw [Nat.and_two_pow_sub_one_eq_mod]
  omega

theorem info_int : (Try.prog.info? 3).map (fun i => (i.zero, i.size, i.bytes)) = some (some (.int .i64 0), 1, 8) := by kernel_rfl

/-- What is so at each round's head of the first loop. -/
def Cat1 (w : World) (base : Nat) (ns : List Nat) (i : Nat) (bvv tv : Value) (wr : World) : Prop :=
  ∃ av cv, bvv = .slice av (8 * i) cv ∧ wr.ownsRow base 5 1 (.slice av (8 * i) cv) (8 * i) ((flat (ns.take i)).map bv) ∧
    wr.ownsRow base 3 1 tv i ((List.range i).map fun j => Value.int .i64 ((8 * j : Nat) : Int)) ∧ ((Value.slice av (8 * i) cv).ownBlock = none ∨ (Value.slice av (8 * i) cv).ownBlock ≠ tv.ownBlock) ∧
    Below w.heap.size w wr ∧ w.heap.size ≤ base ∧ base ≤ wr.heap.size

set_option maxRecDepth 100000 in
set_option maxHeartbeats 4000000 in
theorem cat_walk (a : Option Addr) (n c : Nat) (ns : List Nat) (w : World) (h : U64s w w.heap.size a n ns) :
    Calls Try.prog 9 #[.slice a n c] w fun e w' => e = .returned (.bool true) ∧ Below w.heap.size w w' := by
  by_cases hbig : 100 < n
  · go_enter Try.func9, Try.ntmps9
    go_wp2_with fail
    refine (pack_alive _).mono ?_
    rintro e w1 ⟨rfl, B1⟩
    go_wp2_with fail
    go_ret
    exact ⟨rfl, B1⟩
  have hn : n ≤ 100 := by omega
  clear hbig
  obtain ⟨hlen, hlt64, hcell⟩ := h
  obtain ⟨i0, hi, hz0, hz1, hz2⟩ := info_parts info_int
  have HI := Lib.hid hi
  have HZ0 := Lib.hid hz0
  have HZ1 := Lib.hid hz1
  have HZ2 := Lib.hid hz2
  have HL := Lib.hid hlen
  have H64 := Lib.hid hlt64
  have HC := Lib.hid hcell
  clear hi hz0 hz1 hz2 hlen hlt64 hcell
  go_enter Try.func9, Try.ntmps9
  go_wp2_with fail
  refine (pack_alive _).mono ?_
  rintro e w1 ⟨rfl, B1⟩
  go_wp2_with fail
  go_loopw [3, 4, 5] (fun bvv tv iv wr => ∃ i : Nat, i ≤ n ∧ iv = .int .i64 i ∧ Cat1 w w1.heap.size ns i bvv tv wr) (fun _ _ iv _ => n - (intOf iv).toNat)
  case atStart =>
    exact ⟨0, by omega, rfl, none, 0, rfl, ⟨rfl, .inl ⟨rfl, rfl⟩⟩, World.ownsRow_made (base := w1.heap.size) w1 #[] 0 (Nat.le_refl _) (Nat.zero_le _) rfl, .inl rfl, B1.alloc B1.size _, B1.size, by simp⟩
  case round =>
    obtain ⟨i, hi, rfl, av, cv, rfl, hob, hot, hap, B, hwb, hbs⟩ := hrel
    by_cases hlt : i < n
    · obtain ⟨b, off, ha, hb, hcl⟩ := HC.out (by omega)
      have hx64 := H64.out i
      have hci : wr.cell? ⟨b, off + i, none⟩ = some (.int .u64 ((ns.getD i 0 : Nat) : Int)) := (B.cell (p := ⟨b, off + i, none⟩) hb).trans (hcl i hlt)
      have HF := Lib.hid (flat_snoc ns i (by rw [HL.out]; exact hlt))
      generalize ns.getD i 0 = x at *
      subst ha
      clear hcl
      have HB := Lib.hid B
      have HAP := Lib.hid hap
      have HOB := Lib.hid hob
      clear B hap hob
      have hlt2 : decide ((i : Int) < n) = true := by simp; omega
      obtain ⟨gt, ct, W2, hr, hot2, hgr, hat, hct⟩ := append_elem Try.underlying61 HI.out HZ0.out HZ1.out HZ2.out rfl (by decide) hot [.int .i64 ((8 * i : Nat) : Int)] rfl (fun u hu => by obtain rfl := List.mem_singleton.1 hu; rfl) (by omega) (by unfold maxLen; omega) hbs
      have hob2 := HOB.out.kept hgr HAP.out
      have B2 := HB.out.grown hgr HB.out.size (fun q e => by have := (hot.lt q e).1; omega)
      have hb2 := bsl_own hob2
      have hsz2 : wr.heap.size ≤ W2.heap.size := hgr.size
      have hci2 : W2.cell? ⟨b, off + i, none⟩ = some (.int .u64 (x : Int)) := (B2.cell (p := ⟨b, off + i, none⟩) hb).trans (by rw [← hci]; exact (HB.out.cell (p := ⟨b, off + i, none⟩) hb).symm)
      have P := Lib.hid (put_ok av (8 * i) cv _ x 8 W2 hb2 (by omega) (bsl_nil0 hb2) rfl (by omega))
      have HG := Lib.hid (hot2.lt gt rfl)
      have HO2 := Lib.hid hot2
      have HB2 := Lib.hid B2
      clear hot hob2 B2 hb2 hgr hat hot2 hci HAP HOB
      go_wp2_with (at_builtin; refine list_run (by rfl) _ _ rfl rfl rfl hr ?_; clear hr)
      refine P.out.mono ?_
      rintro e W3 ⟨g3, c3, rfl, hob3, B3⟩
      have hot3 := own_below HO2.out B3 (Nat.le_refl _)
      have B4 := HB2.out.trans (B3.mono HB2.out.size)
      have hz3 := (hob3.lt g3 rfl).1
      have hs3 := B3.size
      clear HB2 HO2 B3
      go_wp2_with fail
      refine (code_c 0 _ (by decide)).mono ?_
      rintro e w6 ⟨rfl, rfl⟩
      go_wp2_with fail
      go_roundw
      case rel =>
        refine ⟨i + 1, by omega, by go_num, some ⟨g3, 0, none⟩, c3, ?_, ?_, ?_, ?_, B4, hwb, by omega⟩
        · rfl
        · rw [HF.out]
          exact own_more hob3 (by omega)
        · rw [List.range_succ, List.map_append]
          exact hot3
        · right
          intro e
          have e : some g3 = some gt := e
          injection e with e
          have := HG.out.2
          omega
      case measure => simp [intOf]; omega
    · obtain rfl : i = n := by omega
      have hlt2 : decide ((i : Int) < i) = false := by simp
      rw [show ns.take i = ns from List.take_of_length_le (by rw [HL.out]; omega)] at hob
      have HB := Lib.hid B
      have HOB := Lib.hid hob
      have HOT := Lib.hid hot
      have hcv := own_cap hob
      clear B hap hob hot
      go_wp2_with fail
      obtain ⟨wo, rfl⟩ : ∃ wo : World, wo = wr := ⟨_, rfl⟩
      go_loopw [8] (fun iv wr => ∃ j : Nat, j ≤ i ∧ iv = .int .i64 j ∧ Below wo.heap.size wo wr) (fun iv _ => i - (intOf iv).toNat)
      case atStart => exact ⟨0, by omega, rfl, Below.refl _ _⟩
      case round =>
        obtain ⟨j, hj, rfl, B⟩ := hrel
        by_cases hlt : j < i
        · obtain ⟨gt, ct, rfl, hgt1, hgt2⟩ := HOT.out.form (by omega)
          obtain ⟨b, off, ha, hb, hcl⟩ := HC.out (by omega)
          subst ha
          have hlt3 : decide ((j : Int) < i) = true := by simp; omega
          obtain ⟨m, hm⟩ : ∃ m, 8 * j = m := ⟨_, rfl⟩
          have hx64 := H64.out j
          obtain ⟨x, hx⟩ : ∃ x, ns.getD j 0 = x := ⟨_, rfl⟩
          have BW := HB.out.trans (B.mono HB.out.size)
          have hci : wr.cell? ⟨b, off + j, none⟩ = some (.int .u64 (x : Int)) := by rw [← hx]; exact (BW.cell (p := ⟨b, off + j, none⟩) hb).trans (hcl j hlt)
          have hct : wr.cell? ⟨gt, j, none⟩ = some (.int .i64 (m : Int)) := by
            rw [(own_below HOT.out B (Nat.le_refl _)).cellAt j (by omega)]
            simp [hlt, ← hm]
          have hb1 := bsl_own (own_below HOB.out B (Nat.le_refl _))
          have G8 := get_ok av (8 * i) cv (flat ns) m 8 wr hb1 hcv (by omega) rfl (by omega)
          rw [← hm, flat_at ns j (by rw [HL.out]; exact hlt) 8 (by omega), hx, Num.num_le_of_lt (by rw [← hx]; omega), hm] at G8
          have G2 := fun (W : World) (Bx : Below wr.heap.size wr W) => get_ok av (8 * i) cv (flat ns) m 2 W ((hb1.below Bx).more Bx.size) hcv (by omega) rfl (by omega)
          rw [← hm, flat_at ns j (by rw [HL.out]; exact hlt) 2 (by omega), hx, Num.num_le, hm] at G2
          have hlow := low16 x (by rw [← hx]; exact hx64)
          rw [show (256 : Nat) ^ 2 = 65536 from rfl] at G2
          generalize x % 65536 = y at G2 hlow
          have G8 := Lib.hid G8
          have G2 := Lib.hid G2
          have HBW := Lib.hid BW
          have HB2 := Lib.hid B
          have hci2 := fun (W : World) (Bx : Below wr.heap.size wr W) => (Bx.cell (p := ⟨b, off + j, none⟩) (by have := HBW.out.size; simp; omega)).trans hci
          have hct2 := fun (W : World) (Bx : Below wr.heap.size wr W) => (Bx.cell (p := ⟨gt, j, none⟩) (by have := HB2.out.size; simp; omega)).trans hct
          have HCI := Lib.hid hci2
          have HCT := Lib.hid hct2
          clear hm hx hcl hb1 BW B hci hci2 hct2 hx64
          go_wp2_with fail
          refine G8.out.mono ?_
          rintro e W1 ⟨rfl, B5⟩
          have hct1 := HCT.out W1 B5
          go_wp2_with fail
          refine (G2.out W1 B5).mono ?_
          rintro e W2 ⟨rfl, B6⟩
          have B7 := B5.trans (B6.mono B5.size)
          have hci1 := HCI.out W2 B7
          go_wp2_with fail
          refine (code_c 0 _ (by decide)).mono ?_
          rintro e w6 ⟨rfl, rfl⟩
          go_wp2_with fail
          refine (code_c 0 _ (by decide)).mono ?_
          rintro e w6 ⟨rfl, rfl⟩
          go_wp2_with fail
          go_roundw
          case rel => exact ⟨j + 1, by omega, by go_num, HB2.out.trans (B7.mono HB2.out.size)⟩
          case measure => simp [intOf]; omega
        · obtain rfl : j = i := by omega
          have hlt3 : decide ((j : Int) < j) = false := by simp
          have BW := HB.out.trans (B.mono HB.out.size)
          clear B
          rcases Nat.eq_zero_or_pos j with rfl | hpos
          · go_wp2_with fail
            refine (get_arg av (8 * 0) cv (-7) 8 wr (.inr (by decide))).mono ?_
            rintro e w6 ⟨rfl, rfl⟩
            go_wp2_with fail
            go_ret
            exact ⟨rfl, BW⟩
          · go_wp2_with fail
            refine (get_short av (8 * j) cv _ 8 wr rfl (by omega) (by omega) (.inr (by omega))).mono ?_
            rintro e w6 ⟨rfl, rfl⟩
            go_wp2_with fail
            refine (code_c 3 _ (by decide)).mono ?_
            rintro e w6 ⟨rfl, rfl⟩
            go_wp2_with fail
            go_ret
            exact ⟨rfl, BW⟩

end Go.Proofs.Ytalpeldjdmfnjaa
