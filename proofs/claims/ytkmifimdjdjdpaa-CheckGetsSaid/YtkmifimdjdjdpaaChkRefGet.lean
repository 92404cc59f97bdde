/-
  The document's checkpoint of any bytes.
-/
import Derived.Test.YtkmifimdjdjdpaaChkBack
import Derived.Test.YtkmifimdjdjdpaaChkSame
import Derived.Test.YtkmifimdjdjdpaaChkRefRight
namespace Go.Proofs.Ytkmifimdjdjdpaa
open Go.RowKit

theorem nums_cut (l : List (BitVec 8)) (p m q k : Nat) (h : q + k ≤ m) : Num.num ((((l.drop p).take m).drop q).take k) = nums l (p + q) k := by
  unfold nums
  rw [List.drop_take, List.take_take, Nat.min_eq_left (by omega), List.drop_drop]
theorem nums_cut0 (l : List (BitVec 8)) (p m k : Nat) (h : k ≤ m) : Num.num (((l.drop p).take m).take k) = nums l p k := by
  unfold nums
  rw [List.take_take, Nat.min_eq_left h]
theorem odd_true (l : List (BitVec 8)) (i n : Nat) (h : oddN l i = true) (hi : i ≤ n) : oddN l n = true := by
  induction n with
  | zero => obtain rfl : i = 0 := by omega
            exact h
  | succ n ih =>
    by_cases e : i = n + 1
    · rw [← e]; exact h
    · rw [oddN, ih (by omega), Bool.true_or]

/-- What the document's Get answers. -/
def RcGot (l : List (BitVec 8)) (w : World) (e : Ending) (w' : World) : Prop :=
  Below w.heap.size w w' ∧ ∃ v, e = .returned (.tuple #[v, .int .i64 (ckGet l : Nat)]) ∧
    ((ckGet l ≠ 0 ∧ v = .agg #[.int .i64 0, .int .i64 0, .int .i64 0, .slice none 0 0]) ∨
     (ckGet l = 0 ∧ ∃ a c, v = .agg #[.int .i64 (nums l 4 4 : Nat), .int .i64 (nums l 8 4 : Nat), .int .i64 (nums l 12 4 : Nat), .slice a (nums l 16 4) c] ∧ nums l 16 4 ≤ c ∧ PSl w' w'.heap.size a (nums l 16 4) (posL l (nums l 16 4))))
theorem rcgot_bad {l : List (BitVec 8)} {w w' : World} {cf : Nat} (h : ckGet l = cf) (h0 : cf ≠ 0) (B : Below w.heap.size w w') :
    RcGot l w (.returned (.tuple #[.agg #[.int .i64 0, .int .i64 0, .int .i64 0, .slice none 0 0], .int .i64 (cf : Nat)])) w' :=
  ⟨B, _, by rw [h], .inl ⟨by rw [h]; exact h0, rfl⟩⟩

theorem rcget_results {W : World} {B : Nat} {v0 v1 v2 v3 : Value} {a : Act} {e : Value} (h : Blk W B 40 #[v0, v1, v2, v3]) (h2 : a.tmps[2]?.getD undef = .pointer (some ⟨B, 0, none⟩)) (h3 : a.tmps[3]?.getD undef = e) :
    (results Try.f26 a.tmps).run Try.prog W = .ok (.tuple #[.agg #[v0, v1, v2, v3], e]) W := by
  obtain ⟨k0, k1, k2, k3⟩ := h.four
  simp [results, Try.results26, go_sem, h2, h3, k0, k1, k2, k3]

set_option maxRecDepth 100000 in
set_option maxHeartbeats 6000000 in
theorem rcget_any (a : Option Addr) (n c : Nat) (l : List (BitVec 8)) (w : World) (h : BSl w w.heap.size a n l) (hc : n ≤ c) (hn : n ≤ 1099511627776) :
    Calls Try.prog 26 #[.slice a n c] w (RcGot l w) := by
  have hlen := h.1
  by_cases hlt : n < 24
  · go_enter Try.func26, Try.ntmps26
    go_wp2_with fail
    exact bodyPost_ret (v := .tuple #[.agg #[.int .i64 0, .int .i64 0, .int .i64 0, .slice none 0 0], .int .i64 3]) (by simp [results, Try.results26, go_sem]) rfl (rcgot_bad (cf := 3) (by unfold ckGet; rw [if_pos (by omega)]) (by decide) ((Below.refl _ _).alloc (Nat.le_refl _) _))
  have hge : 24 ≤ n := by omega
  clear hlt
  obtain ⟨W0, hW0⟩ : ∃ W0, w.alloc (.cells #[.int .i64 0, .int .i64 0, .int .i64 0, .slice none 0 0] 40) = W0 := ⟨_, rfl⟩
  have hKr : Blk W0 w.heap.size 40 #[.int .i64 0, .int .i64 0, .int .i64 0, .slice none 0 0] := by rw [← hW0]; exact Blk.made w _ _
  have BA : Below w.heap.size w W0 := by rw [← hW0]; exact (Below.refl _ _).alloc (Nat.le_refl _) _
  have hbl : ∀ W, Below W0.heap.size W0 W → BSl W W.heap.size a n l := fun W B => (h.below (BA.trans (B.mono BA.size))).more (BA.trans (B.mono BA.size)).size
  have HKR := Lib.hid fun (W : World) (B : Below W0.heap.size W0 W) => hKr.below B hKr.lt
  have BW := Lib.hid fun (W : World) (B : Below W0.heap.size W0 W) => BA.trans (B.mono BA.size)
  have hs0 : w.heap.size < W0.heap.size := hKr.lt
  have B0 : Below W0.heap.size W0 W0 := Below.refl _ _
  obtain ⟨m, rfl⟩ : ∃ m, n = m + 4 := ⟨n - 4, by omega⟩
  obtain ⟨a4, s4, -, -, hc4⟩ := cut_bytes (hbl W0 B0) hc 4 4 (by omega)
  obtain ⟨a8, s8, -, -, hc8⟩ := cut_bytes (hbl W0 B0) hc 8 4 (by omega)
  obtain ⟨a12, s12, -, -, hc12⟩ := cut_bytes (hbl W0 B0) hc 12 4 (by omega)
  obtain ⟨a16, s16, -, -, hc16⟩ := cut_bytes (hbl W0 B0) hc 16 4 (by omega)
  obtain ⟨aT, -, sT, -, hcT⟩ := cut_bytes (hbl W0 B0) hc m 4 (by omega)
  have HS4 := Lib.hid fun W => s4 (4 : Int) (8 : Int) W rfl rfl
  have HS8 := Lib.hid fun W => s8 (8 : Int) (12 : Int) W rfl rfl
  have HS12 := Lib.hid fun W => s12 (12 : Int) (16 : Int) W rfl rfl
  have hs16 := fun W => s16 (16 : Int) (20 : Int) W rfl rfl
  have HST := Lib.hid fun W => sT (m : Int) W rfl rfl
  have N4 := Lib.hid fun (W : World) (B : Below W0.heap.size W0 W) => show Calls Try.prog 41 #[.slice a4 4 (c - 4)] W fun e w' => e = .returned (.int .u64 (nums l 4 4 : Nat)) ∧ W = w' from number_any a4 4 (c - 4) _ W (hc4.below B) (by decide)
  have N8 := Lib.hid fun (W : World) (B : Below W0.heap.size W0 W) => show Calls Try.prog 41 #[.slice a8 4 (c - 8)] W fun e w' => e = .returned (.int .u64 (nums l 8 4 : Nat)) ∧ W = w' from number_any a8 4 (c - 8) _ W (hc8.below B) (by decide)
  have N12 := Lib.hid fun (W : World) (B : Below W0.heap.size W0 W) => show Calls Try.prog 41 #[.slice a12 4 (c - 12)] W fun e w' => e = .returned (.int .u64 (nums l 12 4 : Nat)) ∧ W = w' from number_any a12 4 (c - 12) _ W (hc12.below B) (by decide)
  have N16 := Lib.hid fun (W : World) (B : Below W0.heap.size W0 W) => show Calls Try.prog 41 #[.slice a16 4 (c - 16)] W fun e w' => e = .returned (.int .u64 (nums l 16 4 : Nat)) ∧ W = w' from number_any a16 4 (c - 16) _ W (hc16.below B) (by decide)
  have N0 := Lib.hid fun (W : World) (B : Below W0.heap.size W0 W) => show Calls Try.prog 41 #[.slice a 4 c] W fun e w' => e = .returned (.int .u64 (nums l 0 4 : Nat)) ∧ W = w' from number_any a 4 c _ W ((hbl W B).prefix (by omega)) (by decide)
  have htl : (l.drop m).take 4 = l.drop m := List.take_of_length_le (by rw [List.length_drop]; omega)
  rw [htl] at hcT
  have NT := Lib.hid fun (W : World) (B : Below W0.heap.size W0 W) => number_any aT 4 (c - m) _ W (hcT.below B) (by decide)
  have OT := Lib.hid fun (W : World) (B : Below W0.heap.size W0 W) => of_ref a m c _ W ((hbl W B).prefix (k := m) (by omega)) (by omega)
  have HCUT := Lib.hid fun (W : World) (B : Below W0.heap.size W0 W) (p : Nat) (hp : p + 24 ≤ m + 4) => cut_bytes (hbl W B) hc p 24 hp
  have x0 : nums l 0 4 < 4294967296 := nums_lt l 0 4
  have x4 : nums l 4 4 < 4294967296 := nums_lt l 4 4
  have x8 : nums l 8 4 < 4294967296 := nums_lt l 8 4
  have x12 : nums l 12 4 < 4294967296 := nums_lt l 12 4
  have x16 : nums l 16 4 < 4294967296 := nums_lt l 16 4
  obtain ⟨m0, e0⟩ : ∃ m, nums l 0 4 = m := ⟨_, rfl⟩
  obtain ⟨v, e4⟩ : ∃ m, nums l 4 4 = m := ⟨_, rfl⟩
  obtain ⟨g, e8⟩ : ∃ m, nums l 8 4 = m := ⟨_, rfl⟩
  obtain ⟨u, e12⟩ : ∃ m, nums l 12 4 = m := ⟨_, rfl⟩
  obtain ⟨cn, e16⟩ : ∃ m, nums l 16 4 = m := ⟨_, rfl⟩
  rw [e0] at x0 N0
  rw [e4] at x4 N4
  rw [e8] at x8 N8
  rw [e12] at x12 N12
  rw [e16] at x16 N16
  have HCG := Lib.hid (show RcGot l = fun w e w' => Below w.heap.size w w' ∧ ∃ v', e = .returned (.tuple #[v', .int .i64 (ckGet l : Nat)]) ∧
    ((ckGet l ≠ 0 ∧ v' = .agg #[.int .i64 0, .int .i64 0, .int .i64 0, .slice none 0 0]) ∨
     (ckGet l = 0 ∧ ∃ a c, v' = .agg #[.int .i64 v, .int .i64 g, .int .i64 u, .slice a cn c] ∧ cn ≤ c ∧ PSl w' w'.heap.size a cn (posL l cn))) from by rw [← e4, ← e8, ← e12, ← e16]; rfl)
  have HCK := (show ckGet l = if l.length < 24 then 3 else if m0 ≠ 1128811344 then 4 else if 4096 < cn then 4 else if l.length < 24 + 24 * cn then 3 else if 24 + 24 * cn < l.length then 4
      else if Num.num (l.drop (l.length - 4)) ≠ (Crc.of (l.take (l.length - 4))).toNat then 5 else if oddN l cn = true then 4 else if ckR v g u (posL l cn) ≠ 0 then 4 else 0 from by
    rw [← e0, ← e4, ← e8, ← e12, ← e16]; rfl)
  rw [hlen, if_neg (by omega), Nat.add_sub_cancel] at HCK
  have hx := (Crc.of (l.take m)).isLt
  generalize (Crc.of (l.take m)).toNat = x at *
  generalize Num.num (l.drop m) = y at *
  clear e0 e4 e8 e12 e16 hKr h hlen BA hbl hc4 hc8 hc12 hc16 hcT s4 s8 s12 s16 sT htl
  have hcc : (24 : Int) ≤ (c : Int) := by omega
  go_enter Try.func26, Try.ntmps26
  by_cases hm : ¬ m0 = 1128811344
  · have h0' : ((m0 : Int) != 1128811344) = true := by rw [bne_iff_ne]; omega
    have HE := Lib.hid (show ckGet l = 4 from by rw [HCK, if_pos hm])
    go_wp2_with fail
    clear hW0
    refine (N0.out _ B0).mono ?_
    rintro e w3 ⟨rfl, rfl⟩
    have hKr2 := HKR.out _ B0
    obtain ⟨k0, k1, k2, k3⟩ := hKr2.four
    obtain ⟨f0, f1, f2, f3⟩ := hKr2.four_frozen
    go_wp2_with fail
    exact bodyPost_ret (rcget_results (hKr2.put4 _ _ _ _) rfl rfl) rfl (rcgot_bad HE.out (by decide) (below_put4 (BW.out _ B0) (Nat.le_refl _) _ _ _ _))
  have hm := Decidable.not_not.1 hm
  have h0' : ((m0 : Int) != 1128811344) = false := by rw [hm]; rfl
  rw [if_neg (by omega)] at HCK
  clear hm
  by_cases hbig : 4096 < cn
  · have HE := Lib.hid (show ckGet l = 4 from by rw [HCK, if_pos hbig])
    have h1' : decide ((4096 : Int) < cn) = true := by rw [decide_eq_true_eq]; omega
    clear HCK
    go_wp2_with fail
    clear hW0
    refine (N0.out _ B0).mono ?_
    rintro e w3 ⟨rfl, rfl⟩
    go_wp2_with fail
    refine (N16.out _ B0).mono ?_
    rintro e w3 ⟨rfl, rfl⟩
    have hKr2 := HKR.out _ B0
    obtain ⟨k0, k1, k2, k3⟩ := hKr2.four
    obtain ⟨f0, f1, f2, f3⟩ := hKr2.four_frozen
    go_wp2_with fail
    exact bodyPost_ret (rcget_results (hKr2.put4 _ _ _ _) rfl rfl) rfl (rcgot_bad HE.out (by decide) (below_put4 (BW.out _ B0) (Nat.le_refl _) _ _ _ _))
  rw [if_neg hbig] at HCK
  have hcn : cn ≤ 4096 := by omega
  have h1' : decide ((4096 : Int) < cn) = false := by rw [decide_eq_false_iff_not]; omega
  go_wp2_with fail
  clear hW0
  refine (N0.out _ B0).mono ?_
  rintro e w3 ⟨rfl, rfl⟩
  go_wp2_with fail
  refine (N16.out _ B0).mono ?_
  rintro e w3 ⟨rfl, rfl⟩
  go_wp2_with fail
  refine (N16.out _ B0).mono ?_
  rintro e w3 ⟨rfl, rfl⟩
  go_upto_region 6 with fail
  have hal0 : 24 + 24 * cn < m + 4 ∨ m + 4 < 24 + 24 * cn ∨ 24 + 24 * cn = m + 4 := by omega
  rcases hal0 with hsh | hsh | hsh
  · have HE := Lib.hid (show ckGet l = 4 from by rw [HCK, if_neg (by omega), if_pos hsh])
    have h2' : ¬ ((m : Int) + 4 < 24 + 24 * (cn : Int)) := by omega
    have h3' : 24 + 24 * (cn : Int) < (m : Int) + 4 := by omega
    clear HCK
    have hKr2 := HKR.out _ B0
    obtain ⟨k0, k1, k2, k3⟩ := hKr2.four
    obtain ⟨f0, f1, f2, f3⟩ := hKr2.four_frozen
    go_wp2_with fail
    exact bodyPost_ret (rcget_results (hKr2.put4 _ _ _ _) rfl rfl) rfl (rcgot_bad HE.out (by decide) (below_put4 (BW.out _ B0) (Nat.le_refl _) _ _ _ _))
  · have HE := Lib.hid (show ckGet l = 3 from by rw [HCK, if_pos hsh])
    have h2' : (m : Int) + 4 < 24 + 24 * (cn : Int) := by omega
    clear HCK
    have hKr2 := HKR.out _ B0
    obtain ⟨k0, k1, k2, k3⟩ := hKr2.four
    obtain ⟨f0, f1, f2, f3⟩ := hKr2.four_frozen
    go_wp2_with fail
    exact bodyPost_ret (rcget_results (hKr2.put4 _ _ _ _) rfl rfl) rfl (rcgot_bad HE.out (by decide) (below_put4 (BW.out _ B0) (Nat.le_refl _) _ _ _ _))
  rw [if_neg (by omega), if_neg (by omega)] at HCK
  have h2' : ¬ ((m : Int) + 4 < 24 + 24 * (cn : Int)) := by omega
  have h3' : ¬ (24 + 24 * (cn : Int) < (m : Int) + 4) := by omega
  go_wp2_with fail
  have hst := HST.out
  have hmc : (m : Int) ≤ c := by omega
  have HWM := Lib.hid (show IntKind.i64.wrap (m : Int) = m from IntWalk.i64_in _ (by omega))
  have hm0 : (0 : Int) ≤ m := by omega
  have HWX := Lib.hid (show IntKind.u64.wrap (x : Int) = x from IntWalk.u64_in _ (by omega))
  have HW4 := Lib.hid (show IntKind.i64.wrap (v : Int) = v from IntWalk.i64_in _ (by omega))
  have HW8 := Lib.hid (show IntKind.i64.wrap (g : Int) = g from IntWalk.i64_in _ (by omega))
  have HW12 := Lib.hid (show IntKind.i64.wrap (u : Int) = u from IntWalk.i64_in _ (by omega))
  have B1 := B0.drew
  have HCK := Lib.hid HCK
  clear h0' h1' h2' h3' hbig hs16
  go_cut [56] (fun v wx => v = .bool ((y : Int) != (x : Int)) ∧ Below W0.heap.size W0 wx)
  case first =>
    refine wp_region_any (by kernel_rfl) ?_
    change wpAny _ _ _ _ _ _ _ (World.drew _)
    refine wpAny_take (i := 0) (v := ?_) rfl (by kernel_rfl) (by kernel_rfl) (by kernel_rfl) (fun _ _ _ h => h) (Or.inl ⟨by kernel_rfl, ?_⟩) ?_
    rotate_left
    · intro w; go_simp; try with_reducible rfl
    refine wpAny_take (i := 1) (v := ?_) rfl (by kernel_rfl) (by kernel_rfl) (by kernel_rfl) (fun _ _ _ h => h) (Or.inl ⟨by kernel_rfl, ?_⟩) ?_
    rotate_left
    · intro w; go_simp; try with_reducible rfl
    refine wpAny_take (i := 2) (v := ?_) rfl (by kernel_rfl) (by kernel_rfl) (by kernel_rfl) (fun _ _ _ h => h) (Or.inl ⟨by kernel_rfl, ?_⟩) ?_
    rotate_left
    · intro w; go_simp; try with_reducible rfl
    refine wpAny_take (i := 3) (v := ?_) rfl (by kernel_rfl) (by kernel_rfl) (by kernel_rfl) (fun _ _ _ h => h) (Or.inl ⟨by kernel_rfl, ?_⟩) ?_
    rotate_left
    · intro w; go_simp; rw [HWM.out]; try with_reducible rfl
    refine wpAny_take (i := 4) (v := ?_) rfl (by kernel_rfl) (by kernel_rfl) (by kernel_rfl) (fun _ _ _ h => h) (Or.inl ⟨by kernel_rfl, ?_⟩) ?_
    rotate_left
    · intro w; go_simp; try with_reducible rfl
    refine wpAny_take (i := 6) (v := ?_) rfl (by kernel_rfl) (by kernel_rfl) (by kernel_rfl) (fun _ _ _ h => h) (Or.inl ⟨by kernel_rfl, ?_⟩) ?_
    rotate_left
    · intro w; go_simp; try with_reducible rfl
    refine wpAny_take (i := 7) (v := ?_) rfl (by kernel_rfl) (by kernel_rfl) (by kernel_rfl) (fun _ _ _ h => h) (Or.inl ⟨by kernel_rfl, ?_⟩) ?_
    rotate_left
    · intro w; go_simp; try with_reducible rfl
    refine wpAny_take (i := 8) (v := ?_) rfl (by kernel_rfl) (by kernel_rfl) (by kernel_rfl) (fun _ _ _ h => h) (Or.inl ⟨by kernel_rfl, ?_⟩) ?_
    rotate_left
    · intro w; go_simp; try with_reducible rfl
    refine wpAny_take (i := 9) (v := ?_) rfl (by kernel_rfl) (by kernel_rfl) (by kernel_rfl) (fun _ _ _ h => h) (Or.inl ⟨by kernel_rfl, ?_⟩) ?_
    rotate_left
    · intro w; go_simp; rw [HWM.out]; try with_reducible rfl
    refine wpAny_take (i := 10) (v := ?_) rfl (by kernel_rfl) (by kernel_rfl) (by kernel_rfl) (fun _ _ _ h => h) (Or.inl ⟨by kernel_rfl, ?_⟩) ?_
    rotate_left
    · intro w; go_simp; try with_reducible rfl
    refine wpAny_ready (rs := [5]) (by kernel_rfl) (by simp) ?_
    refine AllReady.cons rfl (fun K hK => ?_) AllReady.nil
    go_simp
    refine (NT.out _ B1).mono ?_
    rintro e w3 ⟨rfl, rfl⟩
    go_simp
    refine hK _ _ ?_
    clear hK K
    refine wpAny_ready (rs := [11]) (by kernel_rfl) (by simp) ?_
    refine AllReady.cons rfl (fun K hK => ?_) AllReady.nil
    go_simp
    refine (OT.out _ B1).mono ?_
    rintro e w3 ⟨rfl, rfl⟩
    go_simp
    refine hK _ _ ?_
    clear hK K
    refine wpAny_take (i := 12) (v := ?_) rfl (by kernel_rfl) (by kernel_rfl) (by kernel_rfl) (fun _ _ _ h => h) (Or.inl ⟨by kernel_rfl, ?_⟩) ?_
    rotate_left
    · intro w; go_simp; rw [HWX.out]; try with_reducible rfl
    refine wpAny_take (i := 13) (v := ?_) rfl (by kernel_rfl) (by kernel_rfl) (by kernel_rfl) (fun _ _ _ h => h) (Or.inl ⟨by kernel_rfl, ?_⟩) ?_
    rotate_left
    · intro w; go_simp; try with_reducible rfl
    refine wpAny_done (by kernel_rfl) ?_ _
    go_wp2_with fail
    go_meet
    exact ⟨rfl, B1⟩
  case rest =>
    obtain ⟨rfl, Bc⟩ := hcut
    clear hst B1 B0
    by_cases hs : ¬ y = x
    · have HE := Lib.hid (show ckGet l = 5 from by rw [HCK.out, if_pos hs])
      have h4' : ((y : Int) != (x : Int)) = true := by rw [bne_iff_ne]; omega
      rw [h4']
      have hKr2 := HKR.out _ Bc
      obtain ⟨k0, k1, k2, k3⟩ := hKr2.four
      obtain ⟨f0, f1, f2, f3⟩ := hKr2.four_frozen
      go_wp2_with fail
      exact bodyPost_ret (rcget_results (hKr2.put4 _ _ _ _) rfl rfl) rfl (rcgot_bad HE.out (by decide) (below_put4 (BW.out _ Bc) (Nat.le_refl _) _ _ _ _))
    have hs := Decidable.not_not.1 hs
    have h4' : ((y : Int) != (x : Int)) = false := by rw [hs]; simp
    rw [h4']
    have HCK := Lib.hid (show ckGet l = _ from by rw [HCK.out, if_neg (by rw [hs]; simp)])
    clear h4' hs
    have hs4 := HS4.out
    have hs8 := HS8.out
    have hs12 := HS12.out
    obtain ⟨gc, hgc⟩ : ∃ gc, wc.heap.size = gc := ⟨_, rfl⟩
    go_upto_region 12 with fail
    go_cut [5] (fun p wx => p = .pointer (some ⟨gc, 0, none⟩) ∧ Blk wx gc 40 #[.int .i64 v, .int .i64 g, .int .i64 u, .slice none 0 0] ∧ Below W0.heap.size W0 wx)
    case first =>
      refine wp_region_any (by kernel_rfl) ?_
      change wpAny _ _ _ _ _ _ _ (World.drew _)
      refine wpAny_take (i := 0) (v := ?_) rfl (by kernel_rfl) (by kernel_rfl) (by kernel_rfl) (fun _ _ _ h => h) (Or.inl ⟨by kernel_rfl, ?_⟩) ?_
      rotate_left
      · intro w; go_simp; try with_reducible rfl
      refine wpAny_take (i := 1) (v := ?_) rfl (by kernel_rfl) (by kernel_rfl) (by kernel_rfl) (fun _ _ _ h => h) (Or.inl ⟨by kernel_rfl, ?_⟩) ?_
      rotate_left
      · intro w; go_simp; try with_reducible rfl
      refine wpAny_take (i := 4) (v := ?_) rfl (by kernel_rfl) (by kernel_rfl) (by kernel_rfl) (fun _ _ _ h => h) (Or.inl ⟨by kernel_rfl, ?_⟩) ?_
      rotate_left
      · intro w; go_simp; try with_reducible rfl
      refine wpAny_take (i := 5) (v := ?_) rfl (by kernel_rfl) (by kernel_rfl) (by kernel_rfl) (fun _ _ _ h => h) (Or.inl ⟨by kernel_rfl, ?_⟩) ?_
      rotate_left
      · intro w; go_simp; try with_reducible rfl
      refine wpAny_take (i := 8) (v := ?_) rfl (by kernel_rfl) (by kernel_rfl) (by kernel_rfl) (fun _ _ _ h => h) (Or.inl ⟨by kernel_rfl, ?_⟩) ?_
      rotate_left
      · intro w; go_simp; try with_reducible rfl
      refine wpAny_take (i := 9) (v := ?_) rfl (by kernel_rfl) (by kernel_rfl) (by kernel_rfl) (fun _ _ _ h => h) (Or.inl ⟨by kernel_rfl, ?_⟩) ?_
      rotate_left
      · intro w; go_simp; try with_reducible rfl
      refine wpAny_ready (rs := [2, 13]) (by kernel_rfl) (by simp) ?_
      refine AllReady.cons rfl (fun K hK => ?_) ?_
      · go_simp
        refine (N4.out _ (by first | exact Bc.drew | exact Bc.drew.alloc Bc.drew.size _)).mono ?_
        rintro e w3 ⟨rfl, rfl⟩
        go_simp
        refine hK _ _ ?_
        clear hK K
        refine wpAny_take (i := 3) (v := ?_) rfl (by kernel_rfl) (by kernel_rfl) (by kernel_rfl) (fun _ _ _ h => h) (Or.inl ⟨by kernel_rfl, ?_⟩) ?_
        rotate_left
        · intro w; go_simp; rw [HW4.out]; try with_reducible rfl
        refine wpAny_ready (rs := [6, 13]) (by kernel_rfl) (by simp) ?_
        refine AllReady.cons rfl (fun K hK => ?_) ?_
        · go_simp
          refine (N8.out _ (by first | exact Bc.drew | exact Bc.drew.alloc Bc.drew.size _)).mono ?_
          rintro e w3 ⟨rfl, rfl⟩
          go_simp
          refine hK _ _ ?_
          clear hK K
          refine wpAny_take (i := 7) (v := ?_) rfl (by kernel_rfl) (by kernel_rfl) (by kernel_rfl) (fun _ _ _ h => h) (Or.inl ⟨by kernel_rfl, ?_⟩) ?_
          rotate_left
          · intro w; go_simp; rw [HW8.out]; try with_reducible rfl
          refine wpAny_ready (rs := [10, 13]) (by kernel_rfl) (by simp) ?_
          refine AllReady.cons rfl (fun K hK => ?_) ?_
          · go_simp
            refine (N12.out _ (by first | exact Bc.drew | exact Bc.drew.alloc Bc.drew.size _)).mono ?_
            rintro e w3 ⟨rfl, rfl⟩
            go_simp
            refine hK _ _ ?_
            clear hK K
            refine wpAny_take (i := 11) (v := ?_) rfl (by kernel_rfl) (by kernel_rfl) (by kernel_rfl) (fun _ _ _ h => h) (Or.inl ⟨by kernel_rfl, ?_⟩) ?_
            rotate_left
            · intro w; go_simp; rw [HW12.out]; try with_reducible rfl
            refine wpAny_take (i := 12) (v := ?_) rfl (by kernel_rfl) (by kernel_rfl) (by kernel_rfl) (fun _ _ _ h => h) (Or.inl ⟨by kernel_rfl, ?_⟩) ?_
            rotate_left
            · intro w; go_simp; try with_reducible rfl
            refine wpAny_ready (rs := [13]) (by kernel_rfl) (by simp) ?_
            refine AllReady.cons rfl (fun K hK => ?_) AllReady.nil
            go_simp
            refine hK _ _ ?_
            clear hK K
            refine wpAny_ready (rs := [14]) (by kernel_rfl) (by simp) ?_
            refine AllReady.cons rfl (fun K hK => ?_) AllReady.nil
            go_simp
            refine hK _ _ ?_
            clear hK K
            refine wpAny_done (by kernel_rfl) ?_ _
            go_wp2_with fail
            go_meet
            exact ⟨by rw [← hgc], by rw [← hgc]; exact (Blk.made wc _ _).drew, (Bc.alloc Bc.size _).drew⟩
          refine AllReady.cons rfl (fun K hK => ?_) AllReady.nil
          go_simp
          refine hK _ _ ?_
          clear hK K
          refine wpAny_ready (rs := [10]) (by kernel_rfl) (by simp) ?_
          refine AllReady.cons rfl (fun K hK => ?_) AllReady.nil
          go_simp
          refine (N12.out _ (by first | exact Bc.drew | exact Bc.drew.alloc Bc.drew.size _)).mono ?_
          rintro e w3 ⟨rfl, rfl⟩
          go_simp
          refine hK _ _ ?_
          clear hK K
          refine wpAny_take (i := 11) (v := ?_) rfl (by kernel_rfl) (by kernel_rfl) (by kernel_rfl) (fun _ _ _ h => h) (Or.inl ⟨by kernel_rfl, ?_⟩) ?_
          rotate_left
          · intro w; go_simp; rw [HW12.out]; try with_reducible rfl
          refine wpAny_take (i := 12) (v := ?_) rfl (by kernel_rfl) (by kernel_rfl) (by kernel_rfl) (fun _ _ _ h => h) (Or.inl ⟨by kernel_rfl, ?_⟩) ?_
          rotate_left
          · intro w; go_simp; try with_reducible rfl
          refine wpAny_ready (rs := [14]) (by kernel_rfl) (by simp) ?_
          refine AllReady.cons rfl (fun K hK => ?_) AllReady.nil
          go_simp
          refine hK _ _ ?_
          clear hK K
          refine wpAny_done (by kernel_rfl) ?_ _
          go_wp2_with fail
          go_meet
          exact ⟨by rw [← hgc], by rw [← hgc]; exact (Blk.made wc _ _).drew, (Bc.alloc Bc.size _).drew⟩
        refine AllReady.cons rfl (fun K hK => ?_) AllReady.nil
        go_simp
        refine hK _ _ ?_
        clear hK K
        refine wpAny_ready (rs := [6]) (by kernel_rfl) (by simp) ?_
        refine AllReady.cons rfl (fun K hK => ?_) AllReady.nil
        go_simp
        refine (N8.out _ (by first | exact Bc.drew | exact Bc.drew.alloc Bc.drew.size _)).mono ?_
        rintro e w3 ⟨rfl, rfl⟩
        go_simp
        refine hK _ _ ?_
        clear hK K
        refine wpAny_take (i := 7) (v := ?_) rfl (by kernel_rfl) (by kernel_rfl) (by kernel_rfl) (fun _ _ _ h => h) (Or.inl ⟨by kernel_rfl, ?_⟩) ?_
        rotate_left
        · intro w; go_simp; rw [HW8.out]; try with_reducible rfl
        refine wpAny_ready (rs := [10]) (by kernel_rfl) (by simp) ?_
        refine AllReady.cons rfl (fun K hK => ?_) AllReady.nil
        go_simp
        refine (N12.out _ (by first | exact Bc.drew | exact Bc.drew.alloc Bc.drew.size _)).mono ?_
        rintro e w3 ⟨rfl, rfl⟩
        go_simp
        refine hK _ _ ?_
        clear hK K
        refine wpAny_take (i := 11) (v := ?_) rfl (by kernel_rfl) (by kernel_rfl) (by kernel_rfl) (fun _ _ _ h => h) (Or.inl ⟨by kernel_rfl, ?_⟩) ?_
        rotate_left
        · intro w; go_simp; rw [HW12.out]; try with_reducible rfl
        refine wpAny_take (i := 12) (v := ?_) rfl (by kernel_rfl) (by kernel_rfl) (by kernel_rfl) (fun _ _ _ h => h) (Or.inl ⟨by kernel_rfl, ?_⟩) ?_
        rotate_left
        · intro w; go_simp; try with_reducible rfl
        refine wpAny_ready (rs := [14]) (by kernel_rfl) (by simp) ?_
        refine AllReady.cons rfl (fun K hK => ?_) AllReady.nil
        go_simp
        refine hK _ _ ?_
        clear hK K
        refine wpAny_done (by kernel_rfl) ?_ _
        go_wp2_with fail
        go_meet
        exact ⟨by rw [← hgc], by rw [← hgc]; exact (Blk.made wc _ _).drew, (Bc.alloc Bc.size _).drew⟩
      refine AllReady.cons rfl (fun K hK => ?_) AllReady.nil
      go_simp
      refine hK _ _ ?_
      clear hK K
      refine wpAny_ready (rs := [2]) (by kernel_rfl) (by simp) ?_
      refine AllReady.cons rfl (fun K hK => ?_) AllReady.nil
      go_simp
      refine (N4.out _ (by first | exact Bc.drew | exact Bc.drew.alloc Bc.drew.size _)).mono ?_
      rintro e w3 ⟨rfl, rfl⟩
      go_simp
      refine hK _ _ ?_
      clear hK K
      refine wpAny_take (i := 3) (v := ?_) rfl (by kernel_rfl) (by kernel_rfl) (by kernel_rfl) (fun _ _ _ h => h) (Or.inl ⟨by kernel_rfl, ?_⟩) ?_
      rotate_left
      · intro w; go_simp; rw [HW4.out]; try with_reducible rfl
      refine wpAny_ready (rs := [6]) (by kernel_rfl) (by simp) ?_
      refine AllReady.cons rfl (fun K hK => ?_) AllReady.nil
      go_simp
      refine (N8.out _ (by first | exact Bc.drew | exact Bc.drew.alloc Bc.drew.size _)).mono ?_
      rintro e w3 ⟨rfl, rfl⟩
      go_simp
      refine hK _ _ ?_
      clear hK K
      refine wpAny_take (i := 7) (v := ?_) rfl (by kernel_rfl) (by kernel_rfl) (by kernel_rfl) (fun _ _ _ h => h) (Or.inl ⟨by kernel_rfl, ?_⟩) ?_
      rotate_left
      · intro w; go_simp; rw [HW8.out]; try with_reducible rfl
      refine wpAny_ready (rs := [10]) (by kernel_rfl) (by simp) ?_
      refine AllReady.cons rfl (fun K hK => ?_) AllReady.nil
      go_simp
      refine (N12.out _ (by first | exact Bc.drew | exact Bc.drew.alloc Bc.drew.size _)).mono ?_
      rintro e w3 ⟨rfl, rfl⟩
      go_simp
      refine hK _ _ ?_
      clear hK K
      refine wpAny_take (i := 11) (v := ?_) rfl (by kernel_rfl) (by kernel_rfl) (by kernel_rfl) (fun _ _ _ h => h) (Or.inl ⟨by kernel_rfl, ?_⟩) ?_
      rotate_left
      · intro w; go_simp; rw [HW12.out]; try with_reducible rfl
      refine wpAny_take (i := 12) (v := ?_) rfl (by kernel_rfl) (by kernel_rfl) (by kernel_rfl) (fun _ _ _ h => h) (Or.inl ⟨by kernel_rfl, ?_⟩) ?_
      rotate_left
      · intro w; go_simp; try with_reducible rfl
      refine wpAny_ready (rs := [14]) (by kernel_rfl) (by simp) ?_
      refine AllReady.cons rfl (fun K hK => ?_) AllReady.nil
      go_simp
      refine hK _ _ ?_
      clear hK K
      refine wpAny_done (by kernel_rfl) ?_ _
      go_wp2_with fail
      go_meet
      exact ⟨by rw [← hgc], by rw [← hgc]; exact (Blk.made wc _ _).drew, (Bc.alloc Bc.size _).drew⟩
    case rest =>
      have hg0 : W0.heap.size ≤ gc := by rw [← hgc]; exact Bc.size
      obtain ⟨rfl, hC, B⟩ := hcut
      clear hs4 hs8 hs12 hgc Bc
      obtain ⟨bz, hbz⟩ : ∃ bz, wc.heap.size = bz := ⟨_, rfl⟩
      have hgz : gc < bz := by rw [← hbz]; exact hC.lt
      obtain ⟨i0, hi, hz0, hz1, hz2⟩ := info_parts info_rpos
      have HI := Lib.hid hi
      have HZ0 := Lib.hid hz0
      have HZ1 := Lib.hid hz1
      have HZ2 := Lib.hid hz2
      have hbz' : bz ≤ wc.heap.size := by omega
      have HC0 := Lib.hid hC
      clear hi hz0 hz1 hz2 hbz hC
      go_wp2_with fail
      go_loopw [6] (fun iv wr => ∃ i : Nat, i ≤ cn ∧ iv = .int .i64 i ∧ oddN l i = false ∧
        (∃ sv, Blk wr gc 40 #[.int .i64 v, .int .i64 g, .int .i64 u, sv] ∧ wr.ownsRow bz 82 5 sv i (flatP (posL l i))) ∧ bz ≤ wr.heap.size ∧ Below W0.heap.size W0 wr) (fun iv _ => cn - (intOf iv).toNat)
      case atStart => exact ⟨0, by omega, rfl, rfl, ⟨_, HC0.out, ⟨rfl, .inl ⟨rfl, rfl⟩⟩⟩, hbz', B⟩
      case round =>
        clear HC0 hbz' B
        obtain ⟨i, hi, rfl, hodd, ⟨sv, hC, hown⟩, hbw, B⟩ := hrel
        by_cases hin : i < cn
        · obtain ⟨p, hp⟩ : ∃ p, 20 + 24 * i = p := ⟨_, rfl⟩
          have hpn : p + 24 ≤ m + 4 := by omega
          obtain ⟨ax, s1, -, -, hxx⟩ := HCUT.out wr B p hpn
          obtain ⟨cx, hcx⟩ : ∃ cx, c - p = cx := ⟨_, rfl⟩
          rw [hcx] at s1
          have hsx := fun W => s1 (20 + 24 * (i : Int)) (44 + 24 * (i : Int)) W (by omega) (by omega)
          have hcx24 : 24 ≤ cx := by omega
          obtain ⟨a20, t20, -, -, h20⟩ := cut_bytes hxx hcx24 20 4 (by omega)
          obtain ⟨a8, t8, -, -, h8⟩ := cut_bytes hxx hcx24 8 4 (by omega)
          obtain ⟨a12, t12, -, -, h12⟩ := cut_bytes hxx hcx24 12 4 (by omega)
          obtain ⟨a16, t16, -, -, h16⟩ := cut_bytes hxx hcx24 16 4 (by omega)
          have hs20 := fun W => t20 (20 : Int) (24 : Int) W rfl rfl
          have HS8 := Lib.hid fun W => t8 (8 : Int) (12 : Int) W rfl rfl
          have HS12 := Lib.hid fun W => t12 (12 : Int) (16 : Int) W rfl rfl
          have HS16 := Lib.hid fun W => t16 (16 : Int) (20 : Int) W rfl rfl
          have M0 := Lib.hid fun (W : World) (Bx : Below wr.heap.size wr W) => number_any ax 8 cx _ W ((hxx.below Bx).prefix (k := 8) (by omega)) (by decide)
          have M8 := Lib.hid fun (W : World) (Bx : Below wr.heap.size wr W) => number_any a8 4 (cx - 8) _ W (h8.below Bx) (by decide)
          have M12 := Lib.hid fun (W : World) (Bx : Below wr.heap.size wr W) => number_any a12 4 (cx - 12) _ W (h12.below Bx) (by decide)
          have M16 := Lib.hid fun (W : World) (Bx : Below wr.heap.size wr W) => number_any a16 4 (cx - 16) _ W (h16.below Bx) (by decide)
          have M20 := Lib.hid (number_any a20 4 (cx - 20) _ wr h20 (by decide))
          rw [nums_cut0 _ _ _ _ (by omega)] at M0
          rw [nums_cut _ _ _ _ _ (by omega)] at M8 M12 M16 M20
          obtain ⟨q, hq⟩ : ∃ q, posOf l i = q := ⟨_, rfl⟩
          have HQ := Lib.hid (show posL l (i + 1) = posL l i ++ [q] from by rw [posL, hq])
          have hqe : q = ⟨nums l p 8, (nums l (p + 8) 4 : Nat), (nums l (p + 12) 4 : Nat), nums l (p + 16) 4, decide (nums l (p + 20) 4 = 1)⟩ := by rw [← hq, posOf, hp]
          have hoe : oddN l (i + 1) = decide (1 < nums l (p + 20) 4) := by rw [oddN, hp, hodd, Bool.false_or]
          have y1 : nums l p 8 < 18446744073709551616 := nums_lt l p 8
          have y2 : nums l (p + 8) 4 < 4294967296 := nums_lt l (p + 8) 4
          have y3 : nums l (p + 12) 4 < 4294967296 := nums_lt l (p + 12) 4
          have y4 : nums l (p + 16) 4 < 4294967296 := nums_lt l (p + 16) 4
          have y5 : nums l (p + 20) 4 < 4294967296 := nums_lt l (p + 20) 4
          obtain ⟨key, e1⟩ : ∃ m, nums l p 8 = m := ⟨_, rfl⟩
          obtain ⟨po, e2⟩ : ∃ m, nums l (p + 8) 4 = m := ⟨_, rfl⟩
          obtain ⟨pl, e3⟩ : ∃ m, nums l (p + 12) 4 = m := ⟨_, rfl⟩
          obtain ⟨ck, e4⟩ : ∃ m, nums l (p + 16) 4 = m := ⟨_, rfl⟩
          obtain ⟨gn, e5⟩ : ∃ m, nums l (p + 20) 4 = m := ⟨_, rfl⟩
          rw [e1, e2, e3, e4, e5] at hqe
          rw [e5] at hoe y5 M20
          rw [e1] at y1 M0
          rw [e2] at y2 M8
          rw [e3] at y3 M12
          rw [e4] at y4 M16
          obtain ⟨pgv, hpgv⟩ : ∃ b, decide (gn = 1) = b := ⟨_, rfl⟩
          rw [hpgv] at hqe
          have hpg1 : ((gn : Int) == 1) = pgv := by rw [← hpgv, Bool.eq_iff_iff, beq_iff_eq, decide_eq_true_eq]; omega
          have HW2 := Lib.hid (show IntKind.i64.wrap (po : Int) = po from IntWalk.i64_in _ (by omega))
          have HW3 := Lib.hid (show IntKind.i64.wrap (pl : Int) = pl from IntWalk.i64_in _ (by omega))
          have HW5 := Lib.hid (show IntKind.u32.wrap (ck : Int) = ck from IntWalk.u32_in _ (by omega))
          have HPG := Lib.hid hpg1
          have HOE := Lib.hid hoe
          have hi0 : (0 : Int) ≤ i := by omega
          have hi1 : (i : Int) < cn := by omega
          have hcxi : (24 : Int) ≤ cx := by omega
          have hcx8 : (8 : Int) ≤ cx := by omega
          obtain ⟨gp, hgp⟩ : ∃ gp, wr.heap.size = gp := ⟨_, rfl⟩
          subst hqe
          clear hq hoe e1 e2 e3 e4 e5 hp hpgv hpg1 s1 t20 t8 t12 t16 h20 h8 h12 h16 hxx hcx
          go_wp2_with fail
          refine M20.out.mono ?_
          rintro e w3 ⟨rfl, rfl⟩
          have hs8 := HS8.out
          have hs12 := HS12.out
          have hs16 := HS16.out
          have hpg1 := HPG.out
          clear hs20 hsx
          go_upto_region 18 with fail
          have Bq : Below wr.heap.size wr wr := Below.refl _ _
          go_cut [9] (fun pv wx => pv = .pointer (some ⟨gp, 0, none⟩) ∧ Blk wx gp 82 #[.int .u64 key, .int .i64 po, .int .i64 pl, .int .u32 ck, .bool pgv] ∧ Blk wx gc 40 #[.int .i64 v, .int .i64 g, .int .i64 u, sv] ∧ wx.ownsRow bz 82 5 sv i (flatP (posL l i)) ∧ bz ≤ wx.heap.size ∧ Below W0.heap.size W0 wx)
          case first =>
            refine wp_region_any (by kernel_rfl) ?_
            change wpAny _ _ _ _ _ _ _ (World.drew _)
            refine wpAny_take (i := 0) (v := ?_) rfl (by kernel_rfl) (by kernel_rfl) (by kernel_rfl) (fun _ _ _ h => h) (Or.inl ⟨by kernel_rfl, ?_⟩) ?_
            rotate_left
            · intro w; go_simp; try with_reducible rfl
            refine wpAny_take (i := 1) (v := ?_) rfl (by kernel_rfl) (by kernel_rfl) (by kernel_rfl) (fun _ _ _ h => h) (Or.inl ⟨by kernel_rfl, ?_⟩) ?_
            rotate_left
            · intro w; go_simp; try with_reducible rfl
            refine wpAny_take (i := 3) (v := ?_) rfl (by kernel_rfl) (by kernel_rfl) (by kernel_rfl) (fun _ _ _ h => h) (Or.inl ⟨by kernel_rfl, ?_⟩) ?_
            rotate_left
            · intro w; go_simp; try with_reducible rfl
            refine wpAny_take (i := 4) (v := ?_) rfl (by kernel_rfl) (by kernel_rfl) (by kernel_rfl) (fun _ _ _ h => h) (Or.inl ⟨by kernel_rfl, ?_⟩) ?_
            rotate_left
            · intro w; go_simp; try with_reducible rfl
            refine wpAny_take (i := 7) (v := ?_) rfl (by kernel_rfl) (by kernel_rfl) (by kernel_rfl) (fun _ _ _ h => h) (Or.inl ⟨by kernel_rfl, ?_⟩) ?_
            rotate_left
            · intro w; go_simp; try with_reducible rfl
            refine wpAny_take (i := 8) (v := ?_) rfl (by kernel_rfl) (by kernel_rfl) (by kernel_rfl) (fun _ _ _ h => h) (Or.inl ⟨by kernel_rfl, ?_⟩) ?_
            rotate_left
            · intro w; go_simp; try with_reducible rfl
            refine wpAny_take (i := 11) (v := ?_) rfl (by kernel_rfl) (by kernel_rfl) (by kernel_rfl) (fun _ _ _ h => h) (Or.inl ⟨by kernel_rfl, ?_⟩) ?_
            rotate_left
            · intro w; go_simp; try with_reducible rfl
            refine wpAny_take (i := 12) (v := ?_) rfl (by kernel_rfl) (by kernel_rfl) (by kernel_rfl) (fun _ _ _ h => h) (Or.inl ⟨by kernel_rfl, ?_⟩) ?_
            rotate_left
            · intro w; go_simp; try with_reducible rfl
            refine wpAny_take (i := 15) (v := ?_) rfl (by kernel_rfl) (by kernel_rfl) (by kernel_rfl) (fun _ _ _ h => h) (Or.inl ⟨by kernel_rfl, ?_⟩) ?_
            rotate_left
            · intro w; go_simp; try with_reducible rfl
            refine wpAny_take (i := 16) (v := ?_) rfl (by kernel_rfl) (by kernel_rfl) (by kernel_rfl) (fun _ _ _ h => h) (Or.inl ⟨by kernel_rfl, ?_⟩) ?_
            rotate_left
            · intro w; go_simp; try with_reducible rfl
            refine wpAny_ready (rs := [2, 18]) (by kernel_rfl) (by simp) ?_
            refine AllReady.cons rfl (fun K hK => ?_) ?_
            · go_simp
              refine (M0.out _ (by first | exact Bq.drew | exact Bq.drew.alloc Bq.drew.size _)).mono ?_
              rintro e w3 ⟨rfl, rfl⟩
              go_simp
              refine hK _ _ ?_
              clear hK K
              refine wpAny_ready (rs := [5, 18]) (by kernel_rfl) (by simp) ?_
              refine AllReady.cons rfl (fun K hK => ?_) ?_
              · go_simp
                refine (M8.out _ (by first | exact Bq.drew | exact Bq.drew.alloc Bq.drew.size _)).mono ?_
                rintro e w3 ⟨rfl, rfl⟩
                go_simp
                refine hK _ _ ?_
                clear hK K
                refine wpAny_take (i := 6) (v := ?_) rfl (by kernel_rfl) (by kernel_rfl) (by kernel_rfl) (fun _ _ _ h => h) (Or.inl ⟨by kernel_rfl, ?_⟩) ?_
                rotate_left
                · intro w; go_simp; rw [HW2.out]; try with_reducible rfl
                refine wpAny_ready (rs := [9, 18]) (by kernel_rfl) (by simp) ?_
                refine AllReady.cons rfl (fun K hK => ?_) ?_
                · go_simp
                  refine (M12.out _ (by first | exact Bq.drew | exact Bq.drew.alloc Bq.drew.size _)).mono ?_
                  rintro e w3 ⟨rfl, rfl⟩
                  go_simp
                  refine hK _ _ ?_
                  clear hK K
                  refine wpAny_take (i := 10) (v := ?_) rfl (by kernel_rfl) (by kernel_rfl) (by kernel_rfl) (fun _ _ _ h => h) (Or.inl ⟨by kernel_rfl, ?_⟩) ?_
                  rotate_left
                  · intro w; go_simp; rw [HW3.out]; try with_reducible rfl
                  refine wpAny_ready (rs := [13, 18]) (by kernel_rfl) (by simp) ?_
                  refine AllReady.cons rfl (fun K hK => ?_) ?_
                  · go_simp
                    refine (M16.out _ (by first | exact Bq.drew | exact Bq.drew.alloc Bq.drew.size _)).mono ?_
                    rintro e w3 ⟨rfl, rfl⟩
                    go_simp
                    refine hK _ _ ?_
                    clear hK K
                    refine wpAny_take (i := 14) (v := ?_) rfl (by kernel_rfl) (by kernel_rfl) (by kernel_rfl) (fun _ _ _ h => h) (Or.inl ⟨by kernel_rfl, ?_⟩) ?_
                    rotate_left
                    · intro w; go_simp; rw [HW5.out]; try with_reducible rfl
                    refine wpAny_take (i := 17) (v := ?_) rfl (by kernel_rfl) (by kernel_rfl) (by kernel_rfl) (fun _ _ _ h => h) (Or.inl ⟨by kernel_rfl, ?_⟩) ?_
                    rotate_left
                    · intro w; go_simp; try with_reducible rfl
                    refine wpAny_ready (rs := [18]) (by kernel_rfl) (by simp) ?_
                    refine AllReady.cons rfl (fun K hK => ?_) AllReady.nil
                    go_simp
                    refine hK _ _ ?_
                    clear hK K
                    refine wpAny_ready (rs := [19]) (by kernel_rfl) (by simp) ?_
                    refine AllReady.cons rfl (fun K hK => ?_) AllReady.nil
                    go_simp
                    refine hK _ _ ?_
                    clear hK K
                    refine wpAny_done (by kernel_rfl) ?_ _
                    go_wp2_with fail
                    go_meet
                    exact ⟨by rw [← hgp], by rw [← hgp]; exact (Blk.made wr _ _).drew, (hC.alloc _).drew, (hown.alloc _).drew, by show bz ≤ (wr.alloc _).heap.size; exact Nat.le_trans hbw (Bq.alloc (Nat.le_refl _) _).size, (B.alloc B.size _).drew⟩
                  refine AllReady.cons rfl (fun K hK => ?_) AllReady.nil
                  go_simp
                  refine hK _ _ ?_
                  clear hK K
                  refine wpAny_ready (rs := [13]) (by kernel_rfl) (by simp) ?_
                  refine AllReady.cons rfl (fun K hK => ?_) AllReady.nil
                  go_simp
                  refine (M16.out _ (by first | exact Bq.drew | exact Bq.drew.alloc Bq.drew.size _)).mono ?_
                  rintro e w3 ⟨rfl, rfl⟩
                  go_simp
                  refine hK _ _ ?_
                  clear hK K
                  refine wpAny_take (i := 14) (v := ?_) rfl (by kernel_rfl) (by kernel_rfl) (by kernel_rfl) (fun _ _ _ h => h) (Or.inl ⟨by kernel_rfl, ?_⟩) ?_
                  rotate_left
                  · intro w; go_simp; rw [HW5.out]; try with_reducible rfl
                  refine wpAny_take (i := 17) (v := ?_) rfl (by kernel_rfl) (by kernel_rfl) (by kernel_rfl) (fun _ _ _ h => h) (Or.inl ⟨by kernel_rfl, ?_⟩) ?_
                  rotate_left
                  · intro w; go_simp; try with_reducible rfl
                  refine wpAny_ready (rs := [19]) (by kernel_rfl) (by simp) ?_
                  refine AllReady.cons rfl (fun K hK => ?_) AllReady.nil
                  go_simp
                  refine hK _ _ ?_
                  clear hK K
                  refine wpAny_done (by kernel_rfl) ?_ _
                  go_wp2_with fail
                  go_meet
                  exact ⟨by rw [← hgp], by rw [← hgp]; exact (Blk.made wr _ _).drew, (hC.alloc _).drew, (hown.alloc _).drew, by show bz ≤ (wr.alloc _).heap.size; exact Nat.le_trans hbw (Bq.alloc (Nat.le_refl _) _).size, (B.alloc B.size _).drew⟩
                refine AllReady.cons rfl (fun K hK => ?_) AllReady.nil
                go_simp
                refine hK _ _ ?_
                clear hK K
                refine wpAny_ready (rs := [9]) (by kernel_rfl) (by simp) ?_
                refine AllReady.cons rfl (fun K hK => ?_) AllReady.nil
                go_simp
                refine (M12.out _ (by first | exact Bq.drew | exact Bq.drew.alloc Bq.drew.size _)).mono ?_
                rintro e w3 ⟨rfl, rfl⟩
                go_simp
                refine hK _ _ ?_
                clear hK K
                refine wpAny_take (i := 10) (v := ?_) rfl (by kernel_rfl) (by kernel_rfl) (by kernel_rfl) (fun _ _ _ h => h) (Or.inl ⟨by kernel_rfl, ?_⟩) ?_
                rotate_left
                · intro w; go_simp; rw [HW3.out]; try with_reducible rfl
                refine wpAny_ready (rs := [13]) (by kernel_rfl) (by simp) ?_
                refine AllReady.cons rfl (fun K hK => ?_) AllReady.nil
                go_simp
                refine (M16.out _ (by first | exact Bq.drew | exact Bq.drew.alloc Bq.drew.size _)).mono ?_
                rintro e w3 ⟨rfl, rfl⟩
                go_simp
                refine hK _ _ ?_
                clear hK K
                refine wpAny_take (i := 14) (v := ?_) rfl (by kernel_rfl) (by kernel_rfl) (by kernel_rfl) (fun _ _ _ h => h) (Or.inl ⟨by kernel_rfl, ?_⟩) ?_
                rotate_left
                · intro w; go_simp; rw [HW5.out]; try with_reducible rfl
                refine wpAny_take (i := 17) (v := ?_) rfl (by kernel_rfl) (by kernel_rfl) (by kernel_rfl) (fun _ _ _ h => h) (Or.inl ⟨by kernel_rfl, ?_⟩) ?_
                rotate_left
                · intro w; go_simp; try with_reducible rfl
                refine wpAny_ready (rs := [19]) (by kernel_rfl) (by simp) ?_
                refine AllReady.cons rfl (fun K hK => ?_) AllReady.nil
                go_simp
                refine hK _ _ ?_
                clear hK K
                refine wpAny_done (by kernel_rfl) ?_ _
                go_wp2_with fail
                go_meet
                exact ⟨by rw [← hgp], by rw [← hgp]; exact (Blk.made wr _ _).drew, (hC.alloc _).drew, (hown.alloc _).drew, by show bz ≤ (wr.alloc _).heap.size; exact Nat.le_trans hbw (Bq.alloc (Nat.le_refl _) _).size, (B.alloc B.size _).drew⟩
              refine AllReady.cons rfl (fun K hK => ?_) AllReady.nil
              go_simp
              refine hK _ _ ?_
              clear hK K
              refine wpAny_ready (rs := [5]) (by kernel_rfl) (by simp) ?_
              refine AllReady.cons rfl (fun K hK => ?_) AllReady.nil
              go_simp
              refine (M8.out _ (by first | exact Bq.drew | exact Bq.drew.alloc Bq.drew.size _)).mono ?_
              rintro e w3 ⟨rfl, rfl⟩
              go_simp
              refine hK _ _ ?_
              clear hK K
              refine wpAny_take (i := 6) (v := ?_) rfl (by kernel_rfl) (by kernel_rfl) (by kernel_rfl) (fun _ _ _ h => h) (Or.inl ⟨by kernel_rfl, ?_⟩) ?_
              rotate_left
              · intro w; go_simp; rw [HW2.out]; try with_reducible rfl
              refine wpAny_ready (rs := [9]) (by kernel_rfl) (by simp) ?_
              refine AllReady.cons rfl (fun K hK => ?_) AllReady.nil
              go_simp
              refine (M12.out _ (by first | exact Bq.drew | exact Bq.drew.alloc Bq.drew.size _)).mono ?_
              rintro e w3 ⟨rfl, rfl⟩
              go_simp
              refine hK _ _ ?_
              clear hK K
              refine wpAny_take (i := 10) (v := ?_) rfl (by kernel_rfl) (by kernel_rfl) (by kernel_rfl) (fun _ _ _ h => h) (Or.inl ⟨by kernel_rfl, ?_⟩) ?_
              rotate_left
              · intro w; go_simp; rw [HW3.out]; try with_reducible rfl
              refine wpAny_ready (rs := [13]) (by kernel_rfl) (by simp) ?_
              refine AllReady.cons rfl (fun K hK => ?_) AllReady.nil
              go_simp
              refine (M16.out _ (by first | exact Bq.drew | exact Bq.drew.alloc Bq.drew.size _)).mono ?_
              rintro e w3 ⟨rfl, rfl⟩
              go_simp
              refine hK _ _ ?_
              clear hK K
              refine wpAny_take (i := 14) (v := ?_) rfl (by kernel_rfl) (by kernel_rfl) (by kernel_rfl) (fun _ _ _ h => h) (Or.inl ⟨by kernel_rfl, ?_⟩) ?_
              rotate_left
              · intro w; go_simp; rw [HW5.out]; try with_reducible rfl
              refine wpAny_take (i := 17) (v := ?_) rfl (by kernel_rfl) (by kernel_rfl) (by kernel_rfl) (fun _ _ _ h => h) (Or.inl ⟨by kernel_rfl, ?_⟩) ?_
              rotate_left
              · intro w; go_simp; try with_reducible rfl
              refine wpAny_ready (rs := [19]) (by kernel_rfl) (by simp) ?_
              refine AllReady.cons rfl (fun K hK => ?_) AllReady.nil
              go_simp
              refine hK _ _ ?_
              clear hK K
              refine wpAny_done (by kernel_rfl) ?_ _
              go_wp2_with fail
              go_meet
              exact ⟨by rw [← hgp], by rw [← hgp]; exact (Blk.made wr _ _).drew, (hC.alloc _).drew, (hown.alloc _).drew, by show bz ≤ (wr.alloc _).heap.size; exact Nat.le_trans hbw (Bq.alloc (Nat.le_refl _) _).size, (B.alloc B.size _).drew⟩
            refine AllReady.cons rfl (fun K hK => ?_) AllReady.nil
            go_simp
            refine hK _ _ ?_
            clear hK K
            refine wpAny_ready (rs := [2]) (by kernel_rfl) (by simp) ?_
            refine AllReady.cons rfl (fun K hK => ?_) AllReady.nil
            go_simp
            refine (M0.out _ (by first | exact Bq.drew | exact Bq.drew.alloc Bq.drew.size _)).mono ?_
            rintro e w3 ⟨rfl, rfl⟩
            go_simp
            refine hK _ _ ?_
            clear hK K
            refine wpAny_ready (rs := [5]) (by kernel_rfl) (by simp) ?_
            refine AllReady.cons rfl (fun K hK => ?_) AllReady.nil
            go_simp
            refine (M8.out _ (by first | exact Bq.drew | exact Bq.drew.alloc Bq.drew.size _)).mono ?_
            rintro e w3 ⟨rfl, rfl⟩
            go_simp
            refine hK _ _ ?_
            clear hK K
            refine wpAny_take (i := 6) (v := ?_) rfl (by kernel_rfl) (by kernel_rfl) (by kernel_rfl) (fun _ _ _ h => h) (Or.inl ⟨by kernel_rfl, ?_⟩) ?_
            rotate_left
            · intro w; go_simp; rw [HW2.out]; try with_reducible rfl
            refine wpAny_ready (rs := [9]) (by kernel_rfl) (by simp) ?_
            refine AllReady.cons rfl (fun K hK => ?_) AllReady.nil
            go_simp
            refine (M12.out _ (by first | exact Bq.drew | exact Bq.drew.alloc Bq.drew.size _)).mono ?_
            rintro e w3 ⟨rfl, rfl⟩
            go_simp
            refine hK _ _ ?_
            clear hK K
            refine wpAny_take (i := 10) (v := ?_) rfl (by kernel_rfl) (by kernel_rfl) (by kernel_rfl) (fun _ _ _ h => h) (Or.inl ⟨by kernel_rfl, ?_⟩) ?_
            rotate_left
            · intro w; go_simp; rw [HW3.out]; try with_reducible rfl
            refine wpAny_ready (rs := [13]) (by kernel_rfl) (by simp) ?_
            refine AllReady.cons rfl (fun K hK => ?_) AllReady.nil
            go_simp
            refine (M16.out _ (by first | exact Bq.drew | exact Bq.drew.alloc Bq.drew.size _)).mono ?_
            rintro e w3 ⟨rfl, rfl⟩
            go_simp
            refine hK _ _ ?_
            clear hK K
            refine wpAny_take (i := 14) (v := ?_) rfl (by kernel_rfl) (by kernel_rfl) (by kernel_rfl) (fun _ _ _ h => h) (Or.inl ⟨by kernel_rfl, ?_⟩) ?_
            rotate_left
            · intro w; go_simp; rw [HW5.out]; try with_reducible rfl
            refine wpAny_take (i := 17) (v := ?_) rfl (by kernel_rfl) (by kernel_rfl) (by kernel_rfl) (fun _ _ _ h => h) (Or.inl ⟨by kernel_rfl, ?_⟩) ?_
            rotate_left
            · intro w; go_simp; try with_reducible rfl
            refine wpAny_ready (rs := [19]) (by kernel_rfl) (by simp) ?_
            refine AllReady.cons rfl (fun K hK => ?_) AllReady.nil
            go_simp
            refine hK _ _ ?_
            clear hK K
            refine wpAny_done (by kernel_rfl) ?_ _
            go_wp2_with fail
            go_meet
            exact ⟨by rw [← hgp], by rw [← hgp]; exact (Blk.made wr _ _).drew, (hC.alloc _).drew, (hown.alloc _).drew, by show bz ≤ (wr.alloc _).heap.size; exact Nat.le_trans hbw (Bq.alloc (Nat.le_refl _) _).size, (B.alloc B.size _).drew⟩
          case rest =>
            have hgpz : bz ≤ gp := by rw [← hgp]; exact hbw
            clear hC hown hbw B Bq hgp hs8 hs12 hs16 hpg1
            obtain ⟨rfl, hP, hC, hown, hbw, B⟩ := hcut
            by_cases hgn : 1 < gn
            · have HE := Lib.hid (show ckGet l = 4 from by rw [HCK.out, if_pos (odd_true l (i + 1) cn (by rw [HOE.out]; exact decide_eq_true hgn) (by omega))])
              have h5' : decide ((1 : Int) < gn) = true := by rw [decide_eq_true_eq]; omega
              clear hP hC hown hbw
              have hKr2 := HKR.out _ B
              obtain ⟨k0, k1, k2, k3⟩ := hKr2.four
              obtain ⟨f0, f1, f2, f3⟩ := hKr2.four_frozen
              go_wp2_with fail
              exact bodyPost_ret (rcget_results (hKr2.put4 _ _ _ _) rfl rfl) rfl (rcgot_bad HE.out (by decide) (below_put4 (BW.out _ B) (Nat.le_refl _) _ _ _ _))
            · have h5' : decide ((1 : Int) < gn) = false := by rw [decide_eq_false_iff_not]; omega
              have HOD := Lib.hid (show oddN l (i + 1) = false from by rw [HOE.out]; exact decide_eq_false hgn)
              obtain ⟨g2, cap2, W9, hr, ho9, hg9, -, -⟩ := append_elem (P := Try.prog) Try.underlying38 HI.out HZ0.out HZ1.out HZ2.out rfl (by decide) hown (PosR.cells ⟨key, po, pl, ck, pgv⟩) (PosR.cells_length _) (PosR.cells_one _) (by omega) (by unfold maxLen; omega) hbw
              rw [← flatP_snoc, ← HQ.out] at ho9
              have hne : ∀ x, some x ≠ sv.ownBlock ∨ bz ≤ x := fun x => by
                by_cases e : some x = sv.ownBlock
                · exact .inr (hown.lt x e.symm).1
                · exact .inl e
              have hC9 := hC.grown hg9 (fun e => (hne gc).elim (fun h => h e) (fun h => by omega))
              have B9 := B.grown hg9 B.size (fun x e => (hne x).elim (fun h => absurd e.symm h) (fun h => by omega))
              have HF := Lib.hid (show (∃ sv, Blk (W9.setCell ⟨gc, 3, none⟩ (.slice (some ⟨g2, 0, none⟩) (i + 1) cap2)) gc 40 #[.int .i64 v, .int .i64 g, .int .i64 u, sv] ∧ (W9.setCell ⟨gc, 3, none⟩ (.slice (some ⟨g2, 0, none⟩) (i + 1) cap2)).ownsRow bz 82 5 sv (i + 1) (flatP (posL l (i + 1)))) ∧
                  bz ≤ (W9.setCell ⟨gc, 3, none⟩ (.slice (some ⟨g2, 0, none⟩) (i + 1) cap2)).heap.size ∧ Below W0.heap.size W0 (W9.setCell ⟨gc, 3, none⟩ (.slice (some ⟨g2, 0, none⟩) (i + 1) cap2)) from by
                have ho10 := ownsRow_setCell_other ho9 (a := ⟨gc, 3, none⟩) (fun e => by have h : bz ≤ gc := (ho9.lt _ e).1; omega) (.slice (some ⟨g2, 0, none⟩) (i + 1) cap2)
                exact ⟨⟨_, hC9.put 3 _, ho10⟩, Nat.le_trans (ho10.lt g2 rfl).1 (Nat.le_of_lt (ho10.lt g2 rfl).2), B9.setCell (p := ⟨gc, 3, none⟩) (by show W0.heap.size ≤ gc; omega) _⟩)
              have hr : (Builtin.append_ #[38, 38] 38 #[sv, .slice (some ⟨wc.heap.size, 0, none⟩) 1 1]).run Try.prog (wc.alloc (.cells #[.int .u64 key, .int .i64 po, .int .i64 pl, .int .u32 ck, .bool pgv] 82)) = .ok (.slice (some ⟨g2, 0, none⟩) (i + 1) cap2) W9 := hr
              have k3 := hC.cell 3
              have k9 := hC9.cell 3
              have f9 := hC9.frozen 3
              obtain ⟨d0, d1, d2, d3, d4⟩ : _ ∧ _ ∧ _ ∧ _ ∧ _ := ⟨hP.cell 0, hP.cell 1, hP.cell 2, hP.cell 3, hP.cell 4⟩
              clear hP hC hown hbw B ho9 hg9 hne hC9 B9
              go_wp2_with (at_builtin; refine list_run (by rfl) _ _ rfl rfl rfl hr ?_; clear hr)
              go_roundw
              case rel => exact ⟨i + 1, by omega, by go_num, HOD.out, HF.out⟩
              case measure => simp [intOf]; omega
        · obtain rfl : i = cn := by omega
          obtain ⟨sa, sc, rfl, hsc⟩ := own_slice hown
          have hPS := psl_own_same hown (posL_bounds l i)
          have RT := Lib.hid (rright_any v g u sa i sc (posL l i) wr hPS (by omega))
          obtain ⟨r, hr⟩ : ∃ r, ckR v g u (posL l i) = r := ⟨_, rfl⟩
          have hr2 := ck_cases v g u (posL l i)
          rw [hr] at RT hr2
          have HCK2 := Lib.hid (show ckGet l = if r ≠ 0 then 4 else 0 from by rw [HCK.out, if_neg (by rw [hodd]; simp), hr])
          have HC := Lib.hid hC
          have HOW := Lib.hid hown
          obtain ⟨c0, c1, c2, c3⟩ := hC.four
          clear hC hown hr hPS hodd
          go_wp2_with fail
          refine RT.out.mono ?_
          rintro e W9 ⟨rfl, B9⟩
          have HO9 := Lib.hid (own_belowN HOW.out B9 (Nat.le_refl _))
          obtain ⟨d0, d1, d2, d3⟩ := (HC.out.below B9 HC.out.lt).four
          have B9 := B.trans (B9.mono B.size)
          clear c0 c1 c2 c3 B
          have hKr2 := HKR.out W9 B9
          obtain ⟨k0, k1, k2, k3⟩ := hKr2.four
          obtain ⟨f0, f1, f2, f3⟩ := hKr2.four_frozen
          rcases hr2 with rfl | rfl | rfl
          · have HE := Lib.hid (show ckGet l = 0 from HCK2.out)
            go_wp2_with fail
            refine bodyPost_ret (rcget_results (hKr2.put4 _ _ _ _) rfl rfl) rfl ?_
            rw [HCG.out]
            exact ⟨below_put4 (BW.out _ B9) (Nat.le_refl _) _ _ _ _, _, by rw [HE.out]; rfl, .inr ⟨HE.out, sa, sc, rfl, hsc, psl_own_same (own_put4 HO9.out (by omega) _ _ _ _) (posL_bounds l i)⟩⟩
          · have HE := Lib.hid (show ckGet l = 4 from HCK2.out)
            go_wp2_with fail
            exact bodyPost_ret (rcget_results (hKr2.put4 _ _ _ _) rfl rfl) rfl (rcgot_bad HE.out (by decide) (below_put4 (BW.out _ B9) (Nat.le_refl _) _ _ _ _))
          · have HE := Lib.hid (show ckGet l = 4 from HCK2.out)
            go_wp2_with fail
            exact bodyPost_ret (rcget_results (hKr2.put4 _ _ _ _) rfl rfl) rfl (rcgot_bad HE.out (by decide) (below_put4 (BW.out _ B9) (Nat.le_refl _) _ _ _ _))

end Go.Proofs.Ytkmifimdjdjdpaa
