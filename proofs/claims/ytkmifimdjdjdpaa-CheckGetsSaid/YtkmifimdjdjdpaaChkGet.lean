/-
  check.Get: the checkpoint of any bytes.
-/
import Derived.Test.YtkmifimdjdjdpaaChkPut
import Derived.Test.YtkmifimdjdjdpaaNdlGet
namespace Go.Proofs.Ytkmifimdjdjdpaa
open Go.RowKit

def posOf (l : List (BitVec 8)) (i : Nat) : PosR := ⟨nums l (20 + 24 * i) 8, (nums l (20 + 24 * i + 8) 4 : Nat), (nums l (20 + 24 * i + 12) 4 : Nat), nums l (20 + 24 * i + 16) 4, decide (nums l (20 + 24 * i + 20) 4 = 1)⟩
def posL (l : List (BitVec 8)) : Nat → List PosR
  | 0 => []
  | i + 1 => posL l i ++ [posOf l i]
def oddN (l : List (BitVec 8)) : Nat → Bool
  | 0 => false
  | i + 1 => oddN l i || decide (1 < nums l (20 + 24 * i + 20) 4)
/-- What the bytes of a checkpoint say: the error. -/
def ckGet (l : List (BitVec 8)) : Nat :=
  if l.length < 24 then 3
  else if nums l 0 4 ≠ 1128811344 then 4
  else if 4096 < nums l 16 4 then 4
  else if l.length < 24 + 24 * nums l 16 4 then 3
  else if 24 + 24 * nums l 16 4 < l.length then 4
  else if Num.num (l.drop (l.length - 4)) ≠ (Crc.of (l.take (l.length - 4))).toNat then 5
  else if oddN l (nums l 16 4) = true then 4
  else if ckR (nums l 4 4 : Nat) (nums l 8 4 : Nat) (nums l 12 4 : Nat) (posL l (nums l 16 4)) ≠ 0 then 4
  else 0
theorem posL_length (l : List (BitVec 8)) (i : Nat) : (posL l i).length = i := by
  induction i with
  | zero => rfl
  | succ i ih => rw [posL, List.length_append, ih]; rfl
theorem posL_bounds (l : List (BitVec 8)) (i : Nat) : ∀ p ∈ posL l i, p.key < 18446744073709551616 ∧ p.ck < 4294967296 ∧ -9223372036854775808 ≤ p.off ∧ p.off ≤ 9223372036854775807 ∧ -9223372036854775808 ≤ p.len ∧ p.len ≤ 9223372036854775807 := by
  induction i with
  | zero => intro p hp; cases hp
  | succ i ih =>
    intro p hp
    rw [posL, List.mem_append] at hp
    rcases hp with hp | hp
    · exact ih p hp
    · rw [List.mem_singleton] at hp
      subst hp
      have h1 := nums_lt l (20 + 24 * i) 8
      have h2 := nums_lt l (20 + 24 * i + 8) 4
      have h3 := nums_lt l (20 + 24 * i + 12) 4
      have h4 := nums_lt l (20 + 24 * i + 16) 4
      refine ⟨h1, h4, ?_, ?_, ?_, ?_⟩ <;> (show _ ≤ _) <;> unfold posOf <;> dsimp only <;> omega

/-- A row of one's own, of positions, read. -/
theorem psl_own {W : World} {base k c : Nat} {a : Option Addr} {ps : List PosR} (h : W.ownsRow base 60 5 (.slice a k c) k (flatP ps))
    (hb : ∀ p ∈ ps, p.key < 18446744073709551616 ∧ p.ck < 4294967296 ∧ -9223372036854775808 ≤ p.off ∧ p.off ≤ 9223372036854775807 ∧ -9223372036854775808 ≤ p.len ∧ p.len ≤ 9223372036854775807) : PSl W W.heap.size a k ps := by
  have hl := h.1
  rw [flatP_length] at hl
  refine ⟨by omega, hb, fun hk => ?_⟩
  rcases h.2 with ⟨_, e2⟩ | ⟨g, cap, cur, e1, -, e3, e4, -, e6, e7⟩
  · omega
  · cases e1
    refine ⟨g, 0, rfl, (Array.getElem?_eq_some_iff.1 e3).1, fun i j hi hj => ?_⟩
    rw [cell_of_row W g _ cur _ (0, 0) e3, ← e7, List.getElem?_take, if_pos (by omega), Nat.zero_add]
    simp

theorem own_moreN {W : World} {base base' size : Nat} {e : TypeId} {v : Value} {k : Nat} {xs : List Value} (h : W.ownsRow base e size v k xs) (hb : base' ≤ base) : W.ownsRow base' e size v k xs := by
  refine ⟨h.1, ?_⟩
  rcases h.2 with h2 | ⟨g', cap', cur, e1, e2, e3⟩
  · exact .inl h2
  · exact .inr ⟨g', cap', cur, e1, Nat.le_trans hb e2, e3⟩
theorem own_belowN {w w' : World} {B base size : Nat} {e : TypeId} {v : Value} {k : Nat} {xs : List Value} (h : w.ownsRow base e size v k xs) (hb : Below B w w') (hB : w.heap.size ≤ B) : w'.ownsRow base e size v k xs := by
  refine ⟨h.1, ?_⟩
  rcases h.2 with h2 | ⟨g, cap, cur, e1, e2, e3, e4⟩
  · exact .inl h2
  · exact .inr ⟨g, cap, cur, e1, e2, (hb.block g (Nat.lt_of_lt_of_le (Array.getElem?_eq_some_iff.1 e3).1 hB)).trans e3, e4⟩
theorem own_put4 {W : World} {base size B : Nat} {e : TypeId} {v : Value} {k : Nat} {xs : List Value} (h : W.ownsRow base e size v k xs) (hB : B < base) (u0 u1 u2 u3 : Value) :
    ((((W.setCell ⟨B, 0, none⟩ u0).setCell ⟨B, 1, none⟩ u1).setCell ⟨B, 2, none⟩ u2).setCell ⟨B, 3, none⟩ u3).ownsRow base e size v k xs := by
  have ne : ∀ i : Nat, v.ownBlock ≠ some (⟨B, i, none⟩ : Addr).block := fun i e => by have h1 : base ≤ B := (h.lt _ e).1; omega
  exact ownsRow_setCell_other (ownsRow_setCell_other (ownsRow_setCell_other (ownsRow_setCell_other h (ne 0) u0) (ne 1) u1) (ne 2) u2) (ne 3) u3
theorem own_slice {W : World} {base size : Nat} {e : TypeId} {v : Value} {k : Nat} {xs : List Value} (h : W.ownsRow base e size v k xs) : ∃ a c, v = .slice a k c ∧ k ≤ c := by
  rcases h.2 with ⟨e1, e2⟩ | ⟨g, cap, cur, e1, -, -, e4, -⟩
  · exact ⟨none, 0, by rw [e1, e2], by omega⟩
  · exact ⟨_, cap, e1, e4⟩

/-- What check.Get answers. -/
def CkGot (l : List (BitVec 8)) (w : World) (e : Ending) (w' : World) : Prop :=
  Below w.heap.size w w' ∧ ∃ v, e = .returned (.tuple #[v, errc (ckGet l)]) ∧
    ((ckGet l ≠ 0 ∧ v = .agg #[.int .i64 0, .int .i64 0, .int .i64 0, .slice none 0 0]) ∨
     (ckGet l = 0 ∧ ∃ a c, v = .agg #[.int .i64 (nums l 4 4 : Nat), .int .i64 (nums l 8 4 : Nat), .int .i64 (nums l 12 4 : Nat), .slice a (nums l 16 4) c] ∧ nums l 16 4 ≤ c ∧
       w'.ownsRow w.heap.size 60 5 (.slice a (nums l 16 4) c) (nums l 16 4) (flatP (posL l (nums l 16 4)))))
theorem ckgot_bad {l : List (BitVec 8)} {w w' : World} {cf : Nat} (h : ckGet l = cf) (h0 : cf ≠ 0) (B : Below w.heap.size w w') :
    CkGot l w (.returned (.tuple #[.agg #[.int .i64 0, .int .i64 0, .int .i64 0, .slice none 0 0], errc cf])) w' :=
  ⟨B, _, by rw [h], .inl ⟨by rw [h]; exact h0, rfl⟩⟩

theorem cget_short (a : Option Addr) (n c : Nat) (w : World) (hlt : n < 24) :
    Calls Try.prog 25 #[.slice a n c] w fun e w' => e = .returned (.tuple #[.agg #[.int .i64 0, .int .i64 0, .int .i64 0, .slice none 0 0], errc 3]) ∧ Below w.heap.size w w' := by
  go_enter Try.func25, Try.ntmps25
  go_wp2_with fail
  exact bodyPost_ret (v := .tuple #[.agg #[.int .i64 0, .int .i64 0, .int .i64 0, .slice none 0 0], errc 3]) (by simp [results, Try.results25, go_sem, errc, er]) rfl ⟨rfl, ((Below.refl _ _).alloc (Nat.le_refl _) _).alloc (by simp) _⟩

theorem cget_results {W : World} {B : Nat} {v0 v1 v2 v3 : Value} {a : Act} {e : Value} (h : Blk W B 46 #[v0, v1, v2, v3]) (h2 : a.tmps[2]?.getD undef = .pointer (some ⟨B, 0, none⟩)) (h3 : a.tmps[3]?.getD undef = e) :
    (results Try.f25 a.tmps).run Try.prog W = .ok (.tuple #[.agg #[v0, v1, v2, v3], e]) W := by
  obtain ⟨k0, k1, k2, k3⟩ := h.four
  simp [results, Try.results25, go_sem, h2, h3, k0, k1, k2, k3]

set_option maxRecDepth 100000 in
set_option maxHeartbeats 8000000 in
theorem cget_any (a : Option Addr) (n c : Nat) (l : List (BitVec 8)) (w : World) (h : BSl w w.heap.size a n l) (hc : n ≤ c) (hn : n ≤ 1099511627776) :
    Calls Try.prog 25 #[.slice a n c] w (CkGot l w) := by
  have hlen := h.1
  by_cases hlt : n < 24
  · refine (cget_short a n c w hlt).mono ?_
    rintro e w' ⟨rfl, B⟩
    exact ckgot_bad (by unfold ckGet; rw [if_pos (by omega)]) (by decide) B
  have hge : 24 ≤ n := by omega
  clear hlt
  obtain ⟨W0, hW0⟩ : ∃ W0, (w.alloc (.cells #[.slice a n c] 22)).alloc (.cells #[.int .i64 0, .int .i64 0, .int .i64 0, .slice none 0 0] 46) = W0 := ⟨_, rfl⟩
  have hKb : Blk W0 w.heap.size 22 #[.slice a n c] := by rw [← hW0]; exact (Blk.made w _ _).alloc _
  have hKr : Blk W0 (w.heap.size + 1) 46 #[.int .i64 0, .int .i64 0, .int .i64 0, .slice none 0 0] := by
    rw [← hW0]
    have := Blk.made (w.alloc (.cells #[.slice a n c] 22)) 46 #[.int .i64 0, .int .i64 0, .int .i64 0, .slice none 0 0]
    simpa using this
  have BA : Below w.heap.size w W0 := by rw [← hW0]; exact ((Below.refl _ _).alloc (Nat.le_refl _) _).alloc (by simp) _
  have HS0 := hKr.lt
  have HGB := Lib.hid fun (W : World) (B : Below W0.heap.size W0 W) => hKb.below B hKb.lt
  have HKR := Lib.hid fun (W : World) (B : Below W0.heap.size W0 W) => hKr.below B hKr.lt
  have HLR := Lib.hid fun (W : World) (B : Below W0.heap.size W0 W) => (h.below (BA.trans (B.mono BA.size))).more (BA.trans (B.mono BA.size)).size
  have BW := Lib.hid fun (W : World) (B : Below W0.heap.size W0 W) => BA.trans (B.mono BA.size)
  have HL := Lib.hid hlen
  have G := Lib.hid fun (ga : Nat) (p k : Nat) (hk : isSize (k : Int) = true) (hp : p + k ≤ n) (W : World) (B : Below W0.heap.size W0 W) (hA : Blk W ga 3 #[.int .i64 p]) =>
    gnum_ok w.heap.size ga a n c p k l W (HGB.out W B) hA (HLR.out W B) hc hn hp hk
  have x0 := nums_lt l 0 4
  have x4 := nums_lt l 4 4
  have x8 := nums_lt l 8 4
  have x12 := nums_lt l 12 4
  have x16 := nums_lt l 16 4
  obtain ⟨m0, e0⟩ : ∃ m, nums l 0 4 = m := ⟨_, rfl⟩
  obtain ⟨v, e4⟩ : ∃ m, nums l 4 4 = m := ⟨_, rfl⟩
  obtain ⟨g, e8⟩ : ∃ m, nums l 8 4 = m := ⟨_, rfl⟩
  obtain ⟨u, e12⟩ : ∃ m, nums l 12 4 = m := ⟨_, rfl⟩
  obtain ⟨cn, e16⟩ : ∃ m, nums l 16 4 = m := ⟨_, rfl⟩
  rw [e0] at x0
  rw [e4] at x4
  rw [e8] at x8
  rw [e12] at x12
  rw [e16] at x16
  have HCG := Lib.hid (show CkGot l = fun w e w' => Below w.heap.size w w' ∧ ∃ v', e = .returned (.tuple #[v', errc (ckGet l)]) ∧
    ((ckGet l ≠ 0 ∧ v' = .agg #[.int .i64 0, .int .i64 0, .int .i64 0, .slice none 0 0]) ∨
     (ckGet l = 0 ∧ ∃ a c, v' = .agg #[.int .i64 v, .int .i64 g, .int .i64 u, .slice a cn c] ∧ cn ≤ c ∧
       w'.ownsRow w.heap.size 60 5 (.slice a cn c) cn (flatP (posL l cn)))) from by rw [← e4, ← e8, ← e12, ← e16]; rfl)
  have HCK := (show ckGet l = if l.length < 24 then 3 else if m0 ≠ 1128811344 then 4 else if 4096 < cn then 4 else if l.length < 24 + 24 * cn then 3 else if 24 + 24 * cn < l.length then 4
      else if Num.num (l.drop (l.length - 4)) ≠ (Crc.of (l.take (l.length - 4))).toNat then 5 else if oddN l cn = true then 4 else if ckR v g u (posL l cn) ≠ 0 then 4 else 0 from by
    rw [← e0, ← e4, ← e8, ← e12, ← e16]; rfl)
  rw [HL.out, if_neg (by omega)] at HCK
  have E0 := Lib.hid e0
  have E4 := Lib.hid e4
  have E8 := Lib.hid e8
  have E12 := Lib.hid e12
  have E16 := Lib.hid e16
  have hb0 := (HGB.out W0 (Below.refl _ _)).cell 0
  clear e0 e4 e8 e12 e16 hKb hKr h hlen BA
  go_enter Try.func25, Try.ntmps25
  go_upto_region 4 with fail
  have hA1 : Blk (W0.alloc (.cells #[.int .i64 0] 3)) W0.heap.size 3 #[.int .i64 ((0 : Nat) : Int)] := Blk.made _ _ _
  have B1 : Below W0.heap.size W0 (W0.alloc (.cells #[.int .i64 0] 3)) := (Below.refl _ _).alloc (Nat.le_refl _) _
  clear hW0 hb0
  generalize W0.alloc (.cells #[.int .i64 0] 3) = W1 at *
  go_wp2_with fail
  go_at_call 51
  refine (G.out _ 0 4 rfl (by omega) W1 B1 hA1).mono ?_
  rintro e W2 ⟨rfl, hA2, hg2⟩
  have hA2 : Blk W2 W0.heap.size 3 #[.int .i64 ((4 : Nat) : Int)] := hA2
  have B2 := B1.trans (grown_below hg2 B1.size (Nat.le_refl _))
  rw [show Num.num (List.take 4 (List.drop 0 l)) = m0 from E0.out]
  clear hA1 B1 hg2
  by_cases hm : m0 = 1128811344
  · have h0' : ((m0 : Int) != 1128811344) = false := by rw [hm]; rfl
    rw [if_neg (by omega)] at HCK
    clear hm
    go_wp2_with fail
    go_at_call 51
    refine (G.out _ 4 4 rfl (by omega) W2 B2 hA2).mono ?_
    rintro e W3 ⟨rfl, hA3, hg3⟩
    have hA3 : Blk W3 W0.heap.size 3 #[.int .i64 ((8 : Nat) : Int)] := hA3
    have B3 := B2.trans (grown_below hg3 B2.size (Nat.le_refl _))
    rw [show Num.num (List.take 4 (List.drop 4 l)) = v from E4.out]
    clear hA2 B2 hg3 h0' x0
    go_wp2_with fail
    go_at_call 51
    refine (G.out _ 8 4 rfl (by omega) W3 B3 hA3).mono ?_
    rintro e W4 ⟨rfl, hA4, hg4⟩
    have hA4 : Blk W4 W0.heap.size 3 #[.int .i64 ((12 : Nat) : Int)] := hA4
    have B4 := B3.trans (grown_below hg4 B3.size (Nat.le_refl _))
    rw [show Num.num (List.take 4 (List.drop 8 l)) = g from E8.out]
    clear hA3 B3 hg4
    go_wp2_with fail
    go_at_call 51
    refine (G.out _ 12 4 rfl (by omega) W4 B4 hA4).mono ?_
    rintro e W5 ⟨rfl, hA5, hg5⟩
    have hA5 : Blk W5 W0.heap.size 3 #[.int .i64 ((16 : Nat) : Int)] := hA5
    have B5 := B4.trans (grown_below hg5 B4.size (Nat.le_refl _))
    rw [show Num.num (List.take 4 (List.drop 12 l)) = u from E12.out]
    clear hA4 B4
    go_upto_region 8 with fail
    have hC6 : Blk (W5.alloc (.cells #[.int .i64 v, .int .i64 g, .int .i64 u, .slice none 0 0] 46)) W5.heap.size 46 #[.int .i64 v, .int .i64 g, .int .i64 u, .slice none 0 0] := Blk.made _ _ _
    have hA6 : Blk (W5.alloc (.cells #[.int .i64 v, .int .i64 g, .int .i64 u, .slice none 0 0] 46)) W0.heap.size 3 #[.int .i64 ((16 : Nat) : Int)] := hA5.alloc _
    have B6 : Below W0.heap.size W0 (W5.alloc (.cells #[.int .i64 v, .int .i64 g, .int .i64 u, .slice none 0 0] 46)) := B5.alloc B5.size _
    have hgc : W0.heap.size < W5.heap.size := hA5.lt
    clear hA5 B5 hg5
    generalize W5.alloc (.cells #[.int .i64 v, .int .i64 g, .int .i64 u, .slice none 0 0] 46) = W6 at *
    generalize W5.heap.size = gc at *
    go_wp2_with fail
    go_at_call 51
    refine (G.out _ 16 4 rfl (by omega) W6 B6 hA6).mono ?_
    rintro e W7 ⟨rfl, hA7, hg7⟩
    have hA7 : Blk W7 W0.heap.size 3 #[.int .i64 ((20 : Nat) : Int)] := hA7
    have B7 := B6.trans (grown_below hg7 B6.size (Nat.le_refl _))
    have hC7 := hC6.grown hg7 (fun e => by injection e with e; omega)
    rw [show Num.num (List.take 4 (List.drop 16 l)) = cn from E16.out]
    clear hA6 B6 hg7 hC6
    go_upto_region 10 with fail
    obtain ⟨al, hal⟩ : ∃ al, 24 + 24 * cn = al := ⟨_, rfl⟩
    rw [show 20 + (cn : Int) * 24 + 4 = (al : Int) from by omega]
    rw [hal] at HCK
    by_cases hbig : 4096 < cn
    · have HE := Lib.hid (show ckGet l = 4 from by rw [HCK, if_pos hbig])
      have h1' : decide ((4096 : Int) < cn) = true := by rw [decide_eq_true_eq]; omega
      clear HCK
      have hKr2 := HKR.out W7 B7
      obtain ⟨k0, k1, k2, k3⟩ := hKr2.four
      obtain ⟨f0, f1, f2, f3⟩ := hKr2.four_frozen
      go_wp2_with fail
      exact bodyPost_ret (cget_results (hKr2.put4 _ _ _ _) rfl rfl) rfl (ckgot_bad HE.out (by decide) (below_put4 (BW.out _ B7) (Nat.le_succ _) _ _ _ _))
    rw [if_neg hbig] at HCK
    have h1' : decide ((4096 : Int) < cn) = false := by rw [decide_eq_false_iff_not]; omega
    have hcn : cn ≤ 4096 := by omega
    have d7 := (HGB.out W7 B7).cell 0
    by_cases hsh : n < al
    · have HE := Lib.hid (show ckGet l = 3 from by rw [HCK, if_pos hsh])
      have h2' : decide ((n : Int) < al) = true := by rw [decide_eq_true_eq]; omega
      clear HCK
      have hKr2 := HKR.out W7 B7
      obtain ⟨k0, k1, k2, k3⟩ := hKr2.four
      obtain ⟨f0, f1, f2, f3⟩ := hKr2.four_frozen
      go_wp2_with fail
      exact bodyPost_ret (cget_results (hKr2.put4 _ _ _ _) rfl rfl) rfl (ckgot_bad HE.out (by decide) (below_put4 (BW.out _ B7) (Nat.le_succ _) _ _ _ _))
    rw [if_neg hsh] at HCK
    have h2' : decide ((n : Int) < al) = false := by rw [decide_eq_false_iff_not]; omega
    by_cases hlo : al < n
    · have HE := Lib.hid (show ckGet l = 4 from by rw [HCK, if_pos hlo])
      have h3' : decide ((al : Int) < n) = true := by rw [decide_eq_true_eq]; omega
      clear HCK
      have hKr2 := HKR.out W7 B7
      obtain ⟨k0, k1, k2, k3⟩ := hKr2.four
      obtain ⟨f0, f1, f2, f3⟩ := hKr2.four_frozen
      go_wp2_with fail
      exact bodyPost_ret (cget_results (hKr2.put4 _ _ _ _) rfl rfl) rfl (ckgot_bad HE.out (by decide) (below_put4 (BW.out _ B7) (Nat.le_succ _) _ _ _ _))
    rw [if_neg hlo] at HCK
    have h3' : decide ((al : Int) < n) = false := by rw [decide_eq_false_iff_not]; omega
    obtain rfl : al = n := by omega
    have OP := Lib.hid (open_all a al c l W7 (HLR.out W7 B7) hc hn)
    have HCK := Lib.hid HCK
    have hl3 : ((al : Int) < al) = False := by simp
    go_wp2_with fail
    refine OP.out.mono ?_
    rintro e W8 ⟨av, k, cv, cf, rfl, B8, -, -, -, lx, -, hcase⟩
    have hA8 := hA7.below B8 hA7.lt
    have hC8 := hC7.below B8 hC7.lt
    have B8 := B7.trans (B8.mono B7.size)
    have hcase : (Num.num (l.drop (al - 4)) ≠ (Crc.of (l.take (al - 4))).toNat ∧ cf = 5) ∨ (Num.num (l.drop (al - 4)) = (Crc.of (l.take (al - 4))).toNat ∧ cf = 0) := by
      rcases hcase with h | h | h
      · omega
      · exact .inl ⟨h.2.1, h.2.2.2⟩
      · exact .inr ⟨h.2.1, h.2.2.2.1⟩
    clear hA7 hC7 B7 d7 OP hl3 h1' h2' h3' hbig hsh hlo
    rcases hcase with ⟨hs, rfl⟩ | ⟨hs, rfl⟩
    · have HE := Lib.hid (show ckGet l = 5 from by rw [HCK.out, if_pos hs])
      unfold errc er
      clear hs HCK hA8 hC8
      have hKr2 := HKR.out W8 B8
      obtain ⟨k0, k1, k2, k3⟩ := hKr2.four
      obtain ⟨f0, f1, f2, f3⟩ := hKr2.four_frozen
      go_wp2_with fail
      exact bodyPost_ret (cget_results (hKr2.put4 _ _ _ _) rfl rfl) rfl (ckgot_bad HE.out (by decide) (below_put4 (BW.out _ B8) (Nat.le_succ _) _ _ _ _))
    have HCK := Lib.hid (show ckGet l = _ from by rw [HCK.out, if_neg (by rw [hs]; simp)])
    unfold errc
    clear hs
    go_upto_region 20 with fail
    obtain ⟨bz, hbz⟩ : ∃ bz, W8.heap.size = bz := ⟨_, rfl⟩
    have hgz : gc < bz := by rw [← hbz]; exact hC8.lt
    obtain ⟨i0, hi, hz0, hz1, hz2⟩ := info_parts info_pos
    have HI := Lib.hid hi
    have HZ0 := Lib.hid hz0
    have HZ1 := Lib.hid hz1
    have HZ2 := Lib.hid hz2
    have HA8 := Lib.hid hA8
    have HC8 := Lib.hid hC8
    have hbz' : bz ≤ W8.heap.size := by omega
    clear hi hz0 hz1 hz2 hA8 hC8 hbz
    go_wp2_with fail
    go_loopw [11, 71] (fun ov iv wr => ∃ i : Nat, i ≤ cn ∧ iv = .int .i64 i ∧ ov = .bool (oddN l i) ∧ Blk wr W0.heap.size 3 #[.int .i64 (20 + 24 * i : Nat)] ∧
        (∃ sv, Blk wr gc 46 #[.int .i64 v, .int .i64 g, .int .i64 u, sv] ∧ wr.ownsRow bz 60 5 sv i (flatP (posL l i))) ∧ bz ≤ wr.heap.size ∧ Below W0.heap.size W0 wr) (fun _ iv _ => cn - (intOf iv).toNat)
    case atStart => exact ⟨0, by omega, rfl, rfl, HA8.out, ⟨_, HC8.out, ⟨rfl, .inl ⟨rfl, rfl⟩⟩⟩, hbz', B8⟩
    case round =>
      clear HA8 HC8 hbz' B8
      obtain ⟨i, hi, rfl, rfl, hA, ⟨sv, hC, hown⟩, hbw, B⟩ := hrel
      by_cases hin : i < cn
      · obtain ⟨p, hp⟩ : ∃ p, 20 + 24 * i = p := ⟨_, rfl⟩
        rw [hp] at hA
        have hpn : p + 24 ≤ al := by omega
        obtain ⟨q, hq⟩ : ∃ q, posOf l i = q := ⟨_, rfl⟩
        have HQ := Lib.hid (show posL l (i + 1) = posL l i ++ [q] from by rw [posL, hq])
        have hqe : q = ⟨nums l p 8, (nums l (p + 8) 4 : Nat), (nums l (p + 12) 4 : Nat), nums l (p + 16) 4, decide (nums l (p + 20) 4 = 1)⟩ := by rw [← hq, posOf, hp]
        have hoe : oddN l (i + 1) = (oddN l i || decide (1 < nums l (p + 20) 4)) := by rw [oddN, hp]
        have y1 := nums_lt l p 8
        have y2 := nums_lt l (p + 8) 4
        have y3 := nums_lt l (p + 12) 4
        have y4 := nums_lt l (p + 16) 4
        have y5 := nums_lt l (p + 20) 4
        have g1 : nums l p 8 = Num.num (List.take 8 (List.drop p l)) := rfl
        have g2 : nums l (p + 8) 4 = Num.num (List.take 4 (List.drop (p + 8) l)) := rfl
        have g3 : nums l (p + 12) 4 = Num.num (List.take 4 (List.drop (p + 8 + 4) l)) := rfl
        have g4 : nums l (p + 16) 4 = Num.num (List.take 4 (List.drop (p + 8 + 4 + 4) l)) := rfl
        have g5 : nums l (p + 20) 4 = Num.num (List.take 4 (List.drop (p + 8 + 4 + 4 + 4) l)) := rfl
        obtain ⟨key, e1⟩ : ∃ m, nums l p 8 = m := ⟨_, rfl⟩
        obtain ⟨po, e2⟩ : ∃ m, nums l (p + 8) 4 = m := ⟨_, rfl⟩
        obtain ⟨pl, e3⟩ : ∃ m, nums l (p + 12) 4 = m := ⟨_, rfl⟩
        obtain ⟨ck, e4⟩ : ∃ m, nums l (p + 16) 4 = m := ⟨_, rfl⟩
        obtain ⟨gn, e5⟩ : ∃ m, nums l (p + 20) 4 = m := ⟨_, rfl⟩
        rw [e1, e2, e3, e4, e5] at hqe
        rw [e5] at hoe y5 g5
        rw [e1] at y1 g1
        rw [e2] at y2 g2
        rw [e3] at y3 g3
        rw [e4] at y4 g4
        have HQE := Lib.hid hqe
        have HOE := Lib.hid hoe
        have GE1 := Lib.hid g1.symm
        have GE2 := Lib.hid g2.symm
        have GE3 := Lib.hid g3.symm
        have GE4 := Lib.hid g4.symm
        have GE5 := Lib.hid g5.symm
        have hi0 : (0 : Int) ≤ i := by omega
        have hi1 : (i : Int) < cn := by omega
        have hke : (key : Int) < 18446744073709551616 := by omega
        have HP := Lib.hid hp
        clear hq hqe hoe g1 g2 g3 g4 g5 e1 e2 e3 e4 e5 hp
        go_wp2_with fail
        go_at_call 51
        refine (G.out _ p 8 rfl (by omega) wr B hA).mono ?_
        rintro e w1 ⟨rfl, hA1, hg1⟩
        have B1 := B.trans (grown_below hg1 B.size (Nat.le_refl _))
        have hC1 := hC.grown hg1 (fun e => by injection e with e; omega)
        have ho1 := hown.kept hg1 (.inr fun e => by have := (hown.lt _ e).1; omega)
        have hbw1 := Nat.le_trans hbw hg1.size
        rw [GE1.out]
        clear hA B hC hown hg1 hbw
        go_wp2_with fail
        go_at_call 51
        refine (G.out _ (p + 8) 4 rfl (by omega) w1 B1 hA1).mono ?_
        rintro e w2 ⟨rfl, hA2, hg2⟩
        have B2 := B1.trans (grown_below hg2 B1.size (Nat.le_refl _))
        have hC2 := hC1.grown hg2 (fun e => by injection e with e; omega)
        have ho2 := ho1.kept hg2 (.inr fun e => by have := (ho1.lt _ e).1; omega)
        have hbw2 := Nat.le_trans hbw1 hg2.size
        rw [GE2.out]
        clear hA1 B1 hC1 ho1 hg2 hbw1
        go_wp2_with fail
        go_at_call 51
        refine (G.out _ (p + 8 + 4) 4 rfl (by omega) w2 B2 hA2).mono ?_
        rintro e w3 ⟨rfl, hA3, hg3⟩
        have B3 := B2.trans (grown_below hg3 B2.size (Nat.le_refl _))
        have hC3 := hC2.grown hg3 (fun e => by injection e with e; omega)
        have ho3 := ho2.kept hg3 (.inr fun e => by have := (ho2.lt _ e).1; omega)
        have hbw3 := Nat.le_trans hbw2 hg3.size
        rw [GE3.out]
        clear hA2 B2 hC2 ho2 hg3 hbw2
        go_wp2_with fail
        go_at_call 51
        refine (G.out _ (p + 8 + 4 + 4) 4 rfl (by omega) w3 B3 hA3).mono ?_
        rintro e w4 ⟨rfl, hA4, hg4⟩
        have B4 := B3.trans (grown_below hg4 B3.size (Nat.le_refl _))
        have hC4 := hC3.grown hg4 (fun e => by injection e with e; omega)
        have ho4 := ho3.kept hg4 (.inr fun e => by have := (ho3.lt _ e).1; omega)
        have hbw4 := Nat.le_trans hbw3 hg4.size
        rw [GE4.out]
        clear hA3 B3 hC3 ho3 hg4 hbw3
        go_upto_region 23 with fail
        have hP5 : Blk (w4.alloc (.cells #[.int .u64 key, .int .i64 po, .int .i64 pl, .int .u32 ck, .bool false] 60)) w4.heap.size 60 #[.int .u64 key, .int .i64 po, .int .i64 pl, .int .u32 ck, .bool false] := Blk.made _ _ _
        have B5 := B4.alloc B4.size (.cells #[.int .u64 key, .int .i64 po, .int .i64 pl, .int .u32 ck, .bool false] 60)
        have hC5 := hC4.alloc (.cells #[.int .u64 key, .int .i64 po, .int .i64 pl, .int .u32 ck, .bool false] 60)
        have hA5 := hA4.alloc (.cells #[.int .u64 key, .int .i64 po, .int .i64 pl, .int .u32 ck, .bool false] 60)
        have ho5 := ho4.alloc (.cells #[.int .u64 key, .int .i64 po, .int .i64 pl, .int .u32 ck, .bool false] 60)
        have hgp : bz ≤ w4.heap.size := hbw4
        have hop : ∀ q, sv.ownBlock = some q → q < w4.heap.size := fun q e => (ho4.lt q e).2
        clear hA4 B4 hC4 ho4 hbw4
        generalize w4.alloc (.cells #[.int .u64 key, .int .i64 po, .int .i64 pl, .int .u32 ck, .bool false] 60) = w5 at *
        generalize w4.heap.size = gp at *
        go_wp2_with fail
        go_at_call 51
        refine (G.out _ (p + 8 + 4 + 4 + 4) 4 rfl (by omega) w5 B5 hA5).mono ?_
        rintro e w6 ⟨rfl, hA6, hg6⟩
        have hP6 := hP5.grown hg6 (fun e => by injection e with e; omega)
        have B6 := B5.trans (grown_below hg6 B5.size (Nat.le_refl _))
        have hC6 := hC5.grown hg6 (fun e => by injection e with e; omega)
        have ho6 := ho5.kept hg6 (.inr fun e => by have := (ho5.lt _ e).1; omega)
        rw [GE5.out]
        clear hA5 B5 hC5 ho5 hg6 hP5
        obtain ⟨pgv, hpgv⟩ : ∃ b, decide (gn = 1) = b := ⟨_, rfl⟩
        obtain ⟨od, hod⟩ : ∃ b, decide (1 < gn) = b := ⟨_, rfl⟩
        obtain ⟨o, ho⟩ : ∃ b, oddN l i = b := ⟨_, rfl⟩
        have hqe := HQE.out
        have hoe := HOE.out
        rw [hpgv] at hqe
        rw [hod, ho] at hoe
        have hpg1 : ((gn : Int) == 1) = pgv := by rw [← hpgv, Bool.eq_iff_iff, beq_iff_eq, decide_eq_true_eq]; omega
        have hod1 : decide ((1 : Int) < gn) = od := by rw [← hod, Bool.eq_iff_iff, decide_eq_true_eq, decide_eq_true_eq]; omega
        have hHOE := Lib.hid hoe
        have hHP := Lib.hid (show 20 + 24 * (i + 1) = p + 8 + 4 + 4 + 4 + 4 from by have := HP.out; omega)
        subst hqe
        rw [ho]
        obtain ⟨c0, c1, c2, c3, c4⟩ : _ ∧ _ ∧ _ ∧ _ ∧ _ := ⟨hP6.cell 0, hP6.cell 1, hP6.cell 2, hP6.cell 3, hP6.cell 4⟩
        have f4 := hP6.frozen 4
        have hP7 : Blk (w6.setCell ⟨gp, 4, none⟩ (.bool pgv)) gp 60 #[.int .u64 key, .int .i64 po, .int .i64 pl, .int .u32 ck, .bool pgv] := hP6.put 4 _
        have hC7 := hC6.far (p := ⟨gp, 4, none⟩) (by show gc ≠ gp; omega) (.bool pgv)
        have hA7 := hA6.far (p := ⟨gp, 4, none⟩) (by show W0.heap.size ≠ gp; omega) (.bool pgv)
        have B7 := B6.setCell (p := ⟨gp, 4, none⟩) (by show W0.heap.size ≤ gp; omega) (.bool pgv)
        have ho7 := ownsRow_setCell_other ho6 (a := ⟨gp, 4, none⟩) (fun e => by have h : gp < gp := hop _ e; omega) (.bool pgv)
        have hb7 : bz ≤ (w6.setCell ⟨gp, 4, none⟩ (.bool pgv)).heap.size := Nat.le_trans hgp (Nat.le_of_lt hP7.lt)
        clear hA6 B6 hC6 ho6 hP6 hHOE
        generalize hw7 : w6.setCell ⟨gp, 4, none⟩ (.bool pgv) = w7 at *
        obtain ⟨g2, cap2, W9, hr, ho9, hg9, -, -⟩ := append_elem (P := Try.prog) Try.underlying44 HI.out HZ0.out HZ1.out HZ2.out rfl (by decide) ho7 (PosR.cells ⟨key, po, pl, ck, pgv⟩) (PosR.cells_length _) (PosR.cells_one _) (by omega) (by unfold maxLen; omega) hb7
        rw [← flatP_snoc, ← HQ.out] at ho9
        have hne : ∀ x, some x ≠ sv.ownBlock ∨ bz ≤ x := fun x => by
          by_cases e : some x = sv.ownBlock
          · exact .inr (ho7.lt x e.symm).1
          · exact .inl e
        have hC9 := hC7.grown hg9 (fun e => (hne gc).elim (fun h => h e) (fun h => by omega))
        have hA9 := hA7.grown hg9 (fun e => (hne W0.heap.size).elim (fun h => h e) (fun h => by omega))
        have B9 := B7.grown hg9 B7.size (fun x e => (hne x).elim (fun h => absurd e.symm h) (fun h => by omega))
        have HF := Lib.hid (show Blk (W9.setCell ⟨gc, 3, none⟩ (.slice (some ⟨g2, 0, none⟩) (i + 1) cap2)) W0.heap.size 3 #[.int .i64 (20 + 24 * (i + 1) : Nat)] ∧
            (∃ sv, Blk (W9.setCell ⟨gc, 3, none⟩ (.slice (some ⟨g2, 0, none⟩) (i + 1) cap2)) gc 46 #[.int .i64 v, .int .i64 g, .int .i64 u, sv] ∧ (W9.setCell ⟨gc, 3, none⟩ (.slice (some ⟨g2, 0, none⟩) (i + 1) cap2)).ownsRow bz 60 5 sv (i + 1) (flatP (posL l (i + 1)))) ∧
            bz ≤ (W9.setCell ⟨gc, 3, none⟩ (.slice (some ⟨g2, 0, none⟩) (i + 1) cap2)).heap.size ∧ Below W0.heap.size W0 (W9.setCell ⟨gc, 3, none⟩ (.slice (some ⟨g2, 0, none⟩) (i + 1) cap2)) from by
          have ho10 := ownsRow_setCell_other ho9 (a := ⟨gc, 3, none⟩) (fun e => by have h : bz ≤ gc := (ho9.lt _ e).1; omega) (.slice (some ⟨g2, 0, none⟩) (i + 1) cap2)
          rw [hHP.out]
          exact ⟨hA9.far (p := ⟨gc, 3, none⟩) (by show W0.heap.size ≠ gc; omega) _, ⟨_, hC9.put 3 _, ho10⟩, Nat.le_trans (ho10.lt g2 rfl).1 (Nat.le_of_lt (ho10.lt g2 rfl).2), B9.setCell (p := ⟨gc, 3, none⟩) (by show W0.heap.size ≤ gc; omega) _⟩)
        have hr : (Builtin.append_ #[44, 44] 44 #[sv, .slice (some ⟨w7.heap.size, 0, none⟩) 1 1]).run Try.prog (w7.alloc (.cells #[.int .u64 key, .int .i64 po, .int .i64 pl, .int .u32 ck, .bool pgv] 60)) = .ok (.slice (some ⟨g2, 0, none⟩) (i + 1) cap2) W9 := hr
        have hHOE := Lib.hid hoe
        have k3 := hC7.cell 3
        have k9 := hC9.cell 3
        have f9 := hC9.frozen 3
        obtain ⟨d0, d1, d2, d3, d4⟩ : _ ∧ _ ∧ _ ∧ _ ∧ _ := ⟨hP7.cell 0, hP7.cell 1, hP7.cell 2, hP7.cell 3, hP7.cell 4⟩
        clear hP7 hC7 hA7 B7 ho7 hb7 ho9 hg9 hne hC9 hA9 B9 hoe hod hpgv hop
        cases o with
        | false =>
          go_wp2_with (at_builtin; refine list_run (by rfl) _ _ rfl rfl rfl hr ?_; clear hr)
          go_roundw
          case rel => exact ⟨i + 1, by omega, by go_num, by rw [hHOE.out]; rfl, HF.out⟩
          case measure => simp [intOf]; omega
        | true =>
          go_wp2_with (at_builtin; refine list_run (by rfl) _ _ rfl rfl rfl hr ?_; clear hr)
          go_roundw
          case rel => exact ⟨i + 1, by omega, by go_num, by rw [hHOE.out]; rfl, HF.out⟩
          case measure => simp [intOf]; omega
      · obtain rfl : i = cn := by omega
        obtain ⟨sa, sc, rfl, hsc⟩ := own_slice hown
        have RT := Lib.hid (right_any v g u sa i sc (posL l i) wr (psl_own hown (posL_bounds l i)) (by omega))
        obtain ⟨r, hr⟩ : ∃ r, ckR v g u (posL l i) = r := ⟨_, rfl⟩
        have hr2 := ck_cases v g u (posL l i)
        rw [hr] at RT hr2
        have HRR := Lib.hid hr
        have HOW := Lib.hid hown
        have HC := Lib.hid hC
        obtain ⟨c0, c1, c2, c3⟩ := hC.four
        clear hA hC hown hr
        obtain ⟨o, ho⟩ : ∃ b, oddN l i = b := ⟨_, rfl⟩
        have HO := Lib.hid ho
        rw [ho]
        clear ho
        cases o with
        | true =>
          have HE := Lib.hid (show ckGet l = 4 from by rw [HCK.out, if_pos HO.out])
          have hKr2 := HKR.out wr B
          obtain ⟨k0, k1, k2, k3⟩ := hKr2.four
          obtain ⟨f0, f1, f2, f3⟩ := hKr2.four_frozen
          go_wp2_with fail
          exact bodyPost_ret (cget_results (hKr2.put4 _ _ _ _) rfl rfl) rfl (ckgot_bad HE.out (by decide) (below_put4 (BW.out _ B) (Nat.le_succ _) _ _ _ _))
        | false =>
          have HCK2 := Lib.hid (show ckGet l = if r ≠ 0 then 4 else 0 from by rw [HCK.out, if_neg (by rw [HO.out]; simp), HRR.out])
          have HB := Lib.hid B
          go_wp2_with fail
          refine RT.out.mono ?_
          rintro e W9 ⟨rfl, B9⟩
          have HO9 := Lib.hid (own_belowN HOW.out B9 (Nat.le_refl _))
          obtain ⟨d0, d1, d2, d3⟩ := (HC.out.below B9 HC.out.lt).four
          have B9 := B.trans (B9.mono B.size)
          clear c0 c1 c2 c3 B
          have hKr2 := HKR.out W9 B9
          obtain ⟨k0, k1, k2, k3⟩ := hKr2.four
          obtain ⟨f0, f1, f2, f3⟩ := hKr2.four_frozen
          rcases hr2 with rfl | rfl | rfl
          · have HE := Lib.hid (show ckGet l = 0 from HCK2.out)
            unfold errc
            go_wp2_with fail
            refine bodyPost_ret (cget_results (hKr2.put4 _ _ _ _) rfl rfl) rfl ?_
            rw [HCG.out]
            exact ⟨below_put4 (BW.out _ B9) (Nat.le_succ _) _ _ _ _, _, by rw [HE.out]; rfl, .inr ⟨HE.out, sa, sc, rfl, hsc, own_put4 (own_moreN HO9.out (show w.heap.size + 2 ≤ bz from by omega)) (by omega) _ _ _ _ |> fun h => own_moreN h (by omega)⟩⟩
          · have HE := Lib.hid (show ckGet l = 4 from HCK2.out)
            unfold errc er
            go_wp2_with fail
            exact bodyPost_ret (cget_results (hKr2.put4 _ _ _ _) rfl rfl) rfl (ckgot_bad HE.out (by decide) (below_put4 (BW.out _ B9) (Nat.le_succ _) _ _ _ _))
          · have HE := Lib.hid (show ckGet l = 4 from HCK2.out)
            unfold errc er
            go_wp2_with fail
            exact bodyPost_ret (cget_results (hKr2.put4 _ _ _ _) rfl rfl) rfl (ckgot_bad HE.out (by decide) (below_put4 (BW.out _ B9) (Nat.le_succ _) _ _ _ _))
  · have h0' : ((m0 : Int) != 1128811344) = true := by rw [bne_iff_ne]; omega
    have HE := Lib.hid (show ckGet l = 4 from by rw [HCK, if_pos hm])
    have hKr2 := HKR.out W2 B2
    obtain ⟨k0, k1, k2, k3⟩ := hKr2.four
    obtain ⟨f0, f1, f2, f3⟩ := hKr2.four_frozen
    go_wp2_with fail
    exact bodyPost_ret (cget_results (hKr2.put4 _ _ _ _) rfl rfl) rfl (ckgot_bad HE.out (by decide) (below_put4 (BW.out _ B2) (Nat.le_succ _) _ _ _ _))

end Go.Proofs.Ytkmifimdjdjdpaa
