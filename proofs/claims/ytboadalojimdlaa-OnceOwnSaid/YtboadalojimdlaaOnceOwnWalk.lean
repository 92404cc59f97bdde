/-
  The walk of corncriblaw16.OnceOwn.
-/
import Derived.Test.YtboadalojimdlaaOncePlaysLaw
namespace Go.Proofs.Ytboadalojimdlaa
open Go.RowKit

/-- A byte one more. -/
theorem byte_plus (x : BitVec 8) : ((x.toNat : Int) + 1) % 256 = ((x + 1#8).toNat : Int) := by
  have := x.isLt
  rw [BitVec.toNat_add, show (1#8).toNat = 1 from rfl]
  omega
theorem id_plus (i : Nat) : IntKind.u64.wrap ((i : Int) + 1) = (((i + 1) % 18446744073709551616 : Nat) : Int) := by
  show ((i : Int) + 1) % 18446744073709551616 = _
  omega
theorem ow_find (x : MsgR) : mFind [x] x.tt x.id = some x := by simp [mFind]
theorem ow_find_no (x : MsgR) (_ : x.id < 18446744073709551616) : mFind [x] x.tt ((x.id + 1) % 18446744073709551616) = none := by
  have : x.id ≠ (x.id + 1) % 18446744073709551616 := by omega
  simp [mFind, this]
theorem ow_code (x : MsgR) (h1 : x.kd = 5) (h2 : mchk x = 0) : kpCode [] 3 x = 0 := by
  unfold kpCode
  rw [if_neg (by simp [h1]), if_neg (by simp [h2])]
  simp [mFind]
/-- At the first loop's heads. -/
def Own1 (w : World) (b X bx bv1 : Nat) (m : MsgR) (ax : Option Addr) (cx : Nat) (av : Option Addr) (cv : Nat) (W : World) : Prop :=
  Below w.heap.size w W ∧ Blk W w.heap.size 60 m.cells.toArray ∧ TBl W (b + 1) b 3 [{ m with a := av, c := cv }] ∧
    Blk W X 53 ({ m with a := ax, c := cx } : MsgR).cells.toArray ∧ (∃ lx : List (BitVec 8), W.ownsRow bx 5 1 (.slice ax m.n cx) m.n (lx.map bv)) ∧
    W.ownsRow bv1 5 1 (.slice av m.n cv) m.n (m.l.map bv)
/-- At the second loop's heads. -/
def Own2 (w : World) (Y by_ n : Nat) (cs : Array Value) (ay : Option Addr) (cy : Nat) (W : World) : Prop :=
  Below w.heap.size w W ∧ Blk W Y 53 cs ∧ (∃ ly : List (BitVec 8), W.ownsRow by_ 5 1 (.slice ay n cy) n (ly.map bv))

set_option maxRecDepth 100000 in
set_option maxHeartbeats 8000000 in
theorem own_walk (fr tt kd vol life : Int) (id : Nat) (cd : Int) (has : Bool) (key ck : Nat) (g : Bool) (a : Option Addr) (n c : Nat) (l : List (BitVec 8)) (w : World)
    (h : BSl w w.heap.size a n l) (hid : id < 18446744073709551616) (hn : n ≤ 9223372036854775807) :
    Calls Try.prog 7 #[.agg #[.int .i64 fr, .int .i64 tt, .int .i64 kd, .int .i64 vol, .int .i64 life, .int .u64 id, .int .i64 cd, .bool has, .int .u64 key, .int .u32 ck, .bool g, .slice a n c]] w fun e w' => e = .returned (.bool true) ∧ Below w.heap.size w w' := by
  obtain ⟨W0, hW0⟩ : ∃ W0, w.alloc (.cells #[.int .i64 fr, .int .i64 tt, .int .i64 kd, .int .i64 vol, .int .i64 life, .int .u64 id, .int .i64 cd, .bool has, .int .u64 key, .int .u32 ck, .bool g, .slice a n c] 60) = W0 := ⟨_, rfl⟩
  have HK0 := Lib.hid (show Blk W0 w.heap.size 60 #[.int .i64 fr, .int .i64 tt, .int .i64 kd, .int .i64 vol, .int .i64 life, .int .u64 id, .int .i64 cd, .bool has, .int .u64 key, .int .u32 ck, .bool g, .slice a n c] from by rw [← hW0]; exact Blk.made w _ _)
  have HB0 := Lib.hid (show Below w.heap.size w W0 from by rw [← hW0]; exact (Below.refl _ _).alloc (Nat.le_refl _) _)
  have HBS := Lib.hid h
  have HID := Lib.hid hid
  clear h hid
  go_enter Try.func7, Try.ntmps7
  go_wp2_with fail
  clear hW0
  refine (once_alive _).mono ?_
  rintro e w1 ⟨rfl, B1⟩
  have HK1 := Lib.hid (HK0.out.below B1 HK0.out.lt)
  have HB1 := Lib.hid (HB0.out.trans (B1.mono HB0.out.size))
  have k2 : w1.cell? ⟨w.heap.size, 2, none⟩ = some (.int .i64 kd) := HK1.out.cell 2
  have f2 := HK1.out.frozen 2
  clear B1 HK0 HB0
  go_upto_region 4 with fail
  obtain ⟨w2, hw2, hK2, hB2⟩ : ∃ W, w1.setCell ⟨w.heap.size, 2, none⟩ (.int .i64 5) = W ∧ Blk W w.heap.size 60 #[.int .i64 fr, .int .i64 tt, .int .i64 5, .int .i64 vol, .int .i64 life, .int .u64 id, .int .i64 cd, .bool has, .int .u64 key, .int .u32 ck, .bool g, .slice a n c] ∧ Below w.heap.size w W := ⟨_, rfl, HK1.out.put 2 _, HB1.out.setCell (p := ⟨w.heap.size, 2, none⟩) (Nat.le_refl _) _⟩
  rw [hw2]
  have HK2 := Lib.hid hK2
  have HB2 := Lib.hid hB2
  clear hw2 k2 f2 HK1 HB1 hB2
  obtain ⟨k0, k1, k2, k3, k4, k5, k6, k7, k8, k9, k10, k11⟩ := hK2.twelve
  clear hK2
  by_cases hbig : 300 < n
  · have b0 : decide (300 < (n : Int)) = true := decide_eq_true (by omega)
    clear hbig
    go_wp2_with fail
    go_ret
    exact ⟨rfl, HB2.out⟩
  have hn3 : n ≤ 300 := by omega
  have b0 : decide (300 < (n : Int)) = false := decide_eq_false (by omega)
  clear hbig hn
  have EC := Lib.hid (rcheck_any ⟨fr, tt, 5, vol, life, id, cd, has, key, ck, g, a, n, c, l⟩ w2 ((HBS.out.below HB2.out).more HB2.out.size) (by show n ≤ _; omega))
  obtain ⟨q, hq⟩ : ∃ q, mchk ⟨fr, tt, 5, vol, life, id, cd, has, key, ck, g, a, n, c, l⟩ = q := ⟨_, rfl⟩
  rw [hq] at EC
  have HQ := Lib.hid hq
  unfold MsgR.vals at EC
  dsimp only at EC
  clear hq
  have HL2 := Lib.hid (show w.heap.size < w2.heap.size from HK2.out.lt)
  go_wp2_with fail
  refine EC.out.mono ?_
  rintro e w3 ⟨rfl, B3⟩
  have HK3 := Lib.hid (HK2.out.below B3 HK2.out.lt)
  have HB3 := Lib.hid (HB2.out.trans (B3.mono HB2.out.size))
  have HL3 := Lib.hid (show w.heap.size < w3.heap.size from HK3.out.lt)
  clear EC k0 k1 k2 k3 k4 k5 k6 k7 k8 k9 k10 k11 B3 HK2 HB2 HL2
  by_cases hq0 : q = 0
  rotate_left
  · have b1 : ((q : Int) != 0) = true := ne_t (by omega)
    clear hq0
    go_wp2_with fail
    go_ret
    exact ⟨rfl, HB3.out⟩
  subst hq0
  go_wp2_with fail
  refine (new_ok 3 _ (by decide) (by decide)).mono ?_
  rintro e w4 ⟨rfl, hT4, B4⟩
  have HK4 := Lib.hid (HK3.out.below B4 HK3.out.lt)
  have HB4 := Lib.hid (HB3.out.trans (B4.mono HB3.out.size))
  have HT4 := Lib.hid hT4
  generalize w3.heap.size = b at *
  clear hT4 B4 HK3 HB3
  obtain ⟨k0, k1, k2, k3, k4, k5, k6, k7, k8, k9, k10, k11⟩ := HK4.out.twelve
  have EO := Lib.hid (ofm_any ⟨fr, tt, 5, vol, life, id, cd, has, key, ck, g, a, n, c, l⟩ w4)
  unfold MsgR.vals at EO
  dsimp only at EO
  go_wp2_with fail
  refine EO.out.mono ?_
  rintro e w5 ⟨rfl, B5⟩
  have HK5 := Lib.hid (HK4.out.below B5 HK4.out.lt)
  have HB5 := Lib.hid (HB4.out.trans (B5.mono HB4.out.size))
  have HT5 := Lib.hid (HT4.out.on B5)
  clear k0 k1 k2 k3 k4 k5 k6 k7 k8 k9 k10 k11 B5 HK4 HB4 HT4 EO
  go_upto_region 8 with fail
  obtain ⟨w6, hw6, hB6, hX6, hs6⟩ : ∃ W, w5.alloc (.cells #[.int .i64 fr, .int .i64 tt, .int .i64 5, .int .i64 vol, .int .i64 life, .int .u64 id, .int .i64 cd, .bool has, .int .u64 key, .int .u32 ck, .bool g, .slice a n c] 53) = W ∧ Below w5.heap.size w5 W ∧ Blk W w5.heap.size 53 #[.int .i64 fr, .int .i64 tt, .int .i64 5, .int .i64 vol, .int .i64 life, .int .u64 id, .int .i64 cd, .bool has, .int .u64 key, .int .u32 ck, .bool g, .slice a n c] ∧ W.heap.size = w5.heap.size + 1 := ⟨_, rfl, (Below.refl _ _).alloc (Nat.le_refl _) _, Blk.made _ _ _, by simp⟩
  rw [hw6]
  have HK6 := Lib.hid (HK5.out.below hB6 HK5.out.lt)
  have HB6 := Lib.hid (HB5.out.trans (hB6.mono HB5.out.size))
  have HT6 := Lib.hid (HT5.out.on hB6)
  have HX6 := Lib.hid hX6
  have HXb := Lib.hid (show w.heap.size < w5.heap.size ∧ b + 1 < w5.heap.size ∧ w5.heap.size < w6.heap.size from ⟨HK5.out.lt, HT5.out.k.lt, hX6.lt⟩)
  clear hw6 hB6 hX6 HK5 HB5 HT5 hs6
  generalize w5.heap.size = X at *
  have HBA := Lib.hid ((Below.refl w6.heap.size w6).alloc (Nat.le_refl _) (.cells #[] 5))
  obtain ⟨g1, cap1, w7, hr1, ho7, hg7, hat7⟩ := append_bytes (World.ownsRow_made (base := w6.heap.size) w6 #[] 0 (Nat.le_refl _) (Nat.zero_le _) rfl) c ((HBS.out.below (HB6.out.trans (HBA.out.mono HB6.out.size))).more (HB6.out.trans (HBA.out.mono HB6.out.size)).size) (bsl_nil0 HBS.out) (by omega) (by simp)
  simp only [Nat.zero_add, List.nil_append] at hr1 ho7
  have hB7 : Below w6.heap.size w6 w7 := HBA.out.grown hg7 HBA.out.size (fun k e => by injection e with e; omega)
  have HK7 := Lib.hid (HK6.out.below hB7 HK6.out.lt)
  have HB7 := Lib.hid (HB6.out.trans (hB7.mono HB6.out.size))
  have HT7 := Lib.hid (HT6.out.on hB7)
  have HX7 := Lib.hid (HX6.out.below hB7 HX6.out.lt)
  have HO7 := Lib.hid ho7
  obtain ⟨k0, k1, k2, k3, k4, k5, k6, k7, k8, k9, k10, k11⟩ := (HK6.out.below HBA.out HK6.out.lt).twelve
  have f11 := HX7.out.frozen 11
  have x11 : w7.cell? ⟨X, 11, none⟩ = some (.slice a n c) := HX7.out.cell 11
  clear hB7 ho7 hg7 hat7 HK6 HB6 HT6 HX6
  go_upto_region 9 with (first | (at_builtin; refine list_run (by rfl) _ _ rfl rfl rfl hr1 ?_; clear hr1))
  obtain ⟨w8, hw8, hX8, hg8⟩ : ∃ W, w7.setCell ⟨X, 11, none⟩ (.slice (some ⟨g1, 0, none⟩) n cap1) = W ∧ Blk W X 53 #[.int .i64 fr, .int .i64 tt, .int .i64 5, .int .i64 vol, .int .i64 life, .int .u64 id, .int .i64 cd, .bool has, .int .u64 key, .int .u32 ck, .bool g, .slice (some ⟨g1, 0, none⟩) n cap1] ∧ w7.grownBy W (some X) := ⟨_, rfl, HX7.out.put 11 _, grown_put (grown_refl _ _) 11 _⟩
  rw [hw8]
  have HK8 := Lib.hid (HK7.out.grown hg8 (by intro e; injection e with e; have := HXb.out; omega))
  have HB8 := Lib.hid (HB7.out.grown hg8 HB7.out.size (fun k e => by injection e with e; have := HXb.out; omega))
  have HT8 := Lib.hid (HT7.out.grown hg8 (by intro e; injection e with e; have := HXb.out; omega) (by intro e; injection e with e; have := HXb.out; omega))
  have HO8 := Lib.hid (row_far HO7.out hg8 HXb.out.2.2)
  have HX8 := Lib.hid hX8
  have HG1 := Lib.hid (HO8.out.lt g1 rfl)
  clear hw8 hX8 hg8 HK7 HB7 HT7 HO7 HX7 k0 k1 k2 k3 k4 k5 k6 k7 k8 k9 k10 k11 f11 x11 HBA
  obtain ⟨k0, k1, k2, k3, k4, k5, k6, k7, k8, k9, k10, k11⟩ := HX8.out.twelve
  have EK := Lib.hid (keep_any w8 ⟨fr, tt, 5, vol, life, id, cd, has, key, ck, g, some ⟨g1, 0, none⟩, n, cap1, l⟩ HT8.out (bsl_own HO8.out) (own_cap HO8.out) (by show n ≤ _; omega))
  rw [ow_code ⟨fr, tt, 5, vol, life, id, cd, has, key, ck, g, some ⟨g1, 0, none⟩, n, cap1, l⟩ rfl HQ.out] at EK
  unfold MsgR.vals at EK
  dsimp only at EK
  go_wp2_with fail
  refine EK.out.mono ?_
  rintro e w9 (⟨hne, _⟩ | ⟨_, rfl, hg9, av, cv, hcv, ho9, hT9⟩)
  · exact absurd rfl hne
  have HK9 := Lib.hid (HK8.out.grown hg9 (by intro e; injection e with e; have := HL3.out; omega))
  have HB9 := Lib.hid (HB8.out.grown hg9 HB8.out.size (fun k e => by injection e with e; have := HL3.out; omega))
  have HX9 := Lib.hid (HX8.out.grown hg9 (by intro e; injection e with e; have := HXb.out; omega))
  have HO9 := Lib.hid (row_far HO8.out hg9 (by have := HXb.out; omega))
  have HT9 := Lib.hid hT9
  have HV9 := Lib.hid ho9
  have HCV := Lib.hid hcv
  have hn3i : (n : Int) ≤ 300 := by omega
  clear k0 k1 k2 k3 k4 k5 k6 k7 k8 k9 k10 k11 hg9 ho9 hT9 hcv EK HK8 HB8 HX8 HO8 HT8
  go_wp2_with fail
  go_loopw [7] (fun iv wr => ∃ i : Nat, i ≤ n ∧ iv = .int .i64 i ∧ Own1 w b X w6.heap.size w8.heap.size ⟨fr, tt, 5, vol, life, id, cd, has, key, ck, g, a, n, c, l⟩ (some ⟨g1, 0, none⟩) cap1 av cv wr)
    (fun iv _ => n - (intOf iv).toNat)
  case atStart => exact ⟨0, by omega, rfl, HB9.out, HK9.out, HT9.out, HX9.out, ⟨l, HO9.out⟩, HV9.out⟩
  case round =>
    obtain ⟨j, hj, rfl, hB, hK, hT, hX, ⟨lx, hox⟩, hv⟩ := hrel
    have HB := Lib.hid hB
    have HK := Lib.hid (show Blk wr w.heap.size 60 #[.int .i64 fr, .int .i64 tt, .int .i64 5, .int .i64 vol, .int .i64 life, .int .u64 id, .int .i64 cd, .bool has, .int .u64 key, .int .u32 ck, .bool g, .slice a n c] from hK)
    have HT := Lib.hid hT
    have HX := Lib.hid (show Blk wr X 53 #[.int .i64 fr, .int .i64 tt, .int .i64 5, .int .i64 vol, .int .i64 life, .int .u64 id, .int .i64 cd, .bool has, .int .u64 key, .int .u32 ck, .bool g, .slice (some ⟨g1, 0, none⟩) n cap1] from hX)
    have HV := Lib.hid hv
    have HOX := Lib.hid hox
    have x11 : wr.cell? ⟨X, 11, none⟩ = some (.slice (some ⟨g1, 0, none⟩) n cap1) := hX.cell 11
    clear hB hK hT hX hv hox HB9 HK9 HT9 HX9 HO9 HV9
    by_cases hlt : j < n
    · have hll : lx.length = n := by simpa using HOX.out.1
      obtain ⟨y, hy⟩ : ∃ y, lx.getD j 0 = y := ⟨_, rfl⟩
      have hcy : wr.cell? ⟨g1, j, none⟩ = some (.int .u8 (y.toNat : Int)) := by
        rw [HOX.out.cellAt j (by show j < n * 1; omega), List.getElem?_map, ← hy]
        simp [List.getD, show j < lx.length by omega, bv]
      have hfy : wr.frozen? ⟨g1, j, none⟩ = false := HOX.out.frozenAt _
      obtain ⟨ho1, hgr⟩ := HOX.out.stored j (bv (y + 1#8))
      rw [← List.map_set] at ho1
      have g1b := HG1.out
      have xb := HXb.out
      have l3 := HL3.out
      have hBn := HB.out.grown hgr HB.out.size (fun q e => by injection e with e; omega)
      have hKn := HK.out.grown hgr (by intro e; injection e with e; omega)
      have hTn := HT.out.grown hgr (by intro e; injection e with e; omega) (by intro e; injection e with e; omega)
      have hXn := HX.out.grown hgr (by intro e; injection e with e; omega)
      have hVn := row_far HV.out hgr g1b.2
      have HN := Lib.hid (show Own1 w b X w6.heap.size w8.heap.size ⟨fr, tt, 5, vol, life, id, cd, has, key, ck, g, a, n, c, l⟩ (some ⟨g1, 0, none⟩) cap1 av cv ((wr.setCell ⟨g1, j, none⟩ (bv (y + 1#8))).drew) from ⟨hBn.drew, hKn.drew, hTn.on (Below.refl _ _).drew, hXn.drew, ⟨_, ho1.drew⟩, hVn.drew⟩)
      unfold bv at HN
      have hj0 : (0 : Int) ≤ j := by omega
      have hj1 : (j : Int) < n := by omega
      have hlt' : decide ((j : Int) < n) = true := decide_eq_true hj1
      have HPL := Lib.hid (byte_plus y)
      clear ho1 hgr hBn hKn hTn hXn hVn g1b xb l3 hy hll HB HK HT HX HV HOX
      go_wp2_with fail
      go_region
      all_goals
        go_wp2_with fail
        rw [HPL.out]
        refine ⟨⟨j + 1, by omega, by go_num, HN.out⟩, ?_⟩
        simp [intOf]; omega
    · obtain rfl : j = n := by omega
      generalize wr = wf at *
      have hlt' : decide ((j : Int) < j) = false := by simp
      clear hlt x11
      obtain ⟨k0, k1, k2, k3, k4, k5, k6, k7, k8, k9, k10, k11⟩ := HK.out.twelve
      have x11 : wf.cell? ⟨X, 11, none⟩ = some (.slice (some ⟨g1, 0, none⟩) j cap1) := HX.out.cell 11
      have EF := Lib.hid (find_yes wf tt id HT.out (ow_find ⟨fr, tt, 5, vol, life, id, cd, has, key, ck, g, av, j, cv, l⟩) (bsl_own HV.out) HCV.out (by show j ≤ _; omega))
      unfold MsgR.vals at EF
      dsimp only at EF
      go_wp2_with fail
      refine EF.out.mono ?_
      rintro e w10 ⟨ay, cy, rfl, hcy, hoy, B10⟩
      have HB10 := Lib.hid B10
      have HGY := Lib.hid fun q (e : (Value.slice ay j cy).ownBlock = some q) => hoy.lt q e
      have HOY := Lib.hid hoy
      clear k0 k1 k2 k3 k4 k5 k6 k7 k8 k9 k10 k11 x11 B10 hoy hcy EF HOX
      go_upto_region 15 with fail
      obtain ⟨w11, hw11, hB11, hY11, hO11⟩ : ∃ W, w10.alloc (.cells #[.int .i64 fr, .int .i64 tt, .int .i64 5, .int .i64 vol, .int .i64 life, .int .u64 id, .int .i64 cd, .bool has, .int .u64 key, .int .u32 ck, .bool g, .slice ay j cy] 53) = W ∧ Below w10.heap.size w10 W ∧ Blk W w10.heap.size 53 #[.int .i64 fr, .int .i64 tt, .int .i64 5, .int .i64 vol, .int .i64 life, .int .u64 id, .int .i64 cd, .bool has, .int .u64 key, .int .u32 ck, .bool g, .slice ay j cy] ∧ W.ownsRow wf.heap.size 5 1 (.slice ay j cy) j (l.map bv) := ⟨_, rfl, (Below.refl _ _).alloc (Nat.le_refl _) _, Blk.made _ _ _, HOY.out.alloc _⟩
      rw [hw11]
      have HB11 := Lib.hid (HB10.out.trans (hB11.mono HB10.out.size))
      have HY11 := Lib.hid hY11
      have HOY11 := Lib.hid hO11
      have HS11 := Lib.hid HB10.out.size
      clear hw11 hB11 hY11 hO11 HB10 HOY
      generalize w10.heap.size = Y at *
      go_wp2_with fail
      go_loopw [10] (fun iv ws => ∃ i : Nat, i ≤ j ∧ iv = .int .i64 i ∧ Own2 wf Y wf.heap.size j #[.int .i64 fr, .int .i64 tt, .int .i64 5, .int .i64 vol, .int .i64 life, .int .u64 id, .int .i64 cd, .bool has, .int .u64 key, .int .u32 ck, .bool g, .slice ay j cy] ay cy ws)
        (fun iv _ => j - (intOf iv).toNat)
      case atStart => exact ⟨0, by omega, rfl, HB11.out, HY11.out, ⟨l, HOY11.out⟩⟩
      case round =>
        obtain ⟨i, hi, rfl, hB2, hY, ⟨ly, hoy⟩⟩ := hrel
        have HB2 := Lib.hid hB2
        have HY := Lib.hid hY
        have HOY := Lib.hid hoy
        have y11 : wr.cell? ⟨Y, 11, none⟩ = some (.slice ay j cy) := hY.cell 11
        clear hB2 hY hoy HB11 HY11 HOY11
        by_cases hlt : i < j
        · obtain ⟨gy, cy', e, hgy1, hgy2⟩ := HOY.out.form (by omega)
          injection e with e _ e2
          subst e e2
          have hll : ly.length = j := by simpa using HOY.out.1
          obtain ⟨y, hy⟩ : ∃ y, ly.getD i 0 = y := ⟨_, rfl⟩
          have hcy : wr.cell? ⟨gy, i, none⟩ = some (.int .u8 (y.toNat : Int)) := by
            rw [HOY.out.cellAt i (by omega), List.getElem?_map, ← hy]
            simp [List.getD, show i < ly.length by omega, bv]
          have hfy : wr.frozen? ⟨gy, i, none⟩ = false := HOY.out.frozenAt _
          obtain ⟨ho1, hgr⟩ := HOY.out.stored i (bv (y + 1#8))
          rw [← List.map_set] at ho1
          have gyb := HGY.out gy rfl
          have hBn := HB2.out.grown hgr HB2.out.size (fun q e => by injection e with e; omega)
          have hYn := HY.out.grown hgr (by intro e; injection e with e; omega)
          have HN := Lib.hid (show Own2 wf Y wf.heap.size j #[.int .i64 fr, .int .i64 tt, .int .i64 5, .int .i64 vol, .int .i64 life, .int .u64 id, .int .i64 cd, .bool has, .int .u64 key, .int .u32 ck, .bool g, .slice (some ⟨gy, 0, none⟩) j cy] (some ⟨gy, 0, none⟩) cy ((wr.setCell ⟨gy, i, none⟩ (bv (y + 1#8))).drew) from ⟨hBn.drew, hYn.drew, ⟨_, ho1.drew⟩⟩)
          unfold bv at HN
          have hj0 : (0 : Int) ≤ i := by omega
          have hj1 : (i : Int) < j := by omega
          have hlt' : decide ((i : Int) < j) = true := decide_eq_true hj1
          have HPL := Lib.hid (byte_plus y)
          clear ho1 hgr hBn hYn gyb hy hll HB2 HY HOY hgy1 hgy2
          go_wp2_with fail
          go_region
          all_goals
            go_wp2_with fail
            rw [HPL.out]
            refine ⟨⟨i + 1, by omega, by go_num, HN.out⟩, ?_⟩
            simp [intOf]; omega
        · obtain rfl : i = j := by omega
          have hlt' : decide ((i : Int) < i) = false := by simp
          generalize wr = ws at *
          have HBs := Lib.hid (HB.out.trans (HB2.out.mono HB.out.size))
          have HKs := Lib.hid (HK.out.below HB2.out HK.out.lt)
          have HTs := Lib.hid (HT.out.on HB2.out)
          have HXs := Lib.hid (HX.out.below HB2.out HX.out.lt)
          have HVs := Lib.hid (own_below HV.out HB2.out (Nat.le_refl _))
          clear hlt HB HK HT HX HV HB2 HY HOY
          obtain ⟨k0, k1, k2, k3, k4, k5, k6, k7, k8, k9, k10, k11⟩ := HKs.out.twelve
          have EF := Lib.hid (find_yes ws tt id HTs.out (ow_find ⟨fr, tt, 5, vol, life, id, cd, has, key, ck, g, av, i, cv, l⟩) (bsl_own HVs.out) HCV.out (by show i ≤ _; omega))
          unfold MsgR.vals at EF
          dsimp only at EF
          go_wp2_with fail
          refine EF.out.mono ?_
          rintro e w12 ⟨az, cz, rfl, hcz, hoz, B12⟩
          have HB12 := Lib.hid (HBs.out.trans (B12.mono HBs.out.size))
          have HK12 := Lib.hid (HKs.out.below B12 HKs.out.lt)
          have HT12 := Lib.hid (HTs.out.on B12)
          have HX12 := Lib.hid (HXs.out.below B12 HXs.out.lt)
          have HOZ := Lib.hid hoz
          clear k0 k1 k2 k3 k4 k5 k6 k7 k8 k9 k10 k11 B12 hoz hcz EF HBs HKs HTs HXs HVs
          go_upto_region 20 with fail
          obtain ⟨w13, hw13, hB13, hZ13, hO13⟩ : ∃ W, w12.alloc (.cells #[.int .i64 fr, .int .i64 tt, .int .i64 5, .int .i64 vol, .int .i64 life, .int .u64 id, .int .i64 cd, .bool has, .int .u64 key, .int .u32 ck, .bool g, .slice az i cz] 53) = W ∧ Below w12.heap.size w12 W ∧ Blk W w12.heap.size 53 #[.int .i64 fr, .int .i64 tt, .int .i64 5, .int .i64 vol, .int .i64 life, .int .u64 id, .int .i64 cd, .bool has, .int .u64 key, .int .u32 ck, .bool g, .slice az i cz] ∧ W.ownsRow ws.heap.size 5 1 (.slice az i cz) i (l.map bv) := ⟨_, rfl, (Below.refl _ _).alloc (Nat.le_refl _) _, Blk.made _ _ _, HOZ.out.alloc _⟩
          rw [hw13]
          have HB13 := Lib.hid (HB12.out.trans (hB13.mono HB12.out.size))
          have HK13 := Lib.hid (HK12.out.below hB13 HK12.out.lt)
          have HT13 := Lib.hid (HT12.out.on hB13)
          have HX13 := Lib.hid (HX12.out.below hB13 HX12.out.lt)
          have HZ13 := Lib.hid hZ13
          have HOZ13 := Lib.hid (bsl_own hO13)
          clear hw13 hB13 hZ13 hO13 HB12 HK12 HT12 HX12 HOZ
          generalize w12.heap.size = Z at *
          obtain ⟨k0, k1, k2, k3, k4, k5, k6, k7, k8, k9, k10, k11⟩ := HK13.out.twelve
          have HP := Lib.hid (id_plus id)
          have EN := Lib.hid (find_no w13 tt ((id + 1) % 18446744073709551616) HT13.out (ow_find_no ⟨fr, tt, 5, vol, life, id, cd, has, key, ck, g, av, i, cv, l⟩ HID.out))
          rw [show mNone.vals = .agg #[.int .i64 0, .int .i64 0, .int .i64 0, .int .i64 0, .int .i64 0, .int .u64 0, .int .i64 0, .bool false, .int .u64 0, .int .u32 0, .bool false, .slice none 0 0] from rfl] at EN
          go_wp2_with fail
          rw [HP.out]
          refine EN.out.mono ?_
          rintro e w14 ⟨rfl, B14⟩
          have HB14 := Lib.hid (HB13.out.trans (B14.mono HB13.out.size))
          have HK14 := Lib.hid (HK13.out.below B14 HK13.out.lt)
          have HX14 := Lib.hid (HX13.out.below B14 HX13.out.lt)
          have HZ14 := Lib.hid (HZ13.out.below B14 HZ13.out.lt)
          have HOZ14 := Lib.hid ((HOZ13.out.below B14).more B14.size)
          clear k0 k1 k2 k3 k4 k5 k6 k7 k8 k9 k10 k11 B14 EN HP HB13 HK13 HT13 HX13 HZ13 HOZ13
          go_upto_region 21 with fail
          obtain ⟨w15, hw15, hB15⟩ : ∃ W, w14.alloc (.cells #[.int .i64 0, .int .i64 0, .int .i64 0, .int .i64 0, .int .i64 0, .int .u64 0, .int .i64 0, .bool false, .int .u64 0, .int .u32 0, .bool false, .slice none 0 0] 53) = W ∧ Below w14.heap.size w14 W := ⟨_, rfl, (Below.refl _ _).alloc (Nat.le_refl _) _⟩
          rw [hw15]
          have HB15 := Lib.hid (HB14.out.trans (hB15.mono HB14.out.size))
          have HK15 := Lib.hid (HK14.out.below hB15 HK14.out.lt)
          have HX15 := Lib.hid (HX14.out.below hB15 HX14.out.lt)
          have HZ15 := Lib.hid (HZ14.out.below hB15 HZ14.out.lt)
          have HOZ15 := Lib.hid ((HOZ14.out.below hB15).more hB15.size)
          clear hw15 hB15 HB14 HK14 HX14 HZ14 HOZ14
          go_wp2_with fail
          refine (clear_none _).mono ?_
          rintro e w16 ⟨rfl, rfl⟩
          have EM := Lib.hid (show Calls Try.prog 24 #[.pointer none, .int .i64 1, .int .u64 1] w15 fun e w' => e = .returned (.tuple #[.agg #[.int .i64 0, .int .i64 0, .int .i64 0, .int .i64 0, .int .i64 0, .int .u64 0, .int .i64 0, .bool false, .int .u64 0, .int .u32 0, .bool false, .slice none 0 0], errc 15]) ∧ Below w15.heap.size w15 w' from find_none w15 1 1)
          go_wp2_with fail
          refine EM.out.mono ?_
          rintro e w17 ⟨rfl, B17⟩
          have HB17 := Lib.hid (HB15.out.trans (B17.mono HB15.out.size))
          have HK17 := Lib.hid (HK15.out.below B17 HK15.out.lt)
          have HX17 := Lib.hid (HX15.out.below B17 HX15.out.lt)
          have HZ17 := Lib.hid (HZ15.out.below B17 HZ15.out.lt)
          have HOZ17 := Lib.hid ((HOZ15.out.below B17).more B17.size)
          clear B17 EM HB15 HK15 HX15 HZ15 HOZ15
          go_upto_region 24 with fail
          obtain ⟨w18, hw18, hB18⟩ : ∃ W, w17.alloc (.cells #[.int .i64 0, .int .i64 0, .int .i64 0, .int .i64 0, .int .i64 0, .int .u64 0, .int .i64 0, .bool false, .int .u64 0, .int .u32 0, .bool false, .slice none 0 0] 53) = W ∧ Below w17.heap.size w17 W := ⟨_, rfl, (Below.refl _ _).alloc (Nat.le_refl _) _⟩
          rw [hw18]
          have HB18 := Lib.hid (HB17.out.trans (hB18.mono HB17.out.size))
          have HK18 := Lib.hid (HK17.out.below hB18 HK17.out.lt)
          have HX18 := Lib.hid (HX17.out.below hB18 HX17.out.lt)
          have HZ18 := Lib.hid (HZ17.out.below hB18 HZ17.out.lt)
          have HOZ18 := Lib.hid ((HOZ17.out.below hB18).more hB18.size)
          clear hw18 hB18 HB17 HK17 HX17 HZ17 HOZ17
          have C1 := Lib.hid fun (W : World) (B : Below w18.heap.size w18 W) => (HK18.out.below B HK18.out.lt).twelve
          have C2 := Lib.hid fun (W : World) (B : Below w18.heap.size w18 W) => (HX18.out.below B HX18.out.lt).twelve
          have C3 := Lib.hid fun (W : World) (B : Below w18.heap.size w18 W) => (HZ18.out.below B HZ18.out.lt).twelve
          have ET := Lib.hid fun (W : World) => tom_any ⟨fr, tt, 5, vol, life, id, cd, has, key, ck, g, az, i, cz, l⟩ W
          have ES := Lib.hid fun (W : World) (B : Below w18.heap.size w18 W) => rsame_any ⟨fr, tt, 5, vol, life, id, cd, has, key, ck, g, az, i, cz, l⟩ ⟨fr, tt, 5, vol, life, id, cd, has, key, ck, g, a, i, c, l⟩ W ((HOZ18.out.below B).more B.size) ((HBS.out.below (HB18.out.trans (B.mono HB18.out.size))).more (HB18.out.trans (B.mono HB18.out.size)).size) (by show i ≤ _; omega)
          rw [show mSame ⟨fr, tt, 5, vol, life, id, cd, has, key, ck, g, az, i, cz, l⟩ ⟨fr, tt, 5, vol, life, id, cd, has, key, ck, g, a, i, c, l⟩ = true from by simp [mSame, mHead, ndSame]] at ES
          have EK := Lib.hid fun (W : World) => keep_none W ⟨fr, tt, 5, vol, life, id, cd, has, key, ck, g, some ⟨g1, 0, none⟩, i, cap1, l⟩
          unfold MsgR.vals at ET ES EK
          dsimp only at ET ES EK
          refine wp_region_held_drew (S := fun W => Below w18.heap.size w18 W) (by kernel_rfl) ((Below.refl _ _).drew) (fun hS => ?_)
          refine wpAnyH_take (i := 0) (v := ?_) rfl (by kernel_rfl) (by kernel_rfl) (by kernel_rfl) (fun _ _ _ h => h) (Or.inl ⟨by kernel_rfl, ?_⟩) hS ?_
          rotate_left
          · intro W hW; go_simp; try with_reducible rfl
          refine wpAnyH_take (i := 2) (v := ?_) rfl (by kernel_rfl) (by kernel_rfl) (by kernel_rfl) (fun _ _ _ h => h) (Or.inl ⟨by kernel_rfl, ?_⟩) hS ?_
          rotate_left
          · intro W hW; go_simp; try with_reducible rfl
          refine wpAnyH_take (i := 5) (v := ?_) rfl (by kernel_rfl) (by kernel_rfl) (by kernel_rfl) (fun _ _ _ h => h) (Or.inl ⟨by kernel_rfl, ?_⟩) hS ?_
          rotate_left
          · intro W hW; go_simp; try with_reducible rfl
          refine wpAnyH_ready (rs := [1]) (by kernel_rfl) (by simp) ?_
          refine AllReadyH.cons rfl (fun K hK => ?_) AllReadyH.nil
          go_simp
          refine (code_c 0 _ (by decide)).mono ?_
          rintro e w6 ⟨rfl, rfl⟩
          have hT := hS
          go_simp
          refine hK.out _ _ ?_ (fun hN => ?_)
          · first | exact hT | exact hS | exact hS.alloc hS.size _ | exact hS.drew
          clear hK K
          try clear hT
          clear hS
          have hS := hN
          clear hN
          refine wpAnyH_ready (rs := [3]) (by kernel_rfl) (by simp) ?_
          refine AllReadyH.cons rfl (fun K hK => ?_) AllReadyH.nil
          go_simp
          refine (code_c 0 _ (by decide)).mono ?_
          rintro e w6 ⟨rfl, rfl⟩
          have hT := hS
          go_simp
          refine hK.out _ _ ?_ (fun hN => ?_)
          · first | exact hT | exact hS | exact hS.alloc hS.size _ | exact hS.drew
          clear hK K
          try clear hT
          clear hS
          have hS := hN
          clear hN
          refine wpAnyH_take (i := 4) (v := ?_) rfl (by kernel_rfl) (by kernel_rfl) (by kernel_rfl) (fun _ _ _ h => h) (Or.inl ⟨by kernel_rfl, ?_⟩) hS ?_
          rotate_left
          · intro W hW; go_simp; try with_reducible rfl
          refine wpAnyH_ready (rs := [6]) (by kernel_rfl) (by simp) ?_
          refine AllReadyH.cons rfl (fun K hK => ?_) AllReadyH.nil
          go_simp
          refine (code_c 0 _ (by decide)).mono ?_
          rintro e w6 ⟨rfl, rfl⟩
          have hT := hS
          go_simp
          refine hK.out _ _ ?_ (fun hN => ?_)
          · first | exact hT | exact hS | exact hS.alloc hS.size _ | exact hS.drew
          clear hK K
          try clear hT
          clear hS
          have hS := hN
          clear hN
          refine wpAnyH_take (i := 7) (v := ?_) rfl (by kernel_rfl) (by kernel_rfl) (by kernel_rfl) (fun _ _ _ h => h) (Or.inl ⟨by kernel_rfl, ?_⟩) hS ?_
          rotate_left
          · intro W hW; go_simp; try with_reducible rfl
          refine wpAnyH_take (i := 8) (v := ?_) rfl (by kernel_rfl) (by kernel_rfl) (by kernel_rfl) (fun _ _ _ h => h) (Or.inl ⟨by kernel_rfl, ?_⟩) hS ?_
          rotate_left
          · intro W hW; go_simp; try with_reducible rfl
          refine wpAnyH_take (i := 9) (v := ?_) rfl (by kernel_rfl) (by kernel_rfl) (by kernel_rfl) (fun _ _ _ h => h) (Or.inl ⟨by kernel_rfl, ?_⟩) hS ?_
          rotate_left
          · intro W hW; go_simp; try with_reducible rfl
          refine wpAnyH_take (i := 10) (v := ?_) rfl (by kernel_rfl) (by kernel_rfl) (by kernel_rfl) (fun _ _ _ h => h) (Or.inl ⟨by kernel_rfl, ?_⟩) hS ?_
          rotate_left
          · intro W hW; obtain ⟨k0, k1, k2, k3, k4, k5, k6, k7, k8, k9, k10, k11⟩ := C1.out W hW; obtain ⟨x0, x1, x2, x3, x4, x5, x6, x7, x8, x9, x10, x11⟩ := C2.out W hW; obtain ⟨z0, z1, z2, z3, z4, z5, z6, z7, z8, z9, z10, z11⟩ := C3.out W hW; go_simp; try with_reducible rfl
          refine wpAnyH_take (i := 12) (v := ?_) rfl (by kernel_rfl) (by kernel_rfl) (by kernel_rfl) (fun _ _ _ h => h) (Or.inl ⟨by kernel_rfl, ?_⟩) hS ?_
          rotate_left
          · intro W hW; obtain ⟨k0, k1, k2, k3, k4, k5, k6, k7, k8, k9, k10, k11⟩ := C1.out W hW; obtain ⟨x0, x1, x2, x3, x4, x5, x6, x7, x8, x9, x10, x11⟩ := C2.out W hW; obtain ⟨z0, z1, z2, z3, z4, z5, z6, z7, z8, z9, z10, z11⟩ := C3.out W hW; go_simp; try with_reducible rfl
          refine wpAnyH_ready (rs := [11]) (by kernel_rfl) (by simp) ?_
          refine AllReadyH.cons rfl (fun K hK => ?_) AllReadyH.nil
          go_simp
          refine (ET.out _).mono ?_
          rintro e w6 ⟨rfl, B6⟩
          have hT := hS.trans (B6.mono hS.size)
          go_simp
          refine hK.out _ _ ?_ (fun hN => ?_)
          · first | exact hT | exact hS | exact hS.alloc hS.size _ | exact hS.drew
          clear hK K
          try clear hT
          clear hS
          have hS := hN
          clear hN
          refine wpAnyH_ready (rs := [13]) (by kernel_rfl) (by simp) ?_
          refine AllReadyH.cons rfl (fun K hK => ?_) AllReadyH.nil
          go_simp
          refine (ES.out _ hS).mono ?_
          rintro e w6 ⟨rfl, B6⟩
          have hT := hS.trans (B6.mono hS.size)
          go_simp
          refine hK.out _ _ ?_ (fun hN => ?_)
          · first | exact hT | exact hS | exact hS.alloc hS.size _ | exact hS.drew
          clear hK K
          try clear hT
          clear hS
          have hS := hN
          clear hN
          refine wpAnyH_take (i := 14) (v := ?_) rfl (by kernel_rfl) (by kernel_rfl) (by kernel_rfl) (fun _ _ _ h => h) (Or.inl ⟨by kernel_rfl, ?_⟩) hS ?_
          rotate_left
          · intro W hW; go_simp; try with_reducible rfl
          refine wpAnyH_take (i := 15) (v := ?_) rfl (by kernel_rfl) (by kernel_rfl) (by kernel_rfl) (fun _ _ _ h => h) (Or.inl ⟨by kernel_rfl, ?_⟩) hS ?_
          rotate_left
          · intro W hW; go_simp; try with_reducible rfl
          refine wpAnyH_take (i := 16) (v := ?_) rfl (by kernel_rfl) (by kernel_rfl) (by kernel_rfl) (fun _ _ _ h => h) (Or.inl ⟨by kernel_rfl, ?_⟩) hS ?_
          rotate_left
          · intro W hW; go_simp; try with_reducible rfl
          refine wpAnyH_ready (rs := [17]) (by kernel_rfl) (by simp) ?_
          refine AllReadyH.cons rfl (fun K hK => ?_) AllReadyH.nil
          go_simp
          refine (code_c 6 _ (by decide)).mono ?_
          rintro e w6 ⟨rfl, rfl⟩
          have hT := hS
          go_simp
          refine hK.out _ _ ?_ (fun hN => ?_)
          · first | exact hT | exact hS | exact hS.alloc hS.size _ | exact hS.drew
          clear hK K
          try clear hT
          clear hS
          have hS := hN
          clear hN
          refine wpAnyH_take (i := 18) (v := ?_) rfl (by kernel_rfl) (by kernel_rfl) (by kernel_rfl) (fun _ _ _ h => h) (Or.inl ⟨by kernel_rfl, ?_⟩) hS ?_
          rotate_left
          · intro W hW; go_simp; try with_reducible rfl
          refine wpAnyH_take (i := 19) (v := ?_) rfl (by kernel_rfl) (by kernel_rfl) (by kernel_rfl) (fun _ _ _ h => h) (Or.inl ⟨by kernel_rfl, ?_⟩) hS ?_
          rotate_left
          · intro W hW; go_simp; try with_reducible rfl
          refine wpAnyH_take (i := 20) (v := ?_) rfl (by kernel_rfl) (by kernel_rfl) (by kernel_rfl) (fun _ _ _ h => h) (Or.inl ⟨by kernel_rfl, ?_⟩) hS ?_
          rotate_left
          · intro W hW; go_simp; try with_reducible rfl
          refine wpAnyH_take (i := 21) (v := ?_) rfl (by kernel_rfl) (by kernel_rfl) (by kernel_rfl) (fun _ _ _ h => h) (Or.inl ⟨by kernel_rfl, ?_⟩) hS ?_
          rotate_left
          · intro W hW; go_simp; try with_reducible rfl
          refine wpAnyH_ready (rs := [22]) (by kernel_rfl) (by simp) ?_
          refine AllReadyH.cons rfl (fun K hK => ?_) AllReadyH.nil
          go_simp
          refine (code_c 15 _ (by decide)).mono ?_
          rintro e w6 ⟨rfl, rfl⟩
          have hT := hS
          go_simp
          refine hK.out _ _ ?_ (fun hN => ?_)
          · first | exact hT | exact hS | exact hS.alloc hS.size _ | exact hS.drew
          clear hK K
          try clear hT
          clear hS
          have hS := hN
          clear hN
          refine wpAnyH_take (i := 23) (v := ?_) rfl (by kernel_rfl) (by kernel_rfl) (by kernel_rfl) (fun _ _ _ h => h) (Or.inl ⟨by kernel_rfl, ?_⟩) hS ?_
          rotate_left
          · intro W hW; go_simp; try with_reducible rfl
          refine wpAnyH_take (i := 24) (v := ?_) rfl (by kernel_rfl) (by kernel_rfl) (by kernel_rfl) (fun _ _ _ h => h) (Or.inl ⟨by kernel_rfl, ?_⟩) hS ?_
          rotate_left
          · intro W hW; go_simp; try with_reducible rfl
          refine wpAnyH_take (i := 25) (v := ?_) rfl (by kernel_rfl) (by kernel_rfl) (by kernel_rfl) (fun _ _ _ h => h) (Or.inl ⟨by kernel_rfl, ?_⟩) hS ?_
          rotate_left
          · intro W hW; go_simp; try with_reducible rfl
          refine wpAnyH_take (i := 26) (v := ?_) rfl (by kernel_rfl) (by kernel_rfl) (by kernel_rfl) (fun _ _ _ h => h) (Or.inl ⟨by kernel_rfl, ?_⟩) hS ?_
          rotate_left
          · intro W hW; go_simp; try with_reducible rfl
          refine wpAnyH_take (i := 27) (v := ?_) rfl (by kernel_rfl) (by kernel_rfl) (by kernel_rfl) (fun _ _ _ h => h) (Or.inl ⟨by kernel_rfl, ?_⟩) hS ?_
          rotate_left
          · intro W hW; obtain ⟨k0, k1, k2, k3, k4, k5, k6, k7, k8, k9, k10, k11⟩ := C1.out W hW; obtain ⟨x0, x1, x2, x3, x4, x5, x6, x7, x8, x9, x10, x11⟩ := C2.out W hW; obtain ⟨z0, z1, z2, z3, z4, z5, z6, z7, z8, z9, z10, z11⟩ := C3.out W hW; go_simp; try with_reducible rfl
          refine wpAnyH_ready (rs := [28]) (by kernel_rfl) (by simp) ?_
          refine AllReadyH.cons rfl (fun K hK => ?_) AllReadyH.nil
          go_simp
          refine (EK.out _).mono ?_
          rintro e w6 ⟨rfl, B6⟩
          have hT := hS.trans (B6.mono hS.size)
          go_simp
          refine hK.out _ _ ?_ (fun hN => ?_)
          · first | exact hT | exact hS | exact hS.alloc hS.size _ | exact hS.drew
          clear hK K
          try clear hT
          clear hS
          have hS := hN
          clear hN
          refine wpAnyH_ready (rs := [29]) (by kernel_rfl) (by simp) ?_
          refine AllReadyH.cons rfl (fun K hK => ?_) AllReadyH.nil
          go_simp
          refine (code_c 15 _ (by decide)).mono ?_
          rintro e w6 ⟨rfl, rfl⟩
          have hT := hS
          go_simp
          refine hK.out _ _ ?_ (fun hN => ?_)
          · first | exact hT | exact hS | exact hS.alloc hS.size _ | exact hS.drew
          clear hK K
          try clear hT
          clear hS
          have hS := hN
          clear hN
          refine wpAnyH_take (i := 30) (v := ?_) rfl (by kernel_rfl) (by kernel_rfl) (by kernel_rfl) (fun _ _ _ h => h) (Or.inl ⟨by kernel_rfl, ?_⟩) hS ?_
          rotate_left
          · intro W hW; go_simp; try with_reducible rfl
          refine wpAnyH_take (i := 31) (v := ?_) rfl (by kernel_rfl) (by kernel_rfl) (by kernel_rfl) (fun _ _ _ h => h) (Or.inl ⟨by kernel_rfl, ?_⟩) hS ?_
          rotate_left
          · intro W hW; go_simp; try with_reducible rfl
          refine wpAnyH_take (i := 32) (v := ?_) rfl (by kernel_rfl) (by kernel_rfl) (by kernel_rfl) (fun _ _ _ h => h) (Or.inl ⟨by kernel_rfl, ?_⟩) hS ?_
          rotate_left
          · intro W hW; go_simp; try with_reducible rfl
          refine wpAnyH_take (i := 33) (v := ?_) rfl (by kernel_rfl) (by kernel_rfl) (by kernel_rfl) (fun _ _ _ h => h) (Or.inl ⟨by kernel_rfl, ?_⟩) hS ?_
          rotate_left
          · intro W hW; go_simp; try with_reducible rfl
          refine wpAnyH_ready (rs := [34]) (by kernel_rfl) (by simp) ?_
          refine AllReadyH.cons rfl (fun K hK => ?_) AllReadyH.nil
          go_simp
          refine (len_none _).mono ?_
          rintro e w6 ⟨rfl, rfl⟩
          have hT := hS
          go_simp
          refine hK.out _ _ ?_ (fun hN => ?_)
          · first | exact hT | exact hS | exact hS.alloc hS.size _ | exact hS.drew
          clear hK K
          try clear hT
          clear hS
          have hS := hN
          clear hN
          refine wpAnyH_take (i := 35) (v := ?_) rfl (by kernel_rfl) (by kernel_rfl) (by kernel_rfl) (fun _ _ _ h => h) (Or.inl ⟨by kernel_rfl, ?_⟩) hS ?_
          rotate_left
          · intro W hW; go_simp; try with_reducible rfl
          refine wpAnyH_take (i := 36) (v := ?_) rfl (by kernel_rfl) (by kernel_rfl) (by kernel_rfl) (fun _ _ _ h => h) (Or.inl ⟨by kernel_rfl, ?_⟩) hS ?_
          rotate_left
          · intro W hW; go_simp; try with_reducible rfl
          refine wpAnyH_take (i := 37) (v := ?_) rfl (by kernel_rfl) (by kernel_rfl) (by kernel_rfl) (fun _ _ _ h => h) (Or.inl ⟨by kernel_rfl, ?_⟩) hS ?_
          rotate_left
          · intro W hW; go_simp; try with_reducible rfl
          refine wpAnyH_take (i := 38) (v := ?_) rfl (by kernel_rfl) (by kernel_rfl) (by kernel_rfl) (fun _ _ _ h => h) (Or.inl ⟨by kernel_rfl, ?_⟩) hS ?_
          rotate_left
          · intro W hW; go_simp; try with_reducible rfl
          refine wpAnyH_ready (rs := [39]) (by kernel_rfl) (by simp) ?_
          refine AllReadyH.cons rfl (fun K hK => ?_) AllReadyH.nil
          go_simp
          refine (room_none _).mono ?_
          rintro e w6 ⟨rfl, B6⟩
          have hT := hS.trans (B6.mono hS.size)
          go_simp
          refine hK.out _ _ ?_ (fun hN => ?_)
          · first | exact hT | exact hS | exact hS.alloc hS.size _ | exact hS.drew
          clear hK K
          try clear hT
          clear hS
          have hS := hN
          clear hN
          refine wpAnyH_take (i := 40) (v := ?_) rfl (by kernel_rfl) (by kernel_rfl) (by kernel_rfl) (fun _ _ _ h => h) (Or.inl ⟨by kernel_rfl, ?_⟩) hS ?_
          rotate_left
          · intro W hW; go_simp; try with_reducible rfl
          refine wpAnyH_take (i := 41) (v := ?_) rfl (by kernel_rfl) (by kernel_rfl) (by kernel_rfl) (fun _ _ _ h => h) (Or.inl ⟨by kernel_rfl, ?_⟩) hS ?_
          rotate_left
          · intro W hW; go_simp; try with_reducible rfl
          refine wpAnyH_take (i := 42) (v := ?_) rfl (by kernel_rfl) (by kernel_rfl) (by kernel_rfl) (fun _ _ _ h => h) (Or.inl ⟨by kernel_rfl, ?_⟩) hS ?_
          rotate_left
          · intro W hW; go_simp; try with_reducible rfl
          refine wpAnyH_done (by kernel_rfl) ?_ _
          go_simp
          have HB19 := Lib.hid (HB18.out.trans (hS.mono HB18.out.size))
          go_wp2_with fail
          go_ret
          exact ⟨rfl, HB19.out⟩
theorem own_all {m : MsgR} {w : World} (h : MIn w w.heap.size m) (hn : m.n ≤ 9223372036854775807) :
    Calls Try.prog 7 #[m.vals] w fun e w' => e = .returned (.bool true) ∧ Below w.heap.size w w' :=
  own_walk m.fr m.tt m.kd m.vol m.life m.id m.cd m.has m.key m.ck m.g m.a m.n m.c m.l w h.hb h.id1 hn
end Go.Proofs.Ytboadalojimdlaa
