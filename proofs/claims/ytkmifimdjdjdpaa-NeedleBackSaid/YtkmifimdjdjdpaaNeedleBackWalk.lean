/-
  The walk of corncriblaw03.NeedleBack.
-/
import Derived.Test.YtkmifimdjdjdpaaNdlAlive
namespace Go.Proofs.Ytkmifimdjdjdpaa
open Go.RowKit

theorem nput_len (n : Nat) (h : n ≤ 4096) : 32 + n + padn n ≤ 5000 ∧ 32 ≤ 32 + n + padn n := by unfold padn; omega

/-- A byte one more. -/
theorem plus_one (x : BitVec 8) : ((x.toNat : Int) + 1) % 256 = ((x + 1#8).toNat : Int) := by
  have := x.isLt
  rw [BitVec.toNat_add, show (1#8).toNat = 1 from rfl]
  omega

/-- What is so at each round's head. -/
def Back1 (W0 : World) (X : Nat) (key ck : Nat) (g : Bool) (av : Option Addr) (n cv b3 m c3 : Nat) (L : List (BitVec 8)) (base : Nat) (wr : World) : Prop :=
  Below W0.heap.size W0 wr ∧ Blk wr X 27 #[.int .u64 key, .int .u32 ck, .bool g, .slice av n cv] ∧
    (∃ lx : List (BitVec 8), wr.ownsRow base 5 1 (.slice av n cv) n (lx.map bv) ∧ ∃ base3, wr.ownsRow base3 5 1 (.slice (some ⟨b3, 0, none⟩) m c3) m (L.map bv))

set_option maxRecDepth 100000 in
set_option maxHeartbeats 4000000 in
theorem nback_walk (key ck : Nat) (g : Bool) (a : Option Addr) (n c : Nat) (l : List (BitVec 8)) (a' : Option Addr) (n' c' : Nat) (l' : List (BitVec 8)) (t : Int) (w : World) (h : BSl w w.heap.size a n l) (h' : BSl w w.heap.size a' n' l')
    (hk : key < 18446744073709551616) (hck : ck < 4294967296) (hn : n ≤ 9223372036854775807) (ht0 : 0 ≤ t) (ht1 : t ≤ 65535) :
    Calls Try.prog 10 #[.agg #[.int .u64 key, .int .u32 ck, .bool g, .slice a n c], .slice a' n' c', .int .u16 t] w fun e w' => e = .returned (.bool true) ∧ Below w.heap.size w w' := by
  obtain ⟨W0, hW0⟩ : ∃ W0, w.alloc (.cells #[.int .u64 key, .int .u32 ck, .bool g, .slice a n c] 32) = W0 := ⟨_, rfl⟩
  have hK1 : Blk W0 w.heap.size 32 #[.int .u64 key, .int .u32 ck, .bool g, .slice a n c] := by rw [← hW0]; exact Blk.made w _ _
  have BA : Below w.heap.size w W0 := by rw [← hW0]; exact (Below.refl _ _).alloc (Nat.le_refl _) _
  have C1 := Lib.hid fun (W : World) (B : Below W0.heap.size W0 W) => (hK1.below B hK1.lt).four
  have H1 := Lib.hid fun (W : World) (B : Below W0.heap.size W0 W) => (h.below (BA.trans (B.mono BA.size))).more (BA.trans (B.mono BA.size)).size
  have H2 := Lib.hid fun (W : World) (B : Below W0.heap.size W0 W) => (h'.below (BA.trans (B.mono BA.size))).more (BA.trans (B.mono BA.size)).size
  have HL := Lib.hid h.1
  have HL' := Lib.hid h'.1
  have H0' := Lib.hid (bsl_nil0 h')
  have BW := Lib.hid fun (W : World) (B : Below W0.heap.size W0 W) => BA.trans (B.mono BA.size)
  clear hK1 BA h h'
  by_cases hbig : 300 < n'
  · go_enter Try.func10, Try.ntmps10
    go_wp2_with fail
    clear hW0
    refine (needle_alive _).mono ?_
    rintro e W1 ⟨rfl, B1⟩
    go_wp2_with fail
    go_ret
    exact ⟨rfl, BW.out _ B1⟩
  have hn' : n' ≤ 300 := by omega
  clear hbig
  go_enter Try.func10, Try.ntmps10
  go_wp2_with fail
  clear hW0
  refine (needle_alive _).mono ?_
  rintro e W1 ⟨rfl, B1⟩
  obtain ⟨p0, p1, p2, p3⟩ := C1.out W1 B1
  go_wp2_with fail
  refine (ref3_check key ck g a n c W1 hn).mono ?_
  rintro e W2 ⟨rfl, B2⟩
  clear p0 p1 p2 p3
  have B2 := B1.trans (B2.mono B1.size)
  clear B1
  by_cases hok : chk g n = 0
  · rw [hok]
    have hn4 := (chk_ok hok).1
    have P1 := Lib.hid fun (W : World) (B : Below W0.heap.size W0 W) => nput_ok key ck g a n c l W (H1.out W B) hk hck hok
    have hplen := nput_len n hn4
    have hLlen : (ndBytes key ck g l).length = 32 + n + padn n := by rw [ndBytes_length, HL.out]
    have G1 := Lib.hid (ndGet_bytes key ck g l l' hk hck (by rw [HL.out]; exact hok))
    have G2 := Lib.hid fun k (hcut : k < (ndBytes key ck g l).length) => ndGet_cut key ck g l k hk hck (by rw [HL.out]; exact hok) hcut
    have G3 := ndGet_bytes key ck g l [] hk hck (by rw [HL.out]; exact hok)
    rw [List.append_nil] at G3
    rw [HL.out] at G1 G3
    have G3 := Lib.hid G3
    generalize ndBytes key ck g l = L at *
    generalize 32 + n + padn n = m at *
    obtain ⟨i, hi, him⟩ : ∃ i : Nat, t % (m : Int) = i ∧ i < m := by
      have h1 := Int.emod_nonneg t (show (m : Int) ≠ 0 by omega)
      have h2 := Int.emod_lt_of_pos t (show (0 : Int) < (m : Int) by omega)
      exact ⟨(t % (m : Int)).toNat, by omega, by omega⟩
    have HLL := Lib.hid hLlen
    obtain ⟨p0, p1, p2, p3⟩ := C1.out W2 B2
    have HOK := Lib.hid hok
    clear hLlen hok
    go_wp2_with fail
    refine (P1.out W2 B2).mono ?_
    rintro e W3 ⟨b3, c3, rfl, ho3, B3⟩
    have hc3 := own_cap ho3
    have hz3 := (ho3.lt b3 rfl)
    have B3 := B2.trans (B3.mono B2.size)
    clear p0 p1 p2 p3 B2
    obtain ⟨g1, cap1, V1, g2, cap2, V2, hr1, hr2, ho4, Bw⟩ := append_two c3 (bsl_own ho3) (Nat.le_refl _) (fun e => by cases e) (by omega) c' (H2.out W3 B3) (Nat.le_refl _) H0'.out (by omega)
    have hV := Bw.size
    have ho3 := own_below ho3 Bw (Nat.le_refl _)
    have B4 := B3.trans (Bw.mono B3.size)
    have B4s := B4.size
    clear Bw B3
    go_wp2_with (first
      | (at_builtin; refine list_run (by rfl) _ _ rfl rfl rfl hr1 ?_; clear hr1)
      | (at_builtin; refine list_run (by rfl) _ _ rfl rfl rfl hr2 ?_; clear hr2))
    refine (nget_any (some ⟨g2, 0, none⟩) (m + n') cap2 (L ++ l') V2 (bsl_own ho4) (own_cap ho4) (by omega)).mono ?_
    intro e W5 hgot
    obtain ⟨B5, av, cv, rfl, hcv, hox⟩ := hgot.is G1.out
    have ho3 := own_below ho3 B5 (Nat.le_refl _)
    have B5 := B4.trans (B5.mono B4.size)
    rw [HL.out] at hox hcv ⊢
    clear hgot ho4 B4
    have hgx := Lib.hid (fun q (e : (Value.slice av n cv).ownBlock = some q) => hox.lt q e)
    have hKx := Lib.hid (Blk.made W5 27 #[.int .u64 key, .int .u32 ck, .bool g, .slice av n cv])
    have B6 := B5.alloc B5.size (.cells #[.int .u64 key, .int .u32 ck, .bool g, .slice av n cv] 27)
    have HO3 := Lib.hid ((ho3.alloc (.cells #[.int .u64 key, .int .u32 ck, .bool g, .slice av n cv] 27)))
    have HOX := Lib.hid (hox.alloc (.cells #[.int .u64 key, .int .u32 ck, .bool g, .slice av n cv] 27))
    have HCUT := Lib.hid (G2.out i (by rw [HLL.out]; exact him))
    clear B5 ho3 hox
    go_wp2_with fail
    clear hi
    refine (nget_any (some ⟨b3, 0, none⟩) i c3 (L.take i) _ ((bsl_own HO3.out).prefix (by omega)) (by omega) (by omega)).mono ?_
    intro e W7 hgot
    obtain ⟨B7, av7, cv7, rfl, -, -⟩ := hgot.is HCUT.out
    have HK7 := Lib.hid (hKx.out.below B7 hKx.out.lt)
    have HO3 := Lib.hid (own_below HO3.out B7 (Nat.le_refl _))
    have HOX := Lib.hid (own_below HOX.out B7 (Nat.le_refl _))
    have B7 := B6.trans (B7.mono B6.size)
    clear hgot B6 hKx
    have B8 := B7.alloc B7.size (.cells #[.int .u64 0, .int .u32 0, .bool false, .slice av7 0 cv7] 27)
    have HK8 := Lib.hid (HK7.out.alloc (.cells #[.int .u64 0, .int .u32 0, .bool false, .slice av7 0 cv7] 27))
    have HO3 := Lib.hid (HO3.out.alloc (.cells #[.int .u64 0, .int .u32 0, .bool false, .slice av7 0 cv7] 27))
    have HOX := Lib.hid (HOX.out.alloc (.cells #[.int .u64 0, .int .u32 0, .bool false, .slice av7 0 cv7] 27))
    obtain ⟨p0, p1, p2, p3⟩ := C1.out _ B8
    obtain ⟨q0, q1, q2, q3⟩ := HK8.out.four
    clear B7 HK7
    go_wp2_with fail
    refine (code_c 0 _ (by decide)).mono ?_
    rintro e w6 ⟨rfl, rfl⟩
    go_wp2_with fail
    refine (code_c 0 _ (by decide)).mono ?_
    rintro e w6 ⟨rfl, rfl⟩
    go_wp2_with fail
    refine (code_c 3 _ (by decide)).mono ?_
    rintro e w6 ⟨rfl, rfl⟩
    have hbx := Lib.hid (bsl_own HOX.out)
    have SM := Lib.hid (needle_same key ck g av n cv l key ck g a n c l _ (bsl_own HOX.out) (H1.out _ B8))
    rw [show ndSame key ck g l key ck g l = true from by unfold ndSame; simp] at SM
    go_wp2_with fail
    refine SM.out.mono ?_
    rintro e W9 ⟨rfl, B9⟩
    have HK9 := Lib.hid (HK8.out.below B9 HK8.out.lt)
    have HO3 := Lib.hid (own_below HO3.out B9 (Nat.le_refl _))
    have HOX := Lib.hid (own_below HOX.out B9 (Nat.le_refl _))
    have B9 := B8.trans (B9.mono B8.size)
    clear B8 HK8 p0 p1 p2 p3 q0 q1 q2 q3 SM
    go_wp2_with fail
    go_loopw [15] (fun iv wr => ∃ i : Nat, i ≤ n ∧ iv = .int .i64 i ∧ Back1 W0 W5.heap.size key ck g av n cv b3 m c3 L V2.heap.size wr) (fun iv _ => n - (intOf iv).toNat)
    case atStart => exact ⟨0, by omega, rfl, B9, HK9.out, l, HOX.out, W2.heap.size, HO3.out⟩
    case round =>
      obtain ⟨j, hj, rfl, B, hK, lx, hox, base, ho3⟩ := hrel
      obtain ⟨q0, q1, q2, q3⟩ := hK.four
      by_cases hlt : j < n
      · obtain ⟨gx, cx, e, hgx1, hgx2⟩ := hox.form (by omega)
        injection e with e _ e2
        subst e e2
        have hgl := hgx.out gx rfl
        have hll : lx.length = n := by simpa using hox.1
        obtain ⟨y, hy⟩ : ∃ y, lx.getD j 0 = y := ⟨_, rfl⟩
        have hcy : wr.cell? ⟨gx, j, none⟩ = some (.int .u8 (y.toNat : Int)) := by
          rw [hox.cellAt j (by omega), List.getElem?_map, ← hy]
          simp [List.getD, show j < lx.length by omega, bv]
        have hfy : wr.frozen? ⟨gx, j, none⟩ = false := hox.frozenAt _
        obtain ⟨ho1, hgr⟩ := hox.stored j (bv (y + 1#8))
        rw [← List.map_set] at ho1
        have hKn : Blk (wr.setCell ⟨gx, j, none⟩ (bv (y + 1#8))) W5.heap.size _ _ := hK.grown hgr (by intro e; injection e with e; omega)
        have ho3n := ho3.kept hgr (.inr (by intro e; have e : some b3 = some gx := e; injection e with e; omega))
        have Bn := B.grown hgr B.size (fun q e => by injection e with e; have := B4s; omega)
        have HX := Lib.hid (show Back1 W0 W5.heap.size key ck g (some ⟨gx, 0, none⟩) n cv b3 m c3 L V2.heap.size ((wr.setCell ⟨gx, j, none⟩ (bv (y + 1#8))).drew) from ⟨Bn.drew, hKn.drew, _, ho1.drew, base, ho3n.drew⟩)
        have hpl := plus_one y
        unfold bv at HX
        have hj0 : (0 : Int) ≤ j := by omega
        have hj1 : (j : Int) < n := by omega
        have hlt' : decide ((j : Int) < n) = true := by rw [decide_eq_true_eq]; exact hj1
        have HPL := Lib.hid hpl
        clear ho1 hgr hKn ho3n Bn hpl hox ho3 B hK hy
        go_wp2_with fail
        go_region
        all_goals
          go_wp2_with fail
          rw [HPL.out]
          refine ⟨⟨j + 1, by omega, by go_num, HX.out⟩, ?_⟩
          simp [intOf]; omega
      · obtain rfl : j = n := by omega
        have hlt' : decide ((j : Int) < j) = false := by simp
        have HO := Lib.hid ho3
        have hBw := BW.out wr B
        clear hox hK ho3
        go_wp2_with fail
        clear q0 q1 q2 q3
        refine (nget_any (some ⟨b3, 0, none⟩) m c3 L wr (bsl_own HO.out) hc3 (by omega)).mono ?_
        intro e W10 hgot
        obtain ⟨B10, av10, cv10, rfl, hcv10, hox10⟩ := hgot.is G3.out
        rw [HL.out] at hox10 ⊢
        have B10 := B.trans (B10.mono B.size)
        have B11 := B10.alloc B10.size (.cells #[.int .u64 key, .int .u32 ck, .bool g, .slice av10 j cv10] 27)
        have hK11 := Blk.made W10 27 #[.int .u64 key, .int .u32 ck, .bool g, .slice av10 j cv10]
        obtain ⟨q0, q1, q2, q3⟩ := hK11.four
        obtain ⟨p0, p1, p2, p3⟩ := C1.out _ B11
        have hox11 := hox10.alloc (.cells #[.int .u64 key, .int .u32 ck, .bool g, .slice av10 j cv10] 27)
        have SM := Lib.hid (needle_same key ck g av10 j cv10 l key ck g a j c l _ (bsl_own hox11) (H1.out _ B11))
        rw [show ndSame key ck g l key ck g l = true from by unfold ndSame; simp] at SM
        clear hgot hox10 hox11 B10 hK11
        go_wp2_with fail
        refine (code_c 0 _ (by decide)).mono ?_
        rintro e w6 ⟨rfl, rfl⟩
        go_wp2_with fail
        refine SM.out.mono ?_
        rintro e W12 ⟨rfl, B12⟩
        go_wp2_with fail
        go_ret
        exact ⟨rfl, BW.out _ (B11.trans (B12.mono B11.size))⟩
  · have h12 : chk g n = 1 ∨ chk g n = 2 := by unfold chk at hok ⊢; split <;> (try split) <;> simp_all
    rcases h12 with h12 | h12
    all_goals
      rw [h12]
      clear h12 hok
      go_wp2_with fail
      go_ret
      exact ⟨rfl, BW.out _ B2⟩

end Go.Proofs.Ytkmifimdjdjdpaa
