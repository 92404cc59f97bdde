/-
  The walk of corncriblaw05.CheckTurned.
-/
import Derived.Test.YtkmifimdjdjdpaaChkBack
import Derived.Test.YtkmifimdjdjdpaaChkAlive
import Derived.Test.YtkmifimdjdjdpaaChkRefRight
namespace Go.Proofs.Ytkmifimdjdjdpaa
open Go.RowKit

set_option maxRecDepth 100000 in
set_option maxHeartbeats 4000000 in
theorem turned_walk (v g u : Int) (a : Option Addr) (n c : Nat) (ps : List PosR) (t : Int) (w : World) (h : PSl w w.heap.size a n ps) (hn : n ≤ 9223372036854775807) (ht0 : 0 ≤ t) (ht1 : t ≤ 65535) :
    Calls Try.prog 8 #[.agg #[.int .i64 v, .int .i64 g, .int .i64 u, .slice a n c], .int .u16 t] w fun e w' => e = .returned (.bool true) ∧ Below w.heap.size w w' := by
  obtain ⟨W0, hW0⟩ : ∃ W0, w.alloc (.cells #[.int .i64 v, .int .i64 g, .int .i64 u, .slice a n c] 40) = W0 := ⟨_, rfl⟩
  have hK1 : Blk W0 w.heap.size 40 #[.int .i64 v, .int .i64 g, .int .i64 u, .slice a n c] := by rw [← hW0]; exact Blk.made w _ _
  have BA : Below w.heap.size w W0 := by rw [← hW0]; exact (Below.refl _ _).alloc (Nat.le_refl _) _
  have C1 := Lib.hid fun (W : World) (B : Below W0.heap.size W0 W) => (hK1.below B hK1.lt).four
  have H1 := Lib.hid fun (W : World) (B : Below W0.heap.size W0 W) => (h.below (BA.trans (B.mono BA.size))).more (BA.trans (B.mono BA.size)).size
  have BW := Lib.hid fun (W : World) (B : Below W0.heap.size W0 W) => BA.trans (B.mono BA.size)
  have HL := Lib.hid h.1
  have HF := Lib.hid h.2.1
  clear hK1 BA h
  by_cases hbig : 60 < n
  · go_enter Try.func8, Try.ntmps8
    go_wp2_with fail
    clear hW0
    refine (chk_alive _).mono ?_
    rintro e W1 ⟨rfl, B1⟩
    obtain ⟨p0, p1, p2, p3⟩ := C1.out W1 B1
    go_wp2_with fail
    go_ret
    exact ⟨rfl, BW.out _ B1⟩
  have hn60 : n ≤ 60 := by omega
  clear hbig
  go_enter Try.func8, Try.ntmps8
  go_wp2_with fail
  clear hW0
  refine (chk_alive _).mono ?_
  rintro e W1 ⟨rfl, B1⟩
  obtain ⟨p0, p1, p2, p3⟩ := C1.out W1 B1
  go_wp2_with fail
  refine (rright_any v g u a n c ps W1 (H1.out W1 B1) hn).mono ?_
  rintro e W2 ⟨rfl, B2⟩
  clear p0 p1 p2 p3
  have B2 := B1.trans (B2.mono B1.size)
  clear B1
  have hcs := ck_cases v g u ps
  by_cases hok : ckR v g u ps = 0
  · obtain ⟨-, ⟨a1, a2, a3, a4, a5, a6⟩, -⟩ := ck_ok hok
    obtain ⟨v, rfl⟩ : ∃ k : Nat, v = k := ⟨v.toNat, by omega⟩
    obtain ⟨g, rfl⟩ : ∃ k : Nat, g = k := ⟨g.toNat, by omega⟩
    obtain ⟨u, rfl⟩ : ∃ k : Nat, u = k := ⟨u.toNat, by omega⟩
    rw [hok]
    have P1 := Lib.hid fun (ax : Option Addr) (cx : Nat) (W : World) (hp : PSl W W.heap.size ax n ps) => pput_ok v g u ax n cx ps W hp hok
    have hLlen : (ckBytes v g u ps).length = 24 + 24 * n := by rw [ckBytes, List.length_append, ckBody_length, Num.le_length, HL.out]; omega
    have HT := Lib.hid fun (j : Nat) (x : BitVec 8) (hj : j < (ckBytes v g u ps).length) => ckGet_turned v g u ps j x hj
    have hm1 : 24 + 24 * n ≤ 1464 := by omega
    have hm2 : 24 ≤ 24 + 24 * n := by omega
    generalize ckBytes v g u ps = L at *
    generalize 24 + 24 * n = m at *
    obtain ⟨i, hi, him⟩ : ∃ i : Nat, t % (8 * (m : Int)) = i ∧ i < 8 * m := by
      have h1 := Int.emod_nonneg t (show 8 * (m : Int) ≠ 0 by omega)
      have h2 := Int.emod_lt_of_pos t (show (0 : Int) < 8 * (m : Int) by omega)
      exact ⟨(t % (8 * (m : Int))).toNat, by omega, by omega⟩
    obtain ⟨p0, p1, p2, p3⟩ := C1.out W2 B2
    have HLL := Lib.hid hLlen
    clear hLlen hok hcs a1 a2 a3 a4 a5 a6
    go_wp2_with fail
    refine (ofc_any v g u a n c ps W2 (H1.out W2 B2) (by omega)).mono ?_
    rintro e W3 ⟨x, rfl, hx, B3⟩
    obtain ⟨ax, cx, rfl, hcx⟩ := own_form_any hx
    have B3 := B2.trans (B3.mono B2.size)
    have hpx := psl_own hx HF.out
    clear p0 p1 p2 p3 B2 hx
    go_wp2_with fail
    refine (P1.out ax cx W3 hpx).mono ?_
    rintro e W4 ⟨b4, c4, rfl, ho4, B4⟩
    have hc4 := own_cap ho4
    have hz4 := (ho4.lt b4 rfl)
    have hs3 := B3.size
    have B4 := B3.trans (B4.mono B3.size)
    clear hpx B3
    have hj : i / 8 < m := by omega
    obtain ⟨y, hy⟩ : ∃ y, L.getD (i / 8) 0 = y := ⟨_, rfl⟩
    have hcell : W4.cell? ⟨b4, i / 8, none⟩ = some (.int .u8 (y.toNat : Int)) := by
      obtain ⟨b, off, e, -, h1⟩ := (BSl.row ho4 _ rfl).at_ hj
      cases e
      rw [Nat.zero_add, hy] at h1
      exact h1
    have hfr : W4.frozen? ⟨b4, i / 8, none⟩ = false := ho4.frozenAt _
    have HTV := Lib.hid (flip_value y (i % 8) (by omega))
    have HN := Lib.hid (flip_ne y (i % 8) (by omega))
    have HY := Lib.hid hy
    have HO4 := Lib.hid ho4
    have HB4 := Lib.hid B4
    clear hy ho4 B4
    go_wp2_with fail
    rw [HTV.out]
    have hst := HO4.out.stored (i / 8) (bv (y ^^^ BitVec.ofNat 8 (2 ^ (i % 8))))
    rw [← List.map_set] at hst
    obtain ⟨ho5, hgr5⟩ := hst
    have B5 := HB4.out.grown hgr5 HB4.out.size (fun q e => by injection e with e; omega)
    have hne := HT.out (i / 8) (y ^^^ BitVec.ofNat 8 (2 ^ (i % 8))) (by rw [HLL.out]; exact hj) (by rw [HY.out]; exact HN.out)
    unfold bv at ho5 hgr5 B5
    generalize W4.setCell ⟨b4, i / 8, none⟩ (.int .u8 ((y ^^^ BitVec.ofNat 8 (2 ^ (i % 8))).toNat : Int)) = W5 at *
    generalize L.set (i / 8) (y ^^^ BitVec.ofNat 8 (2 ^ (i % 8))) = L5 at *
    have hv5 := ckGet_vals L5
    have HG := Lib.hid (cget_any (some ⟨b4, 0, none⟩) m c4 L5 W5 (BSl.row ho5 L5 rfl) hc4 (by omega))
    clear hcell hfr hgr5 ho5 HY HN HTV HO4 HB4
    refine HG.out.mono ?_
    rintro e W6 ⟨B6, v6, rfl, hv6⟩
    have B6 := B5.trans (B6.mono B5.size)
    obtain rfl : v6 = .agg #[.int .i64 0, .int .i64 0, .int .i64 0, .slice none 0 0] := by
      rcases hv6 with h | h
      · exact h.2
      · exact absurd h.1 hne
    have hk : ckGet L5 = 3 ∨ ckGet L5 = 4 ∨ ckGet L5 = 5 := hv5.resolve_left hne
    have HB7 := Lib.hid (B6.alloc B6.size (.cells #[.int .i64 0, .int .i64 0, .int .i64 0, .slice none 0 0] 46))
    generalize ckGet L5 = k at *
    clear hv6 hv5 hne B5 B6 HG
    rcases hk with rfl | rfl | rfl
    all_goals
      go_wp2_with fail
      refine (code_c _ _ (by decide)).mono ?_
      rintro e w6 ⟨rfl, rfl⟩
      go_wp2_with fail
      go_ret
      exact ⟨rfl, BW.out _ HB7.out⟩
  · rcases hcs.resolve_left hok with h12 | h12
    all_goals
      rw [h12]
      clear h12 hok hcs
      go_wp2_with fail
      go_ret
      exact ⟨rfl, BW.out _ B2⟩

end Go.Proofs.Ytkmifimdjdjdpaa
