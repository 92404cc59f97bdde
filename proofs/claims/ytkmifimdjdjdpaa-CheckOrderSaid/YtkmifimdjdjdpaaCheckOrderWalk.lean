/-
  The walk of corncriblaw05.CheckOrder.
-/
import Derived.Test.YtkmifimdjdjdpaaChkBack
import Derived.Test.YtkmifimdjdjdpaaChkAlive
import Derived.Test.YtkmifimdjdjdpaaChkRefRight
import Derived.Deep.RegionHeld3
namespace Go.Proofs.Ytkmifimdjdjdpaa
open Go.RowKit

theorem flatP_set (ps : List PosR) (k : Nat) (q : PosR) (hk : k < ps.length) :
    flatP (ps.set k q) = (((((flatP ps).set (k * 5) (.int .u64 q.key)).set (k * 5 + 1) (.int .i64 q.off)).set (k * 5 + 2) (.int .i64 q.len)).set (k * 5 + 3) (.int .u32 q.ck)).set (k * 5 + 4) (.bool q.gone) := by
  induction ps generalizing k with
  | nil => simp at hk
  | cons p ps ih =>
    cases k with
    | zero => simp [flatP, PosR.cells]
    | succ k =>
      have hs : ∀ (j : Nat) (u : Value) (L : List Value), (p.cells ++ L).set ((k + 1) * 5 + j) u = p.cells ++ L.set (k * 5 + j) u := fun j u L => by
        rw [List.set_append_right _ _ (by rw [PosR.cells_length]; omega), PosR.cells_length, show (k + 1) * 5 + j - 5 = k * 5 + j from by omega]
      show p.cells ++ flatP (ps.set k q) = _
      rw [ih k (by simpa using hk)]
      show _ = (((((p.cells ++ flatP ps).set ((k + 1) * 5 + 0) (.int .u64 q.key)).set ((k + 1) * 5 + 1) (.int .i64 q.off)).set ((k + 1) * 5 + 2) (.int .i64 q.len)).set ((k + 1) * 5 + 3) (.int .u32 q.ck)).set ((k + 1) * 5 + 4) (.bool q.gone)
      rw [hs, hs, hs, hs, hs]
      rfl

theorem flatP_setkey (ps : List PosR) (k key : Nat) (hk : k < ps.length) :
    flatP (ps.set k ⟨key, (ps.getD k dP).off, (ps.getD k dP).len, (ps.getD k dP).ck, (ps.getD k dP).gone⟩) = (flatP ps).set (k * 5) (.int .u64 key) := by
  induction ps generalizing k with
  | nil => simp at hk
  | cons p ps ih =>
    cases k with
    | zero => simp [flatP, PosR.cells]
    | succ k =>
      show p.cells ++ flatP (ps.set k ⟨key, (ps.getD k dP).off, (ps.getD k dP).len, (ps.getD k dP).ck, (ps.getD k dP).gone⟩) = (p.cells ++ flatP ps).set ((k + 1) * 5) (.int .u64 key)
      rw [ih k (by simpa using hk), List.set_append_right _ _ (by rw [PosR.cells_length]; omega), PosR.cells_length, show (k + 1) * 5 - 5 = k * 5 from by omega]

/-- What holds at each step of the two regions that write. -/
def OrdS (W0 : World) (gx : Nat) (v g u : Nat) (bx n cx : Nat) (W : World) : Prop :=
  Below W0.heap.size W0 W ∧ Blk W gx 46 #[.int .i64 v, .int .i64 g, .int .i64 u, .slice (some ⟨bx, 0, none⟩) n cx]
theorem OrdS.drew {W0 W : World} {gx v g u bx n cx : Nat} (h : OrdS W0 gx v g u bx n cx W) : OrdS W0 gx v g u bx n cx W.drew := ⟨h.1.drew, h.2.drew⟩
theorem OrdS.grown {W0 W W' : World} {gx v g u bx n cx : Nat} (h : OrdS W0 gx v g u bx n cx W) (hg : W.grownBy W' (some bx)) (h1 : bx ≠ gx) (h2 : W0.heap.size ≤ bx) : OrdS W0 gx v g u bx n cx W' :=
  ⟨h.1.grown hg h.1.size (fun k e => by injection e with e; omega), h.2.grown hg (fun e => by injection e with e; omega)⟩

theorem own_set5 {W : World} {base b n cap k : Nat} {T : TypeId} {ps : List PosR} (h : W.ownsRow base T 5 (.slice (some ⟨b, 0, none⟩) n cap) n (flatP ps)) (hk : k < ps.length) (q : PosR) :
    (((((W.setCell ⟨b, k * 5, none⟩ (.int .u64 q.key)).setCell ⟨b, k * 5 + 1, none⟩ (.int .i64 q.off)).setCell ⟨b, k * 5 + 2, none⟩ (.int .i64 q.len)).setCell ⟨b, k * 5 + 3, none⟩ (.int .u32 q.ck)).setCell ⟨b, k * 5 + 4, none⟩ (.bool q.gone)).ownsRow base T 5 (.slice (some ⟨b, 0, none⟩) n cap) n (flatP (ps.set k q)) ∧
    W.grownBy (((((W.setCell ⟨b, k * 5, none⟩ (.int .u64 q.key)).setCell ⟨b, k * 5 + 1, none⟩ (.int .i64 q.off)).setCell ⟨b, k * 5 + 2, none⟩ (.int .i64 q.len)).setCell ⟨b, k * 5 + 3, none⟩ (.int .u32 q.ck)).setCell ⟨b, k * 5 + 4, none⟩ (.bool q.gone)) (some b) := by
  obtain ⟨h1, g1⟩ := h.stored (k * 5) (.int .u64 q.key)
  obtain ⟨h2, g2⟩ := h1.stored (k * 5 + 1) (.int .i64 q.off)
  obtain ⟨h3, g3⟩ := h2.stored (k * 5 + 2) (.int .i64 q.len)
  obtain ⟨h4, g4⟩ := h3.stored (k * 5 + 3) (.int .u32 q.ck)
  obtain ⟨h5, g5⟩ := h4.stored (k * 5 + 4) (.bool q.gone)
  rw [flatP_set ps k q hk]
  exact ⟨h5, grown_trans g1 (grown_trans g2 (grown_trans g3 (grown_trans g4 g5)))⟩

theorem own_some {W : World} {base k c size : Nat} {T : TypeId} {a : Option Addr} {xs : List Value} (h : W.ownsRow base T size (.slice a k c) k xs) (hk : 0 < k) : ∃ b, a = some ⟨b, 0, none⟩ ∧ base ≤ b := by
  rcases h.2 with ⟨_, e2⟩ | ⟨b, cap, cur, e1, e2, -⟩
  · omega
  · cases e1
    exact ⟨b, rfl, e2⟩
/-- The cells of the i-th position of a row of one's own. -/
theorem own_cells {W : World} {base n c b : Nat} {T : TypeId} {ps : List PosR} (h : W.ownsRow base T 5 (.slice (some ⟨b, 0, none⟩) n c) n (flatP ps)) (i : Nat) (hi : i < n) (hl : ps.length = n) :
    W.cell? ⟨b, i * 5, none⟩ = some (.int .u64 (ps.getD i dP).key) ∧ W.cell? ⟨b, i * 5 + 1, none⟩ = some (.int .i64 (ps.getD i dP).off) ∧ W.cell? ⟨b, i * 5 + 2, none⟩ = some (.int .i64 (ps.getD i dP).len) ∧ W.cell? ⟨b, i * 5 + 3, none⟩ = some (.int .u32 (ps.getD i dP).ck) ∧ W.cell? ⟨b, i * 5 + 4, none⟩ = some (.bool (ps.getD i dP).gone) := by
  have hil : i < ps.length := by omega
  have e : ps.getD i dP = ps[i] := by simp [List.getD, hil]
  have hc : ∀ j, j < 5 → W.cell? ⟨b, i * 5 + j, none⟩ = (ps[i]).cells[j]? := fun j hj => by
    rw [← flatP_at ps i j hj hil]
    exact h.cellAt (i * 5 + j) (by omega)
  rw [e]
  exact ⟨hc 0 (by omega), hc 1 (by omega), hc 2 (by omega), hc 3 (by omega), hc 4 (by omega)⟩

theorem lok_lt {ps : List PosR} {n i : Nat} (h : lokB ps n = true) (hi : i < n) (h0 : 0 < i) : (ps.getD (i - 1) dP).key < (ps.getD i dP).key := by
  induction n with
  | zero => omega
  | succ n ih =>
    rw [lokB, Bool.and_eq_true, Bool.and_eq_true, Bool.or_eq_true] at h
    by_cases e : i = n
    · rw [e]
      rcases h.2 with h2 | h2
      · have := of_decide_eq_true h2; omega
      · exact of_decide_eq_true h2
    · exact ih h.1.1 (by omega)
theorem lok_bad {ps : List PosR} {n i : Nat} (hi : i + 1 < n) (hb : ¬ (ps.getD i dP).key < (ps.getD (i + 1) dP).key) : lokB ps n = false := by
  cases e : lokB ps n with
  | false => rfl
  | true => exact absurd (lok_lt e hi (by omega)) (by simpa using hb)
theorem ckR_bad {v g u : Int} {ps : List PosR} (hl : ps.length ≤ 4096) (h : lokB ps ps.length = false) : ckR v g u ps = 1 := by
  unfold ckR
  rw [if_neg (by omega), h, Bool.and_false, if_neg (by decide)]

theorem getD_set_same {ps : List PosR} {k : Nat} {q : PosR} (h : k < ps.length) : (ps.set k q).getD k dP = q := by simp [List.getD, h]
theorem getD_set_other {ps : List PosR} {k j : Nat} {q : PosR} (h : k ≠ j) : (ps.set k q).getD j dP = ps.getD j dP := by simp [List.getD, List.getElem?_set_ne h]

/-- Two neighbours changed about. -/
theorem swap_bad {v g u : Int} {ps : List PosR} {k : Nat} (hl : ps.length ≤ 4096) (h : lokB ps ps.length = true) (hk : k + 1 < ps.length) :
    ckR v g u ((ps.set k (ps.getD (k + 1) dP)).set (k + 1) (ps.getD k dP)) = 1 := by
  have hlen : ((ps.set k (ps.getD (k + 1) dP)).set (k + 1) (ps.getD k dP)).length = ps.length := by rw [List.length_set, List.length_set]
  refine ckR_bad (by omega) (lok_bad (i := k) (by omega) ?_)
  rw [getD_set_same (by rw [List.length_set]; omega), getD_set_other (by omega), getD_set_same (by omega)]
  have := lok_lt h hk (by omega)
  rw [Nat.add_sub_cancel] at this
  omega
/-- One key twice. -/
theorem twice_bad {v g u : Int} {ps : List PosR} {k : Nat} (hl : ps.length ≤ 4096) (hk : k + 1 < ps.length) (q : PosR) (hq : q.key = (ps.getD k dP).key) :
    ckR v g u (ps.set (k + 1) q) = 1 := by
  refine ckR_bad (by rw [List.length_set]; omega) (lok_bad (i := k) (by rw [List.length_set]; omega) ?_)
  rw [getD_set_same (by omega), getD_set_other (by omega), hq]
  omega
theorem fits_set {ps : List PosR} (h : Fits ps) (k : Nat) {q : PosR} (hq : q.key < 18446744073709551616 ∧ q.ck < 4294967296 ∧ -9223372036854775808 ≤ q.off ∧ q.off ≤ 9223372036854775807 ∧ -9223372036854775808 ≤ q.len ∧ q.len ≤ 9223372036854775807) : Fits (ps.set k q) := by
  intro p hp
  rcases List.mem_or_eq_of_mem_set hp with h1 | h1
  · exact h p h1
  · rw [h1]; exact hq

set_option maxRecDepth 100000 in
set_option maxHeartbeats 2000000 in
theorem corder_walk (v g u : Int) (a : Option Addr) (n c : Nat) (ps : List PosR) (t : Int) (w : World) (h : PSl w w.heap.size a n ps) (hn : n ≤ 9223372036854775807) (ht0 : 0 ≤ t) (ht1 : t ≤ 255) :
    Calls Try.prog 7 #[.agg #[.int .i64 v, .int .i64 g, .int .i64 u, .slice a n c], .int .u8 t] w fun e w' => e = .returned (.bool true) ∧ Below w.heap.size w w' := by
  obtain ⟨W0, hW0⟩ : ∃ W0, w.alloc (.cells #[.int .i64 v, .int .i64 g, .int .i64 u, .slice a n c] 40) = W0 := ⟨_, rfl⟩
  have hK1 : Blk W0 w.heap.size 40 #[.int .i64 v, .int .i64 g, .int .i64 u, .slice a n c] := by rw [← hW0]; exact Blk.made w _ _
  have BA : Below w.heap.size w W0 := by rw [← hW0]; exact (Below.refl _ _).alloc (Nat.le_refl _) _
  have C1 := Lib.hid fun (W : World) (B : Below W0.heap.size W0 W) => (hK1.below B hK1.lt).four
  have H1 := Lib.hid fun (W : World) (B : Below W0.heap.size W0 W) => (h.below (BA.trans (B.mono BA.size))).more (BA.trans (B.mono BA.size)).size
  have BW := Lib.hid fun (W : World) (B : Below W0.heap.size W0 W) => BA.trans (B.mono BA.size)
  have HL := Lib.hid h.1
  have HF := Lib.hid (show Fits ps from h.2.1)
  clear hK1 BA h
  by_cases hbig : 60 < n
  · go_enter Try.func7, Try.ntmps7
    go_wp2_with fail
    clear hW0
    refine (chk_alive _).mono ?_
    rintro e W1 ⟨rfl, B1⟩
    obtain ⟨p0, p1, p2, p3⟩ := C1.out W1 B1
    go_wp2_with fail
    go_ret
    exact ⟨rfl, BW.out _ B1⟩
  have hn60 : n ≤ 60 := by omega
  clear hbig
  go_enter Try.func7, Try.ntmps7
  go_wp2_with fail
  clear hW0
  refine (chk_alive _).mono ?_
  rintro e W1 ⟨rfl, B1⟩
  obtain ⟨p0, p1, p2, p3⟩ := C1.out W1 B1
  go_wp2_with fail
  refine (rright_any v g u a n c ps W1 (H1.out W1 B1) hn).mono ?_
  rintro e W2 ⟨rfl, B2⟩
  clear p0 p1 p2 p3
  have B2 := B1.trans (B2.mono B1.size)
  clear B1
  have hcs := ck_cases v g u ps
  by_cases hok : ckR v g u ps = 0
  · obtain ⟨-, ⟨a1, a2, a3, a4, a5, a6⟩, hlk⟩ := ck_ok hok
    obtain ⟨v, rfl⟩ : ∃ k : Nat, v = k := ⟨v.toNat, by omega⟩
    obtain ⟨g, rfl⟩ : ∃ k : Nat, g = k := ⟨g.toNat, by omega⟩
    obtain ⟨u, rfl⟩ : ∃ k : Nat, u = k := ⟨u.toNat, by omega⟩
    rw [hok]
    have P1 := Lib.hid fun (ax : Option Addr) (cx : Nat) (W : World) (hp : PSl W W.heap.size ax n ps) => pput_ok v g u ax n cx ps W hp hok
    have HLK := Lib.hid hlk
    have HOK := Lib.hid hok
    obtain ⟨p0, p1, p2, p3⟩ := C1.out W2 B2
    clear hok hcs a1 a2 a3 a4 a5 a6 hlk
    go_wp2_with fail
    refine (ofc_any v g u a n c ps W2 (H1.out W2 B2) (by omega)).mono ?_
    rintro e W3 ⟨x, rfl, hx, B3⟩
    obtain ⟨ax, cx, rfl, hcx⟩ := own_form_any hx
    have B3 := B2.trans (B3.mono B2.size)
    have hpx := psl_own hx HF.out
    clear p0 p1 p2 p3 B2 hx
    go_wp2_with fail
    refine (P1.out ax cx W3 hpx).mono ?_
    rintro e W4 ⟨b4, c4, rfl, ho4, B4⟩
    have B4 := B3.trans (B4.mono B3.size)
    obtain ⟨p0, p1, p2, p3⟩ := C1.out W4 B4
    clear hpx B3 ho4
    unfold errc
    go_wp2_with fail
    refine (code_c 0 _ (by decide)).mono ?_
    rintro e w5 ⟨rfl, rfl⟩
    by_cases hn2 : n < 2
    · have BE := BW.out _ B4
      go_wp2_with fail
      go_ret
      exact ⟨rfl, BE⟩
    obtain ⟨k, hk, hkn⟩ : ∃ k : Nat, t % ((n : Int) - 1) = k ∧ k + 1 < n := by
      have h1 := Int.emod_nonneg t (show (n : Int) - 1 ≠ 0 by omega)
      have h2 := Int.emod_lt_of_pos t (show (0 : Int) < (n : Int) - 1 by omega)
      exact ⟨(t % ((n : Int) - 1)).toNat, by omega, by omega⟩
    have hn1 : (2 : Int) ≤ n := by omega
    go_upto_region 11 with fail
    have hcv : ∀ W, Below W0.heap.size W0 W → PSl W W.heap.size a n ps := H1.out
    have HCV := Lib.hid hcv
    clear hcv
    go_wp2_with fail
    refine (ofc_any v g u a n c ps W4 (HCV.out W4 B4) (by omega)).mono ?_
    rintro e W5 ⟨x, rfl, hx, B5⟩
    obtain ⟨ax, cx, rfl, hcx⟩ := own_form_any hx
    obtain ⟨bx, rfl, hbx⟩ := own_some hx (by omega)
    have B4s := B4.size
    have B5 := B4.trans (B5.mono B4.size)
    have hxl := hx.lt bx rfl
    clear p0 p1 p2 p3 B4
    go_upto_region 12 with fail
    have hx6 := hx.alloc (.cells #[.int .i64 v, .int .i64 g, .int .i64 u, .slice (some ⟨bx, 0, none⟩) n cx] 46)
    have hK6 := Blk.made W5 46 #[.int .i64 v, .int .i64 g, .int .i64 u, .slice (some ⟨bx, 0, none⟩) n cx]
    have B6 := B5.alloc B5.size (.cells #[.int .i64 v, .int .i64 g, .int .i64 u, .slice (some ⟨bx, 0, none⟩) n cx] 46)
    have hgx := hxl.2
    clear hx B5
    generalize W5.alloc (.cells #[.int .i64 v, .int .i64 g, .int .i64 u, .slice (some ⟨bx, 0, none⟩) n cx] 46) = W6 at *
    generalize W5.heap.size = gx at *
    obtain ⟨c0, c1, c2, c3, c4⟩ := own_cells hx6 k (by omega) HL.out
    obtain ⟨k1, hk1⟩ : ∃ k1, k + 1 = k1 := ⟨_, rfl⟩
    obtain ⟨d0, d1, d2, d3, d4⟩ := own_cells hx6 k1 (by omega) HL.out
    have hfr : ∀ i, W6.frozen? ⟨bx, i, none⟩ = false := fun i => hx6.frozenAt i
    have hbg : bx ≠ gx := by omega
    have hk0 : (0 : Int) ≤ k := by omega
    have hk2 : (k : Int) < n := by omega
    have hk3 : (0 : Int) ≤ k1 := by omega
    have hk4 : (k1 : Int) < n := by omega
    have hw : IntKind.i64.wrap ((k : Int) + 1) = (k1 : Int) := by rw [IntWalk.i64_in _ (by omega)]; omega
    have HKE := Lib.hid hk1
    have HX6 := Lib.hid hx6
    have HS6 := Lib.hid (show OrdS W0 gx v g u bx n cx W6 from ⟨B6, hK6⟩)
    have hb0 : W0.heap.size ≤ bx := Nat.le_trans B4s hbx
    obtain ⟨q, hq⟩ : ∃ q, ps.getD k dP = q := ⟨_, rfl⟩
    obtain ⟨r, hr⟩ : ∃ r, ps.getD k1 dP = r := ⟨_, rfl⟩
    rw [hq] at c0 c1 c2 c3 c4
    rw [hr] at d0 d1 d2 d3 d4
    have HQ := Lib.hid hq
    have HR := Lib.hid hr
    have hkp : k < ps.length := by rw [HL.out]; omega
    have hkp1 : k1 < ps.length := by rw [HL.out]; omega
    clear hx6 hK6 B6 hq hr hk1 hkn
    go_cut [71] (fun _ wx => OrdS W0 gx v g u bx n cx wx ∧ wx.ownsRow W4.heap.size 60 5 (.slice (some ⟨bx, 0, none⟩) n cx) n (flatP ((ps.set k r).set k1 q)))
    case first =>
      refine wp_region_held_drew (S := OrdS W0 gx v g u bx n cx) (by kernel_rfl) (by exact HS6.out.drew) (fun hS => ?_)
      refine wpAnyH_take (i := 0) (v := ?_) rfl (by kernel_rfl) (by kernel_rfl) (by kernel_rfl) (fun _ _ _ h => h) (Or.inl ⟨by kernel_rfl, ?_⟩) hS ?_
      rotate_left
      · intro W hW; go_simp; try with_reducible rfl
      refine wpAnyH_take (i := 1) (v := ?_) rfl (by kernel_rfl) (by kernel_rfl) (by kernel_rfl) (fun _ _ _ h => h) (Or.inl ⟨by kernel_rfl, ?_⟩) hS ?_
      rotate_left
      · intro W hW; have q3 := hW.2.cell 3; go_simp; try with_reducible rfl
      refine wpAnyH_take (i := 2) (v := ?_) rfl (by kernel_rfl) (by kernel_rfl) (by kernel_rfl) (fun _ _ _ h => h) (Or.inl ⟨by kernel_rfl, ?_⟩) hS ?_
      rotate_left
      · intro W hW; go_simp; try with_reducible rfl
      refine wpAnyH_take (i := 3) (v := ?_) rfl (by kernel_rfl) (by kernel_rfl) (by kernel_rfl) (fun _ _ _ h => h) (Or.inl ⟨by kernel_rfl, ?_⟩) hS ?_
      rotate_left
      · intro W hW; go_simp; try with_reducible rfl
      refine wpAnyH_take (i := 4) (v := ?_) rfl (by kernel_rfl) (by kernel_rfl) (by kernel_rfl) (fun _ _ _ h => h) (Or.inl ⟨by kernel_rfl, ?_⟩) hS ?_
      rotate_left
      · intro W hW; have q3 := hW.2.cell 3; go_simp; try with_reducible rfl
      refine wpAnyH_take (i := 5) (v := ?_) rfl (by kernel_rfl) (by kernel_rfl) (by kernel_rfl) (fun _ _ _ h => h) (Or.inl ⟨by kernel_rfl, ?_⟩) hS ?_
      rotate_left
      · intro W hW; go_simp; try with_reducible rfl
      refine wpAnyH_take (i := 6) (v := ?_) rfl (by kernel_rfl) (by kernel_rfl) (by kernel_rfl) (fun _ _ _ h => h) (Or.inl ⟨by kernel_rfl, ?_⟩) hS ?_
      rotate_left
      · intro W hW; go_simp; try with_reducible rfl
      refine wpAnyH_take (i := 7) (v := ?_) rfl (by kernel_rfl) (by kernel_rfl) (by kernel_rfl) (fun _ _ _ h => h) (Or.inl ⟨by kernel_rfl, ?_⟩) hS ?_
      rotate_left
      · intro W hW; go_simp; try with_reducible rfl
      refine wpAnyH_take (i := 8) (v := ?_) rfl (by kernel_rfl) (by kernel_rfl) (by kernel_rfl) (fun _ _ _ h => h) (Or.inl ⟨by kernel_rfl, ?_⟩) hS ?_
      rotate_left
      · intro W hW; have q3 := hW.2.cell 3; go_simp; try with_reducible rfl
      refine wpAnyH_take (i := 9) (v := ?_) rfl (by kernel_rfl) (by kernel_rfl) (by kernel_rfl) (fun _ _ _ h => h) (Or.inl ⟨by kernel_rfl, ?_⟩) hS ?_
      rotate_left
      · intro W hW; go_simp; try with_reducible rfl
      refine wpAnyH_take (i := 10) (v := ?_) rfl (by kernel_rfl) (by kernel_rfl) (by kernel_rfl) (fun _ _ _ h => h) (Or.inl ⟨by kernel_rfl, ?_⟩) hS ?_
      rotate_left
      · intro W hW; go_simp; try with_reducible rfl
      refine wpAnyH_take (i := 11) (v := ?_) rfl (by kernel_rfl) (by kernel_rfl) (by kernel_rfl) (fun _ _ _ h => h) (Or.inl ⟨by kernel_rfl, ?_⟩) hS ?_
      rotate_left
      · intro W hW; go_simp; try with_reducible rfl
      refine wpAnyH_take (i := 13) (v := ?_) rfl (by kernel_rfl) (by kernel_rfl) (by kernel_rfl) (fun _ _ _ h => h) (Or.inl ⟨by kernel_rfl, ?_⟩) hS ?_
      rotate_left
      · intro W hW; go_simp; try with_reducible rfl
      refine wpAnyH_take (i := 14) (v := ?_) rfl (by kernel_rfl) (by kernel_rfl) (by kernel_rfl) (fun _ _ _ h => h) (Or.inl ⟨by kernel_rfl, ?_⟩) hS ?_
      rotate_left
      · intro W hW; have q3 := hW.2.cell 3; go_simp; try with_reducible rfl
      refine wpAnyH_take (i := 15) (v := ?_) rfl (by kernel_rfl) (by kernel_rfl) (by kernel_rfl) (fun _ _ _ h => h) (Or.inl ⟨by kernel_rfl, ?_⟩) hS ?_
      rotate_left
      · intro W hW; go_simp; try with_reducible rfl
      refine wpAnyH_take (i := 16) (v := ?_) rfl (by kernel_rfl) (by kernel_rfl) (by kernel_rfl) (fun _ _ _ h => h) (Or.inl ⟨by kernel_rfl, ?_⟩) hS ?_
      rotate_left
      · intro W hW; go_simp; try with_reducible rfl
      refine wpAnyH_ready (rs := [12, 17]) (by kernel_rfl) (by simp) ?_
      refine AllReadyH.cons rfl (fun K hK => ?_) ?_
      · go_simp
        refine hK.out _ _ ?_ (fun hN => ?_)
        · first | exact hT | exact hS | exact hS.alloc hS.size _ | exact hS.drew
        clear hK K
        try clear hT
        clear hS
        have hS := hN
        clear hN
        refine wpAnyH_ready (rs := [17]) (by kernel_rfl) (by simp) ?_
        refine AllReadyH.cons rfl (fun K hK => ?_) AllReadyH.nil
        go_simp
        refine hK.out _ _ ?_ (fun hN => ?_)
        · first | exact hT | exact hS | exact hS.alloc hS.size _ | exact hS.drew
        clear hK K
        try clear hT
        clear hS
        have hS := hN
        clear hN
        refine wpAnyH_take (i := 18) (v := ?_) rfl (by kernel_rfl) (by kernel_rfl) (by kernel_rfl) (fun _ _ _ h => h) (Or.inl ⟨by kernel_rfl, ?_⟩) hS ?_
        rotate_left
        · intro W hW; go_simp; try with_reducible rfl
        refine wpAnyH_ready (rs := [19]) (by kernel_rfl) (by simp) ?_
        refine AllReadyH.cons rfl (fun K hK => ?_) AllReadyH.nil
        obtain ⟨hx7, hg7⟩ := own_set5 HX6.out hkp r
        obtain ⟨W7, hW7⟩ : ∃ W7, (((((W6.setCell ⟨bx, k * 5, none⟩ (.int .u64 r.key)).setCell ⟨bx, k * 5 + 1, none⟩ (.int .i64 r.off)).setCell ⟨bx, k * 5 + 2, none⟩ (.int .i64 r.len)).setCell ⟨bx, k * 5 + 3, none⟩ (.int .u32 r.ck)).setCell ⟨bx, k * 5 + 4, none⟩ (.bool r.gone)) = W7 := ⟨_, rfl⟩
        rw [hW7] at hx7 hg7
        have HS7 := Lib.hid (HS6.out.grown hg7 hbg hb0)
        have hT := HS7.out.drew
        go_simp
        clear hW7
        refine hK.out _ _ ?_ (fun hN => ?_)
        · first | exact hT | exact hS | exact hS.alloc hS.size _ | exact hS.drew
        clear hK K
        try clear hT
        clear hS
        have hS := hN
        clear hN
        refine wpAnyH_take (i := 20) (v := ?_) rfl (by kernel_rfl) (by kernel_rfl) (by kernel_rfl) (fun _ _ _ h => h) (Or.inl ⟨by kernel_rfl, ?_⟩) hS ?_
        rotate_left
        · intro W hW; go_simp; try with_reducible rfl
        refine wpAnyH_ready (rs := [21]) (by kernel_rfl) (by simp) ?_
        refine AllReadyH.cons rfl (fun K hK => ?_) AllReadyH.nil
        have hfr7 : ∀ i, W7.frozen? ⟨bx, i, none⟩ = false := fun i => hx7.frozenAt i
        obtain ⟨hx8, hg8⟩ := own_set5 hx7 (k := k1) (by rw [List.length_set]; exact hkp1) q
        have hc7 := own_cells hx7 k1 (by omega) (by rw [List.length_set]; exact HL.out)
        obtain ⟨e0, e1, e2, e3, e4⟩ := hc7
        obtain ⟨W8, hW8⟩ : ∃ W8, (((((W7.setCell ⟨bx, k1 * 5, none⟩ (.int .u64 q.key)).setCell ⟨bx, k1 * 5 + 1, none⟩ (.int .i64 q.off)).setCell ⟨bx, k1 * 5 + 2, none⟩ (.int .i64 q.len)).setCell ⟨bx, k1 * 5 + 3, none⟩ (.int .u32 q.ck)).setCell ⟨bx, k1 * 5 + 4, none⟩ (.bool q.gone)) = W8 := ⟨_, rfl⟩
        rw [hW8] at hx8 hg8
        have hT := (HS7.out.grown hg8 hbg hb0).drew
        go_simp
        clear hW8
        refine hK.out _ _ ?_ (fun hN => ?_)
        · first | exact hT | exact hS | exact hS.alloc hS.size _ | exact hS.drew
        clear hK K
        try clear hT
        clear hS
        have hS := hN
        clear hN
        refine wpAnyH_done (by kernel_rfl) ?_ _
        go_wp2_with fail
        go_meet
        exact ⟨hS, hx8.drew⟩
      refine AllReadyH.cons rfl (fun K hK => ?_) AllReadyH.nil
      go_simp
      refine hK.out _ _ ?_ (fun hN => ?_)
      · first | exact hT | exact hS | exact hS.alloc hS.size _ | exact hS.drew
      clear hK K
      try clear hT
      clear hS
      have hS := hN
      clear hN
      refine wpAnyH_ready (rs := [12]) (by kernel_rfl) (by simp) ?_
      refine AllReadyH.cons rfl (fun K hK => ?_) AllReadyH.nil
      go_simp
      refine hK.out _ _ ?_ (fun hN => ?_)
      · first | exact hT | exact hS | exact hS.alloc hS.size _ | exact hS.drew
      clear hK K
      try clear hT
      clear hS
      have hS := hN
      clear hN
      refine wpAnyH_take (i := 18) (v := ?_) rfl (by kernel_rfl) (by kernel_rfl) (by kernel_rfl) (fun _ _ _ h => h) (Or.inl ⟨by kernel_rfl, ?_⟩) hS ?_
      rotate_left
      · intro W hW; go_simp; try with_reducible rfl
      refine wpAnyH_ready (rs := [19]) (by kernel_rfl) (by simp) ?_
      refine AllReadyH.cons rfl (fun K hK => ?_) AllReadyH.nil
      obtain ⟨hx7, hg7⟩ := own_set5 HX6.out hkp r
      obtain ⟨W7, hW7⟩ : ∃ W7, (((((W6.setCell ⟨bx, k * 5, none⟩ (.int .u64 r.key)).setCell ⟨bx, k * 5 + 1, none⟩ (.int .i64 r.off)).setCell ⟨bx, k * 5 + 2, none⟩ (.int .i64 r.len)).setCell ⟨bx, k * 5 + 3, none⟩ (.int .u32 r.ck)).setCell ⟨bx, k * 5 + 4, none⟩ (.bool r.gone)) = W7 := ⟨_, rfl⟩
      rw [hW7] at hx7 hg7
      have HS7 := Lib.hid (HS6.out.grown hg7 hbg hb0)
      have hT := HS7.out.drew
      go_simp
      clear hW7
      refine hK.out _ _ ?_ (fun hN => ?_)
      · first | exact hT | exact hS | exact hS.alloc hS.size _ | exact hS.drew
      clear hK K
      try clear hT
      clear hS
      have hS := hN
      clear hN
      refine wpAnyH_take (i := 20) (v := ?_) rfl (by kernel_rfl) (by kernel_rfl) (by kernel_rfl) (fun _ _ _ h => h) (Or.inl ⟨by kernel_rfl, ?_⟩) hS ?_
      rotate_left
      · intro W hW; go_simp; try with_reducible rfl
      refine wpAnyH_ready (rs := [21]) (by kernel_rfl) (by simp) ?_
      refine AllReadyH.cons rfl (fun K hK => ?_) AllReadyH.nil
      have hfr7 : ∀ i, W7.frozen? ⟨bx, i, none⟩ = false := fun i => hx7.frozenAt i
      obtain ⟨hx8, hg8⟩ := own_set5 hx7 (k := k1) (by rw [List.length_set]; exact hkp1) q
      have hc7 := own_cells hx7 k1 (by omega) (by rw [List.length_set]; exact HL.out)
      obtain ⟨e0, e1, e2, e3, e4⟩ := hc7
      obtain ⟨W8, hW8⟩ : ∃ W8, (((((W7.setCell ⟨bx, k1 * 5, none⟩ (.int .u64 q.key)).setCell ⟨bx, k1 * 5 + 1, none⟩ (.int .i64 q.off)).setCell ⟨bx, k1 * 5 + 2, none⟩ (.int .i64 q.len)).setCell ⟨bx, k1 * 5 + 3, none⟩ (.int .u32 q.ck)).setCell ⟨bx, k1 * 5 + 4, none⟩ (.bool q.gone)) = W8 := ⟨_, rfl⟩
      rw [hW8] at hx8 hg8
      have hT := (HS7.out.grown hg8 hbg hb0).drew
      go_simp
      clear hW8
      refine hK.out _ _ ?_ (fun hN => ?_)
      · first | exact hT | exact hS | exact hS.alloc hS.size _ | exact hS.drew
      clear hK K
      try clear hT
      clear hS
      have hS := hN
      clear hN
      refine wpAnyH_done (by kernel_rfl) ?_ _
      go_wp2_with fail
      go_meet
      exact ⟨hS, hx8.drew⟩
    case rest =>
      obtain ⟨⟨Bc, hKc⟩, hxc⟩ := hcut
      have fq := HF.out _ (getD_mem hkp)
      have fr := HF.out _ (getD_mem hkp1)
      rw [HQ.out] at fq
      rw [HR.out] at fr
      have hsw : ckR v g u ((ps.set k r).set k1 q) = 1 := by
        have := swap_bad (v := v) (g := g) (u := u) (ps := ps) (k := k) (by rw [HL.out]; omega) HLK.out (by have := HKE.out; omega)
        rw [HKE.out, HQ.out, HR.out] at this
        exact this
      have htw : ckR v g u (ps.set k1 ⟨q.key, r.off, r.len, r.ck, r.gone⟩) = 1 := by
        have := twice_bad (v := v) (g := g) (u := u) (ps := ps) (k := k) (by rw [HL.out]; omega) (by have := HKE.out; omega) ⟨q.key, r.off, r.len, r.ck, r.gone⟩ (by rw [HQ.out])
        rw [HKE.out] at this
        exact this
      have hPX : Fits ((ps.set k r).set k1 q) := fits_set (fits_set HF.out k fr) k1 fq
      have hPY : Fits (ps.set k1 ⟨q.key, r.off, r.len, r.ck, r.gone⟩) := fits_set HF.out k1 ⟨fq.1, fr.2⟩
      have hky : flatP (ps.set k1 ⟨q.key, r.off, r.len, r.ck, r.gone⟩) = (flatP ps).set (k1 * 5) (.int .u64 q.key) := by
        have := flatP_setkey ps k1 q.key hkp1
        rw [HR.out] at this
        exact this
      have HKY := Lib.hid hky
      have HPX := Lib.hid hPX
      have HPY := Lib.hid hPY
      have HSW := Lib.hid hsw
      have HTW := Lib.hid htw
      generalize (ps.set k r).set k1 q = PX at *
      generalize ps.set k1 ⟨q.key, r.off, r.len, r.ck, r.gone⟩ = PY at *
      clear fq fr hsw htw hPX hPY hky c0 c1 c2 c3 c4 d0 d1 d2 d3 d4 hfr HX6 HS6
      obtain ⟨p0, p1, p2, p3⟩ := C1.out _ Bc
      have hOF := ofc_any v g u a n c ps wc (H1.out wc Bc) (by omega)
      have hgxl := hKc.lt
      have HXC := Lib.hid fun (W : World) (hg : Below wc.heap.size wc W) => (⟨hKc.below hg hKc.lt, own_belowN hxc hg (Nat.le_refl _)⟩ : _ ∧ _)
      have HBC := Lib.hid fun (W : World) (hg : Below wc.heap.size wc W) => Bc.trans (hg.mono Bc.size)
      have hcs := Bc.size
      clear Bc hKc hxc
      go_wp2_with fail
      refine hOF.mono ?_
      rintro e W8 ⟨x, rfl, hy, B8⟩
      obtain ⟨ay, cy, rfl, hcy⟩ := own_form_any hy
      obtain ⟨bY, rfl, hby⟩ := own_some hy (by omega)
      have hyl := (hy.lt bY rfl).2
      clear p0 p1 p2 p3 hOF
      go_upto_region 14 with fail
      have hy9 := hy.alloc (.cells #[.int .i64 v, .int .i64 g, .int .i64 u, .slice (some ⟨bY, 0, none⟩) n cy] 46)
      have hK9 := Blk.made W8 46 #[.int .i64 v, .int .i64 g, .int .i64 u, .slice (some ⟨bY, 0, none⟩) n cy]
      have B9 := B8.alloc B8.size (.cells #[.int .i64 v, .int .i64 g, .int .i64 u, .slice (some ⟨bY, 0, none⟩) n cy] 46)
      clear hy B8
      generalize W8.alloc (.cells #[.int .i64 v, .int .i64 g, .int .i64 u, .slice (some ⟨bY, 0, none⟩) n cy] 46) = W9 at *
      generalize W8.heap.size = gy at *
      obtain ⟨c0, -, -, -, -⟩ := own_cells hy9 k (by omega) HL.out
      rw [HQ.out] at c0
      have hfr : ∀ i, W9.frozen? ⟨bY, i, none⟩ = false := fun i => hy9.frozenAt i
      have hbg : bY ≠ gy := by omega
      have hb0 : W0.heap.size ≤ bY := by omega
      have hcl : ∃ d, W9.cell? ⟨bY, k1 * 5, none⟩ = some d := ⟨_, (own_cells hy9 k1 (by omega) HL.out).1⟩
      obtain ⟨d, hd⟩ := hcl
      have HY9 := Lib.hid hy9
      have HB9 := Lib.hid B9
      have HS9 := Lib.hid (show OrdS W0 gy v g u bY n cy W9 from ⟨HBC.out _ B9, hK9⟩)
      clear hy9 hK9 B9
      go_cut [86] (fun _ wx => OrdS W0 gy v g u bY n cy wx ∧ wx.ownsRow wc.heap.size 60 5 (.slice (some ⟨bY, 0, none⟩) n cy) n (flatP PY) ∧ W9.grownBy wx (some bY))
      case first =>
        refine wp_region_held_drew (S := OrdS W0 gy v g u bY n cy) (by kernel_rfl) (by exact HS9.out.drew) (fun hS => ?_)
        refine wpAnyH_take (i := 0) (v := ?_) rfl (by kernel_rfl) (by kernel_rfl) (by kernel_rfl) (fun _ _ _ h => h) (Or.inl ⟨by kernel_rfl, ?_⟩) hS ?_
        rotate_left
        · intro W hW; go_simp; try with_reducible rfl
        refine wpAnyH_take (i := 1) (v := ?_) rfl (by kernel_rfl) (by kernel_rfl) (by kernel_rfl) (fun _ _ _ h => h) (Or.inl ⟨by kernel_rfl, ?_⟩) hS ?_
        rotate_left
        · intro W hW; have q3 := hW.2.cell 3; go_simp; try with_reducible rfl
        refine wpAnyH_take (i := 2) (v := ?_) rfl (by kernel_rfl) (by kernel_rfl) (by kernel_rfl) (fun _ _ _ h => h) (Or.inl ⟨by kernel_rfl, ?_⟩) hS ?_
        rotate_left
        · intro W hW; go_simp; try with_reducible rfl
        refine wpAnyH_take (i := 3) (v := ?_) rfl (by kernel_rfl) (by kernel_rfl) (by kernel_rfl) (fun _ _ _ h => h) (Or.inl ⟨by kernel_rfl, ?_⟩) hS ?_
        rotate_left
        · intro W hW; go_simp; try with_reducible rfl
        refine wpAnyH_take (i := 4) (v := ?_) rfl (by kernel_rfl) (by kernel_rfl) (by kernel_rfl) (fun _ _ _ h => h) (Or.inl ⟨by kernel_rfl, ?_⟩) hS ?_
        rotate_left
        · intro W hW; go_simp; try with_reducible rfl
        refine wpAnyH_take (i := 5) (v := ?_) rfl (by kernel_rfl) (by kernel_rfl) (by kernel_rfl) (fun _ _ _ h => h) (Or.inl ⟨by kernel_rfl, ?_⟩) hS ?_
        rotate_left
        · intro W hW; have q3 := hW.2.cell 3; go_simp; try with_reducible rfl
        refine wpAnyH_take (i := 6) (v := ?_) rfl (by kernel_rfl) (by kernel_rfl) (by kernel_rfl) (fun _ _ _ h => h) (Or.inl ⟨by kernel_rfl, ?_⟩) hS ?_
        rotate_left
        · intro W hW; go_simp; try with_reducible rfl
        refine wpAnyH_take (i := 7) (v := ?_) rfl (by kernel_rfl) (by kernel_rfl) (by kernel_rfl) (fun _ _ _ h => h) (Or.inl ⟨by kernel_rfl, ?_⟩) hS ?_
        rotate_left
        · intro W hW; go_simp; try with_reducible rfl
        refine wpAnyH_take (i := 8) (v := ?_) rfl (by kernel_rfl) (by kernel_rfl) (by kernel_rfl) (fun _ _ _ h => h) (Or.inl ⟨by kernel_rfl, ?_⟩) hS ?_
        rotate_left
        · intro W hW; go_simp; try with_reducible rfl
        refine wpAnyH_ready (rs := [9]) (by kernel_rfl) (by simp) ?_
        refine AllReadyH.cons rfl (fun K hK => ?_) AllReadyH.nil
        go_simp
        refine hK.out _ _ ?_ (fun hN => ?_)
        · first | exact hT | exact hS | exact hS.alloc hS.size _ | exact hS.drew
        clear hK K
        try clear hT
        clear hS
        have hS := hN
        clear hN
        refine wpAnyH_take (i := 10) (v := ?_) rfl (by kernel_rfl) (by kernel_rfl) (by kernel_rfl) (fun _ _ _ h => h) (Or.inl ⟨by kernel_rfl, ?_⟩) hS ?_
        rotate_left
        · intro W hW; go_simp; try with_reducible rfl
        refine wpAnyH_take (i := 11) (v := ?_) rfl (by kernel_rfl) (by kernel_rfl) (by kernel_rfl) (fun _ _ _ h => h) (Or.inl ⟨by kernel_rfl, ?_⟩) hS ?_
        rotate_left
        · intro W hW; go_simp; try with_reducible rfl
        refine wpAnyH_ready (rs := [12]) (by kernel_rfl) (by simp) ?_
        refine AllReadyH.cons rfl (fun K hK => ?_) AllReadyH.nil
        obtain ⟨hy10, hg10⟩ := HY9.out.stored (k1 * 5) (.int .u64 q.key)
        obtain ⟨W10, hW10⟩ : ∃ W10, W9.setCell ⟨bY, k1 * 5, none⟩ (.int .u64 q.key) = W10 := ⟨_, rfl⟩
        rw [hW10] at hy10 hg10
        have hT := (HS9.out.grown hg10 hbg hb0).drew
        go_simp
        clear hW10
        refine hK.out _ _ ?_ (fun hN => ?_)
        · first | exact hT | exact hS | exact hS.alloc hS.size _ | exact hS.drew
        clear hK K
        try clear hT
        clear hS
        have hS := hN
        clear hN
        refine wpAnyH_done (by kernel_rfl) ?_ _
        go_wp2_with fail
        go_meet
        exact ⟨hS, by rw [HKY.out]; exact hy10.drew, grown_drew hg10⟩
      case rest =>
        obtain ⟨⟨By, hKy⟩, hyy, hgy⟩ := hcut
        clear c0 hfr hd
        have hX9 := HXC.out _ HB9.out
        have hKx := hX9.1.grown hgy (fun e => by injection e with e; omega)
        have hXx := hX9.2.kept hgy (.inr fun e => by have e : some bx = some bY := e; injection e with e; omega)
        have hPSx := psl_own hXx HPX.out
        have hPSy := psl_own hyy HPY.out
        have HRX := Lib.hid (right_any v g u (some ⟨bx, 0, none⟩) n cx PX _ hPSx (by omega))
        rw [HSW.out] at HRX
        have HRY := Lib.hid fun (W : World) (B : Below wc.heap.size wc W) => right_any v g u (some ⟨bY, 0, none⟩) n cy PY W ((hPSy.below B).more B.size) (by omega)
        rw [HTW.out] at HRY
        obtain ⟨x0, x1, x2, x3⟩ := hKx.four
        have HK2 := Lib.hid fun (W : World) (B : Below wc.heap.size wc W) => (hKy.below B hKy.lt).four
        have HBY := Lib.hid fun (W : World) (B : Below wc.heap.size wc W) => By.trans (B.mono By.size)
        clear hX9 hKx hXx hPSx hPSy By hKy hyy hgy
        go_wp2_with fail
        refine HRX.out.mono ?_
        rintro e Wa ⟨rfl, Ba⟩
        clear x0 x1 x2 x3
        obtain ⟨y0, y1, y2, y3⟩ := HK2.out Wa Ba
        unfold errc er
        go_wp2_with fail
        refine (code_c 1 _ (by decide)).mono ?_
        rintro e w6 ⟨rfl, rfl⟩
        go_wp2_with fail
        refine (HRY.out _ Ba).mono ?_
        rintro e Wb ⟨rfl, Bb⟩
        have Bb := HBY.out _ (Ba.trans (Bb.mono Ba.size))
        clear y0 y1 y2 y3 Ba
        obtain ⟨p0, p1, p2, p3⟩ := C1.out Wb Bb
        unfold errc er
        go_wp2_with fail
        refine (code_c 1 _ (by decide)).mono ?_
        rintro e w6 ⟨rfl, rfl⟩
        go_wp2_with fail
        refine (ofc_any v g u a n c ps _ (H1.out _ Bb) (by omega)).mono ?_
        rintro e Wz ⟨x, rfl, hz, Bz⟩
        obtain ⟨az, cz, rfl, hcz⟩ := own_form_any hz
        have Bz := Bb.trans (Bz.mono Bb.size)
        have HRZ := Lib.hid (right_any v g u az n cz ps _ (psl_own hz HF.out) (by omega))
        rw [HOK.out] at HRZ
        clear p0 p1 p2 p3 hz Bb
        go_wp2_with fail
        refine HRZ.out.mono ?_
        rintro e Wy ⟨rfl, Bq⟩
        have BE := Lib.hid (BW.out _ (Bz.trans (Bq.mono Bz.size)))
        clear Bq Bz
        unfold errc
        go_wp2_with fail
        refine (code_c 0 _ (by decide)).mono ?_
        rintro e w6 ⟨rfl, rfl⟩
        go_wp2_with fail
        go_ret
        exact ⟨rfl, BE.out⟩
  · rcases hcs.resolve_left hok with h12 | h12
    all_goals
      rw [h12]
      clear h12 hok hcs
      go_wp2_with fail
      go_ret
      exact ⟨rfl, BW.out _ B2⟩

end Go.Proofs.Ytkmifimdjdjdpaa
