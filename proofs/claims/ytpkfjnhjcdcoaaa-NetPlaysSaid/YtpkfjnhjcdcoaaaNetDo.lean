/-
  The document's Do.
-/
import Derived.Test.YtpkfjnhjcdcoaaaNetRef
import Derived.Test.YtpkfjnhjcdcoaaaAct
namespace Go.Proofs.Ytpkfjnhjcdcoaaa
open Go.RowKit
set_option linter.unusedVariables false

/-- The document's net in memory. -/
structure RNet (W : World) (la : Option Addr) (n lc : Nat) (ca : Option Addr) (k cc : Nat) (DL : List MsgR) (DC : List (Int × Int)) : Prop where
  m : MSl W W.heap.size la n DL
  nc : n ≤ lc
  c : CSl W W.heap.size ca k DC
  r : ∃ base, W.ownsRow base 36 12 (.slice la n lc) n (flatM DL)
  s : ∃ base, W.ownsRow base 107 2 (.slice ca k cc) k (flatC DC)
theorem RNet.on {W W' : World} {la : Option Addr} {n lc : Nat} {ca : Option Addr} {k cc : Nat} {DL : List MsgR} {DC : List (Int × Int)} (h : RNet W la n lc ca k cc DL DC) (b : Below W.heap.size W W') : RNet W' la n lc ca k cc DL DC :=
  ⟨h.m.onB b, h.nc, h.c.on b, by obtain ⟨bs, hr⟩ := h.r; exact ⟨bs, row_below hr b (Nat.le_refl _)⟩, by obtain ⟨bs, hr⟩ := h.s; exact ⟨bs, row_below hr b (Nat.le_refl _)⟩⟩
/-- The pairs but one. -/
def dCut (C : List (Int × Int)) (a b : Int) : List (Int × Int) := C.filter fun q => !dPart q a b
/-- What the document's Do makes of a net: the packets, the pairs, the message that comes, the error. -/
def docDo (DL : List MsgR) (DC : List (Int × Int)) (x : ActR) : List MsgR × List (Int × Int) × MsgR × Nat :=
  if x.kd = 0 then (if mchk x.m ≠ 0 then (DL, DC, mNone, mchk x.m) else if 4096 ≤ DL.length then (DL, DC, mNone, 11) else (DL ++ [x.m], DC, mNone, 0))
  else if 4 ≤ x.kd then (if 0 ≤ x.i ∧ x.i ≤ 255 ∧ 0 ≤ x.k ∧ x.k ≤ 255 ∧ x.i ≠ x.k then (DL, dCut DC x.i x.k ++ (if x.kd = 4 then [(x.i, x.k)] else []), mNone, 0) else (DL, DC, mNone, 1))
  else if 0 ≤ x.i ∧ x.i < DL.length then
    (if x.kd = 1 then (if dAp DC (DL.getD x.i.toNat mNone).fr (DL.getD x.i.toNat mNone).tt = true then (DL, DC, mNone, 17) else (DL.eraseIdx x.i.toNat, DC, DL.getD x.i.toNat mNone, 0))
    else if x.kd = 2 then (DL.eraseIdx x.i.toNat, DC, mNone, 0)
    else if 4096 ≤ DL.length then (DL, DC, mNone, 11) else (DL ++ [DL.getD x.i.toNat mNone], DC, mNone, 0))
  else (DL, DC, mNone, 6)
/-- What it hands back. -/
def DoP (r : List MsgR × List (Int × Int) × MsgR × Nat) (w : World) (e : Ending) (w' : World) : Prop :=
  Below w.heap.size w w' ∧ ∃ la n lc ca k cc, e = .returned (.tuple #[.agg #[.slice la n lc, .slice ca k cc], r.2.2.1.vals, .int .i64 (r.2.2.2 : Int)]) ∧ RNet w' la n lc ca k cc r.1 r.2.1
theorem do_results {W : World} {b4 b5 : Nat} {a0 a1 v0 v1 v2 v3 v4 v5 v6 v7 v8 v9 v10 v11 : Value} {a : Act} {e : Value} (h4 : Blk W b4 73 #[a0, a1]) (h5 : Blk W b5 36 #[v0, v1, v2, v3, v4, v5, v6, v7, v8, v9, v10, v11]) (e4 : a.tmps[4]?.getD undef = .pointer (some ⟨b4, 0, none⟩)) (e5 : a.tmps[5]?.getD undef = .pointer (some ⟨b5, 0, none⟩)) (e6 : a.tmps[6]?.getD undef = e) :
    (results Try.f33 a.tmps).run Try.prog W = .ok (.tuple #[.agg #[a0, a1], .agg #[v0, v1, v2, v3, v4, v5, v6, v7, v8, v9, v10, v11], e]) W := by
  obtain ⟨k0, k1, k2, k3, k4, k5, k6, k7, k8, k9, k10, k11⟩ := h5.twelve
  have q0 := h4.cell 0
  have q1 := h4.cell 1
  simp [results, Try.results33, go_sem, e4, e5, e6, q0, q1, k0, k1, k2, k3, k4, k5, k6, k7, k8, k9, k10, k11]
/-- The results' boxes, written. -/
theorem ret_put {W : World} {B r4 r5 : Nat} {b0 b1 v0 v1 v2 v3 v4 v5 v6 v7 v8 v9 v10 v11 : Value} (h4 : Blk W r4 73 #[b0, b1]) (h5 : Blk W r5 36 #[v0, v1, v2, v3, v4, v5, v6, v7, v8, v9, v10, v11]) (hb : B ≤ r4) (hb5 : B ≤ r5) (hl : B ≤ W.heap.size) (a0 a1 u0 u1 u2 u3 u4 u5 u6 u7 u8 u9 u10 u11 : Value) :
    Blk ((((((((((((((W.setCell ⟨r4, 0, none⟩ a0).setCell ⟨r4, 1, none⟩ a1).setCell ⟨r5, 0, none⟩ u0).setCell ⟨r5, 1, none⟩ u1).setCell ⟨r5, 2, none⟩ u2).setCell ⟨r5, 3, none⟩ u3).setCell ⟨r5, 4, none⟩ u4).setCell ⟨r5, 5, none⟩ u5).setCell ⟨r5, 6, none⟩ u6).setCell ⟨r5, 7, none⟩ u7).setCell ⟨r5, 8, none⟩ u8).setCell ⟨r5, 9, none⟩ u9).setCell ⟨r5, 10, none⟩ u10).setCell ⟨r5, 11, none⟩ u11) r4 73 #[a0, a1] ∧ Blk ((((((((((((((W.setCell ⟨r4, 0, none⟩ a0).setCell ⟨r4, 1, none⟩ a1).setCell ⟨r5, 0, none⟩ u0).setCell ⟨r5, 1, none⟩ u1).setCell ⟨r5, 2, none⟩ u2).setCell ⟨r5, 3, none⟩ u3).setCell ⟨r5, 4, none⟩ u4).setCell ⟨r5, 5, none⟩ u5).setCell ⟨r5, 6, none⟩ u6).setCell ⟨r5, 7, none⟩ u7).setCell ⟨r5, 8, none⟩ u8).setCell ⟨r5, 9, none⟩ u9).setCell ⟨r5, 10, none⟩ u10).setCell ⟨r5, 11, none⟩ u11) r5 36 #[u0, u1, u2, u3, u4, u5, u6, u7, u8, u9, u10, u11] ∧ Below B W ((((((((((((((W.setCell ⟨r4, 0, none⟩ a0).setCell ⟨r4, 1, none⟩ a1).setCell ⟨r5, 0, none⟩ u0).setCell ⟨r5, 1, none⟩ u1).setCell ⟨r5, 2, none⟩ u2).setCell ⟨r5, 3, none⟩ u3).setCell ⟨r5, 4, none⟩ u4).setCell ⟨r5, 5, none⟩ u5).setCell ⟨r5, 6, none⟩ u6).setCell ⟨r5, 7, none⟩ u7).setCell ⟨r5, 8, none⟩ u8).setCell ⟨r5, 9, none⟩ u9).setCell ⟨r5, 10, none⟩ u10).setCell ⟨r5, 11, none⟩ u11) := by
  have h2 : Blk ((W.setCell ⟨r4, 0, none⟩ a0).setCell ⟨r4, 1, none⟩ a1) r4 73 #[a0, a1] := (h4.put 0 a0).put 1 a1
  have hg : W.grownBy ((W.setCell ⟨r4, 0, none⟩ a0).setCell ⟨r4, 1, none⟩ a1) (some r4) := grown_put (grown_put (grown_refl _ _) 0 a0) 1 a1
  have hne : r4 ≠ r5 := blk_ne h4 h5 (by decide)
  have h5' := h5.grown hg (by intro e; injection e with e; exact hne e.symm)
  have h5'' := h5'.put12 u0 u1 u2 u3 u4 u5 u6 u7 u8 u9 u10 u11
  have hg5 := grown_put12 (grown_refl ((W.setCell ⟨r4, 0, none⟩ a0).setCell ⟨r4, 1, none⟩ a1) (some r5)) u0 u1 u2 u3 u4 u5 u6 u7 u8 u9 u10 u11
  exact ⟨h2.grown hg5 (by intro e; injection e with e; exact hne e), h5'', below_put12 (((Below.refl B W).setCell (p := ⟨r4, 0, none⟩) hb a0).setCell (p := ⟨r4, 1, none⟩) hb a1) hb5 u0 u1 u2 u3 u4 u5 u6 u7 u8 u9 u10 u11⟩
theorem made_five (w : World) (t0 t1 t2 t3 t4 : TypeId) (c0 c1 c2 c3 c4 : Array Value) :
    let W := ((((w.alloc (.cells c0 t0)).alloc (.cells c1 t1)).alloc (.cells c2 t2)).alloc (.cells c3 t3)).alloc (.cells c4 t4)
    Blk W w.heap.size t0 c0 ∧ Blk W (w.heap.size + 1) t1 c1 ∧ Blk W (w.heap.size + 1 + 1) t2 c2 ∧ Blk W (w.heap.size + 1 + 1 + 1) t3 c3 ∧ Blk W (w.heap.size + 1 + 1 + 1 + 1) t4 c4 ∧ Below w.heap.size w W := by
  have a1 := Blk.made (w.alloc (.cells c0 t0)) t1 c1
  have a2 := Blk.made ((w.alloc (.cells c0 t0)).alloc (.cells c1 t1)) t2 c2
  have a3 := Blk.made (((w.alloc (.cells c0 t0)).alloc (.cells c1 t1)).alloc (.cells c2 t2)) t3 c3
  have a4 := Blk.made ((((w.alloc (.cells c0 t0)).alloc (.cells c1 t1)).alloc (.cells c2 t2)).alloc (.cells c3 t3)) t4 c4
  simp only [World.size_alloc] at a1 a2 a3 a4
  exact ⟨((((Blk.made w t0 c0).alloc _).alloc _).alloc _).alloc _, ((a1.alloc _).alloc _).alloc _, (a2.alloc _).alloc _, a3.alloc _, a4,
    (((((Below.refl _ w).alloc (Nat.le_refl _) _).alloc (by simp) _).alloc (by simp; omega) _).alloc (by simp; omega) _).alloc (by simp; omega) _⟩
set_option maxRecDepth 100000 in
set_option maxHeartbeats 8000000 in
theorem do_send_bad (la : Option Addr) (n lc : Nat) (ca : Option Addr) (k cc : Nat) (DL : List MsgR) (DC : List (Int × Int)) (x : ActR) (w : World) (h : RNet w la n lc ca k cc DL DC) (hx : AIn w w.heap.size x) (hn : n ≤ 1000) (hk : k ≤ 1000) (HLN : x.m.n ≤ 1099511627776) (hk0 : x.kd = 0) (hq : mchk x.m ≠ 0) :
    Calls Try.prog 33 #[.agg #[.slice la n lc, .slice ca k cc], .agg #[.int .i64 x.kd, .int .i64 x.i, .int .i64 x.k, .int .i64 x.m.fr, .int .i64 x.m.tt, .int .i64 x.m.kd, .int .i64 x.m.vol, .int .i64 x.m.life, .int .u64 x.m.id, .int .i64 x.m.cd, .bool x.m.has, .int .u64 x.m.key, .int .u32 x.m.ck, .bool x.m.g, .slice x.m.a x.m.n x.m.c]] w (DoP (docDo DL DC x) w) := by
  have HH := Lib.hid h
  have HX := Lib.hid hx
  have HL := Lib.hid h.m.1
  have HLC := Lib.hid h.c.1
  obtain ⟨b0, b1, b2, b3, b4, bb⟩ := made_five w 73 66 73 36 36 #[.slice la n lc, .slice ca k cc] #[.int .i64 x.kd, .int .i64 x.i, .int .i64 x.k, .int .i64 x.m.fr, .int .i64 x.m.tt, .int .i64 x.m.kd, .int .i64 x.m.vol, .int .i64 x.m.life, .int .u64 x.m.id, .int .i64 x.m.cd, .bool x.m.has, .int .u64 x.m.key, .int .u32 x.m.ck, .bool x.m.g, .slice x.m.a x.m.n x.m.c] #[.slice none 0 0, .slice none 0 0] #[.int .i64 0, .int .i64 0, .int .i64 0, .int .i64 0, .int .i64 0, .int .u64 0, .int .i64 0, .bool false, .int .u64 0, .int .u32 0, .bool false, .slice none 0 0] #[.int .i64 0, .int .i64 0, .int .i64 0, .int .i64 0, .int .i64 0, .int .u64 0, .int .i64 0, .bool false, .int .u64 0, .int .u32 0, .bool false, .slice none 0 0]
  have H0 := Lib.hid b0
  have H1 := Lib.hid b1
  have H2 := Lib.hid b2
  have H3 := Lib.hid b3
  have H4 := Lib.hid b4
  have HB := Lib.hid bb
  clear h hx b0 b1 b2 b3 b4 bb
  have HO := Lib.hid (show docDo DL DC x = (DL, DC, mNone, mchk x.m) from by unfold docDo; rw [if_pos hk0, if_pos hq])
  have y0 : (x.kd == 0) = true := by rw [hk0]; rfl
  have EC := Lib.hid fun (W : World) (B : Below w.heap.size w W) => show Calls Try.prog 17 #[.agg #[.int .i64 x.m.fr, .int .i64 x.m.tt, .int .i64 x.m.kd, .int .i64 x.m.vol, .int .i64 x.m.life, .int .u64 x.m.id, .int .i64 x.m.cd, .bool x.m.has, .int .u64 x.m.key, .int .u32 x.m.ck, .bool x.m.g, .slice x.m.a x.m.n x.m.c]] W fun e w' => e = .returned (.int .i64 (mchk x.m : Nat)) ∧ Below W.heap.size W w' from rcheck_any x.m W ((HX.out.m.hb.below B).more B.size) HLN
  have hq' : ((mchk x.m : Int) != 0) = true := by rw [bne_iff_ne]; omega
  clear hk0 hq
  go_enter Try.func33, Try.ntmps33
  go_upto_region 2 with fail
  generalize (((((w.alloc (.cells #[.slice la n lc, .slice ca k cc] 73)).alloc (.cells #[.int .i64 x.kd, .int .i64 x.i, .int .i64 x.k, .int .i64 x.m.fr, .int .i64 x.m.tt, .int .i64 x.m.kd, .int .i64 x.m.vol, .int .i64 x.m.life, .int .u64 x.m.id, .int .i64 x.m.cd, .bool x.m.has, .int .u64 x.m.key, .int .u32 x.m.ck, .bool x.m.g, .slice x.m.a x.m.n x.m.c] 66)).alloc (.cells #[.slice none 0 0, .slice none 0 0] 73)).alloc (.cells #[.int .i64 0, .int .i64 0, .int .i64 0, .int .i64 0, .int .i64 0, .int .u64 0, .int .i64 0, .bool false, .int .u64 0, .int .u32 0, .bool false, .slice none 0 0] 36)).alloc (.cells #[.int .i64 0, .int .i64 0, .int .i64 0, .int .i64 0, .int .i64 0, .int .u64 0, .int .i64 0, .bool false, .int .u64 0, .int .u32 0, .bool false, .slice none 0 0] 36)) = W1 at *
  obtain ⟨k0, k1, k2, k3, k4, k5, k6, k7, k8, k9, k10, k11, k12, k13, k14⟩ := act_cells H1.out
  go_wp2_with fail
  refine (EC.out _ HB.out).mono ?_
  rintro e w2 ⟨rfl, B2⟩
  have HB2 := Lib.hid (HB.out.trans (B2.mono HB.out.size))
  have G0 := Lib.hid (H0.out.below B2 H0.out.lt)
  have G2 := Lib.hid (H2.out.below B2 H2.out.lt)
  have G3 := Lib.hid (H3.out.below B2 H3.out.lt)
  have G4 := Lib.hid (H4.out.below B2 H4.out.lt)
  clear B2 k0 k1 k2 k3 k4 k5 k6 k7 k8 k9 k10 k11 k12 k13 k14 EC
  go_upto_region 5 with fail
  have n0 := G0.out.cell 0
  have n1 := G0.out.cell 1
  obtain ⟨z0, z1, z2, z3, z4, z5, z6, z7, z8, z9, z10, z11⟩ := G4.out.twelve
  have s0 := G2.out.cell 0
  have s1 := G2.out.cell 1
  have t0 := G2.out.frozen 0
  have t1 := G2.out.frozen 1
  obtain ⟨y0, y1, y2, y3, y4, y5, y6, y7, y8, y9, y10, y11⟩ := G3.out.twelve
  obtain ⟨f0, f1, f2, f3, f4, f5, f6, f7, f8, f9, f10, f11⟩ := G3.out.twelve_frozen
  go_region
  all_goals
    go_wp2_with fail
    have hr := ret_put (B := w.heap.size) G2.out G3.out (by omega) (by omega) HB2.out.size (.slice la n lc) (.slice ca k cc) (.int .i64 0) (.int .i64 0) (.int .i64 0) (.int .i64 0) (.int .i64 0) (.int .u64 0) (.int .i64 0) (.bool false) (.int .u64 0) (.int .u32 0) (.bool false) (.slice none 0 0)
    have hB := (HB2.out.trans hr.2.2).drew
    exact bodyPost_ret (do_results hr.1.drew hr.2.1.drew rfl rfl rfl) rfl (by rw [HO.out]; exact ⟨hB, _, _, _, _, _, _, rfl, HH.out.on hB⟩)
theorem flatM_cons (l : List MsgR) (m : MsgR) : flatM l ++ m.cells = flatM (l ++ [m]) := (flatM_snoc l m).symm
theorem ret_row {W : World} {base size k c r4 r5 : Nat} {T : TypeId} {a : Option Addr} {xs : List Value} (ho : W.ownsRow base T size (.slice a k c) k xs) (h4 : r4 < base) (h5 : r5 < base) {a0 a1 u0 u1 u2 u3 u4 u5 u6 u7 u8 u9 u10 u11 : Value} : (((((((((((((((W.setCell ⟨r4, 0, none⟩ a0).setCell ⟨r4, 1, none⟩ a1).setCell ⟨r5, 0, none⟩ u0).setCell ⟨r5, 1, none⟩ u1).setCell ⟨r5, 2, none⟩ u2).setCell ⟨r5, 3, none⟩ u3).setCell ⟨r5, 4, none⟩ u4).setCell ⟨r5, 5, none⟩ u5).setCell ⟨r5, 6, none⟩ u6).setCell ⟨r5, 7, none⟩ u7).setCell ⟨r5, 8, none⟩ u8).setCell ⟨r5, 9, none⟩ u9).setCell ⟨r5, 10, none⟩ u10).setCell ⟨r5, 11, none⟩ u11)).ownsRow base T size (.slice a k c) k xs :=
  row_far (row_far ho (grown_put (grown_put (grown_refl W (some r4)) 0 a0) 1 a1) h4) (grown_put12 (grown_refl _ (some r5)) u0 u1 u2 u3 u4 u5 u6 u7 u8 u9 u10 u11) h5
theorem own_le {W : World} {base size n k c : Nat} {T : TypeId} {a : Option Addr} {xs : List Value} (h : W.ownsRow base T size (.slice a k c) n xs) : k ≤ c := by
  rcases h.2 with ⟨e, _⟩ | ⟨_, _, _, e, _, _, e2, _⟩
  · cases e
    exact Nat.le_refl _
  · cases e
    exact e2
theorem mem_of_msl {W : World} {B n : Nat} {a : Option Addr} {l : List MsgR} (h : MSl W B a n l) : ∀ q ∈ l, MIn W B q := fun q hq => by
  obtain ⟨t, ht, e⟩ := List.getElem_of_mem hq
  have := h.2.1 t (by rw [← h.1]; exact ht)
  simp only [List.getD, List.getElem?_eq_getElem ht, Option.getD_some] at this
  rw [e] at this
  exact this
theorem mem_snoc {W : World} {B n : Nat} {a : Option Addr} {l : List MsgR} {m : MsgR} (h : MSl W B a n l) (hm : MIn W B m) : ∀ q ∈ l ++ [m], MIn W B q := fun q hq => by
  rcases List.mem_append.1 hq with hq | hq
  · exact mem_of_msl h q hq
  · rw [List.mem_singleton] at hq
    subst hq
    exact hm
theorem rnet_own {w X : World} {base n n' lc c' k cc : Nat} {la a' ca : Option Addr} {DL L : List MsgR} {DC : List (Int × Int)} {xs : List Value} (ho : X.ownsRow base 36 12 (.slice a' n' c') n' xs) (hl : L.length = n') (hm : ∀ q ∈ L, MIn w w.heap.size q) (hB : Below w.heap.size w X) (h : RNet w la n lc ca k cc DL DC) (hc : n' ≤ c') (hx : xs = flatM L := by first | rfl | exact flatM_cons _ _) : RNet X a' n' c' ca k cc L DC := by
  subst hx
  refine ⟨msl_own ho hl (fun j hj => ?_), hc, h.c.on hB, ⟨_, ho⟩, by obtain ⟨bs, hr⟩ := h.s; exact ⟨bs, row_below hr hB (Nat.le_refl _)⟩⟩
  have hjl : j < L.length := by omega
  have := hm (L.getD j mNone) (by simp only [List.getD, List.getElem?_eq_getElem hjl, Option.getD_some]; exact List.getElem_mem _)
  exact (this.below hB).more hB.size
theorem grown_fresh {a w w' : World} {row : Option Nat} {g : Nat} (h : a.grownBy w row) (k : w.grownBy w' (some g)) (hg : a.heap.size ≤ g) : a.grownBy w' row :=
  ⟨k.os.trans h.os, k.tape.trans h.tape, k.output.trans h.output, Nat.le_trans h.size k.size, fun i hi hne => (k.block i (Nat.lt_of_lt_of_le hi h.size) (by intro e; injection e with e; omega)).trans (h.block i hi hne)⟩
theorem own_new {W : World} {base s : Nat} (t : TypeId) (hb : base ≤ W.heap.size) (hs : W.heap.size = s) : (W.alloc (.cells #[] t)).ownsRow base t 12 (.slice (some ⟨s, 0, none⟩) 0 0) 0 [] := by rw [← hs]; exact World.ownsRow_made W #[] 0 hb (Nat.zero_le _) rfl
theorem made_as {a W : World} {row : Option Nat} (_ : a.grownBy W row) {s : Nat} (t : TypeId) (cs : Array Value) (hs : W.heap.size = s) : Blk (W.alloc (.cells cs t)) s t cs := by rw [← hs]; exact Blk.made W t cs
set_option maxRecDepth 100000 in
set_option maxHeartbeats 8000000 in
theorem do_send_ok (la : Option Addr) (n lc : Nat) (ca : Option Addr) (k cc : Nat) (DL : List MsgR) (DC : List (Int × Int)) (x : ActR) (w : World) (h : RNet w la n lc ca k cc DL DC) (hx : AIn w w.heap.size x) (hn : n ≤ 1000) (hk : k ≤ 1000) (HLN : x.m.n ≤ 1099511627776) (hk0 : x.kd = 0) (hq : mchk x.m = 0) :
    Calls Try.prog 33 #[.agg #[.slice la n lc, .slice ca k cc], .agg #[.int .i64 x.kd, .int .i64 x.i, .int .i64 x.k, .int .i64 x.m.fr, .int .i64 x.m.tt, .int .i64 x.m.kd, .int .i64 x.m.vol, .int .i64 x.m.life, .int .u64 x.m.id, .int .i64 x.m.cd, .bool x.m.has, .int .u64 x.m.key, .int .u32 x.m.ck, .bool x.m.g, .slice x.m.a x.m.n x.m.c]] w (DoP (docDo DL DC x) w) := by
  have HH := Lib.hid h
  have HX := Lib.hid hx
  have HL := Lib.hid h.m.1
  have HLC := Lib.hid h.c.1
  obtain ⟨b0, b1, b2, b3, b4, bb⟩ := made_five w 73 66 73 36 36 #[.slice la n lc, .slice ca k cc] #[.int .i64 x.kd, .int .i64 x.i, .int .i64 x.k, .int .i64 x.m.fr, .int .i64 x.m.tt, .int .i64 x.m.kd, .int .i64 x.m.vol, .int .i64 x.m.life, .int .u64 x.m.id, .int .i64 x.m.cd, .bool x.m.has, .int .u64 x.m.key, .int .u32 x.m.ck, .bool x.m.g, .slice x.m.a x.m.n x.m.c] #[.slice none 0 0, .slice none 0 0] #[.int .i64 0, .int .i64 0, .int .i64 0, .int .i64 0, .int .i64 0, .int .u64 0, .int .i64 0, .bool false, .int .u64 0, .int .u32 0, .bool false, .slice none 0 0] #[.int .i64 0, .int .i64 0, .int .i64 0, .int .i64 0, .int .i64 0, .int .u64 0, .int .i64 0, .bool false, .int .u64 0, .int .u32 0, .bool false, .slice none 0 0]
  have H0 := Lib.hid b0
  have H1 := Lib.hid b1
  have H2 := Lib.hid b2
  have H3 := Lib.hid b3
  have H4 := Lib.hid b4
  have HB := Lib.hid bb
  clear h hx b0 b1 b2 b3 b4 bb
  have HO := Lib.hid (show docDo DL DC x = (DL ++ [x.m], DC, mNone, 0) from by unfold docDo; rw [if_pos hk0, if_neg (not_not_intro hq), if_neg (by rw [HL.out]; omega)])
  have y0 : (x.kd == 0) = true := by rw [hk0]; rfl
  have EC := Lib.hid fun (W : World) (B : Below w.heap.size w W) => show Calls Try.prog 17 #[.agg #[.int .i64 x.m.fr, .int .i64 x.m.tt, .int .i64 x.m.kd, .int .i64 x.m.vol, .int .i64 x.m.life, .int .u64 x.m.id, .int .i64 x.m.cd, .bool x.m.has, .int .u64 x.m.key, .int .u32 x.m.ck, .bool x.m.g, .slice x.m.a x.m.n x.m.c]] W fun e w' => e = .returned (.int .i64 0) ∧ Below W.heap.size W w' from by
    have := rcheck_any x.m W ((HX.out.m.hb.below B).more B.size) HLN
    rw [hq] at this
    exact this
  have hfull : decide ((4096 : Int) ≤ (n : Int)) = false := decide_eq_false (by omega)
  clear hk0 hq
  go_enter Try.func33, Try.ntmps33
  go_upto_region 2 with fail
  generalize (((((w.alloc (.cells #[.slice la n lc, .slice ca k cc] 73)).alloc (.cells #[.int .i64 x.kd, .int .i64 x.i, .int .i64 x.k, .int .i64 x.m.fr, .int .i64 x.m.tt, .int .i64 x.m.kd, .int .i64 x.m.vol, .int .i64 x.m.life, .int .u64 x.m.id, .int .i64 x.m.cd, .bool x.m.has, .int .u64 x.m.key, .int .u32 x.m.ck, .bool x.m.g, .slice x.m.a x.m.n x.m.c] 66)).alloc (.cells #[.slice none 0 0, .slice none 0 0] 73)).alloc (.cells #[.int .i64 0, .int .i64 0, .int .i64 0, .int .i64 0, .int .i64 0, .int .u64 0, .int .i64 0, .bool false, .int .u64 0, .int .u32 0, .bool false, .slice none 0 0] 36)).alloc (.cells #[.int .i64 0, .int .i64 0, .int .i64 0, .int .i64 0, .int .i64 0, .int .u64 0, .int .i64 0, .bool false, .int .u64 0, .int .u32 0, .bool false, .slice none 0 0] 36)) = W1 at *
  obtain ⟨k0, k1, k2, k3, k4, k5, k6, k7, k8, k9, k10, k11, k12, k13, k14⟩ := act_cells H1.out
  go_wp2_with fail
  refine (EC.out _ HB.out).mono ?_
  rintro e w2 ⟨rfl, B2⟩
  have HB2 := Lib.hid (HB.out.trans (B2.mono HB.out.size))
  have G0 := Lib.hid (H0.out.below B2 H0.out.lt)
  have G1 := Lib.hid (H1.out.below B2 H1.out.lt)
  have G2 := Lib.hid (H2.out.below B2 H2.out.lt)
  have G3 := Lib.hid (H3.out.below B2 H3.out.lt)
  have G4 := Lib.hid (H4.out.below B2 H4.out.lt)
  clear B2 k0 k1 k2 k3 k4 k5 k6 k7 k8 k9 k10 k11 k12 k13 k14 EC
  have n0 := G0.out.cell 0
  have HC8 := Lib.hid fun (W : World) (hW : w2.grownBy W (some w.heap.size)) => act_cells (G1.out.grown hW (by intro e; injection e with e; omega))
  have HM := Lib.hid fun (W : World) (hW : w2.grownBy W (some w.heap.size)) => (show MSl W W.heap.size la n DL from (HH.out.m.below (HB2.out.trans (grown_below hW HB2.out.size (Nat.le_refl _)))).more (Nat.le_trans HB2.out.size hW.size))
  have HG := Lib.hid fun (W : World) (hW : w2.grownBy W (some w.heap.size)) (i : Nat) (hi : i < n) => (HM.out W hW).2.1 i hi
  have HAM := Lib.hid fun (W : World) (g0 cap0 : Nat) (ho : W.ownsRow w2.heap.size 36 12 (.slice (some ⟨g0, 0, none⟩) 0 cap0) 0 []) (hW : w2.grownBy W (some w.heap.size)) => append_msgs ho lc (HM.out W hW) (by omega) hW.size
  have HA1 := Lib.hid fun (W : World) (g0 cap0 gb : Nat) (ho : W.ownsRow w2.heap.size 36 12 (.slice (some ⟨g0, 0, none⟩) n cap0) n (flatM DL)) (hb : Blk W gb 36 x.m.cells.toArray) (hW : w2.grownBy W (some w.heap.size)) => append_msg ho x.m hb (by omega) hW.size
  have hs2 : w.heap.size < w2.heap.size := G0.out.lt
  have HS2 := Lib.hid hs2
  have hnb := G0.out.drew
  have L0 := G0.out.drew.cell 0
  have L1 := (G0.out.alloc (.cells #[] 36)).drew.cell 0
  have L2 := (G0.out.alloc (.cells #[.int .i64 x.m.fr, .int .i64 x.m.tt, .int .i64 x.m.kd, .int .i64 x.m.vol, .int .i64 x.m.life, .int .u64 x.m.id, .int .i64 x.m.cd, .bool x.m.has, .int .u64 x.m.key, .int .u32 x.m.ck, .bool x.m.g, .slice x.m.a x.m.n x.m.c] 36)).drew.cell 0
  have L3 := ((G0.out.alloc (.cells #[] 36)).alloc (.cells #[.int .i64 x.m.fr, .int .i64 x.m.tt, .int .i64 x.m.kd, .int .i64 x.m.vol, .int .i64 x.m.life, .int .u64 x.m.id, .int .i64 x.m.cd, .bool x.m.has, .int .u64 x.m.key, .int .u32 x.m.ck, .bool x.m.g, .slice x.m.a x.m.n x.m.c] 36)).drew.cell 0
  have L4 := ((G0.out.alloc (.cells #[.int .i64 x.m.fr, .int .i64 x.m.tt, .int .i64 x.m.kd, .int .i64 x.m.vol, .int .i64 x.m.life, .int .u64 x.m.id, .int .i64 x.m.cd, .bool x.m.has, .int .u64 x.m.key, .int .u32 x.m.ck, .bool x.m.g, .slice x.m.a x.m.n x.m.c] 36)).alloc (.cells #[] 36)).drew.cell 0
  go_upto_region 8 with fail
  go_cut [6] (fun v wx => v = .int .i64 0 ∧ ∃ g5 cap5, Blk wx w.heap.size 73 #[.slice (some ⟨g5, 0, none⟩) (n + 1) cap5, .slice ca k cc] ∧ wx.ownsRow w2.heap.size 36 12 (.slice (some ⟨g5, 0, none⟩) (n + 1) cap5) (n + 1) (flatM DL ++ x.m.cells) ∧ w2.grownBy wx (some w.heap.size))
  case first =>
    refine wp_region_held_drew (S := fun W => w2.grownBy W (some w.heap.size)) (by kernel_rfl) (by exact grown_drew (grown_refl _ _)) (fun hS => ?_)
    refine wpAnyH_take (i := 1) (v := ?_) rfl (by kernel_rfl) (by kernel_rfl) (by kernel_rfl) (fun _ _ _ h => h) (Or.inl ⟨by kernel_rfl, ?_⟩) hS ?_
    rotate_left
    · intro W hW; go_simp; try with_reducible rfl
    refine wpAnyH_take (i := 4) (v := ?_) rfl (by kernel_rfl) (by kernel_rfl) (by kernel_rfl) (fun _ _ _ h => h) (Or.inl ⟨by kernel_rfl, ?_⟩) hS ?_
    rotate_left
    · intro W hW; go_simp; try with_reducible rfl
    refine wpAnyH_take (i := 5) (v := ?_) rfl (by kernel_rfl) (by kernel_rfl) (by kernel_rfl) (fun _ _ _ h => h) (Or.inl ⟨by kernel_rfl, ?_⟩) hS ?_
    rotate_left
    · intro W hW; obtain ⟨k0, k1, k2, k3, k4, k5, k6, k7, k8, k9, k10, k11, k12, k13, k14⟩ := HC8.out W hW; go_simp; try with_reducible rfl
    refine wpAnyH_ready (rs := [0, 2, 6]) (by kernel_rfl) (by simp) ?_
    refine AllReadyH.cons (i := 0) rfl ?_ ?_
    · intro K hK
      go_simp
      first
      | have ho := own_new (base := w2.heap.size) (s := w2.heap.size) 36 hS.size rfl
      | have ho := own_new (base := w2.heap.size) (s := w2.heap.size + 1) 36 hS.size (by simp)
      have hT := grown_trans hS (World.grownBy_alloc _ (.cells #[] 36) _)
      replace hnb := hnb.alloc (.cells #[] 36)
      try replace hb := hb.alloc (.cells #[] 36)
      go_simp
      refine hK.out _ _ ?_ (fun hN => ?_)
      · first | exact hT | exact hS | exact hS.alloc hS.size _ | exact hS.drew
      clear hK K
      try clear hT
      clear hS
      have hS := hN
      clear hN
      refine wpAnyH_ready (rs := [2, 6]) (by kernel_rfl) (by simp) ?_
      refine AllReadyH.cons (i := 2) rfl ?_ ?_
      · intro K hK
        go_simp
        refine hK.out _ _ ?_ (fun hN => ?_)
        · first | exact hT | exact hS | exact hS.alloc hS.size _ | exact hS.drew
        clear hK K
        try clear hT
        clear hS
        have hS := hN
        clear hN
        refine wpAnyH_ready (rs := [3, 6]) (by kernel_rfl) (by simp) ?_
        refine AllReadyH.cons (i := 3) rfl ?_ ?_
        · intro K hK
          obtain ⟨g3, cap3, W3, hr3, ho3, hg3⟩ := HAM.out _ _ _ ho hS
          have hg3l := (ho.lt _ rfl).1
          have hT := grown_fresh hS hg3 hg3l
          replace hnb := hnb.grown hg3 (by intro e; injection e with e; have := HS2.out; omega)
          try replace hb := hb.grown hg3 (by intro e; injection e with e; omega)
          rw [Nat.zero_add] at hr3 ho3
          rw [List.nil_append] at ho3
          refine step_run_g (by kernel_rfl) _ _ (by rfl) (by rfl) (by rfl) hr3 ?_
          clear hr3 hg3 ho hg3l
          refine hK.out _ _ ?_ (fun hN => ?_)
          · first | exact hT | exact hS | exact hS.alloc hS.size _ | exact hS.drew
          clear hK K
          try clear hT
          clear hS
          have hS := hN
          clear hN
          refine wpAnyH_ready (rs := [6]) (by kernel_rfl) (by simp) ?_
          refine AllReadyH.cons (i := 6) rfl ?_ AllReadyH.nil
          intro K hK
          go_simp
          first
          | have hb := made_as hS (s := w2.heap.size) 36 #[.int .i64 x.m.fr, .int .i64 x.m.tt, .int .i64 x.m.kd, .int .i64 x.m.vol, .int .i64 x.m.life, .int .u64 x.m.id, .int .i64 x.m.cd, .bool x.m.has, .int .u64 x.m.key, .int .u32 x.m.ck, .bool x.m.g, .slice x.m.a x.m.n x.m.c] rfl
          | have hb := made_as hS (s := w2.heap.size + 1) 36 #[.int .i64 x.m.fr, .int .i64 x.m.tt, .int .i64 x.m.kd, .int .i64 x.m.vol, .int .i64 x.m.life, .int .u64 x.m.id, .int .i64 x.m.cd, .bool x.m.has, .int .u64 x.m.key, .int .u32 x.m.ck, .bool x.m.g, .slice x.m.a x.m.n x.m.c] (by simp)
          | have hb := made_as hS 36 #[.int .i64 x.m.fr, .int .i64 x.m.tt, .int .i64 x.m.kd, .int .i64 x.m.vol, .int .i64 x.m.life, .int .u64 x.m.id, .int .i64 x.m.cd, .bool x.m.has, .int .u64 x.m.key, .int .u32 x.m.ck, .bool x.m.g, .slice x.m.a x.m.n x.m.c] rfl
          have hT := grown_trans hS (World.grownBy_alloc _ (.cells #[.int .i64 x.m.fr, .int .i64 x.m.tt, .int .i64 x.m.kd, .int .i64 x.m.vol, .int .i64 x.m.life, .int .u64 x.m.id, .int .i64 x.m.cd, .bool x.m.has, .int .u64 x.m.key, .int .u32 x.m.ck, .bool x.m.g, .slice x.m.a x.m.n x.m.c] 36) _)
          replace hnb := hnb.alloc (.cells #[.int .i64 x.m.fr, .int .i64 x.m.tt, .int .i64 x.m.kd, .int .i64 x.m.vol, .int .i64 x.m.life, .int .u64 x.m.id, .int .i64 x.m.cd, .bool x.m.has, .int .u64 x.m.key, .int .u32 x.m.ck, .bool x.m.g, .slice x.m.a x.m.n x.m.c] 36)
          try replace ho := ho.alloc (.cells #[.int .i64 x.m.fr, .int .i64 x.m.tt, .int .i64 x.m.kd, .int .i64 x.m.vol, .int .i64 x.m.life, .int .u64 x.m.id, .int .i64 x.m.cd, .bool x.m.has, .int .u64 x.m.key, .int .u32 x.m.ck, .bool x.m.g, .slice x.m.a x.m.n x.m.c] 36)
          try replace ho3 := ho3.alloc (.cells #[.int .i64 x.m.fr, .int .i64 x.m.tt, .int .i64 x.m.kd, .int .i64 x.m.vol, .int .i64 x.m.life, .int .u64 x.m.id, .int .i64 x.m.cd, .bool x.m.has, .int .u64 x.m.key, .int .u32 x.m.ck, .bool x.m.g, .slice x.m.a x.m.n x.m.c] 36)
          go_simp
          refine hK.out _ _ ?_ (fun hN => ?_)
          · first | exact hT | exact hS | exact hS.alloc hS.size _ | exact hS.drew
          clear hK K
          try clear hT
          clear hS
          have hS := hN
          clear hN
          refine wpAnyH_ready (rs := [7]) (by kernel_rfl) (by simp) ?_
          refine AllReadyH.cons (i := 7) rfl ?_ AllReadyH.nil
          intro K hK
          obtain ⟨g5, cap5, W5, hr5, ho5, hg5⟩ := HA1.out _ _ _ _ ho3 hb hS
          have hg5l := (ho3.lt _ rfl).1
          have hT := grown_fresh hS hg5 hg5l
          replace hnb := hnb.grown hg5 (by intro e; injection e with e; have := HS2.out; omega)
          have d0 := hnb.cell 0
          have f0 := hnb.frozen 0
          refine step_run_g (by kernel_rfl) _ _ (by rfl) (by rfl) (by rfl) hr5 ?_
          clear hr5 hg5 ho3 hb hg5l
          refine hK.out _ _ ?_ (fun hN => ?_)
          · first | exact hT | exact hS | exact hS.alloc hS.size _ | exact hS.drew
          clear hK K
          try clear hT
          clear hS
          have hS := hN
          clear hN
          refine wpAnyH_take (i := 8) (v := ?_) rfl (by kernel_rfl) (by kernel_rfl) (by kernel_rfl) (fun _ _ _ h => h) (Or.inl ⟨by kernel_rfl, ?_⟩) hS ?_
          rotate_left
          · intro W hW; go_simp; try with_reducible rfl
          refine wpAnyH_ready (rs := [9]) (by kernel_rfl) (by simp) ?_
          refine AllReadyH.cons (i := 9) rfl ?_ AllReadyH.nil
          intro K hK
          have hT := grown_put hS 0 (.slice (some ⟨g5, 0, none⟩) (n + 1) cap5)
          have hnc := hnb.put 0 (.slice (some ⟨g5, 0, none⟩) (n + 1) cap5)
          have ho6 := row_far ho5 (grown_put (grown_refl _ _) 0 (.slice (some ⟨g5, 0, none⟩) (n + 1) cap5)) HS2.out
          go_simp
          clear d0 f0 hnb ho5
          refine hK.out _ _ ?_ (fun hN => ?_)
          · first | exact hT | exact hS | exact hS.alloc hS.size _ | exact hS.drew
          clear hK K
          try clear hT
          clear hS
          have hS := hN
          clear hN
          refine wpAnyH_done (by kernel_rfl) ?_ _
          go_simp
          have HSF := Lib.hid hS
          have HN6 := Lib.hid hnc
          have HO6 := Lib.hid ho6
          clear hS hnc ho6
          go_wp2_with fail
          go_meet
          exact ⟨rfl, _, _, HN6.out, HO6.out, HSF.out⟩
        refine AllReadyH.cons (i := 6) rfl ?_ AllReadyH.nil
        intro K hK
        go_simp
        first
        | have hb := made_as hS (s := w2.heap.size) 36 #[.int .i64 x.m.fr, .int .i64 x.m.tt, .int .i64 x.m.kd, .int .i64 x.m.vol, .int .i64 x.m.life, .int .u64 x.m.id, .int .i64 x.m.cd, .bool x.m.has, .int .u64 x.m.key, .int .u32 x.m.ck, .bool x.m.g, .slice x.m.a x.m.n x.m.c] rfl
        | have hb := made_as hS (s := w2.heap.size + 1) 36 #[.int .i64 x.m.fr, .int .i64 x.m.tt, .int .i64 x.m.kd, .int .i64 x.m.vol, .int .i64 x.m.life, .int .u64 x.m.id, .int .i64 x.m.cd, .bool x.m.has, .int .u64 x.m.key, .int .u32 x.m.ck, .bool x.m.g, .slice x.m.a x.m.n x.m.c] (by simp)
        | have hb := made_as hS 36 #[.int .i64 x.m.fr, .int .i64 x.m.tt, .int .i64 x.m.kd, .int .i64 x.m.vol, .int .i64 x.m.life, .int .u64 x.m.id, .int .i64 x.m.cd, .bool x.m.has, .int .u64 x.m.key, .int .u32 x.m.ck, .bool x.m.g, .slice x.m.a x.m.n x.m.c] rfl
        have hT := grown_trans hS (World.grownBy_alloc _ (.cells #[.int .i64 x.m.fr, .int .i64 x.m.tt, .int .i64 x.m.kd, .int .i64 x.m.vol, .int .i64 x.m.life, .int .u64 x.m.id, .int .i64 x.m.cd, .bool x.m.has, .int .u64 x.m.key, .int .u32 x.m.ck, .bool x.m.g, .slice x.m.a x.m.n x.m.c] 36) _)
        replace hnb := hnb.alloc (.cells #[.int .i64 x.m.fr, .int .i64 x.m.tt, .int .i64 x.m.kd, .int .i64 x.m.vol, .int .i64 x.m.life, .int .u64 x.m.id, .int .i64 x.m.cd, .bool x.m.has, .int .u64 x.m.key, .int .u32 x.m.ck, .bool x.m.g, .slice x.m.a x.m.n x.m.c] 36)
        try replace ho := ho.alloc (.cells #[.int .i64 x.m.fr, .int .i64 x.m.tt, .int .i64 x.m.kd, .int .i64 x.m.vol, .int .i64 x.m.life, .int .u64 x.m.id, .int .i64 x.m.cd, .bool x.m.has, .int .u64 x.m.key, .int .u32 x.m.ck, .bool x.m.g, .slice x.m.a x.m.n x.m.c] 36)
        try replace ho3 := ho3.alloc (.cells #[.int .i64 x.m.fr, .int .i64 x.m.tt, .int .i64 x.m.kd, .int .i64 x.m.vol, .int .i64 x.m.life, .int .u64 x.m.id, .int .i64 x.m.cd, .bool x.m.has, .int .u64 x.m.key, .int .u32 x.m.ck, .bool x.m.g, .slice x.m.a x.m.n x.m.c] 36)
        go_simp
        refine hK.out _ _ ?_ (fun hN => ?_)
        · first | exact hT | exact hS | exact hS.alloc hS.size _ | exact hS.drew
        clear hK K
        try clear hT
        clear hS
        have hS := hN
        clear hN
        refine wpAnyH_ready (rs := [3]) (by kernel_rfl) (by simp) ?_
        refine AllReadyH.cons (i := 3) rfl ?_ AllReadyH.nil
        intro K hK
        obtain ⟨g3, cap3, W3, hr3, ho3, hg3⟩ := HAM.out _ _ _ ho hS
        have hg3l := (ho.lt _ rfl).1
        have hT := grown_fresh hS hg3 hg3l
        replace hnb := hnb.grown hg3 (by intro e; injection e with e; have := HS2.out; omega)
        try replace hb := hb.grown hg3 (by intro e; injection e with e; omega)
        rw [Nat.zero_add] at hr3 ho3
        rw [List.nil_append] at ho3
        refine step_run_g (by kernel_rfl) _ _ (by rfl) (by rfl) (by rfl) hr3 ?_
        clear hr3 hg3 ho hg3l
        refine hK.out _ _ ?_ (fun hN => ?_)
        · first | exact hT | exact hS | exact hS.alloc hS.size _ | exact hS.drew
        clear hK K
        try clear hT
        clear hS
        have hS := hN
        clear hN
        refine wpAnyH_ready (rs := [7]) (by kernel_rfl) (by simp) ?_
        refine AllReadyH.cons (i := 7) rfl ?_ AllReadyH.nil
        intro K hK
        obtain ⟨g5, cap5, W5, hr5, ho5, hg5⟩ := HA1.out _ _ _ _ ho3 hb hS
        have hg5l := (ho3.lt _ rfl).1
        have hT := grown_fresh hS hg5 hg5l
        replace hnb := hnb.grown hg5 (by intro e; injection e with e; have := HS2.out; omega)
        have d0 := hnb.cell 0
        have f0 := hnb.frozen 0
        refine step_run_g (by kernel_rfl) _ _ (by rfl) (by rfl) (by rfl) hr5 ?_
        clear hr5 hg5 ho3 hb hg5l
        refine hK.out _ _ ?_ (fun hN => ?_)
        · first | exact hT | exact hS | exact hS.alloc hS.size _ | exact hS.drew
        clear hK K
        try clear hT
        clear hS
        have hS := hN
        clear hN
        refine wpAnyH_take (i := 8) (v := ?_) rfl (by kernel_rfl) (by kernel_rfl) (by kernel_rfl) (fun _ _ _ h => h) (Or.inl ⟨by kernel_rfl, ?_⟩) hS ?_
        rotate_left
        · intro W hW; go_simp; try with_reducible rfl
        refine wpAnyH_ready (rs := [9]) (by kernel_rfl) (by simp) ?_
        refine AllReadyH.cons (i := 9) rfl ?_ AllReadyH.nil
        intro K hK
        have hT := grown_put hS 0 (.slice (some ⟨g5, 0, none⟩) (n + 1) cap5)
        have hnc := hnb.put 0 (.slice (some ⟨g5, 0, none⟩) (n + 1) cap5)
        have ho6 := row_far ho5 (grown_put (grown_refl _ _) 0 (.slice (some ⟨g5, 0, none⟩) (n + 1) cap5)) HS2.out
        go_simp
        clear d0 f0 hnb ho5
        refine hK.out _ _ ?_ (fun hN => ?_)
        · first | exact hT | exact hS | exact hS.alloc hS.size _ | exact hS.drew
        clear hK K
        try clear hT
        clear hS
        have hS := hN
        clear hN
        refine wpAnyH_done (by kernel_rfl) ?_ _
        go_simp
        have HSF := Lib.hid hS
        have HN6 := Lib.hid hnc
        have HO6 := Lib.hid ho6
        clear hS hnc ho6
        go_wp2_with fail
        go_meet
        exact ⟨rfl, _, _, HN6.out, HO6.out, HSF.out⟩
      refine AllReadyH.cons (i := 6) rfl ?_ AllReadyH.nil
      intro K hK
      go_simp
      first
      | have hb := made_as hS (s := w2.heap.size) 36 #[.int .i64 x.m.fr, .int .i64 x.m.tt, .int .i64 x.m.kd, .int .i64 x.m.vol, .int .i64 x.m.life, .int .u64 x.m.id, .int .i64 x.m.cd, .bool x.m.has, .int .u64 x.m.key, .int .u32 x.m.ck, .bool x.m.g, .slice x.m.a x.m.n x.m.c] rfl
      | have hb := made_as hS (s := w2.heap.size + 1) 36 #[.int .i64 x.m.fr, .int .i64 x.m.tt, .int .i64 x.m.kd, .int .i64 x.m.vol, .int .i64 x.m.life, .int .u64 x.m.id, .int .i64 x.m.cd, .bool x.m.has, .int .u64 x.m.key, .int .u32 x.m.ck, .bool x.m.g, .slice x.m.a x.m.n x.m.c] (by simp)
      | have hb := made_as hS 36 #[.int .i64 x.m.fr, .int .i64 x.m.tt, .int .i64 x.m.kd, .int .i64 x.m.vol, .int .i64 x.m.life, .int .u64 x.m.id, .int .i64 x.m.cd, .bool x.m.has, .int .u64 x.m.key, .int .u32 x.m.ck, .bool x.m.g, .slice x.m.a x.m.n x.m.c] rfl
      have hT := grown_trans hS (World.grownBy_alloc _ (.cells #[.int .i64 x.m.fr, .int .i64 x.m.tt, .int .i64 x.m.kd, .int .i64 x.m.vol, .int .i64 x.m.life, .int .u64 x.m.id, .int .i64 x.m.cd, .bool x.m.has, .int .u64 x.m.key, .int .u32 x.m.ck, .bool x.m.g, .slice x.m.a x.m.n x.m.c] 36) _)
      replace hnb := hnb.alloc (.cells #[.int .i64 x.m.fr, .int .i64 x.m.tt, .int .i64 x.m.kd, .int .i64 x.m.vol, .int .i64 x.m.life, .int .u64 x.m.id, .int .i64 x.m.cd, .bool x.m.has, .int .u64 x.m.key, .int .u32 x.m.ck, .bool x.m.g, .slice x.m.a x.m.n x.m.c] 36)
      try replace ho := ho.alloc (.cells #[.int .i64 x.m.fr, .int .i64 x.m.tt, .int .i64 x.m.kd, .int .i64 x.m.vol, .int .i64 x.m.life, .int .u64 x.m.id, .int .i64 x.m.cd, .bool x.m.has, .int .u64 x.m.key, .int .u32 x.m.ck, .bool x.m.g, .slice x.m.a x.m.n x.m.c] 36)
      try replace ho3 := ho3.alloc (.cells #[.int .i64 x.m.fr, .int .i64 x.m.tt, .int .i64 x.m.kd, .int .i64 x.m.vol, .int .i64 x.m.life, .int .u64 x.m.id, .int .i64 x.m.cd, .bool x.m.has, .int .u64 x.m.key, .int .u32 x.m.ck, .bool x.m.g, .slice x.m.a x.m.n x.m.c] 36)
      go_simp
      refine hK.out _ _ ?_ (fun hN => ?_)
      · first | exact hT | exact hS | exact hS.alloc hS.size _ | exact hS.drew
      clear hK K
      try clear hT
      clear hS
      have hS := hN
      clear hN
      refine wpAnyH_ready (rs := [2]) (by kernel_rfl) (by simp) ?_
      refine AllReadyH.cons (i := 2) rfl ?_ AllReadyH.nil
      intro K hK
      go_simp
      refine hK.out _ _ ?_ (fun hN => ?_)
      · first | exact hT | exact hS | exact hS.alloc hS.size _ | exact hS.drew
      clear hK K
      try clear hT
      clear hS
      have hS := hN
      clear hN
      refine wpAnyH_ready (rs := [3]) (by kernel_rfl) (by simp) ?_
      refine AllReadyH.cons (i := 3) rfl ?_ AllReadyH.nil
      intro K hK
      obtain ⟨g3, cap3, W3, hr3, ho3, hg3⟩ := HAM.out _ _ _ ho hS
      have hg3l := (ho.lt _ rfl).1
      have hT := grown_fresh hS hg3 hg3l
      replace hnb := hnb.grown hg3 (by intro e; injection e with e; have := HS2.out; omega)
      try replace hb := hb.grown hg3 (by intro e; injection e with e; omega)
      rw [Nat.zero_add] at hr3 ho3
      rw [List.nil_append] at ho3
      refine step_run_g (by kernel_rfl) _ _ (by rfl) (by rfl) (by rfl) hr3 ?_
      clear hr3 hg3 ho hg3l
      refine hK.out _ _ ?_ (fun hN => ?_)
      · first | exact hT | exact hS | exact hS.alloc hS.size _ | exact hS.drew
      clear hK K
      try clear hT
      clear hS
      have hS := hN
      clear hN
      refine wpAnyH_ready (rs := [7]) (by kernel_rfl) (by simp) ?_
      refine AllReadyH.cons (i := 7) rfl ?_ AllReadyH.nil
      intro K hK
      obtain ⟨g5, cap5, W5, hr5, ho5, hg5⟩ := HA1.out _ _ _ _ ho3 hb hS
      have hg5l := (ho3.lt _ rfl).1
      have hT := grown_fresh hS hg5 hg5l
      replace hnb := hnb.grown hg5 (by intro e; injection e with e; have := HS2.out; omega)
      have d0 := hnb.cell 0
      have f0 := hnb.frozen 0
      refine step_run_g (by kernel_rfl) _ _ (by rfl) (by rfl) (by rfl) hr5 ?_
      clear hr5 hg5 ho3 hb hg5l
      refine hK.out _ _ ?_ (fun hN => ?_)
      · first | exact hT | exact hS | exact hS.alloc hS.size _ | exact hS.drew
      clear hK K
      try clear hT
      clear hS
      have hS := hN
      clear hN
      refine wpAnyH_take (i := 8) (v := ?_) rfl (by kernel_rfl) (by kernel_rfl) (by kernel_rfl) (fun _ _ _ h => h) (Or.inl ⟨by kernel_rfl, ?_⟩) hS ?_
      rotate_left
      · intro W hW; go_simp; try with_reducible rfl
      refine wpAnyH_ready (rs := [9]) (by kernel_rfl) (by simp) ?_
      refine AllReadyH.cons (i := 9) rfl ?_ AllReadyH.nil
      intro K hK
      have hT := grown_put hS 0 (.slice (some ⟨g5, 0, none⟩) (n + 1) cap5)
      have hnc := hnb.put 0 (.slice (some ⟨g5, 0, none⟩) (n + 1) cap5)
      have ho6 := row_far ho5 (grown_put (grown_refl _ _) 0 (.slice (some ⟨g5, 0, none⟩) (n + 1) cap5)) HS2.out
      go_simp
      clear d0 f0 hnb ho5
      refine hK.out _ _ ?_ (fun hN => ?_)
      · first | exact hT | exact hS | exact hS.alloc hS.size _ | exact hS.drew
      clear hK K
      try clear hT
      clear hS
      have hS := hN
      clear hN
      refine wpAnyH_done (by kernel_rfl) ?_ _
      go_simp
      have HSF := Lib.hid hS
      have HN6 := Lib.hid hnc
      have HO6 := Lib.hid ho6
      clear hS hnc ho6
      go_wp2_with fail
      go_meet
      exact ⟨rfl, _, _, HN6.out, HO6.out, HSF.out⟩
    refine AllReadyH.cons (i := 2) rfl ?_ ?_
    · intro K hK
      go_simp
      refine hK.out _ _ ?_ (fun hN => ?_)
      · first | exact hT | exact hS | exact hS.alloc hS.size _ | exact hS.drew
      clear hK K
      try clear hT
      clear hS
      have hS := hN
      clear hN
      refine wpAnyH_ready (rs := [0, 6]) (by kernel_rfl) (by simp) ?_
      refine AllReadyH.cons (i := 0) rfl ?_ ?_
      · intro K hK
        go_simp
        first
        | have ho := own_new (base := w2.heap.size) (s := w2.heap.size) 36 hS.size rfl
        | have ho := own_new (base := w2.heap.size) (s := w2.heap.size + 1) 36 hS.size (by simp)
        have hT := grown_trans hS (World.grownBy_alloc _ (.cells #[] 36) _)
        replace hnb := hnb.alloc (.cells #[] 36)
        try replace hb := hb.alloc (.cells #[] 36)
        go_simp
        refine hK.out _ _ ?_ (fun hN => ?_)
        · first | exact hT | exact hS | exact hS.alloc hS.size _ | exact hS.drew
        clear hK K
        try clear hT
        clear hS
        have hS := hN
        clear hN
        refine wpAnyH_ready (rs := [3, 6]) (by kernel_rfl) (by simp) ?_
        refine AllReadyH.cons (i := 3) rfl ?_ ?_
        · intro K hK
          obtain ⟨g3, cap3, W3, hr3, ho3, hg3⟩ := HAM.out _ _ _ ho hS
          have hg3l := (ho.lt _ rfl).1
          have hT := grown_fresh hS hg3 hg3l
          replace hnb := hnb.grown hg3 (by intro e; injection e with e; have := HS2.out; omega)
          try replace hb := hb.grown hg3 (by intro e; injection e with e; omega)
          rw [Nat.zero_add] at hr3 ho3
          rw [List.nil_append] at ho3
          refine step_run_g (by kernel_rfl) _ _ (by rfl) (by rfl) (by rfl) hr3 ?_
          clear hr3 hg3 ho hg3l
          refine hK.out _ _ ?_ (fun hN => ?_)
          · first | exact hT | exact hS | exact hS.alloc hS.size _ | exact hS.drew
          clear hK K
          try clear hT
          clear hS
          have hS := hN
          clear hN
          refine wpAnyH_ready (rs := [6]) (by kernel_rfl) (by simp) ?_
          refine AllReadyH.cons (i := 6) rfl ?_ AllReadyH.nil
          intro K hK
          go_simp
          first
          | have hb := made_as hS (s := w2.heap.size) 36 #[.int .i64 x.m.fr, .int .i64 x.m.tt, .int .i64 x.m.kd, .int .i64 x.m.vol, .int .i64 x.m.life, .int .u64 x.m.id, .int .i64 x.m.cd, .bool x.m.has, .int .u64 x.m.key, .int .u32 x.m.ck, .bool x.m.g, .slice x.m.a x.m.n x.m.c] rfl
          | have hb := made_as hS (s := w2.heap.size + 1) 36 #[.int .i64 x.m.fr, .int .i64 x.m.tt, .int .i64 x.m.kd, .int .i64 x.m.vol, .int .i64 x.m.life, .int .u64 x.m.id, .int .i64 x.m.cd, .bool x.m.has, .int .u64 x.m.key, .int .u32 x.m.ck, .bool x.m.g, .slice x.m.a x.m.n x.m.c] (by simp)
          | have hb := made_as hS 36 #[.int .i64 x.m.fr, .int .i64 x.m.tt, .int .i64 x.m.kd, .int .i64 x.m.vol, .int .i64 x.m.life, .int .u64 x.m.id, .int .i64 x.m.cd, .bool x.m.has, .int .u64 x.m.key, .int .u32 x.m.ck, .bool x.m.g, .slice x.m.a x.m.n x.m.c] rfl
          have hT := grown_trans hS (World.grownBy_alloc _ (.cells #[.int .i64 x.m.fr, .int .i64 x.m.tt, .int .i64 x.m.kd, .int .i64 x.m.vol, .int .i64 x.m.life, .int .u64 x.m.id, .int .i64 x.m.cd, .bool x.m.has, .int .u64 x.m.key, .int .u32 x.m.ck, .bool x.m.g, .slice x.m.a x.m.n x.m.c] 36) _)
          replace hnb := hnb.alloc (.cells #[.int .i64 x.m.fr, .int .i64 x.m.tt, .int .i64 x.m.kd, .int .i64 x.m.vol, .int .i64 x.m.life, .int .u64 x.m.id, .int .i64 x.m.cd, .bool x.m.has, .int .u64 x.m.key, .int .u32 x.m.ck, .bool x.m.g, .slice x.m.a x.m.n x.m.c] 36)
          try replace ho := ho.alloc (.cells #[.int .i64 x.m.fr, .int .i64 x.m.tt, .int .i64 x.m.kd, .int .i64 x.m.vol, .int .i64 x.m.life, .int .u64 x.m.id, .int .i64 x.m.cd, .bool x.m.has, .int .u64 x.m.key, .int .u32 x.m.ck, .bool x.m.g, .slice x.m.a x.m.n x.m.c] 36)
          try replace ho3 := ho3.alloc (.cells #[.int .i64 x.m.fr, .int .i64 x.m.tt, .int .i64 x.m.kd, .int .i64 x.m.vol, .int .i64 x.m.life, .int .u64 x.m.id, .int .i64 x.m.cd, .bool x.m.has, .int .u64 x.m.key, .int .u32 x.m.ck, .bool x.m.g, .slice x.m.a x.m.n x.m.c] 36)
          go_simp
          refine hK.out _ _ ?_ (fun hN => ?_)
          · first | exact hT | exact hS | exact hS.alloc hS.size _ | exact hS.drew
          clear hK K
          try clear hT
          clear hS
          have hS := hN
          clear hN
          refine wpAnyH_ready (rs := [7]) (by kernel_rfl) (by simp) ?_
          refine AllReadyH.cons (i := 7) rfl ?_ AllReadyH.nil
          intro K hK
          obtain ⟨g5, cap5, W5, hr5, ho5, hg5⟩ := HA1.out _ _ _ _ ho3 hb hS
          have hg5l := (ho3.lt _ rfl).1
          have hT := grown_fresh hS hg5 hg5l
          replace hnb := hnb.grown hg5 (by intro e; injection e with e; have := HS2.out; omega)
          have d0 := hnb.cell 0
          have f0 := hnb.frozen 0
          refine step_run_g (by kernel_rfl) _ _ (by rfl) (by rfl) (by rfl) hr5 ?_
          clear hr5 hg5 ho3 hb hg5l
          refine hK.out _ _ ?_ (fun hN => ?_)
          · first | exact hT | exact hS | exact hS.alloc hS.size _ | exact hS.drew
          clear hK K
          try clear hT
          clear hS
          have hS := hN
          clear hN
          refine wpAnyH_take (i := 8) (v := ?_) rfl (by kernel_rfl) (by kernel_rfl) (by kernel_rfl) (fun _ _ _ h => h) (Or.inl ⟨by kernel_rfl, ?_⟩) hS ?_
          rotate_left
          · intro W hW; go_simp; try with_reducible rfl
          refine wpAnyH_ready (rs := [9]) (by kernel_rfl) (by simp) ?_
          refine AllReadyH.cons (i := 9) rfl ?_ AllReadyH.nil
          intro K hK
          have hT := grown_put hS 0 (.slice (some ⟨g5, 0, none⟩) (n + 1) cap5)
          have hnc := hnb.put 0 (.slice (some ⟨g5, 0, none⟩) (n + 1) cap5)
          have ho6 := row_far ho5 (grown_put (grown_refl _ _) 0 (.slice (some ⟨g5, 0, none⟩) (n + 1) cap5)) HS2.out
          go_simp
          clear d0 f0 hnb ho5
          refine hK.out _ _ ?_ (fun hN => ?_)
          · first | exact hT | exact hS | exact hS.alloc hS.size _ | exact hS.drew
          clear hK K
          try clear hT
          clear hS
          have hS := hN
          clear hN
          refine wpAnyH_done (by kernel_rfl) ?_ _
          go_simp
          have HSF := Lib.hid hS
          have HN6 := Lib.hid hnc
          have HO6 := Lib.hid ho6
          clear hS hnc ho6
          go_wp2_with fail
          go_meet
          exact ⟨rfl, _, _, HN6.out, HO6.out, HSF.out⟩
        refine AllReadyH.cons (i := 6) rfl ?_ AllReadyH.nil
        intro K hK
        go_simp
        first
        | have hb := made_as hS (s := w2.heap.size) 36 #[.int .i64 x.m.fr, .int .i64 x.m.tt, .int .i64 x.m.kd, .int .i64 x.m.vol, .int .i64 x.m.life, .int .u64 x.m.id, .int .i64 x.m.cd, .bool x.m.has, .int .u64 x.m.key, .int .u32 x.m.ck, .bool x.m.g, .slice x.m.a x.m.n x.m.c] rfl
        | have hb := made_as hS (s := w2.heap.size + 1) 36 #[.int .i64 x.m.fr, .int .i64 x.m.tt, .int .i64 x.m.kd, .int .i64 x.m.vol, .int .i64 x.m.life, .int .u64 x.m.id, .int .i64 x.m.cd, .bool x.m.has, .int .u64 x.m.key, .int .u32 x.m.ck, .bool x.m.g, .slice x.m.a x.m.n x.m.c] (by simp)
        | have hb := made_as hS 36 #[.int .i64 x.m.fr, .int .i64 x.m.tt, .int .i64 x.m.kd, .int .i64 x.m.vol, .int .i64 x.m.life, .int .u64 x.m.id, .int .i64 x.m.cd, .bool x.m.has, .int .u64 x.m.key, .int .u32 x.m.ck, .bool x.m.g, .slice x.m.a x.m.n x.m.c] rfl
        have hT := grown_trans hS (World.grownBy_alloc _ (.cells #[.int .i64 x.m.fr, .int .i64 x.m.tt, .int .i64 x.m.kd, .int .i64 x.m.vol, .int .i64 x.m.life, .int .u64 x.m.id, .int .i64 x.m.cd, .bool x.m.has, .int .u64 x.m.key, .int .u32 x.m.ck, .bool x.m.g, .slice x.m.a x.m.n x.m.c] 36) _)
        replace hnb := hnb.alloc (.cells #[.int .i64 x.m.fr, .int .i64 x.m.tt, .int .i64 x.m.kd, .int .i64 x.m.vol, .int .i64 x.m.life, .int .u64 x.m.id, .int .i64 x.m.cd, .bool x.m.has, .int .u64 x.m.key, .int .u32 x.m.ck, .bool x.m.g, .slice x.m.a x.m.n x.m.c] 36)
        try replace ho := ho.alloc (.cells #[.int .i64 x.m.fr, .int .i64 x.m.tt, .int .i64 x.m.kd, .int .i64 x.m.vol, .int .i64 x.m.life, .int .u64 x.m.id, .int .i64 x.m.cd, .bool x.m.has, .int .u64 x.m.key, .int .u32 x.m.ck, .bool x.m.g, .slice x.m.a x.m.n x.m.c] 36)
        try replace ho3 := ho3.alloc (.cells #[.int .i64 x.m.fr, .int .i64 x.m.tt, .int .i64 x.m.kd, .int .i64 x.m.vol, .int .i64 x.m.life, .int .u64 x.m.id, .int .i64 x.m.cd, .bool x.m.has, .int .u64 x.m.key, .int .u32 x.m.ck, .bool x.m.g, .slice x.m.a x.m.n x.m.c] 36)
        go_simp
        refine hK.out _ _ ?_ (fun hN => ?_)
        · first | exact hT | exact hS | exact hS.alloc hS.size _ | exact hS.drew
        clear hK K
        try clear hT
        clear hS
        have hS := hN
        clear hN
        refine wpAnyH_ready (rs := [3]) (by kernel_rfl) (by simp) ?_
        refine AllReadyH.cons (i := 3) rfl ?_ AllReadyH.nil
        intro K hK
        obtain ⟨g3, cap3, W3, hr3, ho3, hg3⟩ := HAM.out _ _ _ ho hS
        have hg3l := (ho.lt _ rfl).1
        have hT := grown_fresh hS hg3 hg3l
        replace hnb := hnb.grown hg3 (by intro e; injection e with e; have := HS2.out; omega)
        try replace hb := hb.grown hg3 (by intro e; injection e with e; omega)
        rw [Nat.zero_add] at hr3 ho3
        rw [List.nil_append] at ho3
        refine step_run_g (by kernel_rfl) _ _ (by rfl) (by rfl) (by rfl) hr3 ?_
        clear hr3 hg3 ho hg3l
        refine hK.out _ _ ?_ (fun hN => ?_)
        · first | exact hT | exact hS | exact hS.alloc hS.size _ | exact hS.drew
        clear hK K
        try clear hT
        clear hS
        have hS := hN
        clear hN
        refine wpAnyH_ready (rs := [7]) (by kernel_rfl) (by simp) ?_
        refine AllReadyH.cons (i := 7) rfl ?_ AllReadyH.nil
        intro K hK
        obtain ⟨g5, cap5, W5, hr5, ho5, hg5⟩ := HA1.out _ _ _ _ ho3 hb hS
        have hg5l := (ho3.lt _ rfl).1
        have hT := grown_fresh hS hg5 hg5l
        replace hnb := hnb.grown hg5 (by intro e; injection e with e; have := HS2.out; omega)
        have d0 := hnb.cell 0
        have f0 := hnb.frozen 0
        refine step_run_g (by kernel_rfl) _ _ (by rfl) (by rfl) (by rfl) hr5 ?_
        clear hr5 hg5 ho3 hb hg5l
        refine hK.out _ _ ?_ (fun hN => ?_)
        · first | exact hT | exact hS | exact hS.alloc hS.size _ | exact hS.drew
        clear hK K
        try clear hT
        clear hS
        have hS := hN
        clear hN
        refine wpAnyH_take (i := 8) (v := ?_) rfl (by kernel_rfl) (by kernel_rfl) (by kernel_rfl) (fun _ _ _ h => h) (Or.inl ⟨by kernel_rfl, ?_⟩) hS ?_
        rotate_left
        · intro W hW; go_simp; try with_reducible rfl
        refine wpAnyH_ready (rs := [9]) (by kernel_rfl) (by simp) ?_
        refine AllReadyH.cons (i := 9) rfl ?_ AllReadyH.nil
        intro K hK
        have hT := grown_put hS 0 (.slice (some ⟨g5, 0, none⟩) (n + 1) cap5)
        have hnc := hnb.put 0 (.slice (some ⟨g5, 0, none⟩) (n + 1) cap5)
        have ho6 := row_far ho5 (grown_put (grown_refl _ _) 0 (.slice (some ⟨g5, 0, none⟩) (n + 1) cap5)) HS2.out
        go_simp
        clear d0 f0 hnb ho5
        refine hK.out _ _ ?_ (fun hN => ?_)
        · first | exact hT | exact hS | exact hS.alloc hS.size _ | exact hS.drew
        clear hK K
        try clear hT
        clear hS
        have hS := hN
        clear hN
        refine wpAnyH_done (by kernel_rfl) ?_ _
        go_simp
        have HSF := Lib.hid hS
        have HN6 := Lib.hid hnc
        have HO6 := Lib.hid ho6
        clear hS hnc ho6
        go_wp2_with fail
        go_meet
        exact ⟨rfl, _, _, HN6.out, HO6.out, HSF.out⟩
      refine AllReadyH.cons (i := 6) rfl ?_ AllReadyH.nil
      intro K hK
      go_simp
      first
      | have hb := made_as hS (s := w2.heap.size) 36 #[.int .i64 x.m.fr, .int .i64 x.m.tt, .int .i64 x.m.kd, .int .i64 x.m.vol, .int .i64 x.m.life, .int .u64 x.m.id, .int .i64 x.m.cd, .bool x.m.has, .int .u64 x.m.key, .int .u32 x.m.ck, .bool x.m.g, .slice x.m.a x.m.n x.m.c] rfl
      | have hb := made_as hS (s := w2.heap.size + 1) 36 #[.int .i64 x.m.fr, .int .i64 x.m.tt, .int .i64 x.m.kd, .int .i64 x.m.vol, .int .i64 x.m.life, .int .u64 x.m.id, .int .i64 x.m.cd, .bool x.m.has, .int .u64 x.m.key, .int .u32 x.m.ck, .bool x.m.g, .slice x.m.a x.m.n x.m.c] (by simp)
      | have hb := made_as hS 36 #[.int .i64 x.m.fr, .int .i64 x.m.tt, .int .i64 x.m.kd, .int .i64 x.m.vol, .int .i64 x.m.life, .int .u64 x.m.id, .int .i64 x.m.cd, .bool x.m.has, .int .u64 x.m.key, .int .u32 x.m.ck, .bool x.m.g, .slice x.m.a x.m.n x.m.c] rfl
      have hT := grown_trans hS (World.grownBy_alloc _ (.cells #[.int .i64 x.m.fr, .int .i64 x.m.tt, .int .i64 x.m.kd, .int .i64 x.m.vol, .int .i64 x.m.life, .int .u64 x.m.id, .int .i64 x.m.cd, .bool x.m.has, .int .u64 x.m.key, .int .u32 x.m.ck, .bool x.m.g, .slice x.m.a x.m.n x.m.c] 36) _)
      replace hnb := hnb.alloc (.cells #[.int .i64 x.m.fr, .int .i64 x.m.tt, .int .i64 x.m.kd, .int .i64 x.m.vol, .int .i64 x.m.life, .int .u64 x.m.id, .int .i64 x.m.cd, .bool x.m.has, .int .u64 x.m.key, .int .u32 x.m.ck, .bool x.m.g, .slice x.m.a x.m.n x.m.c] 36)
      try replace ho := ho.alloc (.cells #[.int .i64 x.m.fr, .int .i64 x.m.tt, .int .i64 x.m.kd, .int .i64 x.m.vol, .int .i64 x.m.life, .int .u64 x.m.id, .int .i64 x.m.cd, .bool x.m.has, .int .u64 x.m.key, .int .u32 x.m.ck, .bool x.m.g, .slice x.m.a x.m.n x.m.c] 36)
      try replace ho3 := ho3.alloc (.cells #[.int .i64 x.m.fr, .int .i64 x.m.tt, .int .i64 x.m.kd, .int .i64 x.m.vol, .int .i64 x.m.life, .int .u64 x.m.id, .int .i64 x.m.cd, .bool x.m.has, .int .u64 x.m.key, .int .u32 x.m.ck, .bool x.m.g, .slice x.m.a x.m.n x.m.c] 36)
      go_simp
      refine hK.out _ _ ?_ (fun hN => ?_)
      · first | exact hT | exact hS | exact hS.alloc hS.size _ | exact hS.drew
      clear hK K
      try clear hT
      clear hS
      have hS := hN
      clear hN
      refine wpAnyH_ready (rs := [0]) (by kernel_rfl) (by simp) ?_
      refine AllReadyH.cons (i := 0) rfl ?_ AllReadyH.nil
      intro K hK
      go_simp
      first
      | have ho := own_new (base := w2.heap.size) (s := w2.heap.size) 36 hS.size rfl
      | have ho := own_new (base := w2.heap.size) (s := w2.heap.size + 1) 36 hS.size (by simp)
      have hT := grown_trans hS (World.grownBy_alloc _ (.cells #[] 36) _)
      replace hnb := hnb.alloc (.cells #[] 36)
      try replace hb := hb.alloc (.cells #[] 36)
      go_simp
      refine hK.out _ _ ?_ (fun hN => ?_)
      · first | exact hT | exact hS | exact hS.alloc hS.size _ | exact hS.drew
      clear hK K
      try clear hT
      clear hS
      have hS := hN
      clear hN
      refine wpAnyH_ready (rs := [3]) (by kernel_rfl) (by simp) ?_
      refine AllReadyH.cons (i := 3) rfl ?_ AllReadyH.nil
      intro K hK
      obtain ⟨g3, cap3, W3, hr3, ho3, hg3⟩ := HAM.out _ _ _ ho hS
      have hg3l := (ho.lt _ rfl).1
      have hT := grown_fresh hS hg3 hg3l
      replace hnb := hnb.grown hg3 (by intro e; injection e with e; have := HS2.out; omega)
      try replace hb := hb.grown hg3 (by intro e; injection e with e; omega)
      rw [Nat.zero_add] at hr3 ho3
      rw [List.nil_append] at ho3
      refine step_run_g (by kernel_rfl) _ _ (by rfl) (by rfl) (by rfl) hr3 ?_
      clear hr3 hg3 ho hg3l
      refine hK.out _ _ ?_ (fun hN => ?_)
      · first | exact hT | exact hS | exact hS.alloc hS.size _ | exact hS.drew
      clear hK K
      try clear hT
      clear hS
      have hS := hN
      clear hN
      refine wpAnyH_ready (rs := [7]) (by kernel_rfl) (by simp) ?_
      refine AllReadyH.cons (i := 7) rfl ?_ AllReadyH.nil
      intro K hK
      obtain ⟨g5, cap5, W5, hr5, ho5, hg5⟩ := HA1.out _ _ _ _ ho3 hb hS
      have hg5l := (ho3.lt _ rfl).1
      have hT := grown_fresh hS hg5 hg5l
      replace hnb := hnb.grown hg5 (by intro e; injection e with e; have := HS2.out; omega)
      have d0 := hnb.cell 0
      have f0 := hnb.frozen 0
      refine step_run_g (by kernel_rfl) _ _ (by rfl) (by rfl) (by rfl) hr5 ?_
      clear hr5 hg5 ho3 hb hg5l
      refine hK.out _ _ ?_ (fun hN => ?_)
      · first | exact hT | exact hS | exact hS.alloc hS.size _ | exact hS.drew
      clear hK K
      try clear hT
      clear hS
      have hS := hN
      clear hN
      refine wpAnyH_take (i := 8) (v := ?_) rfl (by kernel_rfl) (by kernel_rfl) (by kernel_rfl) (fun _ _ _ h => h) (Or.inl ⟨by kernel_rfl, ?_⟩) hS ?_
      rotate_left
      · intro W hW; go_simp; try with_reducible rfl
      refine wpAnyH_ready (rs := [9]) (by kernel_rfl) (by simp) ?_
      refine AllReadyH.cons (i := 9) rfl ?_ AllReadyH.nil
      intro K hK
      have hT := grown_put hS 0 (.slice (some ⟨g5, 0, none⟩) (n + 1) cap5)
      have hnc := hnb.put 0 (.slice (some ⟨g5, 0, none⟩) (n + 1) cap5)
      have ho6 := row_far ho5 (grown_put (grown_refl _ _) 0 (.slice (some ⟨g5, 0, none⟩) (n + 1) cap5)) HS2.out
      go_simp
      clear d0 f0 hnb ho5
      refine hK.out _ _ ?_ (fun hN => ?_)
      · first | exact hT | exact hS | exact hS.alloc hS.size _ | exact hS.drew
      clear hK K
      try clear hT
      clear hS
      have hS := hN
      clear hN
      refine wpAnyH_done (by kernel_rfl) ?_ _
      go_simp
      have HSF := Lib.hid hS
      have HN6 := Lib.hid hnc
      have HO6 := Lib.hid ho6
      clear hS hnc ho6
      go_wp2_with fail
      go_meet
      exact ⟨rfl, _, _, HN6.out, HO6.out, HSF.out⟩
    refine AllReadyH.cons (i := 6) rfl ?_ AllReadyH.nil
    intro K hK
    go_simp
    first
    | have hb := made_as hS (s := w2.heap.size) 36 #[.int .i64 x.m.fr, .int .i64 x.m.tt, .int .i64 x.m.kd, .int .i64 x.m.vol, .int .i64 x.m.life, .int .u64 x.m.id, .int .i64 x.m.cd, .bool x.m.has, .int .u64 x.m.key, .int .u32 x.m.ck, .bool x.m.g, .slice x.m.a x.m.n x.m.c] rfl
    | have hb := made_as hS (s := w2.heap.size + 1) 36 #[.int .i64 x.m.fr, .int .i64 x.m.tt, .int .i64 x.m.kd, .int .i64 x.m.vol, .int .i64 x.m.life, .int .u64 x.m.id, .int .i64 x.m.cd, .bool x.m.has, .int .u64 x.m.key, .int .u32 x.m.ck, .bool x.m.g, .slice x.m.a x.m.n x.m.c] (by simp)
    | have hb := made_as hS 36 #[.int .i64 x.m.fr, .int .i64 x.m.tt, .int .i64 x.m.kd, .int .i64 x.m.vol, .int .i64 x.m.life, .int .u64 x.m.id, .int .i64 x.m.cd, .bool x.m.has, .int .u64 x.m.key, .int .u32 x.m.ck, .bool x.m.g, .slice x.m.a x.m.n x.m.c] rfl
    have hT := grown_trans hS (World.grownBy_alloc _ (.cells #[.int .i64 x.m.fr, .int .i64 x.m.tt, .int .i64 x.m.kd, .int .i64 x.m.vol, .int .i64 x.m.life, .int .u64 x.m.id, .int .i64 x.m.cd, .bool x.m.has, .int .u64 x.m.key, .int .u32 x.m.ck, .bool x.m.g, .slice x.m.a x.m.n x.m.c] 36) _)
    replace hnb := hnb.alloc (.cells #[.int .i64 x.m.fr, .int .i64 x.m.tt, .int .i64 x.m.kd, .int .i64 x.m.vol, .int .i64 x.m.life, .int .u64 x.m.id, .int .i64 x.m.cd, .bool x.m.has, .int .u64 x.m.key, .int .u32 x.m.ck, .bool x.m.g, .slice x.m.a x.m.n x.m.c] 36)
    try replace ho := ho.alloc (.cells #[.int .i64 x.m.fr, .int .i64 x.m.tt, .int .i64 x.m.kd, .int .i64 x.m.vol, .int .i64 x.m.life, .int .u64 x.m.id, .int .i64 x.m.cd, .bool x.m.has, .int .u64 x.m.key, .int .u32 x.m.ck, .bool x.m.g, .slice x.m.a x.m.n x.m.c] 36)
    try replace ho3 := ho3.alloc (.cells #[.int .i64 x.m.fr, .int .i64 x.m.tt, .int .i64 x.m.kd, .int .i64 x.m.vol, .int .i64 x.m.life, .int .u64 x.m.id, .int .i64 x.m.cd, .bool x.m.has, .int .u64 x.m.key, .int .u32 x.m.ck, .bool x.m.g, .slice x.m.a x.m.n x.m.c] 36)
    go_simp
    refine hK.out _ _ ?_ (fun hN => ?_)
    · first | exact hT | exact hS | exact hS.alloc hS.size _ | exact hS.drew
    clear hK K
    try clear hT
    clear hS
    have hS := hN
    clear hN
    refine wpAnyH_ready (rs := [0, 2]) (by kernel_rfl) (by simp) ?_
    refine AllReadyH.cons (i := 0) rfl ?_ ?_
    · intro K hK
      go_simp
      first
      | have ho := own_new (base := w2.heap.size) (s := w2.heap.size) 36 hS.size rfl
      | have ho := own_new (base := w2.heap.size) (s := w2.heap.size + 1) 36 hS.size (by simp)
      have hT := grown_trans hS (World.grownBy_alloc _ (.cells #[] 36) _)
      replace hnb := hnb.alloc (.cells #[] 36)
      try replace hb := hb.alloc (.cells #[] 36)
      go_simp
      refine hK.out _ _ ?_ (fun hN => ?_)
      · first | exact hT | exact hS | exact hS.alloc hS.size _ | exact hS.drew
      clear hK K
      try clear hT
      clear hS
      have hS := hN
      clear hN
      refine wpAnyH_ready (rs := [2]) (by kernel_rfl) (by simp) ?_
      refine AllReadyH.cons (i := 2) rfl ?_ AllReadyH.nil
      intro K hK
      go_simp
      refine hK.out _ _ ?_ (fun hN => ?_)
      · first | exact hT | exact hS | exact hS.alloc hS.size _ | exact hS.drew
      clear hK K
      try clear hT
      clear hS
      have hS := hN
      clear hN
      refine wpAnyH_ready (rs := [3]) (by kernel_rfl) (by simp) ?_
      refine AllReadyH.cons (i := 3) rfl ?_ AllReadyH.nil
      intro K hK
      obtain ⟨g3, cap3, W3, hr3, ho3, hg3⟩ := HAM.out _ _ _ ho hS
      have hg3l := (ho.lt _ rfl).1
      have hT := grown_fresh hS hg3 hg3l
      replace hnb := hnb.grown hg3 (by intro e; injection e with e; have := HS2.out; omega)
      try replace hb := hb.grown hg3 (by intro e; injection e with e; omega)
      rw [Nat.zero_add] at hr3 ho3
      rw [List.nil_append] at ho3
      refine step_run_g (by kernel_rfl) _ _ (by rfl) (by rfl) (by rfl) hr3 ?_
      clear hr3 hg3 ho hg3l
      refine hK.out _ _ ?_ (fun hN => ?_)
      · first | exact hT | exact hS | exact hS.alloc hS.size _ | exact hS.drew
      clear hK K
      try clear hT
      clear hS
      have hS := hN
      clear hN
      refine wpAnyH_ready (rs := [7]) (by kernel_rfl) (by simp) ?_
      refine AllReadyH.cons (i := 7) rfl ?_ AllReadyH.nil
      intro K hK
      obtain ⟨g5, cap5, W5, hr5, ho5, hg5⟩ := HA1.out _ _ _ _ ho3 hb hS
      have hg5l := (ho3.lt _ rfl).1
      have hT := grown_fresh hS hg5 hg5l
      replace hnb := hnb.grown hg5 (by intro e; injection e with e; have := HS2.out; omega)
      have d0 := hnb.cell 0
      have f0 := hnb.frozen 0
      refine step_run_g (by kernel_rfl) _ _ (by rfl) (by rfl) (by rfl) hr5 ?_
      clear hr5 hg5 ho3 hb hg5l
      refine hK.out _ _ ?_ (fun hN => ?_)
      · first | exact hT | exact hS | exact hS.alloc hS.size _ | exact hS.drew
      clear hK K
      try clear hT
      clear hS
      have hS := hN
      clear hN
      refine wpAnyH_take (i := 8) (v := ?_) rfl (by kernel_rfl) (by kernel_rfl) (by kernel_rfl) (fun _ _ _ h => h) (Or.inl ⟨by kernel_rfl, ?_⟩) hS ?_
      rotate_left
      · intro W hW; go_simp; try with_reducible rfl
      refine wpAnyH_ready (rs := [9]) (by kernel_rfl) (by simp) ?_
      refine AllReadyH.cons (i := 9) rfl ?_ AllReadyH.nil
      intro K hK
      have hT := grown_put hS 0 (.slice (some ⟨g5, 0, none⟩) (n + 1) cap5)
      have hnc := hnb.put 0 (.slice (some ⟨g5, 0, none⟩) (n + 1) cap5)
      have ho6 := row_far ho5 (grown_put (grown_refl _ _) 0 (.slice (some ⟨g5, 0, none⟩) (n + 1) cap5)) HS2.out
      go_simp
      clear d0 f0 hnb ho5
      refine hK.out _ _ ?_ (fun hN => ?_)
      · first | exact hT | exact hS | exact hS.alloc hS.size _ | exact hS.drew
      clear hK K
      try clear hT
      clear hS
      have hS := hN
      clear hN
      refine wpAnyH_done (by kernel_rfl) ?_ _
      go_simp
      have HSF := Lib.hid hS
      have HN6 := Lib.hid hnc
      have HO6 := Lib.hid ho6
      clear hS hnc ho6
      go_wp2_with fail
      go_meet
      exact ⟨rfl, _, _, HN6.out, HO6.out, HSF.out⟩
    refine AllReadyH.cons (i := 2) rfl ?_ AllReadyH.nil
    intro K hK
    go_simp
    refine hK.out _ _ ?_ (fun hN => ?_)
    · first | exact hT | exact hS | exact hS.alloc hS.size _ | exact hS.drew
    clear hK K
    try clear hT
    clear hS
    have hS := hN
    clear hN
    refine wpAnyH_ready (rs := [0]) (by kernel_rfl) (by simp) ?_
    refine AllReadyH.cons (i := 0) rfl ?_ AllReadyH.nil
    intro K hK
    go_simp
    first
    | have ho := own_new (base := w2.heap.size) (s := w2.heap.size) 36 hS.size rfl
    | have ho := own_new (base := w2.heap.size) (s := w2.heap.size + 1) 36 hS.size (by simp)
    have hT := grown_trans hS (World.grownBy_alloc _ (.cells #[] 36) _)
    replace hnb := hnb.alloc (.cells #[] 36)
    try replace hb := hb.alloc (.cells #[] 36)
    go_simp
    refine hK.out _ _ ?_ (fun hN => ?_)
    · first | exact hT | exact hS | exact hS.alloc hS.size _ | exact hS.drew
    clear hK K
    try clear hT
    clear hS
    have hS := hN
    clear hN
    refine wpAnyH_ready (rs := [3]) (by kernel_rfl) (by simp) ?_
    refine AllReadyH.cons (i := 3) rfl ?_ AllReadyH.nil
    intro K hK
    obtain ⟨g3, cap3, W3, hr3, ho3, hg3⟩ := HAM.out _ _ _ ho hS
    have hg3l := (ho.lt _ rfl).1
    have hT := grown_fresh hS hg3 hg3l
    replace hnb := hnb.grown hg3 (by intro e; injection e with e; have := HS2.out; omega)
    try replace hb := hb.grown hg3 (by intro e; injection e with e; omega)
    rw [Nat.zero_add] at hr3 ho3
    rw [List.nil_append] at ho3
    refine step_run_g (by kernel_rfl) _ _ (by rfl) (by rfl) (by rfl) hr3 ?_
    clear hr3 hg3 ho hg3l
    refine hK.out _ _ ?_ (fun hN => ?_)
    · first | exact hT | exact hS | exact hS.alloc hS.size _ | exact hS.drew
    clear hK K
    try clear hT
    clear hS
    have hS := hN
    clear hN
    refine wpAnyH_ready (rs := [7]) (by kernel_rfl) (by simp) ?_
    refine AllReadyH.cons (i := 7) rfl ?_ AllReadyH.nil
    intro K hK
    obtain ⟨g5, cap5, W5, hr5, ho5, hg5⟩ := HA1.out _ _ _ _ ho3 hb hS
    have hg5l := (ho3.lt _ rfl).1
    have hT := grown_fresh hS hg5 hg5l
    replace hnb := hnb.grown hg5 (by intro e; injection e with e; have := HS2.out; omega)
    have d0 := hnb.cell 0
    have f0 := hnb.frozen 0
    refine step_run_g (by kernel_rfl) _ _ (by rfl) (by rfl) (by rfl) hr5 ?_
    clear hr5 hg5 ho3 hb hg5l
    refine hK.out _ _ ?_ (fun hN => ?_)
    · first | exact hT | exact hS | exact hS.alloc hS.size _ | exact hS.drew
    clear hK K
    try clear hT
    clear hS
    have hS := hN
    clear hN
    refine wpAnyH_take (i := 8) (v := ?_) rfl (by kernel_rfl) (by kernel_rfl) (by kernel_rfl) (fun _ _ _ h => h) (Or.inl ⟨by kernel_rfl, ?_⟩) hS ?_
    rotate_left
    · intro W hW; go_simp; try with_reducible rfl
    refine wpAnyH_ready (rs := [9]) (by kernel_rfl) (by simp) ?_
    refine AllReadyH.cons (i := 9) rfl ?_ AllReadyH.nil
    intro K hK
    have hT := grown_put hS 0 (.slice (some ⟨g5, 0, none⟩) (n + 1) cap5)
    have hnc := hnb.put 0 (.slice (some ⟨g5, 0, none⟩) (n + 1) cap5)
    have ho6 := row_far ho5 (grown_put (grown_refl _ _) 0 (.slice (some ⟨g5, 0, none⟩) (n + 1) cap5)) HS2.out
    go_simp
    clear d0 f0 hnb ho5
    refine hK.out _ _ ?_ (fun hN => ?_)
    · first | exact hT | exact hS | exact hS.alloc hS.size _ | exact hS.drew
    clear hK K
    try clear hT
    clear hS
    have hS := hN
    clear hN
    refine wpAnyH_done (by kernel_rfl) ?_ _
    go_simp
    have HSF := Lib.hid hS
    have HN6 := Lib.hid hnc
    have HO6 := Lib.hid ho6
    clear hS hnc ho6
    go_wp2_with fail
    go_meet
    exact ⟨rfl, _, _, HN6.out, HO6.out, HSF.out⟩
  case rest =>
    obtain ⟨rfl, g5, cap5, hnb6, ho6, hg6⟩ := hcut
    have HBC := Lib.hid (HB2.out.trans (grown_below hg6 HB2.out.size (Nat.le_refl _)))
    have F0 := Lib.hid hnb6
    have F2 := Lib.hid (G2.out.grown hg6 (by intro e; injection e with e; omega))
    have F3 := Lib.hid (G3.out.grown hg6 (by intro e; injection e with e; omega))
    have F4 := Lib.hid (G4.out.grown hg6 (by intro e; injection e with e; omega))
    have HO6 := Lib.hid ho6
    have HR2 := Lib.hid (show w.heap.size + 1 + 1 < w2.heap.size from G2.out.lt)
    have HR3 := Lib.hid (show w.heap.size + 1 + 1 + 1 < w2.heap.size from G3.out.lt)
    clear hnb6 ho6 hg6 L0 L1 L2 L3 L4 hnb n0
    go_upto_region 9 with fail
    have n0 := F0.out.cell 0
    have n1 := F0.out.cell 1
    obtain ⟨z0, z1, z2, z3, z4, z5, z6, z7, z8, z9, z10, z11⟩ := F4.out.twelve
    have s0 := F2.out.cell 0
    have s1 := F2.out.cell 1
    have t0 := F2.out.frozen 0
    have t1 := F2.out.frozen 1
    obtain ⟨y0, y1, y2, y3, y4, y5, y6, y7, y8, y9, y10, y11⟩ := F3.out.twelve
    obtain ⟨f0, f1, f2, f3, f4, f5, f6, f7, f8, f9, f10, f11⟩ := F3.out.twelve_frozen
    go_region
    all_goals
      go_wp2_with fail
      have hr := ret_put (B := w.heap.size) F2.out F3.out (by omega) (by omega) HBC.out.size (.slice (some ⟨g5, 0, none⟩) (n + 1) cap5) (.slice ca k cc) (.int .i64 0) (.int .i64 0) (.int .i64 0) (.int .i64 0) (.int .i64 0) (.int .u64 0) (.int .i64 0) (.bool false) (.int .u64 0) (.int .u32 0) (.bool false) (.slice none 0 0)
      have hB := (HBC.out.trans hr.2.2).drew
      exact bodyPost_ret (do_results hr.1.drew hr.2.1.drew rfl rfl rfl) rfl (by rw [HO.out]; exact ⟨hB, _, _, _, _, _, _, rfl, rnet_own (ret_row HO6.out HR2.out HR3.out).drew (by rw [List.length_append, HL.out]; rfl) (mem_snoc HH.out.m HX.out.m) hB HH.out (own_le HO6.out)⟩)
end Go.Proofs.Ytpkfjnhjcdcoaaa
