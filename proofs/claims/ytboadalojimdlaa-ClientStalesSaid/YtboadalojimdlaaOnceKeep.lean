/-
  once.Table.Keep.
-/
import Derived.Test.YtboadalojimdlaaOnce
import Derived.Test.YtboadalojimdlaaMsgChk
namespace Go.Proofs.Ytboadalojimdlaa
open Go.RowKit

/-- What Keep answers. -/
def kpCode (l : List MsgR) (most : Int) (m : MsgR) : Nat := if m.kd ≠ 5 then 1 else if mchk m ≠ 0 then mchk m else if (mFind l m.tt m.id).isSome = true then 8 else if (l.length : Int) < most then 0 else 11
theorem kpCode_le (l : List MsgR) (most : Int) (m : MsgR) : kpCode l most m ≤ 17 := by
  have := mchk_le m
  unfold kpCode
  split
  · omega
  · split
    · omega
    · split
      · omega
      · split <;> omega
theorem alloc_name (W : World) (t : TypeId) (cs : Array Value) : ∃ X, (W.alloc (.cells cs t)).drew = X ∧ Blk X W.heap.size t cs ∧ Below W.heap.size W X := ⟨_, rfl, Blk.made W t cs, ((Below.refl _ W).alloc (Nat.le_refl _) _).drew⟩
theorem put_name {B0 B : Nat} {X w : World} (h : Below B0 X w) (hB : B0 ≤ B) (v0 v1 v2 v3 v4 v5 v6 v7 v8 v9 v10 v11 : Value) : ∃ W', ((((((((((((w.setCell ⟨B, 0, none⟩ v0).setCell ⟨B, 1, none⟩ v1).setCell ⟨B, 2, none⟩ v2).setCell ⟨B, 3, none⟩ v3).setCell ⟨B, 4, none⟩ v4).setCell ⟨B, 5, none⟩ v5).setCell ⟨B, 6, none⟩ v6).setCell ⟨B, 7, none⟩ v7).setCell ⟨B, 8, none⟩ v8).setCell ⟨B, 9, none⟩ v9).setCell ⟨B, 10, none⟩ v10).setCell ⟨B, 11, none⟩ v11) = W' ∧ Below B0 X W' := ⟨_, rfl, below_put12 h hB _ _ _ _ _ _ _ _ _ _ _ _⟩
theorem grown_on {a w w' : World} {row : Option Nat} (h : a.grownBy w row) (hb : Below w.heap.size w w') : a.grownBy w' row :=
  ⟨hb.os.trans h.os, hb.tape.trans h.tape, hb.output.trans h.output, Nat.le_trans h.size hb.size, fun k hk hne => (hb.block k (Nat.lt_of_lt_of_le hk h.size)).trans (h.block k hk hne)⟩
theorem grown_of {w w' : World} {row : Option Nat} (hb : Below w.heap.size w w') : w.grownBy w' row := grown_on (grown_refl _ _) hb
theorem errc_pos {c : Nat} (h : c ≠ 0) : errc c = .iface 100 (.int .i64 c) := by
  unfold errc
  rw [if_neg h]
  first | done | rfl
theorem keep_none (w : World) (m : MsgR) :
    Calls Try.prog 23 #[.pointer none, m.vals] w fun e w' => e = .returned (errc 15) ∧ Below w.heap.size w w' := by
  obtain ⟨fr, tt, kd, vol, life, id, cd, has, key, ck, g, a, n, c, lm⟩ := m
  unfold MsgR.vals
  dsimp only
  have HB := Lib.hid ((Below.refl w.heap.size w).alloc (Nat.le_refl _) (.cells #[.int .i64 fr, .int .i64 tt, .int .i64 kd, .int .i64 vol, .int .i64 life, .int .u64 id, .int .i64 cd, .bool has, .int .u64 key, .int .u32 ck, .bool g, .slice a n c] 53))
  go_enter Try.func23, Try.ntmps23
  go_wp2_with fail
  go_ret
  exact ⟨rfl, HB.out⟩
set_option maxRecDepth 100000 in
set_option maxHeartbeats 2000000 in
theorem keep_any {gt b : Nat} {most : Int} {l : List MsgR} (w : World) (m : MsgR) (h : TBl w gt b most l) (hb : BSl w w.heap.size m.a m.n m.l) (hc : m.n ≤ m.c) (hn : m.n ≤ 1099511627776) :
    Calls Try.prog 23 #[.pointer (some ⟨gt, 0, none⟩), m.vals] w fun e w' =>
      (kpCode l most m ≠ 0 ∧ e = .returned (errc (kpCode l most m)) ∧ Below w.heap.size w w') ∨
      (kpCode l most m = 0 ∧ e = .returned (errc 0) ∧ w.grownBy w' (some b) ∧ ∃ av cv, m.n ≤ cv ∧ w'.ownsRow w.heap.size 5 1 (.slice av m.n cv) m.n (m.l.map bv) ∧ TBl w' gt b most (l ++ [{ m with a := av, c := cv }])) := by
  have HC1 := Lib.hid fun (e : m.kd ≠ 5) => (show kpCode l most m = 1 from by unfold kpCode; rw [if_pos e])
  have HC2 := Lib.hid fun (e : m.kd = 5) (e2 : mchk m ≠ 0) => (show kpCode l most m = mchk m from by unfold kpCode; rw [if_neg (by simp [e]), if_pos e2])
  have HC3 := Lib.hid fun (e : m.kd = 5) (e2 : mchk m = 0) (e3 : (mFind l m.tt m.id).isSome = true) => (show kpCode l most m = 8 from by unfold kpCode; rw [if_neg (by simp [e]), if_neg (by simp [e2]), if_pos e3])
  have HC4 := Lib.hid fun (e : m.kd = 5) (e2 : mchk m = 0) (e3 : (mFind l m.tt m.id).isSome = false) (e4 : ¬ (l.length : Int) < most) => (show kpCode l most m = 11 from by unfold kpCode; rw [if_neg (by simp [e]), if_neg (by simp [e2]), if_neg (by simp [e3]), if_neg e4])
  have HC5 := Lib.hid fun (e : m.kd = 5) (e2 : mchk m = 0) (e3 : (mFind l m.tt m.id).isSome = false) (e4 : (l.length : Int) < most) => (show kpCode l most m = 0 from by unfold kpCode; rw [if_neg (by simp [e]), if_neg (by simp [e2]), if_neg (by simp [e3]), if_pos e4])
  have BA := (Below.refl w.heap.size w).alloc (Nat.le_refl _) (.cells m.cells.toArray 53)
  have E := wcheck_any m _ ((hb.below BA).more BA.size) hn
  have HOwn := Lib.hid fun (W : World) (h : BSl W W.heap.size m.a m.n m.l) => own_any m W h hc hn
  have HLook := Lib.hid fun (W : World) (h : MBlk W b l) => run_lookup m.tt m.id h
  have HStore := Lib.hid fun (W : World) (av : Option Addr) (cv : Nat) (h : MBlk W b l) (hf : (mFind l m.tt m.id).isSome = false) => run_store (w := W) { m with a := av, c := cv } h (by simpa using hf)
  have HBS := Lib.hid hb
  have HT := Lib.hid h
  have HK := Lib.hid (Blk.made w 53 m.cells.toArray)
  obtain ⟨fr, tt, kd, vol, life, id, cd, has, key, ck, g, a, n, c, lm⟩ := m
  unfold MsgR.cells at BA E HK
  unfold MsgR.vals at HStore HOwn E
  unfold MsgR.vals
  dsimp only at *
  generalize kpCode l most ⟨fr, tt, kd, vol, life, id, cd, has, key, ck, g, a, n, c, lm⟩ = kp at *
  generalize mchk ⟨fr, tt, kd, vol, life, id, cd, has, key, ck, g, a, n, c, lm⟩ = q at *
  have HB := Lib.hid BA
  have HE := Lib.hid E
  clear BA E h hb hc hn
  by_cases h5 : kd = 5
  rotate_left
  · have HR := Lib.hid (HC1.out h5)
    have b0 : (kd != 5) = true := ne_t h5
    clear h5 HC1 HC2 HC3 HC4 HC5 HOwn HLook HStore HBS HT HK HE
    go_enter Try.func23, Try.ntmps23
    go_wp2_with fail
    go_ret
    exact Or.inl ⟨by rw [HR.out]; decide, by rw [HR.out]; rfl, HB.out⟩
  have b0 : (kd != 5) = false := ne_f h5
  have H5 := Lib.hid h5
  clear h5 HC1
  go_enter Try.func23, Try.ntmps23
  go_wp2_with fail
  refine HE.out.mono ?_
  rintro e w1 ⟨rfl, B1⟩
  have HB1 := Lib.hid (HB.out.trans (B1.mono HB.out.size))
  have HK1 := Lib.hid (HK.out.below B1 HK.out.lt)
  have HL1 := Lib.hid (show w.heap.size < w1.heap.size from Nat.lt_of_lt_of_le HK.out.lt B1.size)
  clear B1 HE HB HK
  by_cases hq : q = 0
  rotate_left
  · have HR := Lib.hid (HC2.out H5.out hq)
    have HQ := Lib.hid hq
    rw [errc_pos hq]
    clear hq HC2 HC3 HC4 HC5 HOwn HLook HStore HBS HT
    go_wp2_with fail
    go_ret
    exact Or.inl ⟨by rw [HR.out]; exact HQ.out, by rw [HR.out, errc_pos HQ.out]; rfl, HB1.out⟩
  rw [show errc q = .nilIface from by rw [hq]; rfl]
  have HQ := Lib.hid hq
  clear hq HC2
  obtain ⟨k0, k1, k2, k3, k4, k5, k6, k7, k8, k9, k10, k11⟩ := HK1.out.twelve
  go_upto_region 9 with fail
  obtain ⟨w9, hw9⟩ : ∃ W, w1.alloc (.cells #[.int .i64 tt, .int .u64 id] 106) = W := ⟨_, rfl⟩
  have hB9 : Below w.heap.size w w9 := by rw [← hw9]; exact HB1.out.alloc (Nat.le_of_lt HL1.out) _
  have hM9 : Blk w9 w.heap.size 53 #[.int .i64 fr, .int .i64 tt, .int .i64 kd, .int .i64 vol, .int .i64 life, .int .u64 id, .int .i64 cd, .bool has, .int .u64 key, .int .u32 ck, .bool g, .slice a n c] := by rw [← hw9]; exact HK1.out.alloc _
  have hQ9 : Blk w9 w1.heap.size 106 #[.int .i64 tt, .int .u64 id] := by rw [← hw9]; exact Blk.made w1 _ _
  have hT9 : TBl w9 gt b most l := HT.out.on hB9
  have HR9 := Lib.hid (HBS.out.below hB9)
  have HS9 := Lib.hid (show w.heap.size < w9.heap.size ∧ b < w.heap.size ∧ gt < w.heap.size ∧ w.heap.size < w1.heap.size from ⟨hM9.lt, HT.out.m.lt, HT.out.k.lt, HL1.out⟩)
  have HB9 := Lib.hid hB9
  have HM9 := Lib.hid hM9
  have HQ9 := Lib.hid hQ9
  have HT9 := Lib.hid hT9
  rw [hw9]
  clear k0 k1 k2 k3 k4 k5 k6 k7 k8 k9 k10 k11 hw9 hB9 hM9 hQ9 hT9 HBS HT HB1 HK1 HL1
  have HC9 := Lib.hid fun (W : World) (B : Below w9.heap.size w9 W) => (show W.cell? ⟨gt, 1, none⟩ = some (.map (some b)) ∧ W.cell? ⟨w1.heap.size, 0, none⟩ = some (.int .i64 tt) ∧ W.cell? ⟨w1.heap.size, 1, none⟩ = some (.int .u64 id) from
    ⟨(HT9.out.k.below B HT9.out.k.lt).cell 1, (HQ9.out.below B HQ9.out.lt).cell 0, (HQ9.out.below B HQ9.out.lt).cell 1⟩)
  have HL9 := Lib.hid fun (W : World) (B : Below w9.heap.size w9 W) => HLook.out W (HT9.out.m.on B)
  generalize (mFind l tt id).getD mNone = z at *
  generalize (mFind l tt id).isSome = fd at *
  obtain ⟨z0, z1, z2, z3, z4, z5, z6, z7, z8, z9, z10, z11, z12, z13, z14⟩ := z
  unfold MsgR.vals mkKey at HL9
  dsimp only at HL9
  clear HLook
  refine wp_region_held_drew (S := fun W => Below w9.heap.size w9 W) (by kernel_rfl) ((Below.refl _ _).drew) (fun hS => ?_)
  refine wpAnyH_take (i := 0) (v := ?_) rfl (by kernel_rfl) (by kernel_rfl) (by kernel_rfl) (fun _ _ _ h => h) (Or.inl ⟨by kernel_rfl, ?_⟩) hS ?_
  rotate_left
  · intro W hW; go_simp; try with_reducible rfl
  refine wpAnyH_take (i := 1) (v := ?_) rfl (by kernel_rfl) (by kernel_rfl) (by kernel_rfl) (fun _ _ _ h => h) (Or.inl ⟨by kernel_rfl, ?_⟩) hS ?_
  rotate_left
  · intro W hW; go_simp; try with_reducible rfl
  refine wpAnyH_take (i := 2) (v := ?_) rfl (by kernel_rfl) (by kernel_rfl) (by kernel_rfl) (fun _ _ _ h => h) (Or.inl ⟨by kernel_rfl, ?_⟩) hS ?_
  rotate_left
  · intro W hW; go_simp; try with_reducible rfl
  refine wpAnyH_take (i := 3) (v := ?_) rfl (by kernel_rfl) (by kernel_rfl) (by kernel_rfl) (fun _ _ _ h => h) (Or.inl ⟨by kernel_rfl, ?_⟩) hS ?_
  rotate_left
  · intro W hW; obtain ⟨c1, c2, c3⟩ := HC9.out W hW; go_simp; try with_reducible rfl
  refine wpAnyH_take (i := 4) (v := ?_) rfl (by kernel_rfl) (by kernel_rfl) (by kernel_rfl) (fun _ _ _ h => h) (Or.inl ⟨by kernel_rfl, ?_⟩) hS ?_
  rotate_left
  · intro W hW; obtain ⟨c1, c2, c3⟩ := HC9.out W hW; go_simp; try with_reducible rfl
  refine wpAnyH_take (i := 5) (v := ?_) rfl (by kernel_rfl) (by kernel_rfl) (by kernel_rfl) (fun _ _ _ h => h) (Or.inl ⟨by kernel_rfl, ?_⟩) hS ?_
  rotate_left
  · intro W hW; go_simp; rw [HL9.out W hW]; simp only [Result.andThen_ok]; try with_reducible rfl
  refine wpAnyH_take (i := 6) (v := ?_) rfl (by kernel_rfl) (by kernel_rfl) (by kernel_rfl) (fun _ _ _ h => h) (Or.inl ⟨by kernel_rfl, ?_⟩) hS ?_
  rotate_left
  · intro W hW; go_simp; try with_reducible rfl
  refine wpAnyH_take (i := 7) (v := ?_) rfl (by kernel_rfl) (by kernel_rfl) (by kernel_rfl) (fun _ _ _ h => h) (Or.inl ⟨by kernel_rfl, ?_⟩) hS ?_
  rotate_left
  · intro W hW; go_simp; try with_reducible rfl
  refine wpAnyH_take (i := 8) (v := ?_) rfl (by kernel_rfl) (by kernel_rfl) (by kernel_rfl) (fun _ _ _ h => h) (Or.inl ⟨by kernel_rfl, ?_⟩) hS ?_
  rotate_left
  · intro W hW; go_simp; try with_reducible rfl
  refine wpAnyH_ready (rs := [9]) (by kernel_rfl) (by simp) ?_
  refine AllReadyH.cons (i := 9) rfl ?_ AllReadyH.nil
  intro K hK
  go_simp
  obtain ⟨w10, hw10, hbk, hT⟩ := alloc_name w9 53 #[.int .i64 0, .int .i64 0, .int .i64 0, .int .i64 0, .int .i64 0, .int .u64 0, .int .i64 0, .bool false, .int .u64 0, .int .u32 0, .bool false, .slice none 0 0]
  rw [hw10]
  clear hw10
  go_simp
  refine hK.out _ _ ?_ (fun hN => ?_)
  · first | exact hT | exact hS | exact hS.alloc hS.size _ | exact hS.drew
  clear hK K
  try clear hT
  clear hS
  have hS := hN
  clear hN
  refine wpAnyH_ready (rs := [10]) (by kernel_rfl) (by simp) ?_
  refine AllReadyH.cons (i := 10) rfl ?_ AllReadyH.nil
  intro K hK
  obtain ⟨k0, k1, k2, k3, k4, k5, k6, k7, k8, k9, k10, k11⟩ := hbk.twelve
  obtain ⟨f0, f1, f2, f3, f4, f5, f6, f7, f8, f9, f10, f11⟩ := hbk.twelve_frozen
  obtain ⟨w11, hw11, hT⟩ := put_name hS (Nat.le_refl w9.heap.size) (.int .i64 z0) (.int .i64 z1) (.int .i64 z2) (.int .i64 z3) (.int .i64 z4) (.int .u64 z5) (.int .i64 z6) (.bool z7) (.int .u64 z8) (.int .u32 z9) (.bool z10) (.slice z11 z12 z13)
  go_simp
  try rw [hw11]
  clear k0 k1 k2 k3 k4 k5 k6 k7 k8 k9 k10 k11 f0 f1 f2 f3 f4 f5 f6 f7 f8 f9 f10 f11 hbk hw11
  refine hK.out _ _ ?_ (fun hN => ?_)
  · first | exact hT | exact hS | exact hS.alloc hS.size _ | exact hS.drew
  clear hK K
  try clear hT
  clear hS
  have hS := hN
  clear hN
  refine wpAnyH_take (i := 11) (v := ?_) rfl (by kernel_rfl) (by kernel_rfl) (by kernel_rfl) (fun _ _ _ h => h) (Or.inl ⟨by kernel_rfl, ?_⟩) hS ?_
  rotate_left
  · intro W hW; go_simp; try with_reducible rfl
  refine wpAnyH_done (by kernel_rfl) ?_ _
  go_simp
  cases fd with
  | true =>
    have HR := Lib.hid (HC3.out H5.out HQ.out rfl)
    have HF := Lib.hid (HB9.out.trans (hS.mono (Nat.le_of_lt (Nat.lt_of_lt_of_le HS9.out.1 (Nat.le_refl _)))))
    clear HC3 HC4 HC5 HOwn HStore HS9 HR9 HB9 HM9 HQ9 HT9 HC9 HL9 hS
    go_wp2_with fail
    go_ret
    exact Or.inl ⟨by rw [HR.out]; decide, by rw [HR.out]; rfl, HF.out⟩
  | false =>
    have HB12 := Lib.hid (HB9.out.trans (hS.mono (Nat.le_of_lt HS9.out.1)))
    have HT12 := Lib.hid (HT9.out.on hS)
    have HM12 := Lib.hid (HM9.out.below hS HM9.out.lt)
    have HQ12 := Lib.hid (HQ9.out.below hS HQ9.out.lt)
    have HR12 := Lib.hid (HR9.out.below (hS.mono (Nat.le_of_lt HS9.out.1)))
    have E := Lib.hid (room_any _ HT12.out)
    clear HC3 HC9 HL9 HT9 HM9 HQ9 HR9 HB9 hS
    go_wp2_with fail
    refine E.out.mono ?_
    rintro e w13 ⟨rfl, B13⟩
    have HB13 := Lib.hid (HB12.out.trans (B13.mono HB12.out.size))
    by_cases hl : (l.length : Int) < most
    rotate_left
    · have HR := Lib.hid (HC4.out H5.out HQ.out (by first | trivial | rfl) (by omega))
      rw [decide_eq_false hl]
      clear hl HC4 HC5 HOwn HStore HS9 HR12 HB12 HM12 HQ12 HT12 E B13
      go_wp2_with fail
      go_ret
      exact Or.inl ⟨by rw [HR.out]; decide, by rw [HR.out]; rfl, HB13.out⟩
    have HR := Lib.hid (HC5.out H5.out HQ.out (by first | trivial | rfl) hl)
    rw [decide_eq_true hl]
    have HT13 := Lib.hid (HT12.out.on B13)
    have HM13 := Lib.hid (HM12.out.below B13 HM12.out.lt)
    have HQ13 := Lib.hid (HQ12.out.below B13 HQ12.out.lt)
    have HR13 := Lib.hid (HR12.out.below (B13.mono HB12.out.size))
    have HN := Lib.hid (show gt ≠ b from HT13.out.ne)
    have HC13 := Lib.hid fun (W : World) (B : w13.grownBy W (some b)) => (show W.cell? ⟨gt, 1, none⟩ = some (.map (some b)) ∧ W.cell? ⟨w1.heap.size, 0, none⟩ = some (.int .i64 tt) ∧ W.cell? ⟨w1.heap.size, 1, none⟩ = some (.int .u64 id) from
      ⟨(HT13.out.k.grown B (by intro e; injection e with e; exact HN.out e)).cell 1, (HQ13.out.grown B (by intro e; injection e with e; have := HS9.out; omega)).cell 0, (HQ13.out.grown B (by intro e; injection e with e; have := HS9.out; omega)).cell 1⟩)
    have HD13 := Lib.hid fun (W : World) (B : w13.grownBy W (some b)) => (HM13.out.grown B (by intro e; injection e with e; have := HS9.out; omega)).twelve
    unfold mkKey at HStore
    try dsimp only at HStore
    clear hl HC4 HC5 HR12 HB12 HM12 HQ12 HT12 E B13
    go_upto_region 14 with fail
    refine wp_region_held_drew (S := fun W => w13.grownBy W (some b)) (by kernel_rfl) (by exact grown_drew (grown_refl _ _)) (fun hS => ?_)
    refine wpAnyH_take (i := 0) (v := ?_) rfl (by kernel_rfl) (by kernel_rfl) (by kernel_rfl) (fun _ _ _ h => h) (Or.inl ⟨by kernel_rfl, ?_⟩) hS ?_
    rotate_left
    · intro W hW; go_simp; try with_reducible rfl
    refine wpAnyH_take (i := 1) (v := ?_) rfl (by kernel_rfl) (by kernel_rfl) (by kernel_rfl) (fun _ _ _ h => h) (Or.inl ⟨by kernel_rfl, ?_⟩) hS ?_
    rotate_left
    · intro W hW; go_simp; try with_reducible rfl
    refine wpAnyH_take (i := 2) (v := ?_) rfl (by kernel_rfl) (by kernel_rfl) (by kernel_rfl) (fun _ _ _ h => h) (Or.inl ⟨by kernel_rfl, ?_⟩) hS ?_
    rotate_left
    · intro W hW; go_simp; try with_reducible rfl
    refine wpAnyH_take (i := 3) (v := ?_) rfl (by kernel_rfl) (by kernel_rfl) (by kernel_rfl) (fun _ _ _ h => h) (Or.inl ⟨by kernel_rfl, ?_⟩) hS ?_
    rotate_left
    · intro W hW; obtain ⟨c1, c2, c3⟩ := HC13.out W hW; obtain ⟨k0, k1, k2, k3, k4, k5, k6, k7, k8, k9, k10, k11⟩ := HD13.out W hW; go_simp; try with_reducible rfl
    refine wpAnyH_take (i := 4) (v := ?_) rfl (by kernel_rfl) (by kernel_rfl) (by kernel_rfl) (fun _ _ _ h => h) (Or.inl ⟨by kernel_rfl, ?_⟩) hS ?_
    rotate_left
    · intro W hW; obtain ⟨c1, c2, c3⟩ := HC13.out W hW; obtain ⟨k0, k1, k2, k3, k4, k5, k6, k7, k8, k9, k10, k11⟩ := HD13.out W hW; go_simp; try with_reducible rfl
    refine wpAnyH_take (i := 5) (v := ?_) rfl (by kernel_rfl) (by kernel_rfl) (by kernel_rfl) (fun _ _ _ h => h) (Or.inl ⟨by kernel_rfl, ?_⟩) hS ?_
    rotate_left
    · intro W hW; obtain ⟨c1, c2, c3⟩ := HC13.out W hW; obtain ⟨k0, k1, k2, k3, k4, k5, k6, k7, k8, k9, k10, k11⟩ := HD13.out W hW; go_simp; try with_reducible rfl
    refine wpAnyH_ready (rs := [6]) (by kernel_rfl) (by simp) ?_
    refine AllReadyH.cons (i := 6) rfl ?_ AllReadyH.nil
    intro K hK
    go_simp
    refine (HOwn.out _ ((HR13.out.below (Below.refl _ _).drew).more HB13.out.size)).mono ?_
    rintro e w15 ⟨av, cv, rfl, hcv, ho, B15⟩
    have hT := grown_on hS B15
    have hM15 := (HT13.out.m.below (Below.refl w13.heap.size w13).drew HT13.out.m.lt).below B15 HT13.out.m.lt
    go_simp
    refine hK.out _ _ ?_ (fun hN => ?_)
    · first | exact hT | exact hS | exact hS.alloc hS.size _ | exact hS.drew
    clear hK K
    try clear hT
    clear hS
    have hS := hN
    clear hN
    refine wpAnyH_ready (rs := [7]) (by kernel_rfl) (by simp) ?_
    refine AllReadyH.cons (i := 7) rfl ?_ AllReadyH.nil
    intro K hK
    obtain ⟨w16, hrun, hM16, hg16⟩ := HStore.out w15 av cv hM15 (by first | trivial | rfl)
    go_simp
    have hT := grown_trans hS hg16
    have ho16 := ho.kept hg16 (by
    rcases ho.2 with ⟨e1, _⟩ | ⟨g1, cap, cur, e1, e2, _⟩
    · left; rw [e1]; rfl
    · right; rw [e1]; intro q1; injection q1 with q1; have q2 : g1 = b := q1; have q3 : w13.heap.size ≤ g1 := e2; have := HT13.out.m.lt; omega)
    refine hK.out _ _ ?_ (fun hN => ?_)
    · first | exact hT | exact hS | exact hS.alloc hS.size _ | exact hS.drew
    clear hK K
    try clear hT
    clear hS
    have hS := hN
    clear hN
    refine wpAnyH_done (by kernel_rfl) ?_ _
    go_simp
    have HF := Lib.hid (grown_trans (grown_of HB13.out) hS)
    have HT16 := Lib.hid (HT13.out.k.grown hS (by intro e; injection e with e; exact HN.out e))
    go_wp2_with fail
    go_ret
    exact Or.inr ⟨HR.out, rfl, HF.out, av, cv, hcv, row_base ho16 HB13.out.size, HT16.out, hM16⟩
end Go.Proofs.Ytboadalojimdlaa
