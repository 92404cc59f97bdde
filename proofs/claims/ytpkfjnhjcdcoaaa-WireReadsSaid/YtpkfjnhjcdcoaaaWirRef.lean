/-
  The document's Read of messages: the message of any bytes.
-/
import Derived.Test.YtpkfjnhjcdcoaaaWir
import Derived.Test.YtpkfjnhjcdcoaaaNdlRefGet
import Derived.Test.YtpkfjnhjcdcoaaaMsgChk
namespace Go.Proofs.Ytpkfjnhjcdcoaaa
open Go.RowKit
set_option linter.unusedVariables false

/-- What the document's Read hands back. -/
def RMsP (L : List (BitVec 8)) (w : World) (e : Ending) (w' : World) : Prop :=
  Below w.heap.size w w' ∧ ∃ (m : MsgR) (cf : Nat), msGet L = (m.bare, cf) ∧ e = .returned (.tuple #[m.vals, .int .i64 (cf : Int)]) ∧ m.n = m.l.length ∧ m.n ≤ m.c ∧ w'.ownsRow w.heap.size 5 1 (.slice m.a m.n m.c) m.n (m.l.map bv)
theorem rmsp_bad {L : List (BitVec 8)} {w w' : World} {cf : Nat} (h : msGet L = (mNone, cf)) (B : Below w.heap.size w w') : RMsP L w (.returned (.tuple #[mNone.vals, .int .i64 (cf : Int)])) w' :=
  ⟨B, mNone, cf, h, rfl, rfl, Nat.le_refl _, rfl, .inl ⟨rfl, rfl⟩⟩
theorem rput_four {w : World} {B : Nat} {T : TypeId} {v0 v1 v2 v3 v4 v5 v6 v7 v8 v9 v10 v11 u8 u9 u10 u11 : Value} (h : Blk w B T #[v0, v1, v2, v3, v4, v5, v6, v7, v8, v9, v10, v11]) :
    Blk ((((w.setCell ⟨B, 8, none⟩ u8).setCell ⟨B, 9, none⟩ u9).setCell ⟨B, 10, none⟩ u10).setCell ⟨B, 11, none⟩ u11) B T #[v0, v1, v2, v3, v4, v5, v6, v7, u8, u9, u10, u11] :=
  (((h.put 8 u8).put 9 u9).put 10 u10).put 11 u11
theorem rgrown_of {w w' : World} {row : Option Nat} (h : Below w.heap.size w w') : w.grownBy w' row := ⟨h.os, h.tape, h.output, h.size, fun k hk _ => h.block k hk⟩
theorem rlt256 (b : BitVec 8) : b.toNat < 256 := b.isLt
set_option maxRecDepth 100000 in
set_option maxHeartbeats 8000000 in
theorem rmread_any (a : Option Addr) (n c : Nat) (l : List (BitVec 8)) (w : World) (h : BSl w w.heap.size a n l) (hc : n ≤ c) (hn : n ≤ 1099511627776) :
    Calls Try.prog 13 #[.slice a n c] w (RMsP l w) := by
  have hlen := h.1
  obtain ⟨W0, hW0⟩ : ∃ W0, w.alloc (.cells #[.int .i64 0, .int .i64 0, .int .i64 0, .int .i64 0, .int .i64 0, .int .u64 0, .int .i64 0, .bool false, .int .u64 0, .int .u32 0, .bool false, .slice none 0 0] 36) = W0 := ⟨_, rfl⟩
  have hKr : Blk W0 w.heap.size 36 #[.int .i64 0, .int .i64 0, .int .i64 0, .int .i64 0, .int .i64 0, .int .u64 0, .int .i64 0, .bool false, .int .u64 0, .int .u32 0, .bool false, .slice none 0 0] := by rw [← hW0]; exact Blk.made w _ _
  have BA : Below w.heap.size w W0 := by rw [← hW0]; exact (Below.refl _ _).alloc (Nat.le_refl _) _
  by_cases hsh : n < 28
  · have HX := Lib.hid (show msGet l = (mNone, 3) from by unfold msGet; rw [if_pos (by omega)])
    have z0 : decide ((n : Int) < 28) = true := decide_eq_true (by omega)
    have HKr := Lib.hid hKr
    have HBA := Lib.hid BA
    obtain ⟨k0, k1, k2, k3, k4, k5, k6, k7, k8, k9, k10, k11⟩ := HKr.out.twelve
    obtain ⟨f0, f1, f2, f3, f4, f5, f6, f7, f8, f9, f10, f11⟩ := HKr.out.twelve_frozen
    clear h hKr BA
    go_enter Try.func13, Try.ntmps13
    go_upto_region 1 with fail
    clear hW0
    go_wp2_with fail
    exact bodyPost_ret (rmread_results (HKr.out.put12 _ _ _ _ _ _ _ _ _ _ _ _) rfl rfl) rfl (rmsp_bad HX.out (below_put12 HBA.out (Nat.le_refl _) _ _ _ _ _ _ _ _ _ _ _ _))
  have z0 : decide ((n : Int) < 28) = false := decide_eq_false (by omega)
  have hbl : ∀ W, Below W0.heap.size W0 W → BSl W W.heap.size a n l := fun W B => (h.below (BA.trans (B.mono BA.size))).more (BA.trans (B.mono BA.size)).size
  have HKR := Lib.hid fun (W : World) (B : Below W0.heap.size W0 W) => hKr.below B hKr.lt
  have BW := Lib.hid fun (W : World) (B : Below W0.heap.size W0 W) => BA.trans (B.mono BA.size)
  have hs0 : w.heap.size < W0.heap.size := hKr.lt
  have B0 : Below W0.heap.size W0 W0 := Below.refl _ _
  obtain ⟨m, rfl⟩ : ∃ m, n = m + 4 := ⟨n - 4, by omega⟩
  have hm24 : 24 ≤ m := by omega
  have hmn : m ≤ 1099511627776 := by omega
  have hbm : ∀ W, Below W0.heap.size W0 W → BSl W W.heap.size a m (l.take m) := fun W B => (hbl W B).prefix (k := m) (by omega)
  have hmc' : m ≤ c := by omega
  obtain ⟨aT, -, sT, -, hcT⟩ := cut_bytes (hbl W0 B0) hc m 4 (by omega)
  have HST := Lib.hid fun W => sT (m : Int) W rfl rfl
  have htl : (l.drop m).take 4 = l.drop m := List.take_of_length_le (by rw [List.length_drop]; omega)
  rw [htl] at hcT
  have NT := Lib.hid fun (W : World) (B : Below W0.heap.size W0 W) => number_any aT 4 (c - m) _ W (hcT.below B) (by decide)
  have OT := Lib.hid fun (W : World) (B : Below W0.heap.size W0 W) => of_ref a m c _ W (hbm W B) (by omega)
  have HM := (show msGet l = (if Num.num (l.drop m) ≠ (Crc.of (l.take m)).toNat then (mNone, 5) else msIn (l.take m)) from by
    unfold msGet
    rw [hlen, if_neg (by omega), Nat.add_sub_cancel])
  obtain ⟨lx, hlx⟩ : ∃ lx, l.take m = lx := ⟨_, rfl⟩
  rw [hlx] at HM OT hbm
  have hllx : lx.length = m := by rw [← hlx, List.length_take, hlen]; omega
  obtain ⟨a4, s4, -, -, hc4⟩ := cut_bytes (hbm W0 B0) hmc' 4 4 (by omega)
  obtain ⟨a8, s8, -, -, hc8⟩ := cut_bytes (hbm W0 B0) hmc' 8 4 (by omega)
  obtain ⟨a12, s12, -, -, hc12⟩ := cut_bytes (hbm W0 B0) hmc' 12 8 (by omega)
  obtain ⟨a20, s20, -, -, hc20⟩ := cut_bytes (hbm W0 B0) hmc' 20 4 (by omega)
  have HS4 := Lib.hid fun W => s4 (4 : Int) (8 : Int) W rfl rfl
  have HS8 := Lib.hid fun W => s8 (8 : Int) (12 : Int) W rfl rfl
  have HS12 := Lib.hid fun W => s12 (12 : Int) (20 : Int) W rfl rfl
  have HS20 := Lib.hid fun W => s20 (20 : Int) (24 : Int) W rfl rfl
  have N4 := Lib.hid fun (W : World) (B : Below W0.heap.size W0 W) => show Calls Try.prog 41 #[.slice a4 4 (c - 4)] W fun e w' => e = .returned (.int .u64 (nums lx 4 4 : Nat)) ∧ W = w' from number_any a4 4 (c - 4) _ W (hc4.below B) (by decide)
  have N8 := Lib.hid fun (W : World) (B : Below W0.heap.size W0 W) => show Calls Try.prog 41 #[.slice a8 4 (c - 8)] W fun e w' => e = .returned (.int .u64 (nums lx 8 4 : Nat)) ∧ W = w' from number_any a8 4 (c - 8) _ W (hc8.below B) (by decide)
  have N12 := Lib.hid fun (W : World) (B : Below W0.heap.size W0 W) => show Calls Try.prog 41 #[.slice a12 8 (c - 12)] W fun e w' => e = .returned (.int .u64 (nums lx 12 8 : Nat)) ∧ W = w' from number_any a12 8 (c - 12) _ W (hc12.below B) (by decide)
  have N20 := Lib.hid fun (W : World) (B : Below W0.heap.size W0 W) => show Calls Try.prog 41 #[.slice a20 4 (c - 20)] W fun e w' => e = .returned (.int .u64 (nums lx 20 4 : Nat)) ∧ W = w' from number_any a20 4 (c - 20) _ W (hc20.below B) (by decide)
  obtain ⟨a1, -, s24, -, hc24⟩ := cut_bytes (hbm W0 B0) hmc' 24 (m - 24) (by omega)
  rw [List.take_of_length_le (by rw [List.length_drop]; omega)] at hc24
  have HS24 := Lib.hid fun W => s24 (24 : Int) W rfl (by omega)
  have EN := Lib.hid fun (W : World) (B : Below W0.heap.size W0 W) => rget_own a1 (m - 24) (c - 24) (lx.drop 24) W ((hc24.below B).more B.size) (by omega) (by omega)
  have HBM := Lib.hid hbm
  have HLX := Lib.hid hllx
  clear s24 hc24 hlx hc4 hc8 hc12 hc20 hcT s4 s8 s12 s20 sT htl hbl h BA hKr hlen hbm hllx
  have hx := (Crc.of lx).isLt
  generalize (Crc.of lx).toNat = x at *
  generalize Num.num (l.drop m) = y at *
  have hst := HST.out
  have hmc : (m : Int) ≤ c := by omega
  have HWM := Lib.hid (show IntKind.i64.wrap (m : Int) = m from IntWalk.i64_in _ (by omega))
  have hm0 : (0 : Int) ≤ m := by omega
  have HWX := Lib.hid (show IntKind.u64.wrap (x : Int) = x from IntWalk.u64_in _ (by omega))
  have HM := Lib.hid HM
  have B1 := B0.drew
  go_enter Try.func13, Try.ntmps13
  go_upto_region 3 with fail
  clear hW0
  go_cut [27] (fun v wx => v = .bool ((y : Int) != (x : Int)) ∧ Below W0.heap.size W0 wx)
  case first =>
    refine wp_region_any (by kernel_rfl) ?_
    change wpAny _ _ _ _ _ _ _ (World.drew _)
    refine wpAny_take (i := 0) (v := ?_) rfl (by kernel_rfl) (by kernel_rfl) (by kernel_rfl) (fun _ _ _ h => h) (Or.inl ⟨by kernel_rfl, ?_⟩) ?_
    rotate_left
    · intro w; go_simp; try with_reducible rfl
    refine wpAny_take (i := 1) (v := ?_) rfl (by kernel_rfl) (by kernel_rfl) (by kernel_rfl) (fun _ _ _ h => h) (Or.inl ⟨by kernel_rfl, ?_⟩) ?_
    rotate_left
    · intro w; go_simp; try with_reducible rfl
    refine wpAny_take (i := 2) (v := ?_) rfl (by kernel_rfl) (by kernel_rfl) (by kernel_rfl) (fun _ _ _ h => h) (Or.inl ⟨by kernel_rfl, ?_⟩) ?_
    rotate_left
    · intro w; go_simp; try with_reducible rfl
    refine wpAny_take (i := 3) (v := ?_) rfl (by kernel_rfl) (by kernel_rfl) (by kernel_rfl) (fun _ _ _ h => h) (Or.inl ⟨by kernel_rfl, ?_⟩) ?_
    rotate_left
    · intro w; go_simp; rw [HWM.out]; try with_reducible rfl
    refine wpAny_take (i := 4) (v := ?_) rfl (by kernel_rfl) (by kernel_rfl) (by kernel_rfl) (fun _ _ _ h => h) (Or.inl ⟨by kernel_rfl, ?_⟩) ?_
    rotate_left
    · intro w; go_simp; try with_reducible rfl
    refine wpAny_take (i := 6) (v := ?_) rfl (by kernel_rfl) (by kernel_rfl) (by kernel_rfl) (fun _ _ _ h => h) (Or.inl ⟨by kernel_rfl, ?_⟩) ?_
    rotate_left
    · intro w; go_simp; try with_reducible rfl
    refine wpAny_take (i := 7) (v := ?_) rfl (by kernel_rfl) (by kernel_rfl) (by kernel_rfl) (fun _ _ _ h => h) (Or.inl ⟨by kernel_rfl, ?_⟩) ?_
    rotate_left
    · intro w; go_simp; try with_reducible rfl
    refine wpAny_take (i := 8) (v := ?_) rfl (by kernel_rfl) (by kernel_rfl) (by kernel_rfl) (fun _ _ _ h => h) (Or.inl ⟨by kernel_rfl, ?_⟩) ?_
    rotate_left
    · intro w; go_simp; try with_reducible rfl
    refine wpAny_take (i := 9) (v := ?_) rfl (by kernel_rfl) (by kernel_rfl) (by kernel_rfl) (fun _ _ _ h => h) (Or.inl ⟨by kernel_rfl, ?_⟩) ?_
    rotate_left
    · intro w; go_simp; rw [HWM.out]; try with_reducible rfl
    refine wpAny_take (i := 10) (v := ?_) rfl (by kernel_rfl) (by kernel_rfl) (by kernel_rfl) (fun _ _ _ h => h) (Or.inl ⟨by kernel_rfl, ?_⟩) ?_
    rotate_left
    · intro w; go_simp; try with_reducible rfl
    refine wpAny_ready (rs := [5]) (by kernel_rfl) (by simp) ?_
    refine AllReady.cons (i := 5) rfl ?_ AllReady.nil
    intro K hK
    go_simp
    refine (NT.out _ B1).mono ?_
    rintro e w3 ⟨rfl, rfl⟩
    go_simp
    refine hK _ _ ?_
    clear hK K
    refine wpAny_ready (rs := [11]) (by kernel_rfl) (by simp) ?_
    refine AllReady.cons (i := 11) rfl ?_ AllReady.nil
    intro K hK
    go_simp
    refine (OT.out _ B1).mono ?_
    rintro e w3 ⟨rfl, rfl⟩
    go_simp
    refine hK _ _ ?_
    clear hK K
    refine wpAny_take (i := 12) (v := ?_) rfl (by kernel_rfl) (by kernel_rfl) (by kernel_rfl) (fun _ _ _ h => h) (Or.inl ⟨by kernel_rfl, ?_⟩) ?_
    rotate_left
    · intro w; go_simp; rw [HWX.out]; try with_reducible rfl
    refine wpAny_take (i := 13) (v := ?_) rfl (by kernel_rfl) (by kernel_rfl) (by kernel_rfl) (fun _ _ _ h => h) (Or.inl ⟨by kernel_rfl, ?_⟩) ?_
    rotate_left
    · intro w; go_simp; try with_reducible rfl
    refine wpAny_done (by kernel_rfl) ?_ _
    go_wp2_with fail
    go_meet
    exact ⟨rfl, B1⟩
  case rest =>
    obtain ⟨rfl, Bc⟩ := hcut
    clear hst B1 B0 hsh
    by_cases hs : ¬ y = x
    · have HE := Lib.hid (show msGet l = (mNone, 5) from by rw [HM.out, if_pos hs])
      have h4' : ((y : Int) != (x : Int)) = true := by rw [bne_iff_ne]; omega
      rw [h4']
      have HKr := Lib.hid (HKR.out _ Bc)
      have HBc := Lib.hid Bc
      obtain ⟨k0, k1, k2, k3, k4, k5, k6, k7, k8, k9, k10, k11⟩ := HKr.out.twelve
      obtain ⟨f0, f1, f2, f3, f4, f5, f6, f7, f8, f9, f10, f11⟩ := HKr.out.twelve_frozen
      clear Bc
      go_wp2_with fail
      exact bodyPost_ret (rmread_results (HKr.out.put12 _ _ _ _ _ _ _ _ _ _ _ _) rfl rfl) rfl (rmsp_bad HE.out (below_put12 (BW.out _ HBc.out) (Nat.le_refl _) _ _ _ _ _ _ _ _ _ _ _ _))
    have hs := Decidable.not_not.1 hs
    have h4' : ((y : Int) != (x : Int)) = false := by rw [hs]; simp
    rw [h4']
    have HX := Lib.hid (show msGet l = msIn lx from by rw [HM.out, if_neg (by rw [hs]; simp)])
    clear h4' hs HM NT OT HST HWX
    have x4 : nums lx 4 4 < 4294967296 := nums_lt lx 4 4
    have x8 : nums lx 8 4 < 4294967296 := nums_lt lx 8 4
    have x12 : nums lx 12 8 < 18446744073709551616 := nums_lt lx 12 8
    have x20 : nums lx 20 4 < 4294967296 := nums_lt lx 20 4
    have yb0 := rlt256 (lx.getD 0 0#8)
    have yb1 := rlt256 (lx.getD 1 0#8)
    have yb2 := rlt256 (lx.getD 2 0#8)
    have yb3 := rlt256 (lx.getD 3 0#8)
    obtain ⟨bg, off, rfl, hbg, hcl⟩ := (HBM.out wc Bc).2 (by omega)
    obtain ⟨p0, p1, p2, p3⟩ : wc.cell? ⟨bg, off, none⟩ = some (.int .u8 ((lx.getD 0 0#8).toNat : Int)) ∧ wc.cell? ⟨bg, off + 1, none⟩ = some (.int .u8 ((lx.getD 1 0#8).toNat : Int)) ∧ wc.cell? ⟨bg, off + 2, none⟩ = some (.int .u8 ((lx.getD 2 0#8).toNat : Int)) ∧ wc.cell? ⟨bg, off + 3, none⟩ = some (.int .u8 ((lx.getD 3 0#8).toNat : Int)) :=
      ⟨hcl 0 (by omega), hcl 1 (by omega), hcl 2 (by omega), hcl 3 (by omega)⟩
    have HC := Lib.hid fun (W : World) (B : Below wc.heap.size wc W) => And.intro ((B.cell (p := ⟨bg, off, none⟩) hbg).trans p0) (And.intro ((B.cell (p := ⟨bg, off + 1, none⟩) hbg).trans p1) (And.intro ((B.cell (p := ⟨bg, off + 2, none⟩) hbg).trans p2) ((B.cell (p := ⟨bg, off + 3, none⟩) hbg).trans p3)))
    clear hcl p0 p1 p2 p3 hbg
    have HV := Lib.hid (show msHead lx = ⟨((lx.getD 0 0#8).toNat : Int), ((lx.getD 1 0#8).toNat : Int), ((lx.getD 2 0#8).toNat : Int), (nums lx 4 4 : Int), (nums lx 8 4 : Int), nums lx 12 8, ((lx.getD 3 0#8).toNat : Int), false, 0, 0, false, none, 0, 0, []⟩ from rfl)
    generalize (lx.getD 0 0#8).toNat = b0 at *
    generalize (lx.getD 1 0#8).toNat = b1 at *
    generalize (lx.getD 2 0#8).toNat = b2 at *
    generalize (lx.getD 3 0#8).toNat = b3 at *
    generalize nums lx 4 4 = v at *
    generalize nums lx 8 4 = y at *
    generalize nums lx 12 8 = d at *
    have HW0 := Lib.hid (show IntKind.i64.wrap (b0 : Int) = b0 from IntWalk.i64_in _ (by omega))
    have HW1 := Lib.hid (show IntKind.i64.wrap (b1 : Int) = b1 from IntWalk.i64_in _ (by omega))
    have HW2 := Lib.hid (show IntKind.i64.wrap (b2 : Int) = b2 from IntWalk.i64_in _ (by omega))
    have HW3 := Lib.hid (show IntKind.i64.wrap (b3 : Int) = b3 from IntWalk.i64_in _ (by omega))
    have k0 : 0 < m := by omega
    have k1 : (1 : Int) < (m : Int) := by omega
    have k2 : (2 : Int) < (m : Int) := by omega
    have k3 : (3 : Int) < (m : Int) := by omega
    have HBc := Lib.hid Bc
    go_upto_region 6 with fail
    clear Bc
    generalize wc = W1 at *
    go_cut [4] (fun vv wx => ∃ M, vv = .pointer (some ⟨M, 0, none⟩) ∧ W1.heap.size ≤ M ∧ Blk wx M 36 #[.int .i64 (b0 : Int), .int .i64 (b1 : Int), .int .i64 (b2 : Int), .int .i64 0, .int .i64 0, .int .u64 0, .int .i64 (b3 : Int), .bool false, .int .u64 0, .int .u32 0, .bool false, .slice none 0 0] ∧ Below W1.heap.size W1 wx)
    case first =>
      refine wp_region_held_drew (S := fun W => Below W1.heap.size W1 W) (by kernel_rfl) ((Below.refl _ _).drew) (fun hS => ?_)
      refine wpAnyH_take (i := 0) (v := ?_) rfl (by kernel_rfl) (by kernel_rfl) (by kernel_rfl) (fun _ _ _ h => h) (Or.inl ⟨by kernel_rfl, ?_⟩) hS ?_
      rotate_left
      · intro W hW; go_simp; try with_reducible rfl
      refine wpAnyH_take (i := 1) (v := ?_) rfl (by kernel_rfl) (by kernel_rfl) (by kernel_rfl) (fun _ _ _ h => h) (Or.inl ⟨by kernel_rfl, ?_⟩) hS ?_
      rotate_left
      · intro W hW; go_simp; try with_reducible rfl
      refine wpAnyH_take (i := 2) (v := ?_) rfl (by kernel_rfl) (by kernel_rfl) (by kernel_rfl) (fun _ _ _ h => h) (Or.inl ⟨by kernel_rfl, ?_⟩) hS ?_
      rotate_left
      · intro W hW; obtain ⟨p0, p1, p2, p3⟩ := HC.out W hW; go_simp; try with_reducible rfl
      refine wpAnyH_take (i := 3) (v := ?_) rfl (by kernel_rfl) (by kernel_rfl) (by kernel_rfl) (fun _ _ _ h => h) (Or.inl ⟨by kernel_rfl, ?_⟩) hS ?_
      rotate_left
      · intro W hW; first | (go_simp; rw [HW0.out]; with_reducible rfl) | (go_simp; with_reducible rfl) | go_simp
      refine wpAnyH_take (i := 4) (v := ?_) rfl (by kernel_rfl) (by kernel_rfl) (by kernel_rfl) (fun _ _ _ h => h) (Or.inl ⟨by kernel_rfl, ?_⟩) hS ?_
      rotate_left
      · intro W hW; go_simp; try with_reducible rfl
      refine wpAnyH_take (i := 5) (v := ?_) rfl (by kernel_rfl) (by kernel_rfl) (by kernel_rfl) (fun _ _ _ h => h) (Or.inl ⟨by kernel_rfl, ?_⟩) hS ?_
      rotate_left
      · intro W hW; go_simp; try with_reducible rfl
      refine wpAnyH_take (i := 6) (v := ?_) rfl (by kernel_rfl) (by kernel_rfl) (by kernel_rfl) (fun _ _ _ h => h) (Or.inl ⟨by kernel_rfl, ?_⟩) hS ?_
      rotate_left
      · intro W hW; obtain ⟨p0, p1, p2, p3⟩ := HC.out W hW; go_simp; try with_reducible rfl
      refine wpAnyH_take (i := 7) (v := ?_) rfl (by kernel_rfl) (by kernel_rfl) (by kernel_rfl) (fun _ _ _ h => h) (Or.inl ⟨by kernel_rfl, ?_⟩) hS ?_
      rotate_left
      · intro W hW; first | (go_simp; rw [HW1.out]; with_reducible rfl) | (go_simp; with_reducible rfl) | go_simp
      refine wpAnyH_take (i := 8) (v := ?_) rfl (by kernel_rfl) (by kernel_rfl) (by kernel_rfl) (fun _ _ _ h => h) (Or.inl ⟨by kernel_rfl, ?_⟩) hS ?_
      rotate_left
      · intro W hW; go_simp; try with_reducible rfl
      refine wpAnyH_take (i := 9) (v := ?_) rfl (by kernel_rfl) (by kernel_rfl) (by kernel_rfl) (fun _ _ _ h => h) (Or.inl ⟨by kernel_rfl, ?_⟩) hS ?_
      rotate_left
      · intro W hW; go_simp; try with_reducible rfl
      refine wpAnyH_take (i := 10) (v := ?_) rfl (by kernel_rfl) (by kernel_rfl) (by kernel_rfl) (fun _ _ _ h => h) (Or.inl ⟨by kernel_rfl, ?_⟩) hS ?_
      rotate_left
      · intro W hW; obtain ⟨p0, p1, p2, p3⟩ := HC.out W hW; go_simp; try with_reducible rfl
      refine wpAnyH_take (i := 11) (v := ?_) rfl (by kernel_rfl) (by kernel_rfl) (by kernel_rfl) (fun _ _ _ h => h) (Or.inl ⟨by kernel_rfl, ?_⟩) hS ?_
      rotate_left
      · intro W hW; first | (go_simp; rw [HW2.out]; with_reducible rfl) | (go_simp; with_reducible rfl) | go_simp
      refine wpAnyH_take (i := 12) (v := ?_) rfl (by kernel_rfl) (by kernel_rfl) (by kernel_rfl) (fun _ _ _ h => h) (Or.inl ⟨by kernel_rfl, ?_⟩) hS ?_
      rotate_left
      · intro W hW; go_simp; try with_reducible rfl
      refine wpAnyH_take (i := 13) (v := ?_) rfl (by kernel_rfl) (by kernel_rfl) (by kernel_rfl) (fun _ _ _ h => h) (Or.inl ⟨by kernel_rfl, ?_⟩) hS ?_
      rotate_left
      · intro W hW; go_simp; try with_reducible rfl
      refine wpAnyH_take (i := 14) (v := ?_) rfl (by kernel_rfl) (by kernel_rfl) (by kernel_rfl) (fun _ _ _ h => h) (Or.inl ⟨by kernel_rfl, ?_⟩) hS ?_
      rotate_left
      · intro W hW; obtain ⟨p0, p1, p2, p3⟩ := HC.out W hW; go_simp; try with_reducible rfl
      refine wpAnyH_take (i := 15) (v := ?_) rfl (by kernel_rfl) (by kernel_rfl) (by kernel_rfl) (fun _ _ _ h => h) (Or.inl ⟨by kernel_rfl, ?_⟩) hS ?_
      rotate_left
      · intro W hW; first | (go_simp; rw [HW3.out]; with_reducible rfl) | (go_simp; with_reducible rfl) | go_simp
      refine wpAnyH_take (i := 16) (v := ?_) rfl (by kernel_rfl) (by kernel_rfl) (by kernel_rfl) (fun _ _ _ h => h) (Or.inl ⟨by kernel_rfl, ?_⟩) hS ?_
      rotate_left
      · intro W hW; go_simp; try with_reducible rfl
      refine wpAnyH_ready (rs := [17]) (by kernel_rfl) (by simp) ?_
      refine AllReadyH.cons (i := 17) rfl ?_ AllReadyH.nil
      intro K hK
      go_simp
      first | refine held_alloc (fun wa hM hBa => ?_) | refine held_alloc_drew (fun wa hM hBa => ?_)
      have hge := hS.size
      have hT : Below W1.heap.size W1 wa := by first | exact hS.trans (hBa.mono hS.size) | exact hBa
      clear hBa
      go_simp
      refine hK.out _ _ ?_ (fun hN => ?_)
      · first | exact hT | exact hS | exact hS.alloc hS.size _ | exact hS.drew
      clear hK K
      try clear hT
      clear hS
      have hS := hN
      clear hN
      refine wpAnyH_ready (rs := [18]) (by kernel_rfl) (by simp) ?_
      refine AllReadyH.cons (i := 18) rfl ?_ AllReadyH.nil
      intro K hK
      obtain ⟨m0, m1, m2, m3, m4, m5, m6, m7, m8, m9, m10, m11⟩ := hM.twelve
      obtain ⟨n0, n1, n2, n3, n4, n5, n6, n7, n8, n9, n10, n11⟩ := hM.twelve_frozen
      go_simp
      rw [HW0.out, HW1.out, HW2.out, HW3.out]
      have hT := below_put12 hS hge (.int .i64 (b0 : Int)) (.int .i64 (b1 : Int)) (.int .i64 (b2 : Int)) (.int .i64 0) (.int .i64 0) (.int .u64 0) (.int .i64 (b3 : Int)) (.bool false) (.int .u64 0) (.int .u32 0) (.bool false) (.slice none 0 0)
      have hM' := Lib.hid (hM.put12 (.int .i64 (b0 : Int)) (.int .i64 (b1 : Int)) (.int .i64 (b2 : Int)) (.int .i64 0) (.int .i64 0) (.int .u64 0) (.int .i64 (b3 : Int)) (.bool false) (.int .u64 0) (.int .u32 0) (.bool false) (.slice none 0 0))
      refine hK.out _ _ ?_ (fun hN => ?_)
      · first | exact hT | exact hS | exact hS.alloc hS.size _ | exact hS.drew
      clear hK K
      try clear hT
      clear hS
      have hS := hN
      clear hN
      refine wpAnyH_done (by kernel_rfl) ?_ _
      have HSS := Lib.hid hS
      have HGM := Lib.hid hge
      clear hS hge m0 m1 m2 m3 m4 m5 m6 m7 m8 m9 m10 m11 n0 n1 n2 n3 n4 n5 n6 n7 n8 n9 n10 n11 hM
      go_simp
      go_wp2_with fail
      go_meet
      exact ⟨_, rfl, HGM.out, hM'.out, HSS.out⟩
    case rest =>
      obtain ⟨M, rfl, hM0, hBM, hBc2⟩ := hcut
      have HM0 := Lib.hid (show W0.heap.size ≤ M ∧ w.heap.size < M from ⟨Nat.le_trans HBc.out.size hM0, by have := HBc.out.size; omega⟩)
      have HB2 := Lib.hid (HBc.out.trans (hBc2.mono HBc.out.size))
      have c3 := hBM.cell 3
      have c4 := hBM.cell 4
      have c5 := hBM.cell 5
      have f3 := hBM.frozen 3
      have f4 := hBM.frozen 4
      have f5 := hBM.frozen 5
      have HM5 := Lib.hid (show Blk (((wc.setCell ⟨M, 3, none⟩ (.int .i64 (v : Int))).setCell ⟨M, 4, none⟩ (.int .i64 (y : Int))).setCell ⟨M, 5, none⟩ (.int .u64 (d : Int))) M 36 #[.int .i64 (b0 : Int), .int .i64 (b1 : Int), .int .i64 (b2 : Int), .int .i64 (v : Int), .int .i64 (y : Int), .int .u64 (d : Int), .int .i64 (b3 : Int), .bool false, .int .u64 0, .int .u32 0, .bool false, .slice none 0 0] from ((hBM.put 3 (.int .i64 (v : Int))).put 4 (.int .i64 (y : Int))).put 5 (.int .u64 (d : Int)))
      have HS3 := Lib.hid (HB2.out.setCell (p := ⟨M, 3, none⟩) HM0.out.1 (.int .i64 (v : Int)))
      have HS4' := Lib.hid (HS3.out.setCell (p := ⟨M, 4, none⟩) HM0.out.1 (.int .i64 (y : Int)))
      have HB5 := Lib.hid (HS4'.out.setCell (p := ⟨M, 5, none⟩) HM0.out.1 (.int .u64 (d : Int)))
      obtain ⟨f, hf⟩ : ∃ f, nums lx 20 4 = f := ⟨_, rfl⟩
      rw [hf] at N20 x20
      have HFV := Lib.hid hf
      have hs4 := HS4.out
      have hs8 := HS8.out
      have hs12 := HS12.out
      have hs20 := HS20.out
      clear hM0 hBM hBc2 hf HC HW0 HW1 HW2 HW3
      go_wp2_with fail
      refine (N4.out _ HB2.out).mono ?_
      rintro e w3 ⟨rfl, rfl⟩
      clear HS4
      go_wp2_with fail
      refine (N8.out _ HS3.out).mono ?_
      rintro e w3 ⟨rfl, rfl⟩
      go_wp2_with fail
      refine (N12.out _ HS4'.out).mono ?_
      rintro e w3 ⟨rfl, rfl⟩
      go_wp2_with fail
      refine (N20.out _ HB5.out).mono ?_
      rintro e w3 ⟨rfl, rfl⟩
      go_upto_region 11 with fail
      generalize (((wc.setCell ⟨M, 3, none⟩ (.int .i64 (v : Int))).setCell ⟨M, 4, none⟩ (.int .i64 (y : Int))).setCell ⟨M, 5, none⟩ (.int .u64 (d : Int))) = W5 at *
      clear c3 c4 c5 f3 f4 f5 hs4 hs8 hs12 hs20 N4 N8 N12 N20 HS3 HS4'
      by_cases h1 : f = 1
      · have z1 : ((f : Int) == 1) = true := by rw [h1]; rfl
        have HMG := Lib.hid (show msGet l = (if (ndGet (lx.drop 24)).2.2.2.2.2 ≠ 0 then (mNone, 4) else if lx.length = 24 + (ndGet (lx.drop 24)).2.2.2.2.1 ∧ mchk ((msHead lx).with (ndGet (lx.drop 24)).1 (ndGet (lx.drop 24)).2.1 (ndGet (lx.drop 24)).2.2.1 (ndGet (lx.drop 24)).2.2.2.1) = 0 then ((msHead lx).with (ndGet (lx.drop 24)).1 (ndGet (lx.drop 24)).2.1 (ndGet (lx.drop 24)).2.2.1 (ndGet (lx.drop 24)).2.2.2.1, 0) else (mNone, 4)) from by
          rw [HX.out]
          unfold msIn
          rw [if_pos (by rw [HFV.out]; exact h1)])
        have hs24 := HS24.out
        have z9 : decide ((1 : Int) < (f : Int)) = false := decide_eq_false (by omega)
        clear h1
        go_wp2_with fail
        refine (EN.out _ HB5.out).mono ?_
        rintro e w4 ⟨B4, key, ck, gg, ly, all, cf, hnd, av, cv2, rfl, hcv2, ho4⟩
        have HB4 := Lib.hid (HB5.out.trans (B4.mono HB5.out.size))
        have HM4 := Lib.hid (HM5.out.below B4 HM5.out.lt)
        have HO4 := Lib.hid ho4
        have HML := Lib.hid (show M < W5.heap.size from HM5.out.lt)
        rw [hnd] at HMG
        have HND := Lib.hid hnd
        clear B4 EN ho4 hnd hs24
        dsimp only at HMG
        by_cases hc0 : cf = 0
        · subst hc0
          obtain ⟨-, -, -, hall, -⟩ := ndGet_len HND.out
          have hall2 : all ≤ m - 24 := by rw [List.length_drop, HLX.out] at hall; exact hall
          have HLY := Lib.hid (show ly.length ≤ 1099511627776 from by
            obtain ⟨-, -, -, -, -, -, -, -, -, hq⟩ := ndGet_len HND.out
            rw [hq, List.length_take, List.length_drop, List.length_drop, HLX.out]
            omega)
          have HM5' := Lib.hid (HM4.out.alloc (.cells #[.int .u64 (key : Int), .int .u32 (ck : Int), .bool gg, .slice av ly.length cv2] 34))
          have HN5 := Lib.hid (Blk.made w4 34 #[.int .u64 (key : Int), .int .u32 (ck : Int), .bool gg, .slice av ly.length cv2])
          have HB5' := Lib.hid (HB4.out.alloc HB4.out.size (.cells #[.int .u64 (key : Int), .int .u32 (ck : Int), .bool gg, .slice av ly.length cv2] 34))
          have HMN := Lib.hid (show M < w4.heap.size from HM4.out.lt)
          have HO5 := Lib.hid (row_far HO4.out (rgrown_of ((Below.refl _ _).alloc (Nat.le_refl _) (.cells #[.int .u64 (key : Int), .int .u32 (ck : Int), .bool gg, .slice av ly.length cv2] 34)) : w4.grownBy _ (some M)) HML.out)
          go_upto_region 16 with fail
          generalize w4.alloc (.cells #[.int .u64 (key : Int), .int .u32 (ck : Int), .bool gg, .slice av ly.length cv2] 34) = W6 at *
          clear hall
          have c7 := HM5'.out.cell 7
          have c8 := HM5'.out.cell 8
          have c9 := HM5'.out.cell 9
          have c10 := HM5'.out.cell 10
          have c11 := HM5'.out.cell 11
          have f7 := HM5'.out.frozen 7
          have f8 := HM5'.out.frozen 8
          have f9 := HM5'.out.frozen 9
          have f10 := HM5'.out.frozen 10
          have f11 := HM5'.out.frozen 11
          have hMN : M ≠ w4.heap.size := by have := HMN.out; omega
          have hMN' : w4.heap.size ≠ M := by have := HMN.out; omega
          obtain ⟨n0, n1, n2, n3⟩ := HN5.out.four
          have hs7 := HM5'.out.put 7 (.bool true)
          have hp7 := Lib.hid (rput_four (u8 := .int .u64 (key : Int)) (u9 := .int .u32 (ck : Int)) (u10 := .bool gg) (u11 := .slice av ly.length cv2) (show Blk (W6.setCell ⟨M, 7, none⟩ (.bool true)) M 36 #[.int .i64 (b0 : Int), .int .i64 (b1 : Int), .int .i64 (b2 : Int), .int .i64 (v : Int), .int .i64 (y : Int), .int .u64 (d : Int), .int .i64 (b3 : Int), .bool true, .int .u64 0, .int .u32 0, .bool false, .slice none 0 0] from hs7))
          have hg7 := Lib.hid (grown_put (grown_put (grown_put (grown_put (grown_put (grown_refl W6 (some M)) 7 (.bool true)) 8 (.int .u64 (key : Int))) 9 (.int .u32 (ck : Int))) 10 (.bool gg)) 11 (.slice av ly.length cv2))
          clear hs7
          go_upto_region 18 with fail
          generalize (((((W6.setCell ⟨M, 7, none⟩ (.bool true)).setCell ⟨M, 8, none⟩ (.int .u64 (key : Int))).setCell ⟨M, 9, none⟩ (.int .u32 (ck : Int))).setCell ⟨M, 10, none⟩ (.bool gg)).setCell ⟨M, 11, none⟩ (.slice av ly.length cv2)) = W7 at *
          clear c7 c8 c9 c10 c11 f7 f8 f9 f10 f11 n0 n1 n2 n3
          have HO7 := Lib.hid (row_far HO5.out hg7.out HML.out)
          have HB7 := Lib.hid (HB5'.out.trans (grown_below (B := W0.heap.size) hg7.out HB5'.out.size HM0.out.1))
          obtain ⟨q, hq⟩ : ∃ q, mchk ((msHead lx).with key ck gg ly) = q := ⟨_, rfl⟩
          have EC := Lib.hid (show Calls Try.prog 17 #[.agg #[.int .i64 (b0 : Int), .int .i64 (b1 : Int), .int .i64 (b2 : Int), .int .i64 (v : Int), .int .i64 (y : Int), .int .u64 (d : Int), .int .i64 (b3 : Int), .bool true, .int .u64 (key : Int), .int .u32 (ck : Int), .bool gg, .slice av ly.length cv2]] W7 fun e w' => e = .returned (.int .i64 (q : Int)) ∧ Below W7.heap.size W7 w' from by
            have := rcheck_any { (msHead lx).with key ck gg ly with a := av, c := cv2 } W7 (bsl_own HO7.out) HLY.out
            rw [show mchk { (msHead lx).with key ck gg ly with a := av, c := cv2 } = q from hq, show MsgR.vals { (msHead lx).with key ck gg ly with a := av, c := cv2 } = .agg #[.int .i64 (b0 : Int), .int .i64 (b1 : Int), .int .i64 (b2 : Int), .int .i64 (v : Int), .int .i64 (y : Int), .int .u64 (d : Int), .int .i64 (b3 : Int), .bool true, .int .u64 (key : Int), .int .u32 (ck : Int), .bool gg, .slice av ly.length cv2] from by rw [HV.out]; rfl] at this
            exact this)
          have HQ := Lib.hid hq
          have HK7 := hp7
          have HG7 := hg7
          clear hq hp7 hg7
          by_cases hk : 24 + all = m
          · have z3 : ((24 + (all : Int)) != (m : Int)) = false := by rw [bne_eq_false_iff_eq]; omega
            have HKE := Lib.hid hk
            clear hk
            obtain ⟨m0, m1, m2, m3, m4, m5, m6, m7, m8, m9, m10, m11⟩ := HK7.out.twelve
            go_wp2_with fail
            refine EC.out.mono ?_
            rintro e w8 ⟨rfl, B8⟩
            have HB8 := Lib.hid (HB7.out.trans (B8.mono HB7.out.size))
            have HR8 := Lib.hid (HKR.out _ HB8.out)
            have HM8 := Lib.hid (HK7.out.below B8 HK7.out.lt)
            have HO8 := Lib.hid (row_far HO7.out (rgrown_of B8) HML.out)
            clear B8 EC m0 m1 m2 m3 m4 m5 m6 m7 m8 m9 m10 m11
            obtain ⟨m0, m1, m2, m3, m4, m5, m6, m7, m8, m9, m10, m11⟩ := HM8.out.twelve
            obtain ⟨k0, k1, k2, k3, k4, k5, k6, k7, k8, k9, k10, k11⟩ := HR8.out.twelve
            obtain ⟨f0, f1, f2, f3, f4, f5, f6, f7, f8, f9, f10, f11⟩ := HR8.out.twelve_frozen
            by_cases hq0 : q = 0
            · subst hq0
              go_wp2_with fail
              refine bodyPost_ret (rmread_results (HR8.out.put12 _ _ _ _ _ _ _ _ _ _ _ _) rfl rfl) rfl ⟨below_put12 (BW.out _ HB8.out) (Nat.le_refl _) _ _ _ _ _ _ _ _ _ _ _ _, { (msHead lx).with key ck gg ly with a := av, c := cv2 }, 0, ?_, ?_, rfl, hcv2, row_base (row_far HO8.out (grown_put12 (grown_refl _ _) _ _ _ _ _ _ _ _ _ _ _ _) (by have := HM0.out.2; have := HML.out; omega)) (by have := HM0.out.2; have := HML.out; omega)⟩
              · rw [HMG.out, if_neg (by decide), if_pos ⟨by rw [HLX.out]; exact HKE.out.symm, HQ.out⟩]
                rfl
              · rw [HV.out]
                rfl
            · have HQ0 := Lib.hid hq0
              have z5 : ((q : Int) != 0) = true := by rw [bne_iff_ne]; omega
              clear hq0
              go_wp2_with fail
              exact bodyPost_ret (rmread_results (HR8.out.put12 _ _ _ _ _ _ _ _ _ _ _ _) rfl rfl) rfl (rmsp_bad (cf := 4) (by rw [HMG.out, if_neg (by decide), if_neg (fun h => HQ0.out (HQ.out.symm.trans h.2))]) (below_put12 (BW.out _ HB8.out) (Nat.le_refl _) _ _ _ _ _ _ _ _ _ _ _ _))
          · have z3 : ((24 + (all : Int)) != (m : Int)) = true := by rw [bne_iff_ne]; omega
            have HN := Lib.hid (show msGet l = (mNone, 4) from by rw [HMG.out, if_neg (by decide), if_neg (fun h => hk (by have := h.1; rw [HLX.out] at this; omega))])
            clear hk
            have HR7 := Lib.hid (HKR.out _ HB7.out)
            obtain ⟨k0, k1, k2, k3, k4, k5, k6, k7, k8, k9, k10, k11⟩ := HR7.out.twelve
            obtain ⟨f0, f1, f2, f3, f4, f5, f6, f7, f8, f9, f10, f11⟩ := HR7.out.twelve_frozen
            go_wp2_with fail
            exact bodyPost_ret (rmread_results (HR7.out.put12 _ _ _ _ _ _ _ _ _ _ _ _) rfl rfl) rfl (rmsp_bad (cf := 4) HN.out (below_put12 (BW.out _ HB7.out) (Nat.le_refl _) _ _ _ _ _ _ _ _ _ _ _ _))
        · have HN := Lib.hid (show msGet l = (mNone, 4) from by rw [HMG.out, if_pos hc0])
          have z5 : ((cf : Int) != 0) = true := by rw [bne_iff_ne]; omega
          clear hc0
          have HB5' := Lib.hid (HB4.out.alloc HB4.out.size (.cells #[.int .u64 (key : Int), .int .u32 (ck : Int), .bool gg, .slice av ly.length cv2] 34))
          have HR5 := Lib.hid (HKR.out _ HB5'.out)
          go_upto_region 14 with fail
          generalize w4.alloc (.cells #[.int .u64 (key : Int), .int .u32 (ck : Int), .bool gg, .slice av ly.length cv2] 34) = W6 at *
          obtain ⟨k0, k1, k2, k3, k4, k5, k6, k7, k8, k9, k10, k11⟩ := HR5.out.twelve
          obtain ⟨f0, f1, f2, f3, f4, f5, f6, f7, f8, f9, f10, f11⟩ := HR5.out.twelve_frozen
          go_wp2_with fail
          exact bodyPost_ret (rmread_results (HR5.out.put12 _ _ _ _ _ _ _ _ _ _ _ _) rfl rfl) rfl (rmsp_bad (cf := 4) HN.out (below_put12 (BW.out _ HB5'.out) (Nat.le_refl _) _ _ _ _ _ _ _ _ _ _ _ _))
      have z1 : ((f : Int) == 1) = false := by rw [beq_eq_false_iff_ne]; omega
      by_cases h0 : f = 0
      · have z2 : decide ((1 : Int) < (f : Int)) = false := decide_eq_false (by omega)
        have HMG := Lib.hid (show msGet l = (if lx.length = 24 ∧ mchk (msHead lx) = 0 then (msHead lx, 0) else (mNone, 4)) from by
          rw [HX.out]
          unfold msIn
          rw [if_neg (by rw [HFV.out]; exact h1), HFV.out]
          simp only [h0, true_and])
        clear h0 h1 EN
        by_cases hk : m = 24
        · have z3 : ((24 : Int) != (m : Int)) = false := by rw [bne_eq_false_iff_eq]; omega
          have HKE := Lib.hid hk
          clear hk
          obtain ⟨q, hq⟩ : ∃ q, mchk (msHead lx) = q := ⟨_, rfl⟩
          have EC := Lib.hid fun (W : World) => (show Calls Try.prog 17 #[.agg #[.int .i64 (b0 : Int), .int .i64 (b1 : Int), .int .i64 (b2 : Int), .int .i64 (v : Int), .int .i64 (y : Int), .int .u64 (d : Int), .int .i64 (b3 : Int), .bool false, .int .u64 0, .int .u32 0, .bool false, .slice none 0 0]] W fun e w' => e = .returned (.int .i64 (q : Int)) ∧ Below W.heap.size W w' from by
            have := rcheck_any (msHead lx) W (BSl.nil _ _ none) (Nat.zero_le _)
            rw [hq, HV.out] at this
            exact this)
          have HQ := Lib.hid hq
          clear hq
          obtain ⟨m0, m1, m2, m3, m4, m5, m6, m7, m8, m9, m10, m11⟩ := HM5.out.twelve
          go_wp2_with fail
          refine (EC.out _).mono ?_
          rintro e w8 ⟨rfl, B8⟩
          have HB8 := Lib.hid (HB5.out.trans (B8.mono HB5.out.size))
          have HR8 := Lib.hid (HKR.out _ HB8.out)
          have HM8 := Lib.hid (HM5.out.below B8 HM5.out.lt)
          clear B8 EC m0 m1 m2 m3 m4 m5 m6 m7 m8 m9 m10 m11
          obtain ⟨m0, m1, m2, m3, m4, m5, m6, m7, m8, m9, m10, m11⟩ := HM8.out.twelve
          obtain ⟨k0, k1, k2, k3, k4, k5, k6, k7, k8, k9, k10, k11⟩ := HR8.out.twelve
          obtain ⟨f0, f1, f2, f3, f4, f5, f6, f7, f8, f9, f10, f11⟩ := HR8.out.twelve_frozen
          by_cases hq0 : q = 0
          · subst hq0
            go_wp2_with fail
            refine bodyPost_ret (rmread_results (HR8.out.put12 _ _ _ _ _ _ _ _ _ _ _ _) rfl rfl) rfl ⟨below_put12 (BW.out _ HB8.out) (Nat.le_refl _) _ _ _ _ _ _ _ _ _ _ _ _, msHead lx, 0, ?_, ?_, rfl, Nat.le_refl _, rfl, .inl ⟨rfl, rfl⟩⟩
            · rw [HMG.out, if_pos ⟨by rw [HLX.out]; exact HKE.out, HQ.out⟩]
              rfl
            · rw [HV.out]
              rfl
          · have HQ0 := Lib.hid hq0
            have z5 : ((q : Int) != 0) = true := by rw [bne_iff_ne]; omega
            clear hq0
            go_wp2_with fail
            exact bodyPost_ret (rmread_results (HR8.out.put12 _ _ _ _ _ _ _ _ _ _ _ _) rfl rfl) rfl (rmsp_bad (cf := 4) (by rw [HMG.out, if_neg (fun h => HQ0.out (HQ.out.symm.trans h.2))]) (below_put12 (BW.out _ HB8.out) (Nat.le_refl _) _ _ _ _ _ _ _ _ _ _ _ _))
        · have z3 : ((24 : Int) != (m : Int)) = true := by rw [bne_iff_ne]; omega
          have HN := Lib.hid (show msGet l = (mNone, 4) from by rw [HMG.out, if_neg (fun h => hk (by rw [← HLX.out]; exact h.1))])
          clear hk
          have HR5 := Lib.hid (HKR.out _ HB5.out)
          obtain ⟨k0, k1, k2, k3, k4, k5, k6, k7, k8, k9, k10, k11⟩ := HR5.out.twelve
          obtain ⟨f0, f1, f2, f3, f4, f5, f6, f7, f8, f9, f10, f11⟩ := HR5.out.twelve_frozen
          go_wp2_with fail
          exact bodyPost_ret (rmread_results (HR5.out.put12 _ _ _ _ _ _ _ _ _ _ _ _) rfl rfl) rfl (rmsp_bad (cf := 4) HN.out (below_put12 (BW.out _ HB5.out) (Nat.le_refl _) _ _ _ _ _ _ _ _ _ _ _ _))
      have z2 : decide ((1 : Int) < (f : Int)) = true := decide_eq_true (by omega)
      have HN := Lib.hid (show msGet l = (mNone, 4) from by
        rw [HX.out]
        unfold msIn
        rw [if_neg (by rw [HFV.out]; exact h1), if_neg (by rw [HFV.out]; exact fun q => h0 q.1)])
      clear h0 h1 EN
      have HR5 := Lib.hid (HKR.out _ HB5.out)
      obtain ⟨k0, k1, k2, k3, k4, k5, k6, k7, k8, k9, k10, k11⟩ := HR5.out.twelve
      obtain ⟨f0, f1, f2, f3, f4, f5, f6, f7, f8, f9, f10, f11⟩ := HR5.out.twelve_frozen
      go_wp2_with fail
      exact bodyPost_ret (rmread_results (HR5.out.put12 _ _ _ _ _ _ _ _ _ _ _ _) rfl rfl) rfl (rmsp_bad (cf := 4) HN.out (below_put12 (BW.out _ HB5.out) (Nat.le_refl _) _ _ _ _ _ _ _ _ _ _ _ _))
end Go.Proofs.Ytpkfjnhjcdcoaaa
