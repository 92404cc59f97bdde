/-
  The walk of corncriblaw15.NetCounts.
-/
import Derived.Test.YtpkfjnhjcdcoaaaNetAlive
import Derived.Test.YtpkfjnhjcdcoaaaAct
namespace Go.Proofs.Ytpkfjnhjcdcoaaa
open Go.RowKit
set_option linter.unusedVariables false

theorem info_u64 : (Try.prog.info? 24).map (fun i => (i.zero, i.size, i.bytes)) = some (some (.int .u64 0), 1, 8) := by kernel_rfl
theorem info_u64_parts : ∃ i, Try.prog.info? 24 = some i ∧ i.zero = some (.int .u64 0) ∧ i.size = 1 ∧ i.bytes = 8 := info_parts info_u64
def idv (x : Nat) : Value := .int .u64 x
theorem NetR.othr {W W' : World} {N base g : Nat} {P : List Pk} {C : List (Int × Int)} {cs : Array Value} {t : TypeId} (hb : W.heap[g]? = some (.cells cs t (0, 0))) (hg : W.grownBy W' (some g)) (h : NetR W N base P C) (n1 : 99 ≠ t) (n2 : 22 ≠ t) (n3 : 102 ≠ t) (n4 : 5 ≠ t) : NetR W' N base P C := by
  obtain ⟨la, lc, ca, cc, h1, h2, h3, h4, h5, h6⟩ := h
  refine ⟨la, lc, ca, cc, ?_, row_keep h2 hg hb n2, row_keep h3 hg hb n3, h4, fun p hp => ?_, h6⟩
  · exact (hg.block N h1.lt (by intro e; injection e with e; exact blk_ne h1 hb n1 e)).trans h1
  · obtain ⟨g1, g2, bp, g3⟩ := h5 p hp
    exact ⟨g1, g2, bp, row_keep g3 hg hb n4⟩
/-- At the loop's heads: as many as are under way, and what was sent. -/
def NCnt (w : World) (N i : Nat) (cv sv : Value) (W : World) : Prop :=
  ∃ (P : List Pk) (C : List (Int × Int)) (S : List Nat), NetR W N N P C ∧ C.length ≤ i ∧ P.length ≤ i ∧ S.length ≤ i ∧ cv = .int .i64 (P.length : Int) ∧ W.ownsRow N 24 1 sv S.length (S.map idv) ∧ (∀ p ∈ P, p.m.id ∈ S) ∧ Below w.heap.size w W
theorem lose_two (P : List Pk) (i : Int) : ((netLose P i).2 = 0 ∧ (netLose P i).1.length + 1 = P.length ∧ ∀ p ∈ (netLose P i).1, p ∈ P) ∨ ((netLose P i).2 = 6 ∧ (netLose P i).1 = P) := by
  unfold netLose
  split
  · rename_i h
    refine .inl ⟨rfl, ?_, fun p hp => List.mem_of_mem_eraseIdx hp⟩
    show (P.eraseIdx i.toNat).length + 1 = P.length
    rw [List.length_eraseIdx, if_pos (by omega)]
    omega
  · exact .inr ⟨rfl, rfl⟩
theorem getD_mem {P : List Pk} {j : Nat} (h : j < P.length) : P.getD j ⟨0, 0, mNone⟩ ∈ P := by
  simp only [List.getD, List.getElem?_eq_getElem h, Option.getD_some]
  exact List.getElem_mem _
theorem twice_two (P : List Pk) (i : Int) (hl : P.length < 4096) : ((netTwice P i).2 = 0 ∧ (netTwice P i).1.length = P.length + 1 ∧ ∀ p ∈ (netTwice P i).1, p ∈ P) ∨ ((netTwice P i).2 = 6 ∧ (netTwice P i).1 = P) := by
  unfold netTwice
  split
  · rename_i h
    rw [if_neg (by omega)]
    refine .inl ⟨rfl, by rw [List.length_append]; rfl, fun p hp => ?_⟩
    rcases List.mem_append.1 hp with hp | hp
    · exact hp
    · rw [List.mem_singleton] at hp
      subst hp
      exact getD_mem (by omega)
  · exact .inr ⟨rfl, rfl⟩
theorem take_two (P : List Pk) (C : List (Int × Int)) (i : Int) : ((netTake P C i).1.2 = 0 ∧ (netTake P C i).2.length + 1 = P.length ∧ (∀ p ∈ (netTake P C i).2, p ∈ P) ∧ ∃ p ∈ P, (netTake P C i).1.1.id = p.m.id) ∨ ((netTake P C i).1.2 ≠ 0 ∧ (netTake P C i).1.2 ≤ 17 ∧ (netTake P C i).2 = P) := by
  unfold netTake netAt
  by_cases h : 0 ≤ i ∧ i < P.length
  · rw [if_pos h]
    dsimp only
    rw [if_neg (not_not_intro rfl)]
    split
    · exact .inr ⟨by show (17 : Nat) ≠ 0; decide, by show (17 : Nat) ≤ 17; decide, rfl⟩
    · refine .inl ⟨rfl, ?_, fun p hp => List.mem_of_mem_eraseIdx hp, _, getD_mem (j := i.toNat) (by omega), rfl⟩
      show (P.eraseIdx i.toNat).length + 1 = P.length
      rw [List.length_eraseIdx, if_pos (by omega)]
      omega
  · rw [if_neg h]
    dsimp only
    rw [if_pos (by decide)]
    exact .inr ⟨by show (6 : Nat) ≠ 0; decide, by show (6 : Nat) ≤ 17; decide, rfl⟩
theorem cut_len (C : List (Int × Int)) (a b : Int) (cut : Bool) : (netCut C a b cut).1.length ≤ C.length + 1 ∧ (netCut C a b cut).2 ≤ 17 := by
  unfold netCut
  split
  · refine ⟨?_, by show (0 : Nat) ≤ 17; decide⟩
    show (cutF _ C ++ _).length ≤ _
    rw [List.length_append]
    have := cutF_len (pMin a b, pMax a b) C
    cases cut
    · simp; omega
    · simp; omega
  · exact ⟨Nat.le_succ _, by show (1 : Nat) ≤ 17; decide⟩
set_option maxRecDepth 100000 in
set_option maxHeartbeats 8000000 in
theorem counts_all (a : Option Addr) (n c : Nat) (l : List ActR) (w : World) (h : ASl w w.heap.size a n l) :
    Calls Try.prog 8 #[.slice a n c] w fun e w' => e = .returned (.bool true) ∧ Below w.heap.size w w' := by
  by_cases hbig : 60 < n
  · go_enter Try.func8, Try.ntmps8
    go_wp2_with fail
    refine (net_alive _).mono ?_
    rintro e w1 ⟨rfl, B1⟩
    go_wp2_with fail
    go_ret
    exact ⟨rfl, B1⟩
  have hn60 : n ≤ 60 := by omega
  have HA := Lib.hid h
  clear h hbig
  go_enter Try.func8, Try.ntmps8
  go_wp2_with fail
  refine (net_alive _).mono ?_
  rintro e w1 ⟨rfl, B1⟩
  have HB1 := Lib.hid B1
  clear B1
  go_wp2_with fail
  refine (new_any w1).mono ?_
  rintro e w2 ⟨rfl, rfl⟩
  have hn0 := new_net w1
  have BA := (Below.refl w1.heap.size w1).alloc (Nat.le_refl _) (.cells #[.slice none 0 0, .slice none 0 0] 99)
  have HB2 := Lib.hid (HB1.out.trans (BA.mono HB1.out.size))
  have HR2 := Lib.hid hn0
  have HLN := Lib.hid (show w.heap.size ≤ w1.heap.size from HB1.out.size)
  generalize (w1.alloc (.cells #[.slice none 0 0, .slice none 0 0] 99)) = w2 at *
  clear hn0 BA HB1
  generalize w1.heap.size = N at *
  go_wp2_with fail
  go_loopw [4, 5, 6] (fun cv sv iv wr => ∃ i : Nat, i ≤ n ∧ iv = .int .i64 i ∧ NCnt w N i cv sv wr) (fun _ _ iv _ => n - (intOf iv).toNat)
  case atStart => exact ⟨0, Nat.zero_le _, rfl, [], [], [], HR2.out, Nat.le_refl _, Nat.le_refl _, Nat.le_refl _, rfl, ⟨rfl, .inl ⟨rfl, rfl⟩⟩, fun p hp => (nomatch hp), HB2.out⟩
  case round =>
    clear HR2 HB2
    obtain ⟨i, hi, rfl, P, C, S, hR, hC, hP, hS, rfl, hro, hid, hB⟩ := hrel
    have HR := Lib.hid hR
    have HCL := Lib.hid (And.intro hC (And.intro hP hS))
    have HSR := Lib.hid hro
    have HID := Lib.hid hid
    have HB := Lib.hid hB
    obtain ⟨sa, sc, hsv, hsc⟩ := own_form hro
    subst hsv
    clear hR hC hP hS hro hid hB
    by_cases hlt : i < n
    rotate_left
    · have hlt' : decide ((i : Int) < n) = false := decide_eq_false (by omega)
      go_wp2_with fail
      go_ret
      exact ⟨rfl, HB.out⟩
    obtain ⟨x, hx⟩ : ∃ x, l.getD i aNone = x := ⟨_, rfl⟩
    have HXI := Lib.hid (show AIn w w.heap.size x from by rw [← hx]; exact HA.out.2.1 i hlt)
    have HLT := Lib.hid hlt
    obtain ⟨b, off, rfl, -, k0, k1, k2, k3, k4, k5, k6, k7, k8, k9, k10, k11, k12, k13, k14⟩ := (HA.out.below HB.out).at_ hlt hx
    have hij : (i : Int) < (n : Int) := by omega
    have BA := (Below.refl wr.heap.size wr).alloc (Nat.le_refl _) (.cells #[.int .i64 x.kd, .int .i64 x.i, .int .i64 x.k, .int .i64 x.m.fr, .int .i64 x.m.tt, .int .i64 x.m.kd, .int .i64 x.m.vol, .int .i64 x.m.life, .int .u64 x.m.id, .int .i64 x.m.cd, .bool x.m.has, .int .u64 x.m.key, .int .u32 x.m.ck, .bool x.m.g, .slice x.m.a x.m.n x.m.c] 66)
    have HBX := Lib.hid (HB.out.trans (BA.mono HB.out.size))
    have HAX := Lib.hid (Blk.made wr 66 #[.int .i64 x.kd, .int .i64 x.i, .int .i64 x.k, .int .i64 x.m.fr, .int .i64 x.m.tt, .int .i64 x.m.kd, .int .i64 x.m.vol, .int .i64 x.m.life, .int .u64 x.m.id, .int .i64 x.m.cd, .bool x.m.has, .int .u64 x.m.key, .int .u32 x.m.ck, .bool x.m.g, .slice x.m.a x.m.n x.m.c])
    have HRX := Lib.hid (HR.out.below BA)
    have HSX := Lib.hid (row_below HSR.out BA (Nat.le_refl _))
    clear hx BA HR HSR HB
    go_upto_region 12 with fail
    generalize (wr.alloc (.cells #[.int .i64 x.kd, .int .i64 x.i, .int .i64 x.k, .int .i64 x.m.fr, .int .i64 x.m.tt, .int .i64 x.m.kd, .int .i64 x.m.vol, .int .i64 x.m.life, .int .u64 x.m.id, .int .i64 x.m.cd, .bool x.m.has, .int .u64 x.m.key, .int .u32 x.m.ck, .bool x.m.g, .slice x.m.a x.m.n x.m.c] 66)) = W1 at *
    clear k0 k1 k2 k3 k4 k5 k6 k7 k8 k9 k10 k11 k12 k13 k14 hlt
    obtain ⟨k0, k1, k2, k3, k4, k5, k6, k7, k8, k9, k10, k11, k12, k13, k14⟩ := act_cells HAX.out
    by_cases hbig : 300 < x.m.n
    · have z : decide ((300 : Int) < (x.m.n : Int)) = true := decide_eq_true (by omega)
      clear hbig
      go_wp2_with fail
      go_ret
      exact ⟨rfl, HBX.out⟩
    have z : decide ((300 : Int) < (x.m.n : Int)) = false := decide_eq_false (by omega)
    have HN3 := Lib.hid (show x.m.n ≤ 300 from by omega)
    clear hbig
    by_cases e0 : x.kd = 0
    · have y0 : (x.kd == 0) = true := by rw [e0]; rfl
      have EO := Lib.hid (show Calls Try.prog 19 #[.agg #[.int .i64 x.m.fr, .int .i64 x.m.tt, .int .i64 x.m.kd, .int .i64 x.m.vol, .int .i64 x.m.life, .int .u64 x.m.id, .int .i64 x.m.cd, .bool x.m.has, .int .u64 x.m.key, .int .u32 x.m.ck, .bool x.m.g, .slice x.m.a x.m.n x.m.c]] W1 fun e w' => e = .returned (.agg #[.int .i64 x.m.fr, .int .i64 x.m.tt, .int .i64 x.m.kd, .int .i64 x.m.vol, .int .i64 x.m.life, .int .u64 x.m.id, .int .i64 x.m.cd, .bool x.m.has, .int .u64 x.m.key, .int .u32 x.m.ck, .bool x.m.g, .slice x.m.a x.m.n x.m.c]) ∧ Below W1.heap.size W1 w' from ofm_any x.m W1)
      clear e0
      go_wp2_with fail
      refine EO.out.mono ?_
      rintro e w3 ⟨rfl, B3⟩
      have HBY := Lib.hid (HBX.out.trans (B3.mono HBX.out.size))
      have HRY := Lib.hid (HRX.out.below B3)
      have HAY := Lib.hid (HAX.out.below B3 HAX.out.lt)
      have HSY := Lib.hid (row_below HSX.out B3 (Nat.le_refl _))
      have ES := Lib.hid (send_any x.m w3 HRY.out ((HXI.out.m.hb.below HBY.out).more HBY.out.size) (by have := HN3.out; omega) HXI.out.m.id1 HXI.out.m.key1 HXI.out.m.ck1)
      clear B3 EO k0 k1 k2 k3 k4 k5 k6 k7 k8 k9 k10 k11 k12 k13 k14 HBX HRX HAX HSX
      go_wp2_with fail
      refine ES.out.mono ?_
      rintro e w4 ⟨P1, cf, rfl, hd4, hs⟩
      by_cases hcf : cf = 0
      · obtain ⟨pk, rfl, hpk⟩ : ∃ pk : Pk, P1 = P ++ [pk] ∧ pk.m = x.m := by
          rcases hs with ⟨h, h2, -⟩ | ⟨-, -, h2, -⟩ | ⟨-, -, -, p, h1, h2⟩
          · exact absurd (h2.symm.trans hcf) h
          · omega
          · exact ⟨p, h1, h2⟩
        subst hcf
        have HRZ := Lib.hid (show NetR _ N N (P ++ [pk]) C from hd4.1)
        have HBZ := Lib.hid (HBY.out.trans (hd4.2.2.mono HLN.out))
        have HAZ := Lib.hid (HAY.out.nkeep hd4.2.1 (by decide) (by decide) (by decide))
        have HSZ := Lib.hid (row_nkeep HSY.out hd4.2.1 (by decide) (by decide) (by decide))
        have HPK := Lib.hid hpk
        clear hd4 hs hpk ES HBY HRY HAY HSY
        obtain ⟨k0, k1, k2, k3, k4, k5, k6, k7, k8, k9, k10, k11, k12, k13, k14⟩ := act_cells HAZ.out
        go_wp2_with fail
        refine (code_c 0 _ (by decide)).mono ?_
        rintro e w5 ⟨rfl, rfl⟩
        obtain ⟨i0, hi0, hz0, hz1, hz2⟩ := info_u64_parts
        obtain ⟨g2, cap2, W2, hrun, ho2, hg2, hgs, -⟩ := append_elem (P := Try.prog) (T := 64) Try.underlying64 hi0 hz0 hz1 hz2 rfl (by decide) HSZ.out [.int .u64 (x.m.id : Int)] rfl (by intro u hu; rw [List.mem_singleton] at hu; subst hu; rfl) (by have := HCL.out.2.2; omega) (by have := HCL.out.2.2; unfold maxLen; omega) (HRZ.out.low)
        have hsown := HSZ.out
        have HRU := Lib.hid (show NetR W2 N N (P ++ [pk]) C from by
          rcases hsown.2 with ⟨e1, _⟩ | ⟨g', cap', cur, e1, hb', hgg, _⟩
          · injection e1 with e1 _ _
            subst e1
            exact HRZ.out.below ⟨hg2.os, hg2.tape, hg2.output, hg2.size, fun k hk => hg2.block k hk (fun e => by cases e)⟩
          · cases e1
            exact NetR.othr hgg hg2 HRZ.out (by decide) (by decide) (by decide) (by decide))
        have HBU := Lib.hid (HBZ.out.trans ((own_below' hsown hg2 HRZ.out.low).mono HLN.out))
        have HSU := Lib.hid (show W2.ownsRow N 24 1 (.slice (some ⟨g2, 0, none⟩) (S.length + 1) cap2) (S ++ [x.m.id]).length ((S ++ [x.m.id]).map idv) from by
          rw [List.length_append, List.map_append]
          exact ho2)
        have hcnt : (P.length : Int) + 1 ≤ 61 := by have := HCL.out.2.1; omega
        clear hi0 hz0 hz1 hz2 hgs ho2 hg2 hsown HSZ HRZ HBZ
        go_wp2_with (at_builtin; refine list_run (by rfl) _ _ rfl rfl rfl hrun ?_; clear hrun)
        clear k0 k1 k2 k3 k4 k5 k6 k7 k8 k9 k10 k11 k12 k13 k14
        have EL := Lib.hid (show Calls Try.prog 32 #[.pointer (some ⟨N, 0, none⟩)] _ fun e w' => e = .returned (.int .i64 ((P.length : Int) + 1)) ∧ _ = w' from by
          have := len_any HRU.out
          rw [show ((((P ++ [pk])).length : Nat) : Int) = (P.length : Int) + 1 from by rw [List.length_append]; rfl] at this
          exact this)
        go_wp2_with fail
        refine EL.out.mono ?_
        rintro e wz ⟨rfl, rfl⟩
        go_wp2_with fail
        go_roundw
        case rel => exact ⟨i + 1, HLT.out, by go_num, (P ++ [pk]), C, (S ++ [x.m.id]), HRU.out, (by have := HCL.out.1; omega), (by have := HCL.out.2.1; rw [List.length_append]; show P.length + 1 ≤ _; omega), (by have := HCL.out.2.2; rw [List.length_append]; show S.length + 1 ≤ _; omega), by rw [show ((((P ++ [pk])).length : Nat) : Int) = (P.length : Int) + 1 from by rw [List.length_append]; rfl], HSU.out, (fun p hp => by rcases List.mem_append.1 hp with hp | hp; exact List.mem_append_left _ (HID.out p hp); rw [List.mem_singleton] at hp; subst hp; rw [HPK.out]; exact List.mem_append_right _ (List.mem_singleton.2 rfl)), HBU.out⟩
        case measure => have := HLT.out; simp [intOf]; omega
      · obtain ⟨rfl, hc17⟩ : P1 = P ∧ cf ≤ 17 := by
          rcases hs with ⟨-, h2, h3⟩ | ⟨-, -, h2, h3⟩ | ⟨-, -, h2, -⟩
          · exact ⟨h3, by rw [h2]; exact mchk_le _⟩
          · exact ⟨h3, by rw [h2]; decide⟩
          · exact absurd h2 hcf
        have hz : ((cf : Int) == 0) = false := by rw [beq_eq_false_iff_ne]; omega
        have HRZ := Lib.hid (show NetR _ N N P1 C from hd4.1)
        have HBZ := Lib.hid (HBY.out.trans (hd4.2.2.mono HLN.out))
        have HAZ := Lib.hid (HAY.out.nkeep hd4.2.1 (by decide) (by decide) (by decide))
        have HSZ := Lib.hid (row_nkeep HSY.out hd4.2.1 (by decide) (by decide) (by decide))
        clear hd4 hs hcf ES HBY HRY HAY HSY
        go_wp2_with fail
        refine (code_c cf _ hc17).mono ?_
        rintro e w5 ⟨rfl, rfl⟩
        clear hc17
        have EL := Lib.hid (show Calls Try.prog 32 #[.pointer (some ⟨N, 0, none⟩)] _ fun e w' => e = .returned (.int .i64 ((P1.length : Int))) ∧ _ = w' from by
          have := len_any HRZ.out
          rw [show (((P1).length : Nat) : Int) = (P1.length : Int) from rfl] at this
          exact this)
        go_wp2_with fail
        refine EL.out.mono ?_
        rintro e wz ⟨rfl, rfl⟩
        go_wp2_with fail
        go_roundw
        case rel => exact ⟨i + 1, HLT.out, by go_num, P1, C, S, HRZ.out, (by have := HCL.out.1; omega), (by have := HCL.out.2.1; omega), (by have := HCL.out.2.2; omega), by rw [show (((P1).length : Nat) : Int) = (P1.length : Int) from rfl], HSZ.out, HID.out, HBZ.out⟩
        case measure => have := HLT.out; simp [intOf]; omega
    have y0 : (x.kd == 0) = false := by rw [beq_eq_false_iff_ne]; exact e0
    by_cases e1 : x.kd = 1
    · have y1 : (x.kd == 1) = true := by rw [e1]; rfl
      obtain ⟨⟨⟨q, cf⟩, P1⟩, hq⟩ : ∃ r, netTake P C x.i = r := ⟨_, rfl⟩
      have ET := Lib.hid (take_any x.i W1 HRX.out (by have := HCL.out.1; omega))
      have htw := take_two P C x.i
      rw [hq] at ET htw
      dsimp only at ET htw
      clear hq e0 e1
      go_wp2_with fail
      refine ET.out.mono ?_
      rintro e w3 ⟨hd3, a1, c1, rfl, -, -, -⟩
      rw [show MsgR.vals { (q, cf).1 with a := a1, c := c1 } = .agg #[.int .i64 q.fr, .int .i64 q.tt, .int .i64 q.kd, .int .i64 q.vol, .int .i64 q.life, .int .u64 q.id, .int .i64 q.cd, .bool q.has, .int .u64 q.key, .int .u32 q.ck, .bool q.g, .slice a1 q.n c1] from rfl, show errc (q, cf).2 = errc cf from rfl]
      have HRY := Lib.hid (show NetR _ N N P1 C from hd3.1)
      have HBY := Lib.hid (HBX.out.trans (hd3.2.2.mono HLN.out))
      have HAY := Lib.hid (HAX.out.nkeep hd3.2.1 (by decide) (by decide) (by decide))
      have HSY := Lib.hid (row_nkeep HSX.out hd3.2.1 (by decide) (by decide) (by decide))
      have BA := (Below.refl w3.heap.size w3).alloc (Nat.le_refl _) (.cells #[.int .i64 q.fr, .int .i64 q.tt, .int .i64 q.kd, .int .i64 q.vol, .int .i64 q.life, .int .u64 q.id, .int .i64 q.cd, .bool q.has, .int .u64 q.key, .int .u32 q.ck, .bool q.g, .slice a1 q.n c1] 29)
      have HRZ := Lib.hid (HRY.out.below BA)
      have HBZ := Lib.hid (HBY.out.trans (BA.mono HBY.out.size))
      have HSZ := Lib.hid (row_below HSY.out BA (Nat.le_refl _))
      have HMZ := Lib.hid (Blk.made w3 29 #[.int .i64 q.fr, .int .i64 q.tt, .int .i64 q.kd, .int .i64 q.vol, .int .i64 q.life, .int .u64 q.id, .int .i64 q.cd, .bool q.has, .int .u64 q.key, .int .u32 q.ck, .bool q.g, .slice a1 q.n c1])
      clear hd3 BA ET HRY HBY HAY HSY HBX HRX HAX HSX k0 k1 k2 k3 k4 k5 k6 k7 k8 k9 k10 k11 k12 k13 k14
      go_upto_region 21 with fail
      generalize (w3.alloc (.cells #[.int .i64 q.fr, .int .i64 q.tt, .int .i64 q.kd, .int .i64 q.vol, .int .i64 q.life, .int .u64 q.id, .int .i64 q.cd, .bool q.has, .int .u64 q.key, .int .u32 q.ck, .bool q.g, .slice a1 q.n c1] 29)) = W4 at *
      rcases htw with ⟨rfl, hlen, hsub, pq, hpq, hidq⟩ | ⟨hne, h17, rfl⟩
      · have HQS := Lib.hid (show q.id ∈ S from by rw [hidq]; exact HID.out pq hpq)
        have HSB := Lib.hid hsub
        have HLE := Lib.hid hlen
        have hcb : (1 : Int) ≤ (P.length : Int) ∧ (P.length : Int) ≤ 60 := by have := HCL.out.2.1; omega
        obtain ⟨hcb1, hcb2⟩ := hcb
        have hs61 : (S.length : Int) ≤ 60 := by have := HCL.out.2.2; omega
        clear hlen hsub hpq hidq
        go_wp2_with fail
        refine (code_c 0 _ (by decide)).mono ?_
        rintro e w5 ⟨rfl, rfl⟩
        go_wp2_with fail
        go_loopw [10, 11] (fun hv kv ws => ∃ k : Nat, k ≤ S.length ∧ kv = .int .i64 k ∧ hv = .bool (decide (q.id ∈ S.take k)) ∧ Below W4.heap.size W4 ws) (fun _ kv _ => S.length - (intOf kv).toNat)
        case atStart => exact ⟨0, Nat.zero_le _, rfl, by simp, Below.refl _ _⟩
        case round =>
          obtain ⟨k, hk, rfl, rfl, hB4⟩ := hrel
          have HB4 := Lib.hid hB4
          clear hB4
          by_cases hks : k < S.length
          · have HKS := Lib.hid hks
            have hsr := row_below HSZ.out HB4.out (Nat.le_refl _)
            obtain ⟨sg, rfl⟩ : ∃ sg, sa = some ⟨sg, 0, none⟩ := by
              rcases hsr.2 with ⟨_, e2⟩ | ⟨g', cap', cur, e1, _⟩
              · omega
              · cases e1; exact ⟨g', rfl⟩
            obtain ⟨sv, hsv⟩ : ∃ sv, S[k]? = some sv := ⟨_, List.getElem?_eq_getElem hks⟩
            have HC := Lib.hid fun (W : World) (B : Below wr.heap.size wr W) => And.intro (show W.cell? ⟨sg, k, none⟩ = some (.int .u64 (sv : Int)) from by
              rw [(row_below hsr B (Nat.le_refl _)).cellAt k (by omega), List.getElem?_map, hsv]
              rfl) (((HMZ.out.below HB4.out HMZ.out.lt).below B (HMZ.out.below HB4.out HMZ.out.lt).lt).cell 5)
            have hks2 : (k : Int) < (S.length : Int) := by omega
            have HTK := Lib.hid (show S.take (k + 1) = S.take k ++ [sv] from by rw [List.take_add_one, hsv]; rfl)
            clear hsr hsv
            by_cases hm : q.id ∈ S.take k
            · have hd1 : decide (q.id ∈ S.take k) = true := decide_eq_true hm
              have HM := Lib.hid (show decide (q.id ∈ S.take (k + 1)) = true from by rw [HTK.out]; exact decide_eq_true (List.mem_append_left _ hm))
              rw [hd1]
              clear hm hd1 hks
              go_upto_region 27 with fail
              refine wp_region_held_drew (S := fun W => Below wr.heap.size wr W) (by kernel_rfl) ((Below.refl _ _).drew) (fun hS => ?_)
              refine wpAnyH_take (i := 0) (v := ?_) rfl (by kernel_rfl) (by kernel_rfl) (by kernel_rfl) (fun _ _ _ h => h) (Or.inl ⟨by kernel_rfl, ?_⟩) hS ?_
              rotate_left
              · intro W hW; go_simp; try with_reducible rfl
              refine wpAnyH_take (i := 1) (v := ?_) rfl (by kernel_rfl) (by kernel_rfl) (by kernel_rfl) (fun _ _ _ h => h) (Or.inl ⟨by kernel_rfl, ?_⟩) hS ?_
              rotate_left
              · intro W hW; go_simp; try with_reducible rfl
              refine wpAnyH_take (i := 2) (v := undef) rfl (by kernel_rfl) (by kernel_rfl) (by kernel_rfl) (fun _ _ _ h => h) (Or.inr ⟨by kernel_rfl, rfl⟩) hS ?_
              refine wpAnyH_take (i := 3) (v := undef) rfl (by kernel_rfl) (by kernel_rfl) (by kernel_rfl) (fun _ _ _ h => h) (Or.inr ⟨by kernel_rfl, rfl⟩) hS ?_
              refine wpAnyH_take (i := 4) (v := undef) rfl (by kernel_rfl) (by kernel_rfl) (by kernel_rfl) (fun _ _ _ h => h) (Or.inr ⟨by kernel_rfl, rfl⟩) hS ?_
              refine wpAnyH_take (i := 5) (v := undef) rfl (by kernel_rfl) (by kernel_rfl) (by kernel_rfl) (fun _ _ _ h => h) (Or.inr ⟨by kernel_rfl, rfl⟩) hS ?_
              refine wpAnyH_take (i := 6) (v := undef) rfl (by kernel_rfl) (by kernel_rfl) (by kernel_rfl) (fun _ _ _ h => h) (Or.inr ⟨by kernel_rfl, rfl⟩) hS ?_
              refine wpAnyH_take (i := 7) (v := undef) rfl (by kernel_rfl) (by kernel_rfl) (by kernel_rfl) (fun _ _ _ h => h) (Or.inr ⟨by kernel_rfl, rfl⟩) hS ?_
              refine wpAnyH_take (i := 8) (v := undef) rfl (by kernel_rfl) (by kernel_rfl) (by kernel_rfl) (fun _ _ _ h => h) (Or.inr ⟨by kernel_rfl, rfl⟩) hS ?_
              refine wpAnyH_take (i := 9) (v := ?_) rfl (by kernel_rfl) (by kernel_rfl) (by kernel_rfl) (fun _ _ _ h => h) (Or.inl ⟨by kernel_rfl, ?_⟩) hS ?_
              rotate_left
              · intro W hW; go_simp; try with_reducible rfl
              refine wpAnyH_take (i := 10) (v := ?_) rfl (by kernel_rfl) (by kernel_rfl) (by kernel_rfl) (fun _ _ _ h => h) (Or.inl ⟨by kernel_rfl, ?_⟩) hS ?_
              rotate_left
              · intro W hW; go_simp; try with_reducible rfl
              refine wpAnyH_done (by kernel_rfl) ?_ _
              go_simp
              have HF := Lib.hid (HB4.out.trans (hS.mono HB4.out.size))
              clear hS
              go_wp2_with fail
              go_roundw
              case rel => exact ⟨k + 1, HKS.out, by go_num, by rw [HM.out], HF.out⟩
              case measure => have := HKS.out; simp [intOf]; omega
            · have hd1 : decide (q.id ∈ S.take k) = false := decide_eq_false hm
              have HM := Lib.hid (show decide (q.id ∈ S.take (k + 1)) = ((sv : Int) == (q.id : Int)) from by
                rw [HTK.out]
                by_cases e : sv = q.id
                · rw [decide_eq_true (List.mem_append_right _ (List.mem_singleton.2 e.symm)), e, beq_self_eq_true]
                · rw [decide_eq_false (fun h => by rcases List.mem_append.1 h with h | h; exact hm h; exact e (List.mem_singleton.1 h).symm)]
                  exact (beq_eq_false_iff_ne.2 (by omega)).symm)
              rw [hd1]
              clear hm hd1 hks
              go_upto_region 27 with fail
              refine wp_region_held_drew (S := fun W => Below wr.heap.size wr W) (by kernel_rfl) ((Below.refl _ _).drew) (fun hS => ?_)
              refine wpAnyH_take (i := 0) (v := ?_) rfl (by kernel_rfl) (by kernel_rfl) (by kernel_rfl) (fun _ _ _ h => h) (Or.inl ⟨by kernel_rfl, ?_⟩) hS ?_
              rotate_left
              · intro W hW; go_simp; try with_reducible rfl
              refine wpAnyH_take (i := 1) (v := ?_) rfl (by kernel_rfl) (by kernel_rfl) (by kernel_rfl) (fun _ _ _ h => h) (Or.inl ⟨by kernel_rfl, ?_⟩) hS ?_
              rotate_left
              · intro W hW; go_simp; try with_reducible rfl
              refine wpAnyH_take (i := 2) (v := ?_) rfl (by kernel_rfl) (by kernel_rfl) (by kernel_rfl) (fun _ _ _ h => h) (Or.inl ⟨by kernel_rfl, ?_⟩) hS ?_
              rotate_left
              · intro W hW; go_simp; try with_reducible rfl
              refine wpAnyH_take (i := 3) (v := ?_) rfl (by kernel_rfl) (by kernel_rfl) (by kernel_rfl) (fun _ _ _ h => h) (Or.inl ⟨by kernel_rfl, ?_⟩) hS ?_
              rotate_left
              · intro W hW; go_simp; try with_reducible rfl
              refine wpAnyH_take (i := 4) (v := ?_) rfl (by kernel_rfl) (by kernel_rfl) (by kernel_rfl) (fun _ _ _ h => h) (Or.inl ⟨by kernel_rfl, ?_⟩) hS ?_
              rotate_left
              · intro W hW; go_simp; try with_reducible rfl
              refine wpAnyH_take (i := 5) (v := ?_) rfl (by kernel_rfl) (by kernel_rfl) (by kernel_rfl) (fun _ _ _ h => h) (Or.inl ⟨by kernel_rfl, ?_⟩) hS ?_
              rotate_left
              · intro W hW; obtain ⟨q0, q1⟩ := HC.out W hW; go_simp; try with_reducible rfl
              refine wpAnyH_take (i := 6) (v := ?_) rfl (by kernel_rfl) (by kernel_rfl) (by kernel_rfl) (fun _ _ _ h => h) (Or.inl ⟨by kernel_rfl, ?_⟩) hS ?_
              rotate_left
              · intro W hW; go_simp; try with_reducible rfl
              refine wpAnyH_take (i := 7) (v := ?_) rfl (by kernel_rfl) (by kernel_rfl) (by kernel_rfl) (fun _ _ _ h => h) (Or.inl ⟨by kernel_rfl, ?_⟩) hS ?_
              rotate_left
              · intro W hW; obtain ⟨q0, q1⟩ := HC.out W hW; go_simp; try with_reducible rfl
              refine wpAnyH_take (i := 8) (v := ?_) rfl (by kernel_rfl) (by kernel_rfl) (by kernel_rfl) (fun _ _ _ h => h) (Or.inl ⟨by kernel_rfl, ?_⟩) hS ?_
              rotate_left
              · intro W hW; go_simp; try with_reducible rfl
              refine wpAnyH_take (i := 9) (v := ?_) rfl (by kernel_rfl) (by kernel_rfl) (by kernel_rfl) (fun _ _ _ h => h) (Or.inl ⟨by kernel_rfl, ?_⟩) hS ?_
              rotate_left
              · intro W hW; go_simp; try with_reducible rfl
              refine wpAnyH_take (i := 10) (v := ?_) rfl (by kernel_rfl) (by kernel_rfl) (by kernel_rfl) (fun _ _ _ h => h) (Or.inl ⟨by kernel_rfl, ?_⟩) hS ?_
              rotate_left
              · intro W hW; go_simp; try with_reducible rfl
              refine wpAnyH_done (by kernel_rfl) ?_ _
              go_simp
              have HF := Lib.hid (HB4.out.trans (hS.mono HB4.out.size))
              clear hS
              go_wp2_with fail
              go_roundw
              case rel => exact ⟨k + 1, HKS.out, by go_num, by rw [HM.out], HF.out⟩
              case measure => have := HKS.out; simp [intOf]; omega
          · obtain rfl : k = S.length := by omega
            have hd1 : decide (q.id ∈ S.take S.length) = true := decide_eq_true (by rw [List.take_length]; exact HQS.out)
            rw [hd1]
            have HRU := Lib.hid (HRZ.out.below HB4.out)
            have HBU := Lib.hid (HBZ.out.trans (HB4.out.mono HBZ.out.size))
            have HSU := Lib.hid (row_below HSZ.out HB4.out (Nat.le_refl _))
            clear hks hd1 HRZ HBZ HSZ HMZ hk
            have EL := Lib.hid (show Calls Try.prog 32 #[.pointer (some ⟨N, 0, none⟩)] _ fun e w' => e = .returned (.int .i64 ((P.length : Int) - 1)) ∧ _ = w' from by
              have := len_any HRU.out
              rw [show (((P1).length : Nat) : Int) = (P.length : Int) - 1 from by have := HLE.out; omega] at this
              exact this)
            go_wp2_with fail
            refine EL.out.mono ?_
            rintro e wz ⟨rfl, rfl⟩
            go_wp2_with fail
            go_roundw
            case rel => exact ⟨i + 1, HLT.out, by go_num, P1, C, S, HRU.out, (by have := HCL.out.1; omega), (by have := HCL.out.2.1; have := HLE.out; omega), (by have := HCL.out.2.2; omega), by rw [show (((P1).length : Nat) : Int) = (P.length : Int) - 1 from by have := HLE.out; omega], HSU.out, (fun p hp => HID.out p (HSB.out p hp)), HBU.out⟩
            case measure => have := HLT.out; simp [intOf]; omega
      · have hz : ((cf : Int) == 0) = false := by rw [beq_eq_false_iff_ne]; omega
        clear hne
        go_wp2_with fail
        refine (code_c cf _ h17).mono ?_
        rintro e w5 ⟨rfl, rfl⟩
        clear h17
        have EL := Lib.hid (show Calls Try.prog 32 #[.pointer (some ⟨N, 0, none⟩)] _ fun e w' => e = .returned (.int .i64 ((P1.length : Int))) ∧ _ = w' from by
          have := len_any HRZ.out
          rw [show (((P1).length : Nat) : Int) = (P1.length : Int) from rfl] at this
          exact this)
        go_wp2_with fail
        refine EL.out.mono ?_
        rintro e wz ⟨rfl, rfl⟩
        go_wp2_with fail
        go_roundw
        case rel => exact ⟨i + 1, HLT.out, by go_num, P1, C, S, HRZ.out, (by have := HCL.out.1; omega), (by have := HCL.out.2.1; omega), (by have := HCL.out.2.2; omega), by rw [show (((P1).length : Nat) : Int) = (P1.length : Int) from rfl], HSZ.out, HID.out, HBZ.out⟩
        case measure => have := HLT.out; simp [intOf]; omega
    have y1 : (x.kd == 1) = false := by rw [beq_eq_false_iff_ne]; exact e1
    by_cases e2 : x.kd = 2
    · have y2 : (x.kd == 2) = true := by rw [e2]; rfl
      obtain ⟨⟨P1, cf⟩, hq⟩ : ∃ r, netLose P x.i = r := ⟨_, rfl⟩
      have ET := Lib.hid (lose_any x.i W1 HRX.out)
      have htw := lose_two P x.i
      rw [hq] at ET htw
      dsimp only at ET htw
      clear hq e0 e1 e2
      go_wp2_with fail
      refine ET.out.mono ?_
      rintro e w3 ⟨rfl, hd3⟩
      have HRZ := Lib.hid (show NetR _ N N P1 C from hd3.1)
      have HBZ := Lib.hid (HBX.out.trans (hd3.2.2.mono HLN.out))
      have HAZ := Lib.hid (HAX.out.nkeep hd3.2.1 (by decide) (by decide) (by decide))
      have HSZ := Lib.hid (row_nkeep HSX.out hd3.2.1 (by decide) (by decide) (by decide))
      clear hd3 ET HBX HRX HAX HSX k0 k1 k2 k3 k4 k5 k6 k7 k8 k9 k10 k11 k12 k13 k14
      rcases htw with ⟨rfl, hlen, hsub⟩ | ⟨rfl, rfl⟩
      · have HSB := Lib.hid hsub
        have HLE := Lib.hid hlen
        have hcb2 : (P.length : Int) ≤ 60 := by have := HCL.out.2.1; omega
        have hcb1 : (0 : Int) ≤ (P.length : Int) := by omega
        have hcb3 : (1 : Int) ≤ (P.length : Int) := by omega
        clear hlen hsub
        go_wp2_with fail
        refine (code_c 0 _ (by decide)).mono ?_
        rintro e w5 ⟨rfl, rfl⟩
        have EL := Lib.hid (show Calls Try.prog 32 #[.pointer (some ⟨N, 0, none⟩)] _ fun e w' => e = .returned (.int .i64 ((P.length : Int) - 1)) ∧ _ = w' from by
          have := len_any HRZ.out
          rw [show (((P1).length : Nat) : Int) = (P.length : Int) - 1 from by have := HLE.out; omega] at this
          exact this)
        go_wp2_with fail
        refine EL.out.mono ?_
        rintro e wz ⟨rfl, rfl⟩
        go_wp2_with fail
        go_roundw
        case rel => exact ⟨i + 1, HLT.out, by go_num, P1, C, S, HRZ.out, (by have := HCL.out.1; omega), (by have := HCL.out.2.1; have := HLE.out; omega), (by have := HCL.out.2.2; omega), by rw [show (((P1).length : Nat) : Int) = (P.length : Int) - 1 from by have := HLE.out; omega], HSZ.out, (fun p hp => HID.out p (HSB.out p hp)), HBZ.out⟩
        case measure => have := HLT.out; simp [intOf]; omega
      · go_wp2_with fail
        refine (code_c 6 _ (by decide)).mono ?_
        rintro e w5 ⟨rfl, rfl⟩
        have EL := Lib.hid (show Calls Try.prog 32 #[.pointer (some ⟨N, 0, none⟩)] _ fun e w' => e = .returned (.int .i64 ((P1.length : Int))) ∧ _ = w' from by
          have := len_any HRZ.out
          rw [show (((P1).length : Nat) : Int) = (P1.length : Int) from rfl] at this
          exact this)
        go_wp2_with fail
        refine EL.out.mono ?_
        rintro e wz ⟨rfl, rfl⟩
        go_wp2_with fail
        go_roundw
        case rel => exact ⟨i + 1, HLT.out, by go_num, P1, C, S, HRZ.out, (by have := HCL.out.1; omega), (by have := HCL.out.2.1; omega), (by have := HCL.out.2.2; omega), by rw [show (((P1).length : Nat) : Int) = (P1.length : Int) from rfl], HSZ.out, HID.out, HBZ.out⟩
        case measure => have := HLT.out; simp [intOf]; omega
    have y2 : (x.kd == 2) = false := by rw [beq_eq_false_iff_ne]; exact e2
    by_cases e3 : x.kd = 3
    · have y3 : (x.kd == 3) = true := by rw [e3]; rfl
      obtain ⟨⟨P1, cf⟩, hq⟩ : ∃ r, netTwice P x.i = r := ⟨_, rfl⟩
      have ET := Lib.hid (twice_any x.i W1 HRX.out)
      have htw := twice_two P x.i (by have := HCL.out.2.1; omega)
      rw [hq] at ET htw
      dsimp only at ET htw
      clear hq e0 e1 e2 e3
      go_wp2_with fail
      refine ET.out.mono ?_
      rintro e w3 ⟨rfl, hd3⟩
      have HRZ := Lib.hid (show NetR _ N N P1 C from hd3.1)
      have HBZ := Lib.hid (HBX.out.trans (hd3.2.2.mono HLN.out))
      have HAZ := Lib.hid (HAX.out.nkeep hd3.2.1 (by decide) (by decide) (by decide))
      have HSZ := Lib.hid (row_nkeep HSX.out hd3.2.1 (by decide) (by decide) (by decide))
      clear hd3 ET HBX HRX HAX HSX k0 k1 k2 k3 k4 k5 k6 k7 k8 k9 k10 k11 k12 k13 k14
      rcases htw with ⟨rfl, hlen, hsub⟩ | ⟨rfl, rfl⟩
      · have HSB := Lib.hid hsub
        have HLE := Lib.hid hlen
        have hcb2 : (P.length : Int) ≤ 60 := by have := HCL.out.2.1; omega
        have hcb1 : (0 : Int) ≤ (P.length : Int) := by omega
        have hcb3 := hcb2
        clear hlen hsub
        go_wp2_with fail
        refine (code_c 0 _ (by decide)).mono ?_
        rintro e w5 ⟨rfl, rfl⟩
        have EL := Lib.hid (show Calls Try.prog 32 #[.pointer (some ⟨N, 0, none⟩)] _ fun e w' => e = .returned (.int .i64 ((P.length : Int) + 1)) ∧ _ = w' from by
          have := len_any HRZ.out
          rw [show (((P1).length : Nat) : Int) = (P.length : Int) + 1 from by have := HLE.out; omega] at this
          exact this)
        go_wp2_with fail
        refine EL.out.mono ?_
        rintro e wz ⟨rfl, rfl⟩
        go_wp2_with fail
        go_roundw
        case rel => exact ⟨i + 1, HLT.out, by go_num, P1, C, S, HRZ.out, (by have := HCL.out.1; omega), (by have := HCL.out.2.1; have := HLE.out; omega), (by have := HCL.out.2.2; omega), by rw [show (((P1).length : Nat) : Int) = (P.length : Int) + 1 from by have := HLE.out; omega], HSZ.out, (fun p hp => HID.out p (HSB.out p hp)), HBZ.out⟩
        case measure => have := HLT.out; simp [intOf]; omega
      · go_wp2_with fail
        refine (code_c 6 _ (by decide)).mono ?_
        rintro e w5 ⟨rfl, rfl⟩
        have EL := Lib.hid (show Calls Try.prog 32 #[.pointer (some ⟨N, 0, none⟩)] _ fun e w' => e = .returned (.int .i64 ((P1.length : Int))) ∧ _ = w' from by
          have := len_any HRZ.out
          rw [show (((P1).length : Nat) : Int) = (P1.length : Int) from rfl] at this
          exact this)
        go_wp2_with fail
        refine EL.out.mono ?_
        rintro e wz ⟨rfl, rfl⟩
        go_wp2_with fail
        go_roundw
        case rel => exact ⟨i + 1, HLT.out, by go_num, P1, C, S, HRZ.out, (by have := HCL.out.1; omega), (by have := HCL.out.2.1; omega), (by have := HCL.out.2.2; omega), by rw [show (((P1).length : Nat) : Int) = (P1.length : Int) from rfl], HSZ.out, HID.out, HBZ.out⟩
        case measure => have := HLT.out; simp [intOf]; omega
    have y3 : (x.kd == 3) = false := by rw [beq_eq_false_iff_ne]; exact e3
    by_cases e4 : x.kd = 4
    · have y4 : (x.kd == 4) = true := by rw [e4]; rfl
      have ET := Lib.hid (cut_any x.i x.k true W1 HRX.out (by have := HCL.out.1; omega))
      have hcl := cut_len C x.i x.k true
      obtain ⟨⟨C1, cf⟩, hq⟩ : ∃ r, netCut C x.i x.k true = r := ⟨_, rfl⟩
      rw [hq] at ET hcl
      dsimp only at ET hcl
      have HC1 := Lib.hid hcl.1
      clear hq hcl e0 e1 e2 e3 e4
      go_wp2_with fail
      refine ET.out.mono ?_
      rintro e w3 ⟨rfl, hd3⟩
      have HRZ := Lib.hid (show NetR _ N N P C1 from hd3.1)
      have HBZ := Lib.hid (HBX.out.trans (hd3.2.2.mono HLN.out))
      have HAZ := Lib.hid (HAX.out.nkeep hd3.2.1 (by decide) (by decide) (by decide))
      have HSZ := Lib.hid (row_nkeep HSX.out hd3.2.1 (by decide) (by decide) (by decide))
      clear hd3 ET HBX HRX HAX HSX k0 k1 k2 k3 k4 k5 k6 k7 k8 k9 k10 k11 k12 k13 k14
      have EL := Lib.hid (show Calls Try.prog 32 #[.pointer (some ⟨N, 0, none⟩)] _ fun e w' => e = .returned (.int .i64 ((P.length : Int))) ∧ _ = w' from by
        have := len_any HRZ.out
        rw [show (((P).length : Nat) : Int) = (P.length : Int) from rfl] at this
        exact this)
      go_wp2_with fail
      refine EL.out.mono ?_
      rintro e wz ⟨rfl, rfl⟩
      go_wp2_with fail
      go_roundw
      case rel => exact ⟨i + 1, HLT.out, by go_num, P, C1, S, HRZ.out, (by have := HCL.out.1; have := HC1.out; omega), (by have := HCL.out.2.1; omega), (by have := HCL.out.2.2; omega), by rw [show (((P).length : Nat) : Int) = (P.length : Int) from rfl], HSZ.out, HID.out, HBZ.out⟩
      case measure => have := HLT.out; simp [intOf]; omega
    have y4 : (x.kd == 4) = false := by rw [beq_eq_false_iff_ne]; exact e4
    clear e0 e1 e2 e3 e4
    have EL := Lib.hid (show Calls Try.prog 32 #[.pointer (some ⟨N, 0, none⟩)] _ fun e w' => e = .returned (.int .i64 ((P.length : Int))) ∧ _ = w' from by
      have := len_any HRX.out
      rw [show (((P).length : Nat) : Int) = (P.length : Int) from rfl] at this
      exact this)
    go_wp2_with fail
    refine EL.out.mono ?_
    rintro e wz ⟨rfl, rfl⟩
    go_wp2_with fail
    go_roundw
    case rel => exact ⟨i + 1, HLT.out, by go_num, P, C, S, HRX.out, (by have := HCL.out.1; omega), (by have := HCL.out.2.1; omega), (by have := HCL.out.2.2; omega), by rw [show (((P).length : Nat) : Int) = (P.length : Int) from rfl], HSX.out, HID.out, HBX.out⟩
    case measure => have := HLT.out; simp [intOf]; omega
end Go.Proofs.Ytpkfjnhjcdcoaaa
