/-
  The walk of corncriblaw08.IndexPlays.
-/
import Derived.Test.YtmmmakfmpopniaaIdxRefPut
import Derived.Test.YtmmmakfmpopniaaIdxFrom
namespace Go.Proofs.Ytmmmakfmpopniaa
open Go.RowKit
set_option linter.unusedVariables false

theorem FindP.no {w : World} {e : Ending} {w' : World} (h : FindP w none e w') : e = .returned (.tuple #[.agg #[.int .u64 0, .int .i64 0, .int .i64 0, .int .u32 0, .bool false], errc 6]) ∧ Below w.heap.size w w' := by
  obtain ⟨p, cd, rfl, hp, hb⟩ := h
  rcases hp with ⟨e, _⟩ | ⟨_, rfl, rfl⟩
  · cases e
  · exact ⟨rfl, hb⟩
theorem own_tw {w w' : World} {base B n size : Nat} {v : Value} {e : TypeId} {xs : List Value} {r : Option Nat} (h : w.ownsRow base e size v n xs) (ht : Tw w w' B r) (h1 : v.ownBlock ≠ some B) (h2 : ∀ k, v.ownBlock = some k → r = some k → False) : w'.ownsRow base e size v n xs := by
  refine ⟨h.1, ?_⟩
  rcases h.2 with e | ⟨g, cap, cur, e1, hb, hg, rest⟩
  · exact .inl e
  · refine .inr ⟨g, cap, cur, e1, hb, ?_, rest⟩
    rw [ht.block g (Array.getElem?_eq_some_iff.1 hg).1 (fun e => h1 (by rw [e1, ← e]; rfl)) (fun e => h2 g (by rw [e1]; rfl) e.symm)]
    exact hg
theorem psl_none (w : World) (B : Nat) (a : Option Addr) : PSl w B a 0 [] := ⟨rfl, fun p hp => absurd hp (by simp), fun h => absurd h (by omega)⟩
theorem FindP.yes {w : World} {z : PosR} {e : Ending} {w' : World} (h : FindP w (some z) e w') : e = .returned (.tuple #[.agg #[.int .u64 z.key, .int .i64 z.off, .int .i64 z.len, .int .u32 z.ck, .bool z.gone], errc 0]) ∧ Below w.heap.size w w' := by
  obtain ⟨p, cd, rfl, hp, hb⟩ := h
  rcases hp with ⟨e, rfl⟩ | ⟨e, _⟩
  · injection e with e; subst e; exact ⟨rfl, hb⟩
  · cases e
theorem rpos_same (w : World) (p : PosR) : (binOp .neq 40 (.agg #[.int .u64 p.key, .int .i64 p.off, .int .i64 p.len, .int .u32 p.ck, .bool p.gone]) (.agg #[.int .u64 p.key, .int .i64 p.off, .int .i64 p.len, .int .u32 p.ck, .bool p.gone])).run Try.prog w = .ok (.bool false) w := by
  rw [pos_neq, decide_eq_true rfl]; rfl
/-- From, any number. -/
theorem from_all {w : World} {base B : Nat} {v : Value} {L : List PosR} (h : IdR w base B v L) (k : Nat) (m : Int) (hm2 : m ≤ 9223372036854775807) :
    Calls Try.prog 19 #[.pointer (some ⟨B, 0, none⟩), .int .u64 k, .int .i64 m] w fun e w' => ∃ v', e = .returned v' ∧ w'.ownsRow w.heap.size 32 5 v' (frm k m L).length (flatP (frm k m L)) ∧ Below w.heap.size w w' := by
  by_cases hm : m < 1
  · refine (from_low (.pointer (some ⟨B, 0, none⟩)) k m w hm ⟨_, rfl⟩).mono ?_
    rintro e w' ⟨rfl, rfl⟩
    have e : frm k m L = [] := by unfold frm; rw [show m.toNat = 0 from by omega, List.take_zero]
    rw [e]
    exact ⟨_, rfl, World.ownsRow_nil _ _ _ _, Below.refl _ _⟩
  · obtain ⟨mn, rfl⟩ : ∃ mn : Nat, m = mn := ⟨m.toNat, by omega⟩
    exact from_any h k mn (by omega) (by omega)
/-- What was found so far. -/
def frI (r m i : Nat) (L : List PosR) : List PosR := ((L.take i).drop r).take m
theorem frI_len (r m i : Nat) (L : List PosR) (h : i ≤ L.length) : (frI r m i L).length = min m (i - r) := by
  unfold frI; rw [List.length_take, List.length_drop, List.length_take]; omega
theorem frI_same {r m i : Nat} {L : List PosR} (h : i < L.length) (hc : i < r ∨ m ≤ i - r) : frI r m (i + 1) L = frI r m i L := by
  unfold frI
  rw [List.take_succ_eq_append_getElem h]
  rcases hc with hc | hc
  · rw [List.drop_of_length_le (by rw [List.length_append, List.length_take]; simp; omega), List.drop_of_length_le (by rw [List.length_take]; omega)]
  · by_cases hr : i < r
    · rw [List.drop_of_length_le (by rw [List.length_append, List.length_take]; simp; omega), List.drop_of_length_le (by rw [List.length_take]; omega)]
    · rw [List.drop_append_of_le_length (by rw [List.length_take]; omega), List.take_append_of_le_length (by rw [List.length_drop, List.length_take]; omega)]
theorem frI_more {r m i : Nat} {L : List PosR} (h : i < L.length) (hr : r ≤ i) (hm : i - r < m) : frI r m (i + 1) L = frI r m i L ++ [L.getD i dP] := by
  have e : L.getD i dP = L[i] := by simp [List.getD, h]
  unfold frI
  rw [List.take_succ_eq_append_getElem h, List.drop_append_of_le_length (by rw [List.length_take]; omega), e]
  rw [List.take_of_length_le (l := List.drop r (List.take i L) ++ [L[i]]) (by rw [List.length_append, List.length_drop, List.length_take]; simp; omega), List.take_of_length_le (l := List.drop r (List.take i L)) (by rw [List.length_drop, List.length_take]; omega)]
theorem frI_all (k : Nat) (m : Int) (L : List PosR) : frI (lo PosR.key k L) m.toNat L.length L = frm k m L := by
  unfold frI frm; rw [List.take_length]

set_option maxRecDepth 100000 in
set_option maxHeartbeats 16000000 in
theorem plays8_walk (a : Option Addr) (n c : Nat) (A : List PosR) (key : Nat) (most : Int) (w : World) (ha : PSl w w.heap.size a n A) (hn : n ≤ 9223372036854775807) (hm1 : -9223372036854775808 ≤ most) (hm2 : most ≤ 9223372036854775807) :
    Calls Try.prog 4 #[.slice a n c, .int .u64 key, .int .i64 most] w fun e w' => e = .returned (.bool true) ∧ Below w.heap.size w w' := by
  have HA := Lib.hid fun (W : World) (B0 : Below w.heap.size w W) => (show PSl W W.heap.size a n A from (ha.below B0).more B0.size)
  have hla := ha.1
  have HIN := Lib.hid ha.2.1
  clear ha
  by_cases hbig : 60 < n
  · have b0 : decide (60 < (n : Int)) = true := decide_eq_true (by omega)
    go_enter Try.func4, Try.ntmps4
    go_wp2_with fail
    refine (idx_alive _).mono ?_
    rintro e w1 ⟨rfl, B1⟩
    have HB1 := Lib.hid B1
    clear B1
    go_wp2_with fail
    go_ret
    exact ⟨rfl, HB1.out⟩
  have b0 : decide (60 < (n : Int)) = false := decide_eq_false (by omega)
  have hn60 : n ≤ 60 := by omega
  clear hbig hn
  have HN := Lib.hid hn60
  have HL := Lib.hid hla
  have HMM := Lib.hid (And.intro hm1 hm2)
  have hnz : (n : Int) ≤ 60 := by omega
  clear hla hn60 hm1 hm2
  go_enter Try.func4, Try.ntmps4
  go_wp2_with fail
  refine (idx_alive _).mono ?_
  rintro e w1 ⟨rfl, B1⟩
  have HB1 := Lib.hid B1
  have E2 := Lib.hid (inew_any none 0 0 [] w1 (psl_zero _ _ _) (by omega))
  clear B1
  go_wp2_with fail
  refine E2.out.mono ?_
  rintro e w2 ⟨Bx, vx, rfl, hx, B2⟩
  have HX2 := Lib.hid (show IdR w2 w1.heap.size Bx vx (insAll PosR.key [] (A.take 0)) from hx)
  have HB2 := Lib.hid B2
  clear hx B2 E2
  go_wp2_with fail
  go_loopw [8, 9] (fun mv iv wr => ∃ i : Nat, i ≤ n ∧ iv = .int .i64 i ∧ ∃ v, IdR wr w1.heap.size Bx v (insAll PosR.key [] (A.take i)) ∧ wr.ownsRow w1.heap.size 40 5 mv (insAll PosR.key [] (A.take i)).length (flatP (insAll PosR.key [] (A.take i))) ∧ Below w1.heap.size w1 wr) (fun _ iv _ => n - (intOf iv).toNat)
  case atStart => exact ⟨0, by omega, rfl, vx, HX2.out, World.ownsRow_nil _ _ _ _, HB2.out⟩
  case round =>
    obtain ⟨i, hi, rfl, v, hX, hM, hB⟩ := hrel
    obtain ⟨a8, c8, rfl, -⟩ := own_form_any hM
    have HX := Lib.hid hX
    have HM := Lib.hid hM
    have HB := Lib.hid hB
    have HBB := Lib.hid (HB1.out.trans (hB.mono HB1.out.size))
    clear hX hM hB HX2 HB2 b0
    by_cases hin : i < n
    · have hiz : (i : Int) < (n : Int) := by omega
      obtain ⟨b, off, ha, -, -⟩ := (HA.out _ HBB.out).2.2 (by omega)
      subst ha
      obtain ⟨q0, q1, q2, q3, q4⟩ := psl_at (HA.out _ HBB.out) hin
      have HC := Lib.hid fun (W : World) (B0 : Below w.heap.size w W) => psl_at (HA.out W B0) hin
      have HT := Lib.hid (insAll_take (ps := A) (i := i) (by rw [HL.out]; exact hin))
      have HQ := Lib.hid (getD_in (ps := A) (i := i) (by rw [HL.out]; exact hin) HIN.out)
      have HLE := Lib.hid (insAll_len (ps := A) (i := i) HL.out (by omega))
      have HSR := Lib.hid (show Srt PosR.key (insAll PosR.key [] (A.take i)) from srt_insAll _ List.Pairwise.nil)
      generalize A.getD i dP = q at *
      obtain ⟨M2, hM2⟩ : ∃ M2, insAll PosR.key [] (A.take (i + 1)) = M2 := ⟨_, rfl⟩
      have HM2 := Lib.hid hM2
      rw [hM2] at HT
      clear hM2
      generalize insAll PosR.key [] (A.take i) = M at *
      have EP := Lib.hid (iput_any HX.out q HQ.out (by have := HLE.out; have := HN.out; omega))
      rw [← HT.out] at EP
      go_wp2_with fail
      refine EP.out.mono ?_
      rintro e w5 ⟨v5, rfl, hX5, ht5, -⟩
      have hM5 := own_tw HM.out ht5 (by
        intro e
        obtain ⟨cs, hk⟩ := own_blk HM.out e
        exact absurd (blk_types hk HX.out.k) (by decide)) (by
        intro k hk hr
        obtain ⟨cs, h1⟩ := own_blk HM.out hk
        obtain ⟨cs', h2⟩ := own_blk HX.out.row hr
        exact absurd (blk_types h1 h2) (by decide))
      have HB5 := Lib.hid (HB.out.trans (Tw.base HX.out ht5))
      have HBB5 := Lib.hid (HB1.out.trans (HB5.out.mono HB1.out.size))
      have HX5 := Lib.hid hX5
      have ER := Lib.hid (rput8_any a8 M.length c8 M q w5 (psl_own_same hM5 HX.out.inn) HSR.out (by have := HLE.out; have := HN.out; omega))
      rw [← HT.out] at ER
      clear hX5 ht5 hM5 EP HX HM HB HBB q0 q1 q2 q3 q4
      obtain ⟨q0, q1, q2, q3, q4⟩ := HC.out _ HBB5.out
      go_wp2_with fail
      refine ER.out.mono ?_
      rintro e w6 ⟨v6, rfl, hM6, B6⟩
      obtain ⟨a6, c6, rfl, -⟩ := own_form_any hM6
      have HB6 := Lib.hid (HB5.out.trans (B6.mono HB5.out.size))
      have HX6 := Lib.hid (HX5.out.on B6)
      have HM6 := Lib.hid (own_more_any hM6 HB5.out.size)
      clear hM6 B6 ER HX5 HB5 HBB5 q0 q1 q2 q3 q4
      go_wp2_with fail
      refine (code_c 0 _ (by decide)).mono ?_
      rintro e w7 ⟨rfl, rfl⟩
      have EA := Lib.hid (all_any HX6.out)
      go_wp2_with fail
      refine EA.out.mono ?_
      rintro e w8 ⟨v8, rfl, ho8, B8⟩
      obtain ⟨aa, cc, rfl, -⟩ := own_form_any ho8
      have HB8 := Lib.hid (HB6.out.trans (B8.mono HB6.out.size))
      have HX8 := Lib.hid (HX6.out.on B8)
      have HM8 := Lib.hid (own_belowI HM6.out B8 (Nat.le_refl _))
      have ET := Lib.hid (to_any5 aa M2.length cc M2 w8 (psl_own_same ho8 HX6.out.inn) (by have := HX6.out.len; omega))
      clear ho8 B8 EA HX6 HM6 HB6
      go_wp2_with fail
      refine ET.out.mono ?_
      rintro e w9 ⟨v9, rfl, ho9, B9⟩
      obtain ⟨ab, cb, rfl, -⟩ := own_form_any ho9
      have HB9 := Lib.hid (HB8.out.trans (B9.mono HB8.out.size))
      have HX9 := Lib.hid (HX8.out.on B9)
      have HM9 := Lib.hid (own_belowI HM8.out B9 (Nat.le_refl _))
      have ES := Lib.hid (rsame_any ab a6 M2.length cb M2.length c6 M2 M2 w9 (psl_own_same ho9 HX8.out.inn) (psl_own_same HM9.out HX8.out.inn) (by have := HX8.out.len; omega))
      rw [decide_eq_true rfl] at ES
      clear ho9 B9 ET HX8 HM8 HB8
      go_wp2_with fail
      refine ES.out.mono ?_
      rintro e w10 ⟨rfl, qd, rfl⟩
      have hd : Below w9.heap.size w9 (w9.drewN qd) := below_drewN (Below.refl _ _) qd
      have HB10 := Lib.hid (HB9.out.trans (hd.mono HB9.out.size))
      have HX10 := Lib.hid (HX9.out.on hd)
      have HM10 := Lib.hid (own_belowI HM9.out hd (Nat.le_refl _))
      clear hd ES HX9 HM9 HB9
      generalize w9.drewN qd = w10 at *
      go_wp2_with fail
      go_roundw
      case rel => exact ⟨i + 1, by omega, by go_num, by rw [HM2.out]; exact ⟨_, HX10.out, HM10.out, HB10.out⟩⟩
      case measure => simp [intOf]; omega
    · obtain rfl : i = n := by omega
      have hiz : ¬ ((i : Int) < (i : Int)) := by omega
      have HTA := Lib.hid (show A.take i = A from List.take_of_length_le (by rw [HL.out]; exact Nat.le_refl _))
      rw [HTA.out] at HX HM ⊢
      clear HTA
      have HSR := Lib.hid (show Srt PosR.key (insAll PosR.key [] A) from srt_insAll _ List.Pairwise.nil)
      have HLX := Lib.hid (show (insAll PosR.key [] A).length ≤ 60 from by have := insAll_length_le (key := PosR.key) A []; have := HN.out; have := HL.out; simp only [List.length_nil] at *; omega)
      have EN := Lib.hid fun (W : World) (x : Option Addr) (cx : Nat) (h : PSl W W.heap.size x i A) => inew_any x i cx A W h (by have := HN.out; omega)
      generalize insAll PosR.key [] A = L at *
      have EF := Lib.hid (find_any HX.out key)
      go_wp2_with fail
      refine EF.out.mono ?_
      rintro e w3 ⟨p, cd, rfl, hp, B3⟩
      have HP := Lib.hid hp
      have HB3 := Lib.hid (HB.out.trans (B3.mono HB.out.size))
      have HX3 := Lib.hid (HX.out.on B3)
      have HM3 := Lib.hid (own_belowI HM.out B3 (Nat.le_refl _))
      clear hp B3 EF HX HM HB HBB
      go_upto_region 15 with fail
      obtain ⟨w4, hw4, hP4, hB4⟩ : ∃ X, w3.alloc (.cells #[.int .u64 p.key, .int .i64 p.off, .int .i64 p.len, .int .u32 p.ck, .bool p.gone] 32) = X ∧ Blk X w3.heap.size 32 #[.int .u64 p.key, .int .i64 p.off, .int .i64 p.len, .int .u32 p.ck, .bool p.gone] ∧ Below w3.heap.size w3 X := ⟨_, rfl, Blk.made _ _ _, (Below.refl _ _).alloc (Nat.le_refl _) _⟩
      have HB4 := Lib.hid (HB3.out.trans (hB4.mono HB3.out.size))
      have HX4 := Lib.hid (HX3.out.on hB4)
      have HM4 := Lib.hid (own_belowI HM3.out hB4 (Nat.le_refl _))
      have HP4 := Lib.hid hP4
      rw [hw4]
      clear hw4 hP4 hB4 HX3 HM3 HB3
      generalize w3.heap.size = P at *
      have ER := Lib.hid (rfind8_any a8 L.length c8 L key w4 (psl_own_same HM4.out HX4.out.inn) HSR.out (by have := HLX.out; omega))
      obtain ⟨f, hf⟩ : ∃ f, fndI key L = f := ⟨_, rfl⟩
      rw [hf] at ER
      have HF := Lib.hid hf
      clear hf
      go_wp2_with fail
      refine ER.out.mono ?_
      rintro e w5 ⟨rfl, rfl⟩
      clear ER
      go_upto_region 16 with fail
      go_cut [89] (fun v wx => v = .bool false ∧ Below w5.heap.size w5 wx)
      case first =>
        cases ht : thr key L with
        | false =>
          have hf1 : f = -1 := by rw [← HF.out]; unfold fndI; rw [ht]; rfl
          obtain ⟨-, rfl, rfl⟩ : fnd key L = none ∧ p = dP ∧ cd = 6 := by
            rcases HP.out with ⟨e, _⟩ | h
            · unfold fnd at e; rw [ht] at e; cases e
            · exact h
          subst hf1
          clear ht
          refine wp_region_held_drew (S := fun W => Below w5.heap.size w5 W) (by kernel_rfl) ((Below.refl _ _).drew) (fun hS => ?_)
          refine wpAnyH_take (i := 0) (v := ?_) rfl (by kernel_rfl) (by kernel_rfl) (by kernel_rfl) (fun _ _ _ h => h) (Or.inl ⟨by kernel_rfl, ?_⟩) hS ?_
          rotate_left
          · intro W hW; go_simp; try with_reducible rfl
          refine wpAnyH_take (i := 1) (v := ?_) rfl (by kernel_rfl) (by kernel_rfl) (by kernel_rfl) (fun _ _ _ h => h) (Or.inl ⟨by kernel_rfl, ?_⟩) hS ?_
          rotate_left
          · intro W hW; go_simp; try with_reducible rfl
          refine wpAnyH_take (i := 2) (v := ?_) rfl (by kernel_rfl) (by kernel_rfl) (by kernel_rfl) (fun _ _ _ h => h) (Or.inl ⟨by kernel_rfl, ?_⟩) hS ?_
          rotate_left
          · intro W hW; go_simp; try with_reducible rfl
          refine wpAnyH_take (i := 3) (v := ?_) rfl (by kernel_rfl) (by kernel_rfl) (by kernel_rfl) (fun _ _ _ h => h) (Or.inl ⟨by kernel_rfl, ?_⟩) hS ?_
          rotate_left
          · intro W hW; go_simp; try with_reducible rfl
          refine wpAnyH_ready (rs := [4]) (by kernel_rfl) (by simp) ?_
          go_simp
          refine AllReadyH.cons (i := 4) rfl ?_ AllReadyH.nil
          intro K hK
          go_simp
          refine (code_c 6 _ (by decide)).mono ?_
          rintro e w15 ⟨rfl, rfl⟩
          have hT := hS
          go_simp
          refine hK.out _ _ ?_ (fun hN => ?_)
          · first | exact hT | exact hS | exact hS.alloc hS.size _ | exact hS.drew
          clear hK K
          try clear hT
          clear hS
          have hS := hN
          clear hN
          refine wpAnyH_take (i := 5) (v := ?_) rfl (by kernel_rfl) (by kernel_rfl) (by kernel_rfl) (fun _ _ _ h => h) (Or.inl ⟨by kernel_rfl, ?_⟩) hS ?_
          rotate_left
          · intro W hW; go_simp; try with_reducible rfl
          refine wpAnyH_take (i := 6) (v := ?_) rfl (by kernel_rfl) (by kernel_rfl) (by kernel_rfl) (fun _ _ _ h => h) (Or.inl ⟨by kernel_rfl, ?_⟩) hS ?_
          rotate_left
          · intro W hW; go_simp; try with_reducible rfl
          refine wpAnyH_take (i := 7) (v := ?_) rfl (by kernel_rfl) (by kernel_rfl) (by kernel_rfl) (fun _ _ _ h => h) (Or.inl ⟨by kernel_rfl, ?_⟩) hS ?_
          rotate_left
          · intro W hW; go_simp; try with_reducible rfl
          refine wpAnyH_take (i := 8) (v := ?_) rfl (by kernel_rfl) (by kernel_rfl) (by kernel_rfl) (fun _ _ _ h => h) (Or.inl ⟨by kernel_rfl, ?_⟩) hS ?_
          rotate_left
          · intro W hW; go_simp; try with_reducible rfl
          refine wpAnyH_take (i := 9) (v := ?_) rfl (by kernel_rfl) (by kernel_rfl) (by kernel_rfl) (fun _ _ _ h => h) (Or.inl ⟨by kernel_rfl, ?_⟩) hS ?_
          rotate_left
          · intro W hW; go_simp; try with_reducible rfl
          refine wpAnyH_take (i := 10) (v := ?_) rfl (by kernel_rfl) (by kernel_rfl) (by kernel_rfl) (fun _ _ _ h => h) (Or.inl ⟨by kernel_rfl, ?_⟩) hS ?_
          rotate_left
          · intro W hW; go_simp; try with_reducible rfl
          refine wpAnyH_take (i := 11) (v := undef) rfl (by kernel_rfl) (by kernel_rfl) (by kernel_rfl) (fun _ _ _ h => h) (Or.inr ⟨by kernel_rfl, rfl⟩) hS ?_
          refine wpAnyH_take (i := 12) (v := undef) rfl (by kernel_rfl) (by kernel_rfl) (by kernel_rfl) (fun _ _ _ h => h) (Or.inr ⟨by kernel_rfl, rfl⟩) hS ?_
          refine wpAnyH_take (i := 13) (v := undef) rfl (by kernel_rfl) (by kernel_rfl) (by kernel_rfl) (fun _ _ _ h => h) (Or.inr ⟨by kernel_rfl, rfl⟩) hS ?_
          refine wpAnyH_take (i := 14) (v := undef) rfl (by kernel_rfl) (by kernel_rfl) (by kernel_rfl) (fun _ _ _ h => h) (Or.inr ⟨by kernel_rfl, rfl⟩) hS ?_
          refine wpAnyH_take (i := 15) (v := undef) rfl (by kernel_rfl) (by kernel_rfl) (by kernel_rfl) (fun _ _ _ h => h) (Or.inr ⟨by kernel_rfl, rfl⟩) hS ?_
          refine wpAnyH_take (i := 16) (v := undef) rfl (by kernel_rfl) (by kernel_rfl) (by kernel_rfl) (fun _ _ _ h => h) (Or.inr ⟨by kernel_rfl, rfl⟩) hS ?_
          refine wpAnyH_take (i := 17) (v := undef) rfl (by kernel_rfl) (by kernel_rfl) (by kernel_rfl) (fun _ _ _ h => h) (Or.inr ⟨by kernel_rfl, rfl⟩) hS ?_
          refine wpAnyH_take (i := 18) (v := undef) rfl (by kernel_rfl) (by kernel_rfl) (by kernel_rfl) (fun _ _ _ h => h) (Or.inr ⟨by kernel_rfl, rfl⟩) hS ?_
          refine wpAnyH_take (i := 19) (v := undef) rfl (by kernel_rfl) (by kernel_rfl) (by kernel_rfl) (fun _ _ _ h => h) (Or.inr ⟨by kernel_rfl, rfl⟩) hS ?_
          refine wpAnyH_take (i := 20) (v := undef) rfl (by kernel_rfl) (by kernel_rfl) (by kernel_rfl) (fun _ _ _ h => h) (Or.inr ⟨by kernel_rfl, rfl⟩) hS ?_
          refine wpAnyH_take (i := 21) (v := undef) rfl (by kernel_rfl) (by kernel_rfl) (by kernel_rfl) (fun _ _ _ h => h) (Or.inr ⟨by kernel_rfl, rfl⟩) hS ?_
          refine wpAnyH_take (i := 22) (v := ?_) rfl (by kernel_rfl) (by kernel_rfl) (by kernel_rfl) (fun _ _ _ h => h) (Or.inl ⟨by kernel_rfl, ?_⟩) hS ?_
          rotate_left
          · intro W hW; go_simp; try with_reducible rfl
          refine wpAnyH_take (i := 23) (v := ?_) rfl (by kernel_rfl) (by kernel_rfl) (by kernel_rfl) (fun _ _ _ h => h) (Or.inl ⟨by kernel_rfl, ?_⟩) hS ?_
          rotate_left
          · intro W hW; go_simp; try with_reducible rfl
          refine wpAnyH_done (by kernel_rfl) ?_ _
          go_simp
          have HG := Lib.hid hS
          clear hS
          go_wp2_with fail
          go_meet
          exact ⟨rfl, HG.out⟩
        | true =>
          obtain ⟨k1, k2⟩ := thr_yes ht
          obtain ⟨r, hr⟩ : ∃ r, lo PosR.key key L = r := ⟨_, rfl⟩
          rw [hr] at k1 k2
          have hf1 : f = (r : Int) := by rw [← HF.out]; unfold fndI; rw [if_pos ht, hr]
          obtain ⟨hz, rfl⟩ : p = L.getD r dP ∧ cd = 0 := by
            rcases HP.out with ⟨e, h⟩ | ⟨e, _⟩
            · unfold fnd at e; rw [if_pos ht, hr] at e; injection e with e; exact ⟨e.symm, h⟩
            · unfold fnd at e; rw [if_pos ht] at e; cases e
          subst hf1
          obtain ⟨g, rfl, -⟩ := own_some HM4.out (by omega)
          have HC := Lib.hid fun (W : World) (B0 : Below w5.heap.size w5 W) => own_cells (own_belowI HM4.out B0 (Nat.le_refl _)) r k1 rfl
          rw [← hz] at HC
          have hsame := fun W => rpos_same W p
          have hrz : (r : Int) < (L.length : Int) := by omega
          have hr0 : ¬ ((r : Int) < 0) := by omega
          have hb1 : decide ((r : Int) < 0) = false := decide_eq_false hr0
          have hb2 : decide ((0 : Int) ≤ (r : Int)) = true := decide_eq_true (by omega)
          clear ht hz k1 k2 hr
          refine wp_region_held_drew (S := fun W => Below w5.heap.size w5 W) (by kernel_rfl) ((Below.refl _ _).drew) (fun hS => ?_)
          refine wpAnyH_take (i := 0) (v := ?_) rfl (by kernel_rfl) (by kernel_rfl) (by kernel_rfl) (fun _ _ _ h => h) (Or.inl ⟨by kernel_rfl, ?_⟩) hS ?_
          rotate_left
          · intro W hW; go_simp; try with_reducible rfl
          refine wpAnyH_take (i := 1) (v := ?_) rfl (by kernel_rfl) (by kernel_rfl) (by kernel_rfl) (fun _ _ _ h => h) (Or.inl ⟨by kernel_rfl, ?_⟩) hS ?_
          rotate_left
          · intro W hW; go_simp; try with_reducible rfl
          refine wpAnyH_take (i := 2) (v := ?_) rfl (by kernel_rfl) (by kernel_rfl) (by kernel_rfl) (fun _ _ _ h => h) (Or.inl ⟨by kernel_rfl, ?_⟩) hS ?_
          rotate_left
          · intro W hW; go_simp; try with_reducible rfl
          refine wpAnyH_take (i := 3) (v := undef) rfl (by kernel_rfl) (by kernel_rfl) (by kernel_rfl) (fun _ _ _ h => h) (Or.inr ⟨by kernel_rfl, rfl⟩) hS ?_
          refine wpAnyH_take (i := 4) (v := undef) rfl (by kernel_rfl) (by kernel_rfl) (by kernel_rfl) (fun _ _ _ h => h) (Or.inr ⟨by kernel_rfl, rfl⟩) hS ?_
          refine wpAnyH_take (i := 5) (v := undef) rfl (by kernel_rfl) (by kernel_rfl) (by kernel_rfl) (fun _ _ _ h => h) (Or.inr ⟨by kernel_rfl, rfl⟩) hS ?_
          refine wpAnyH_take (i := 6) (v := ?_) rfl (by kernel_rfl) (by kernel_rfl) (by kernel_rfl) (fun _ _ _ h => h) (Or.inl ⟨by kernel_rfl, ?_⟩) hS ?_
          rotate_left
          · intro W hW; go_simp; try with_reducible rfl
          refine wpAnyH_take (i := 7) (v := ?_) rfl (by kernel_rfl) (by kernel_rfl) (by kernel_rfl) (fun _ _ _ h => h) (Or.inl ⟨by kernel_rfl, ?_⟩) hS ?_
          rotate_left
          · intro W hW; go_simp; try with_reducible rfl
          refine wpAnyH_take (i := 8) (v := ?_) rfl (by kernel_rfl) (by kernel_rfl) (by kernel_rfl) (fun _ _ _ h => h) (Or.inl ⟨by kernel_rfl, ?_⟩) hS ?_
          rotate_left
          · intro W hW; go_simp; try with_reducible rfl
          refine wpAnyH_take (i := 9) (v := ?_) rfl (by kernel_rfl) (by kernel_rfl) (by kernel_rfl) (fun _ _ _ h => h) (Or.inl ⟨by kernel_rfl, ?_⟩) hS ?_
          rotate_left
          · intro W hW; go_simp; try with_reducible rfl
          refine wpAnyH_take (i := 10) (v := ?_) rfl (by kernel_rfl) (by kernel_rfl) (by kernel_rfl) (fun _ _ _ h => h) (Or.inl ⟨by kernel_rfl, ?_⟩) hS ?_
          rotate_left
          · intro W hW; go_simp; try with_reducible rfl
          refine wpAnyH_take (i := 11) (v := ?_) rfl (by kernel_rfl) (by kernel_rfl) (by kernel_rfl) (fun _ _ _ h => h) (Or.inl ⟨by kernel_rfl, ?_⟩) hS ?_
          rotate_left
          · intro W hW; go_simp; try with_reducible rfl
          refine wpAnyH_ready (rs := [12]) (by kernel_rfl) (by simp) ?_
          go_simp
          refine AllReadyH.cons (i := 12) rfl ?_ AllReadyH.nil
          intro K hK
          go_simp
          refine (code_c 0 _ (by decide)).mono ?_
          rintro e w15 ⟨rfl, rfl⟩
          have hT := hS
          go_simp
          refine hK.out _ _ ?_ (fun hN => ?_)
          · first | exact hT | exact hS | exact hS.alloc hS.size _ | exact hS.drew
          clear hK K
          try clear hT
          clear hS
          have hS := hN
          clear hN
          refine wpAnyH_take (i := 13) (v := ?_) rfl (by kernel_rfl) (by kernel_rfl) (by kernel_rfl) (fun _ _ _ h => h) (Or.inl ⟨by kernel_rfl, ?_⟩) hS ?_
          rotate_left
          · intro W hW; go_simp; try with_reducible rfl
          refine wpAnyH_take (i := 14) (v := ?_) rfl (by kernel_rfl) (by kernel_rfl) (by kernel_rfl) (fun _ _ _ h => h) (Or.inl ⟨by kernel_rfl, ?_⟩) hS ?_
          rotate_left
          · intro W hW; go_simp; try with_reducible rfl
          refine wpAnyH_take (i := 15) (v := ?_) rfl (by kernel_rfl) (by kernel_rfl) (by kernel_rfl) (fun _ _ _ h => h) (Or.inl ⟨by kernel_rfl, ?_⟩) hS ?_
          rotate_left
          · intro W hW; obtain ⟨p0, p1, p2, p3, p4⟩ := blk_fives (HP4.out.below hW HP4.out.lt); obtain ⟨z0, z1, z2, z3, z4⟩ := HC.out W hW; go_simp; try with_reducible rfl
          refine wpAnyH_take (i := 16) (v := ?_) rfl (by kernel_rfl) (by kernel_rfl) (by kernel_rfl) (fun _ _ _ h => h) (Or.inl ⟨by kernel_rfl, ?_⟩) hS ?_
          rotate_left
          · intro W hW; go_simp; try with_reducible rfl
          refine wpAnyH_take (i := 17) (v := ?_) rfl (by kernel_rfl) (by kernel_rfl) (by kernel_rfl) (fun _ _ _ h => h) (Or.inl ⟨by kernel_rfl, ?_⟩) hS ?_
          rotate_left
          · intro W hW; go_simp; try with_reducible rfl
          refine wpAnyH_take (i := 18) (v := ?_) rfl (by kernel_rfl) (by kernel_rfl) (by kernel_rfl) (fun _ _ _ h => h) (Or.inl ⟨by kernel_rfl, ?_⟩) hS ?_
          rotate_left
          · intro W hW; go_simp; try with_reducible rfl
          refine wpAnyH_take (i := 19) (v := ?_) rfl (by kernel_rfl) (by kernel_rfl) (by kernel_rfl) (fun _ _ _ h => h) (Or.inl ⟨by kernel_rfl, ?_⟩) hS ?_
          rotate_left
          · intro W hW; obtain ⟨p0, p1, p2, p3, p4⟩ := blk_fives (HP4.out.below hW HP4.out.lt); obtain ⟨z0, z1, z2, z3, z4⟩ := HC.out W hW; go_simp; try with_reducible rfl
          refine wpAnyH_take (i := 20) (v := ?_) rfl (by kernel_rfl) (by kernel_rfl) (by kernel_rfl) (fun _ _ _ h => h) (Or.inl ⟨by kernel_rfl, ?_⟩) hS ?_
          rotate_left
          · intro W hW; go_simp; try with_reducible rfl
          refine wpAnyH_take (i := 21) (v := ?_) rfl (by kernel_rfl) (by kernel_rfl) (by kernel_rfl) (fun _ _ _ h => h) (Or.inl ⟨by kernel_rfl, ?_⟩) hS ?_
          rotate_left
          · intro W hW; go_simp; try with_reducible rfl
          refine wpAnyH_take (i := 22) (v := ?_) rfl (by kernel_rfl) (by kernel_rfl) (by kernel_rfl) (fun _ _ _ h => h) (Or.inl ⟨by kernel_rfl, ?_⟩) hS ?_
          rotate_left
          · intro W hW; go_simp; try with_reducible rfl
          refine wpAnyH_take (i := 23) (v := ?_) rfl (by kernel_rfl) (by kernel_rfl) (by kernel_rfl) (fun _ _ _ h => h) (Or.inl ⟨by kernel_rfl, ?_⟩) hS ?_
          rotate_left
          · intro W hW; go_simp; try with_reducible rfl
          refine wpAnyH_done (by kernel_rfl) ?_ _
          go_simp
          have HG := Lib.hid hS
          clear hS
          go_wp2_with fail
          go_meet
          exact ⟨rfl, HG.out⟩
      case rest =>
        obtain ⟨rfl, hB⟩ := hcut
        have HB6 := Lib.hid (HB4.out.trans (hB.mono HB4.out.size))
        have HX6 := Lib.hid (HX4.out.on hB)
        have HM6 := Lib.hid (own_belowI HM4.out hB (Nat.le_refl _))
        clear hB HB4 HX4 HM4 HP4 HP HF
        have HXf := Lib.hid fun (W : World) (B0 : Below wc.heap.size wc W) => HX6.out.on B0
        have HMf := Lib.hid fun (W : World) (B0 : Below wc.heap.size wc W) => own_belowI HM6.out B0 (Nat.le_refl _)
        have HSC := Lib.hid HB6.out.size
        clear HX6 HM6
        go_wp2_with fail
        go_loopw [14, 15, 16] (fun fv gv jv wr => ∃ j : Nat, j ≤ L.length ∧ jv = .int .i64 j ∧ gv = .int .i64 (goneN (L.take j) : Int) ∧ wr.ownsRow wc.heap.size 40 5 fv (frI (lo PosR.key key L) most.toNat j L).length (flatP (frI (lo PosR.key key L) most.toNat j L)) ∧ Below wc.heap.size wc wr) (fun _ _ jv _ => L.length - (intOf jv).toNat)
        case atStart => exact ⟨0, by omega, rfl, rfl, by
          have e : frI (lo PosR.key key L) most.toNat 0 L = [] := by unfold frI; simp
          rw [e]; exact World.ownsRow_nil _ _ _ _, Below.refl _ _⟩
        case round =>
          obtain ⟨j, hj, rfl, rfl, hF, hB⟩ := hrel
          obtain ⟨a14, c14, rfl, -⟩ := own_form_any hF
          have HBl := Lib.hid hB
          clear hB
          have hlz : (L.length : Int) ≤ 60 := by have := HLX.out; omega
          have hgl := goneN_le (L.take j)
          rw [List.length_take] at hgl
          have hgz : (goneN (L.take j) : Int) ≤ 60 := by have := HLX.out; omega
          clear hgl
          obtain ⟨fl, hfl⟩ : ∃ fl, (frI (lo PosR.key key L) most.toNat j L).length = fl := ⟨_, rfl⟩
          have hfm := frI_len (lo PosR.key key L) most.toNat j L hj
          rw [hfl] at hF hfm ⊢
          by_cases hlt : j < L.length
          · have hjz : (j : Int) < (L.length : Int) := by omega
            obtain ⟨gm, rfl, -⟩ := own_some (HMf.out _ HBl.out) (by omega)
            have HC := Lib.hid fun (W : World) (B0 : Below wc.heap.size wc W) => own_cells (HMf.out W B0) j hlt rfl
            obtain ⟨q0, q1, q2, q3, q4⟩ := HC.out _ HBl.out
            have HG := Lib.hid (goneN_take (L := L) (i := j) hlt)
            have hqe : L.getD j dP = L[j] := by simp [List.getD, hlt]
            have HGE := Lib.hid fun (h : lo PosR.key key L ≤ j) => (show key ≤ (L.getD j dP).key from by rw [hqe]; exact lo_ge key L HSR.out j hlt h)
            have HLT' := Lib.hid fun (h : j < lo PosR.key key L) => (show (L.getD j dP).key < key from by rw [hqe]; exact lo_lt (key := PosR.key) key L j hlt h)
            obtain ⟨q, hq⟩ : ∃ q, L.getD j dP = q := ⟨_, rfl⟩
            have HQE := Lib.hid hq
            rw [hq] at HC HG HGE HLT' q0 q1 q2 q3 q4
            clear hq hqe
            have hfz : (fl : Int) ≤ 60 := by have := HLX.out; omega
            by_cases hk : q.key < key
            · have hjr : j < lo PosR.key key L := by
                rcases Nat.lt_or_ge j (lo PosR.key key L) with h | h
                · exact h
                · have := HGE.out h; omega
              have hb1 : decide ((key : Int) ≤ (q.key : Int)) = false := decide_eq_false (by omega)
              have hb2 : decide (key ≤ q.key) = false := decide_eq_false (by omega)
              have hb3 : ¬ (key ≤ q.key) := by omega
              clear hfm
              go_upto_region 25 with fail
              clear q0 q1 q2 q3 q4
              have HLT := Lib.hid hlt
              have HFR := Lib.hid (show wr.ownsRow wc.heap.size 40 5 (.slice a14 fl c14) (frI (lo PosR.key key L) most.toNat (j + 1) L).length (flatP (frI (lo PosR.key key L) most.toNat (j + 1) L)) from by rw [frI_same hlt (Or.inl hjr)]; rw [hfl]; exact hF)
              have HBl2 := HBl
              clear hF
              cases hgone : q.gone with
              | true =>
                have g4 : wr.cell? ⟨gm, j * 5 + 4, none⟩ = some (.bool true) := by rw [← hgone]; exact (HC.out _ HBl2.out).2.2.2.2
                have HGG := Lib.hid (show goneN (L.take (j + 1)) = goneN (L.take j) + 1 from by rw [HG.out, hgone]; rfl)
                clear hgone
                go_wp2_with fail
                go_roundw
                case rel => exact ⟨j + 1, by omega, by go_num, by rw [HGG.out]; go_num, HFR.out, HBl2.out⟩
                case measure => simp [intOf]; omega
              | false =>
                have g4 : wr.cell? ⟨gm, j * 5 + 4, none⟩ = some (.bool false) := by rw [← hgone]; exact (HC.out _ HBl2.out).2.2.2.2
                have HGG := Lib.hid (show goneN (L.take (j + 1)) = goneN (L.take j) from by rw [HG.out, hgone]; rfl)
                clear hgone
                go_wp2_with fail
                go_roundw
                case rel => exact ⟨j + 1, by omega, by go_num, by rw [HGG.out], HFR.out, HBl2.out⟩
                case measure => simp [intOf]; omega
            · have hrj : lo PosR.key key L ≤ j := by
                rcases Nat.lt_or_ge j (lo PosR.key key L) with h | h
                · have := HLT'.out h; omega
                · exact h
              have hb1 : decide ((key : Int) ≤ (q.key : Int)) = true := decide_eq_true (by omega)
              have hb2 : decide (key ≤ q.key) = true := decide_eq_true (by omega)
              have hb3 : key ≤ q.key := by omega
              by_cases hms : (fl : Int) < most
              · have hjm : j - lo PosR.key key L < most.toNat := by omega
                have hb4 : decide ((fl : Int) < most) = true := decide_eq_true hms
                clear hfm
                go_upto_region 24 with fail
                clear q0 q1 q2 q3 q4
                have HLT := Lib.hid hlt
                obtain ⟨g2, cap2, w4, hr, ho4, hg4⟩ := append_r hF q (by omega) HBl.out.size
                rw [← flatP_snoc] at ho4
                have HFR := Lib.hid (show w4.ownsRow wc.heap.size 40 5 (.slice (some ⟨g2, 0, none⟩) (fl + 1) cap2) (frI (lo PosR.key key L) most.toNat (j + 1) L).length (flatP (frI (lo PosR.key key L) most.toNat (j + 1) L)) from by
                  rw [frI_more hlt hrj hjm, List.length_append, hfl, HQE.out]; exact ho4)
                have HBl2 := Lib.hid (HBl.out.grown hg4 HBl.out.size (fun k e => (hF.lt k e).1))
                obtain ⟨q0, q1, q2, q3, q4⟩ := HC.out _ HBl.out
                clear hF ho4 hg4
                go_upto_region 25 with (at_builtin; refine list_run (by rfl) _ _ rfl rfl rfl hr ?_; clear hr)
                clear q0 q1 q2 q3 q4
                cases hgone : q.gone with
                | true =>
                  have g4 : w4.cell? ⟨gm, j * 5 + 4, none⟩ = some (.bool true) := by rw [← hgone]; exact (HC.out _ HBl2.out).2.2.2.2
                  have HGG := Lib.hid (show goneN (L.take (j + 1)) = goneN (L.take j) + 1 from by rw [HG.out, hgone]; rfl)
                  clear hgone
                  go_wp2_with fail
                  go_roundw
                  case rel => exact ⟨j + 1, by omega, by go_num, by rw [HGG.out]; go_num, HFR.out, HBl2.out⟩
                  case measure => simp [intOf]; omega
                | false =>
                  have g4 : w4.cell? ⟨gm, j * 5 + 4, none⟩ = some (.bool false) := by rw [← hgone]; exact (HC.out _ HBl2.out).2.2.2.2
                  have HGG := Lib.hid (show goneN (L.take (j + 1)) = goneN (L.take j) from by rw [HG.out, hgone]; rfl)
                  clear hgone
                  go_wp2_with fail
                  go_roundw
                  case rel => exact ⟨j + 1, by omega, by go_num, by rw [HGG.out], HFR.out, HBl2.out⟩
                  case measure => simp [intOf]; omega
              · have hjm : most.toNat ≤ j - lo PosR.key key L := by omega
                have hb4 : decide ((fl : Int) < most) = false := decide_eq_false hms
                clear hfm
                go_upto_region 25 with fail
                clear q0 q1 q2 q3 q4
                have HLT := Lib.hid hlt
                have HFR := Lib.hid (show wr.ownsRow wc.heap.size 40 5 (.slice a14 fl c14) (frI (lo PosR.key key L) most.toNat (j + 1) L).length (flatP (frI (lo PosR.key key L) most.toNat (j + 1) L)) from by rw [frI_same hlt (Or.inr hjm)]; rw [hfl]; exact hF)
                have HBl2 := HBl
                clear hF
                cases hgone : q.gone with
                | true =>
                  have g4 : wr.cell? ⟨gm, j * 5 + 4, none⟩ = some (.bool true) := by rw [← hgone]; exact (HC.out _ HBl2.out).2.2.2.2
                  have HGG := Lib.hid (show goneN (L.take (j + 1)) = goneN (L.take j) + 1 from by rw [HG.out, hgone]; rfl)
                  clear hgone
                  go_wp2_with fail
                  go_roundw
                  case rel => exact ⟨j + 1, by omega, by go_num, by rw [HGG.out]; go_num, HFR.out, HBl2.out⟩
                  case measure => simp [intOf]; omega
                | false =>
                  have g4 : wr.cell? ⟨gm, j * 5 + 4, none⟩ = some (.bool false) := by rw [← hgone]; exact (HC.out _ HBl2.out).2.2.2.2
                  have HGG := Lib.hid (show goneN (L.take (j + 1)) = goneN (L.take j) from by rw [HG.out, hgone]; rfl)
                  clear hgone
                  go_wp2_with fail
                  go_roundw
                  case rel => exact ⟨j + 1, by omega, by go_num, by rw [HGG.out], HFR.out, HBl2.out⟩
                  case measure => simp [intOf]; omega
          · obtain rfl : j = L.length := by omega
            have hjz : ¬ ((L.length : Int) < (L.length : Int)) := by omega
            rw [List.take_length] at hgz ⊢
            rw [frI_all] at hF hfl
            have HFr := Lib.hid hF
            have hgq := Lib.hid hgz
            have EL := Lib.hid (ilen_any (HXf.out _ HBl.out))
            clear hF
            rw [← hfl] at HFr ⊢
            clear hfl hfm
            go_wp2_with fail
            refine EL.out.mono ?_
            rintro e w20 ⟨rfl, B20⟩
            have HB20 := Lib.hid (HBl.out.trans (B20.mono HBl.out.size))
            have HF20 := Lib.hid (own_belowI HFr.out B20 (Nat.le_refl _))
            have EFr := Lib.hid (from_all (HXf.out _ HB20.out) key most HMM.out.2)
            clear B20 EL HFr HBl
            go_wp2_with fail
            refine EFr.out.mono ?_
            rintro e w21 ⟨v21, rfl, ho21, B21⟩
            obtain ⟨a21, c21, rfl, -⟩ := own_form_any ho21
            have HINL := Lib.hid (show ∀ p ∈ frm key most L, PosB p from fun p hp => (HXf.out _ HB20.out).inn p (List.mem_of_mem_drop (List.mem_of_mem_take hp)))
            have HLF := Lib.hid (show (frm key most L).length ≤ 60 from by unfold frm; rw [List.length_take, List.length_drop]; have := HLX.out; omega)
            have HB21 := Lib.hid (HB20.out.trans (B21.mono HB20.out.size))
            have HF21 := Lib.hid (own_belowI HF20.out B21 (Nat.le_refl _))
            have ET := Lib.hid (to_any5 a21 (frm key most L).length c21 (frm key most L) w21 (psl_own_same ho21 HINL.out) (by have := HLF.out; omega))
            generalize frm key most L = F at *
            clear ho21 B21 EFr HF20 HB20
            go_wp2_with fail
            refine ET.out.mono ?_
            rintro e w22 ⟨v22, rfl, ho22, B22⟩
            obtain ⟨a22, c22, rfl, -⟩ := own_form_any ho22
            have HB22 := Lib.hid (HB21.out.trans (B22.mono HB21.out.size))
            have ES := Lib.hid (rsame_any a22 a14 F.length c22 F.length c14 F F w22 (psl_own_same ho22 HINL.out) (psl_own_same (own_belowI HF21.out B22 (Nat.le_refl _)) HINL.out) (by have := HLF.out; omega))
            rw [decide_eq_true rfl] at ES
            clear ho22 B22 ET HF21 HB21
            go_wp2_with fail
            refine ES.out.mono ?_
            rintro e w23 ⟨rfl, qd, rfl⟩
            have HB23 := Lib.hid (below_drewN HB22.out qd)
            clear ES HB22
            generalize w22.drewN qd = w23 at *
            have HBw := Lib.hid fun (W : World) (B0 : Below wc.heap.size wc W) => (show Below w.heap.size w W from HB1.out.trans ((HB6.out.trans (B0.mono HSC.out)).mono HB1.out.size))
            have EO := Lib.hid (of_any5 a i c A w23 (HA.out _ (HBw.out _ HB23.out)) (by have := HN.out; omega))
            go_wp2_with fail
            refine EO.out.mono ?_
            rintro e w24 ⟨v24, rfl, ho24, B24⟩
            obtain ⟨a24, c24, rfl, -⟩ := own_form_any ho24
            have HB24 := Lib.hid (HB23.out.trans (B24.mono HB23.out.size))
            have EI := Lib.hid (EN.out w24 a24 c24 (psl_own_same ho24 HIN.out))
            clear ho24 B24 EO HB23
            go_wp2_with fail
            refine EI.out.mono ?_
            rintro e w25 ⟨B9, v25, rfl, hI25, B25⟩
            have HB25 := Lib.hid (HB24.out.trans (B25.mono HB24.out.size))
            have EA := Lib.hid (all_any hI25)
            have HI25 := Lib.hid hI25.inn
            clear hI25 B25 EI HB24
            go_wp2_with fail
            refine EA.out.mono ?_
            rintro e w26 ⟨v26, rfl, ho26, B26⟩
            obtain ⟨a26, c26, rfl, -⟩ := own_form_any ho26
            have HB26 := Lib.hid (HB25.out.trans (B26.mono HB25.out.size))
            have ET := Lib.hid (to_any5 a26 L.length c26 L w26 (psl_own_same ho26 HI25.out) (by have := HLX.out; omega))
            clear ho26 B26 EA HB25
            go_wp2_with fail
            refine ET.out.mono ?_
            rintro e w27 ⟨v27, rfl, ho27, B27⟩
            obtain ⟨a27, c27, rfl, -⟩ := own_form_any ho27
            have HB27 := Lib.hid (HB26.out.trans (B27.mono HB26.out.size))
            have ES := Lib.hid (rsame_any a27 a8 L.length c27 L.length c8 L L w27 (psl_own_same ho27 HI25.out) (psl_own_same (HMf.out _ HB27.out) HI25.out) (by have := HLX.out; omega))
            rw [decide_eq_true rfl] at ES
            clear ho27 B27 ET HB26
            go_wp2_with fail
            refine ES.out.mono ?_
            rintro e w28 ⟨rfl, qe, rfl⟩
            have HB28 := Lib.hid (below_drewN HB27.out qe)
            clear ES HB27
            generalize w27.drewN qe = w28 at *
            go_wp2_with fail
            go_ret
            exact ⟨rfl, HBw.out _ HB28.out⟩
theorem plays8_all (a : Option Addr) (n c : Nat) (A : List PosR) (key : Int) (most : Int) (w : World) (ha : PSl w w.heap.size a n A) (hn : n ≤ 9223372036854775807) (k0 : 0 ≤ key) (k1 : key ≤ 18446744073709551615) (hm1 : -9223372036854775808 ≤ most) (hm2 : most ≤ 9223372036854775807) :
    Calls Try.prog 4 #[.slice a n c, .int .u64 key, .int .i64 most] w fun e w' => e = .returned (.bool true) ∧ Below w.heap.size w w' := by
  obtain ⟨kn, rfl⟩ : ∃ kn : Nat, key = kn := ⟨key.toNat, by omega⟩
  exact plays8_walk a n c A kn most w ha hn hm1 hm2
end Go.Proofs.Ytmmmakfmpopniaa
