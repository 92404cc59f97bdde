/-
  index.Index: Put, New.
-/
import Derived.Test.YtmmmakfmpopniaaIdxOps
namespace Go.Proofs.Ytmmmakfmpopniaa
open Go.RowKit
set_option linter.unusedVariables false

theorem flatP_app (a b : List PosR) : flatP (a ++ b) = flatP a ++ flatP b := by simp [flatP]
theorem flatP_take (L : List PosR) (r : Nat) : flatP (L.take r) = (flatP L).take (r * 5) := by
  by_cases h : r ≤ L.length
  · have e : flatP L = flatP (L.take r) ++ flatP (L.drop r) := by rw [← flatP_app, List.take_append_drop]
    rw [e]
    have hl : r * 5 = (flatP (L.take r)).length := by rw [flatP_length, List.length_take]; omega
    rw [hl]
    exact List.take_left.symm
  · rw [List.take_of_length_le (by omega), List.take_of_length_le (by rw [flatP_length]; omega)]
theorem flatP_drop (L : List PosR) (r : Nat) : flatP (L.drop r) = (flatP L).drop (r * 5) := by
  by_cases h : r ≤ L.length
  · have e : flatP L = flatP (L.take r) ++ flatP (L.drop r) := by rw [← flatP_app, List.take_append_drop]
    rw [e]
    have hl : r * 5 = (flatP (L.take r)).length := by rw [flatP_length, List.length_take]; omega
    rw [hl]
    exact List.drop_left.symm
  · rw [List.drop_of_length_le (by omega), List.drop_of_length_le (by rw [flatP_length]; omega)]; rfl
theorem flatP_one (L : List PosR) : ∀ u ∈ flatP L, u.oneCell' = true := by
  intro u hu
  obtain ⟨p, _, hp⟩ := List.mem_flatMap.1 hu
  exact p.cells_one u hp
/-- Insert, whichever road. -/
theorem ins_any {base i : Nat} {v : Value} {L : List PosR} (p : PosR) (w : World) (h : w.ownsRow base 32 5 v L.length (flatP L)) (hb : base ≤ w.heap.size) (hn : L.length ≤ 100000) (hi : i ≤ L.length) :
    Calls Try.prog 24 #[v, .int .i64 i, .slice (some ⟨w.heap.size, 0, none⟩) 1 1] (w.alloc (.cells #[.int .u64 p.key, .int .i64 p.off, .int .i64 p.len, .int .u32 p.ck, .bool p.gone] 32)) (InsP w base v L.length (flatP (L.take i ++ p :: L.drop i))) := by
  have e : flatP (L.take i ++ p :: L.drop i) = (flatP L).take (i * 5) ++ p.cells ++ (flatP L).drop (i * 5) := by
    rw [flatP_app, flatP_take, ← flatP_drop, List.append_assoc]
    rfl
  rw [e]
  by_cases he : i = L.length
  · subst he
    rw [List.take_of_length_le (by rw [flatP_length]; omega), List.drop_of_length_le (by rw [flatP_length]; omega), List.append_nil]
    exact ins_end p w h hb hn
  · rcases h.2 with ⟨rfl, e2⟩ | ⟨g, cap, cur, rfl, _, _, hc, _⟩
    · omega
    · by_cases hr : L.length + 1 ≤ cap
      · exact ins_room p w h (by omega) hr hn (flatP_one L)
      · exact ins_grow p w h (by omega) (by omega) hn (flatP_one L)
theorem insK_there {k : Nat} {L : List PosR} {p : PosR} (hs : Srt PosR.key L) (hk : p.key = k) (h : thr k L = true) : insK PosR.key p L = L.set (lo PosR.key k L) p := by
  subst hk
  have ht := thr_yes h
  rw [insK_lo p L hs, dif_pos ⟨ht.1, by
    have := ht.2
    simp only [List.getD, List.getElem?_eq_getElem ht.1, Option.getD_some] at this ⊢
    exact this⟩]
theorem insK_new {k : Nat} {L : List PosR} {p : PosR} (hs : Srt PosR.key L) (hk : p.key = k) (h : thr k L = false) : insK PosR.key p L = L.take (lo PosR.key k L) ++ p :: L.drop (lo PosR.key k L) := by
  subst hk
  have ht := thr_no h
  rw [insK_lo p L hs, dif_neg fun e => ht ⟨e.1, by
    have := e.2
    simp only [List.getD, List.getElem?_eq_getElem e.1, Option.getD_some] at this ⊢
    exact this⟩]
theorem insK_inn {L : List PosR} {p : PosR} (hs : Srt PosR.key L) (h : ∀ q ∈ L, PosB q) (hp : PosB p) : ∀ q ∈ insK PosR.key p L, PosB q := by
  intro q hq
  rcases (mem_insK hs).1 hq with rfl | ⟨h1, _⟩
  · exact hp
  · exact h q h1
theorem own_frozen {W : World} {base b n c size : Nat} {T : TypeId} {xs : List Value} (h : W.ownsRow base T size (.slice (some ⟨b, 0, none⟩) n c) n xs) (j : Nat) : W.frozen? ⟨b, j, none⟩ = false := by
  rcases h.2 with ⟨e, _⟩ | ⟨g, cap, cur, e, _, hg, _⟩
  · cases e
  · cases e
    simp [World.frozen?, hg]
theorem ne_row {w : World} {base B : Nat} {v : Value} {L : List PosR} (h : IdR w base B v L) : v.ownBlock ≠ some B := by
  intro e
  obtain ⟨cs, hk⟩ := own_blk h.row e
  exact absurd (blk_types hk h.k) (by decide)
/-- What Put leaves. -/
def PutP (w : World) (base B : Nat) (v : Value) (L' : List PosR) (e : Ending) (w' : World) : Prop :=
  ∃ v', e = .returned (errc 0) ∧ IdR w' base B v' L' ∧ Tw w w' B v.ownBlock ∧ (v'.ownBlock = v.ownBlock ∨ ∀ k, v'.ownBlock = some k → w.heap.size ≤ k)

theorem tw_of {w w3 w4 : World} {B : Nat} {r : Option Nat} (h : Below w.heap.size w w3) (hg : w3.grownBy w4 r) : Tw w w4 B r :=
  ⟨hg.os.trans h.os, hg.tape.trans h.tape, hg.output.trans h.output, Nat.le_trans h.size hg.size, fun k hk _ hr => (hg.block k (Nat.lt_of_lt_of_le hk h.size) hr).trans (h.block k hk)⟩
theorem insK_len {L : List PosR} {p : PosR} {r : Nat} (hF : insK PosR.key p L = L.take r ++ p :: L.drop r) : (insK PosR.key p L).length = L.length + 1 := by
  rw [hF, List.length_append, List.length_cons, List.length_take, List.length_drop]; omega
theorem ins_done {w w3 w4 : World} {base B n4 r : Nat} {v : Value} {a4 : Option Addr} {L : List PosR} {p : PosR} (h : IdR w3 base B v L) (hb : Below w.heap.size w w3) (hp : PosB p) (hl : L.length < 4096)
    (hF : insK PosR.key p L = L.take r ++ p :: L.drop r) (ho : w4.ownsRow base 32 5 (.slice a4 (L.length + 1) n4) (L.length + 1) (flatP (L.take r ++ p :: L.drop r))) (hg : w3.grownBy w4 v.ownBlock)
    (hat : (Value.slice a4 (L.length + 1) n4).ownBlock = v.ownBlock ∨ ∀ k, (Value.slice a4 (L.length + 1) n4).ownBlock = some k → w3.heap.size ≤ k) :
    PutP w base B v (insK PosR.key p L) (.returned .nilIface) (w4.setCell ⟨B, 0, none⟩ (.slice a4 (L.length + 1) n4)) := by
  have hk4 := h.k.grown hg (fun e => ne_row h e.symm)
  have hlen := insK_len hF
  rw [← hF] at ho
  have hnb : (Value.slice a4 (L.length + 1) n4).ownBlock ≠ some B := by
    intro e
    obtain ⟨cs, hk⟩ := own_blk ho e
    exact absurd (blk_types hk hk4) (by decide)
  refine ⟨_, rfl, ⟨hk4.put 0 _, h.bb, ?_, srt_insK p h.srt, insK_inn h.srt h.inn hp, by omega⟩, ?_, ?_⟩
  · rw [hlen]
    exact ownsRow_setCell_other ho (by simpa using hnb) _
  · have t := tw_of (B := B) hb hg
    refine ⟨t.os, t.tape, t.output, Nat.le_trans t.size (by simp), fun k hk hkb hr => ?_⟩
    rw [← t.block k hk hkb hr]
    exact Below.heap_setCell w4 _ _ k hkb
  · rcases hat with e | e
    · exact .inl e
    · exact .inr fun k hk => Nat.le_trans hb.size (e k hk)

set_option maxRecDepth 100000 in
set_option maxHeartbeats 2000000 in
theorem iput_any {w : World} {base B : Nat} {v : Value} {L : List PosR} (h : IdR w base B v L) (p : PosR) (hp : PosB p) (hl : L.length < 4096) :
    Calls Try.prog 13 #[.pointer (some ⟨B, 0, none⟩), .agg #[.int .u64 p.key, .int .i64 p.off, .int .i64 p.len, .int .u32 p.ck, .bool p.gone]] w (PutP w base B v (insK PosR.key p L)) := by
  obtain ⟨w1, hw1, hM1, hB1⟩ : ∃ X, w.alloc (.cells #[.int .u64 p.key, .int .i64 p.off, .int .i64 p.len, .int .u32 p.ck, .bool p.gone] 32) = X ∧ Blk X w.heap.size 32 #[.int .u64 p.key, .int .i64 p.off, .int .i64 p.len, .int .u32 p.ck, .bool p.gone] ∧ Below w.heap.size w X := ⟨_, rfl, Blk.made _ _ _, (Below.refl _ _).alloc (Nat.le_refl _) _⟩
  have h1 := h.on hB1
  have E := Lib.hid (place_any h1 p.key)
  have HI := Lib.hid h
  have HI1 := Lib.hid h1
  have HM := Lib.hid hM1
  have HB := Lib.hid hB1
  have HP := Lib.hid hp
  obtain ⟨c0, c1, c2, c3, c4⟩ := blk_fives hM1
  clear h h1 hM1 hB1 hp
  obtain ⟨r, hr⟩ : ∃ r, lo PosR.key p.key L = r := ⟨_, rfl⟩
  obtain ⟨b, hb⟩ : ∃ b, thr p.key L = b := ⟨_, rfl⟩
  rw [hr, hb] at E
  have HR := Lib.hid hr
  have HT := Lib.hid hb
  clear hr hb
  go_enter Try.func13, Try.ntmps13
  go_upto_region 1 with fail
  try rw [hw1]
  clear hw1
  go_wp2_with fail
  refine E.out.mono ?_
  rintro e w2 ⟨rfl, B2⟩
  have hM2 := HM.out.below B2 HM.out.lt
  have HM2 := Lib.hid hM2
  have HI2 := Lib.hid (HI1.out.on B2)
  have HB2 := Lib.hid (HB.out.trans (B2.mono HB.out.size))
  clear B2 hM2 E HM HI1 HB c0 c1 c2 c3 c4
  cases b with
  | true =>
    have hth := thr_yes HT.out
    rw [HR.out] at hth
    have HF := Lib.hid (show insK PosR.key p L = L.set r p from by rw [← HR.out]; exact insK_there HI.out.srt rfl HT.out)
    obtain ⟨a, c, rfl, hc, -⟩ := HI2.out.psl
    obtain ⟨g, rfl, hbg⟩ := own_some HI2.out.row (by omega)
    have hri : (r : Int) < (L.length : Int) := by have := hth.1; omega
    have hli : (L.length : Int) ≤ 4096 := by omega
    have HRL := Lib.hid hth.1
    obtain ⟨c0, c1, c2, c3, c4⟩ := blk_fives HM2.out
    have k0 : w2.cell? ⟨B, 0, none⟩ = some (.slice (some ⟨g, 0, none⟩) L.length c) := HI2.out.k.cell 0
    clear hth
    go_upto_region 6 with fail
    go_still_tail 7, (by kernel_rfl)
    change wpList _ _ _ _ _ w2.drew
    clear c0 c1 c2 c3 c4 k0
    have HI3 := Lib.hid (HI2.out.on (Below.refl _ _).drew)
    have HB3 := Lib.hid (HB2.out.trans ((Below.refl w2.heap.size w2).drew.mono HB2.out.size))
    generalize w2.drew = w3 at *
    obtain ⟨q0, q1, q2, q3, q4⟩ := own_cells HI3.out.row r HRL.out rfl
    have f0 := own_frozen HI3.out.row (r * 5)
    have f1 := own_frozen HI3.out.row (r * 5 + 1)
    have f2 := own_frozen HI3.out.row (r * 5 + 2)
    have f3 := own_frozen HI3.out.row (r * 5 + 3)
    have f4 := own_frozen HI3.out.row (r * 5 + 4)
    go_wp2_with fail
    go_ret
    obtain ⟨ho, hg⟩ := own_set5 HI3.out.row HRL.out p
    have hne : B ≠ g := fun e => ne_row HI3.out (by rw [e]; rfl)
    refine ⟨.slice (some ⟨g, 0, none⟩) L.length c, rfl, ?_, tw_of HB3.out hg, .inl rfl⟩
    rw [HF.out]
    exact ⟨HI3.out.k.grown hg (by intro e; injection e with e; exact hne e), HI.out.bb, by rw [List.length_set]; exact ho, by rw [← HF.out]; exact srt_insK p HI.out.srt, by rw [← HF.out]; exact insK_inn HI.out.srt HI.out.inn HP.out, by rw [List.length_set]; omega⟩
  | false =>
    have hrl : r ≤ L.length := by rw [← HR.out]; exact lo_le _ _
    have HF := Lib.hid (show insK PosR.key p L = L.take r ++ p :: L.drop r from by rw [← HR.out]; exact insK_new HI.out.srt rfl HT.out)
    obtain ⟨a, c, rfl, hc, -⟩ := HI2.out.psl
    have hlz : ¬ (4096 ≤ (L.length : Int)) := by omega
    obtain ⟨c0, c1, c2, c3, c4⟩ := blk_fives HM2.out
    have k0 : w2.cell? ⟨B, 0, none⟩ = some (.slice a L.length c) := HI2.out.k.cell 0
    have HI3 := Lib.hid (HI2.out.on (Below.refl _ _).drew)
    have HB3 := Lib.hid (HB2.out.trans ((Below.refl w2.heap.size w2).drew.mono HB2.out.size))
    have E := Lib.hid (ins_any p w2.drew HI3.out.row (Nat.le_trans HI3.out.bb (Nat.le_of_lt HI3.out.k.lt)) (by omega) hrl)
    have k1 : ∀ o, (w2.alloc o).cell? ⟨B, 0, none⟩ = some (.slice a L.length c) := fun o => (HI2.out.k.alloc o).cell 0
    have hlr : (L.length : Int) ≤ 4096 := by omega
    go_upto_region 4 with fail
    refine wp_region_any (by kernel_rfl) ?_
    change wpAny _ _ _ _ _ _ _ (World.drew _)
    refine wpAny_take (i := 0) (v := ?_) rfl (by kernel_rfl) (by kernel_rfl) (by kernel_rfl) (fun _ _ _ h => h) (Or.inl ⟨by kernel_rfl, ?_⟩) ?_
    rotate_left
    · intro w; go_simp; try with_reducible rfl
    refine wpAny_take (i := 1) (v := ?_) rfl (by kernel_rfl) (by kernel_rfl) (by kernel_rfl) (fun _ _ _ h => h) (Or.inl ⟨by kernel_rfl, ?_⟩) ?_
    rotate_left
    · intro w; go_simp; try with_reducible rfl
    refine wpAny_take (i := 2) (v := ?_) rfl (by kernel_rfl) (by kernel_rfl) (by kernel_rfl) (fun _ _ _ h => h) (Or.inl ⟨by kernel_rfl, ?_⟩) ?_
    rotate_left
    · intro w; go_simp; try with_reducible rfl
    refine wpAny_take (i := 3) (v := ?_) rfl (by kernel_rfl) (by kernel_rfl) (by kernel_rfl) (fun _ _ _ h => h) (Or.inl ⟨by kernel_rfl, ?_⟩) ?_
    rotate_left
    · intro w; go_simp; try with_reducible rfl
    refine wpAny_take (i := 5) (v := ?_) rfl (by kernel_rfl) (by kernel_rfl) (by kernel_rfl) (fun _ _ _ h => h) (Or.inl ⟨by kernel_rfl, ?_⟩) ?_
    rotate_left
    · intro w; go_simp; try with_reducible rfl
    refine wpAny_ready (rs := [4, 6]) (by kernel_rfl) (by simp) ?_
    refine AllReady.cons (i := 4) rfl ?_ ?_
    · intro K hK
      go_simp
      refine hK _ _ ?_
      clear hK K
      refine wpAny_ready (rs := [6]) (by kernel_rfl) (by simp) ?_
      refine AllReady.cons (i := 6) rfl ?_ AllReady.nil
      intro K hK
      go_simp
      refine hK _ _ ?_
      clear hK K
      refine wpAny_ready (rs := [7]) (by kernel_rfl) (by simp) ?_
      refine AllReady.cons (i := 7) rfl ?_ AllReady.nil
      intro K hK
      go_simp
      refine hK _ _ ?_
      clear hK K
      refine wpAny_ready (rs := [8]) (by kernel_rfl) (by simp) ?_
      refine AllReady.cons (i := 8) rfl ?_ AllReady.nil
      intro K hK
      go_simp
      refine E.out.mono ?_
      rintro e w4 ⟨v4, rfl, ho4, hg4, hat4⟩
      obtain ⟨a4, n4, rfl, -⟩ := own_form_any ho4
      have hk4 := HI3.out.k.grown hg4 (fun e => ne_row HI3.out e.symm)
      have k4 : w4.cell? ⟨B, 0, none⟩ = some (.slice a L.length c) := hk4.cell 0
      have f4 := hk4.frozen 0
      have HD := Lib.hid (ins_done HI3.out HB3.out HP.out hl HF.out ho4 hg4 hat4)
      clear ho4 hg4 hat4 hk4
      go_simp
      refine hK _ _ ?_
      clear hK K
      refine wpAny_take (i := 9) (v := ?_) rfl (by kernel_rfl) (by kernel_rfl) (by kernel_rfl) (fun _ _ _ h => h) (Or.inl ⟨by kernel_rfl, ?_⟩) ?_
      rotate_left
      · intro w; go_simp; try with_reducible rfl
      refine wpAny_take (i := 10) (v := ?_) rfl (by kernel_rfl) (by kernel_rfl) (by kernel_rfl) (fun _ _ _ h => h) (Or.inl ⟨by kernel_rfl, ?_⟩) ?_
      rotate_left
      · intro w; go_simp; try with_reducible rfl
      refine wpAny_ready (rs := [11]) (by kernel_rfl) (by simp) ?_
      refine AllReady.cons (i := 11) rfl ?_ AllReady.nil
      intro K hK
      go_simp
      refine hK _ _ ?_
      clear hK K
      refine wpAny_done (by kernel_rfl) ?_ _
      go_wp2_with fail
      go_ret
      exact HD.out
    refine AllReady.cons (i := 6) rfl ?_ AllReady.nil
    intro K hK
    go_simp
    refine hK _ _ ?_
    clear hK K
    refine wpAny_ready (rs := [4, 7]) (by kernel_rfl) (by simp) ?_
    refine AllReady.cons (i := 4) rfl ?_ ?_
    · intro K hK
      go_simp
      refine hK _ _ ?_
      clear hK K
      refine wpAny_ready (rs := [7]) (by kernel_rfl) (by simp) ?_
      refine AllReady.cons (i := 7) rfl ?_ AllReady.nil
      intro K hK
      go_simp
      refine hK _ _ ?_
      clear hK K
      refine wpAny_ready (rs := [8]) (by kernel_rfl) (by simp) ?_
      refine AllReady.cons (i := 8) rfl ?_ AllReady.nil
      intro K hK
      go_simp
      refine E.out.mono ?_
      rintro e w4 ⟨v4, rfl, ho4, hg4, hat4⟩
      obtain ⟨a4, n4, rfl, -⟩ := own_form_any ho4
      have hk4 := HI3.out.k.grown hg4 (fun e => ne_row HI3.out e.symm)
      have k4 : w4.cell? ⟨B, 0, none⟩ = some (.slice a L.length c) := hk4.cell 0
      have f4 := hk4.frozen 0
      have HD := Lib.hid (ins_done HI3.out HB3.out HP.out hl HF.out ho4 hg4 hat4)
      clear ho4 hg4 hat4 hk4
      go_simp
      refine hK _ _ ?_
      clear hK K
      refine wpAny_take (i := 9) (v := ?_) rfl (by kernel_rfl) (by kernel_rfl) (by kernel_rfl) (fun _ _ _ h => h) (Or.inl ⟨by kernel_rfl, ?_⟩) ?_
      rotate_left
      · intro w; go_simp; try with_reducible rfl
      refine wpAny_take (i := 10) (v := ?_) rfl (by kernel_rfl) (by kernel_rfl) (by kernel_rfl) (fun _ _ _ h => h) (Or.inl ⟨by kernel_rfl, ?_⟩) ?_
      rotate_left
      · intro w; go_simp; try with_reducible rfl
      refine wpAny_ready (rs := [11]) (by kernel_rfl) (by simp) ?_
      refine AllReady.cons (i := 11) rfl ?_ AllReady.nil
      intro K hK
      go_simp
      refine hK _ _ ?_
      clear hK K
      refine wpAny_done (by kernel_rfl) ?_ _
      go_wp2_with fail
      go_ret
      exact HD.out
    refine AllReady.cons (i := 7) rfl ?_ AllReady.nil
    intro K hK
    go_simp
    refine hK _ _ ?_
    clear hK K
    refine wpAny_ready (rs := [4]) (by kernel_rfl) (by simp) ?_
    refine AllReady.cons (i := 4) rfl ?_ AllReady.nil
    intro K hK
    go_simp
    refine hK _ _ ?_
    clear hK K
    refine wpAny_ready (rs := [8]) (by kernel_rfl) (by simp) ?_
    refine AllReady.cons (i := 8) rfl ?_ AllReady.nil
    intro K hK
    go_simp
    refine E.out.mono ?_
    rintro e w4 ⟨v4, rfl, ho4, hg4, hat4⟩
    obtain ⟨a4, n4, rfl, -⟩ := own_form_any ho4
    have hk4 := HI3.out.k.grown hg4 (fun e => ne_row HI3.out e.symm)
    have k4 : w4.cell? ⟨B, 0, none⟩ = some (.slice a L.length c) := hk4.cell 0
    have f4 := hk4.frozen 0
    have HD := Lib.hid (ins_done HI3.out HB3.out HP.out hl HF.out ho4 hg4 hat4)
    clear ho4 hg4 hat4 hk4
    go_simp
    refine hK _ _ ?_
    clear hK K
    refine wpAny_take (i := 9) (v := ?_) rfl (by kernel_rfl) (by kernel_rfl) (by kernel_rfl) (fun _ _ _ h => h) (Or.inl ⟨by kernel_rfl, ?_⟩) ?_
    rotate_left
    · intro w; go_simp; try with_reducible rfl
    refine wpAny_take (i := 10) (v := ?_) rfl (by kernel_rfl) (by kernel_rfl) (by kernel_rfl) (fun _ _ _ h => h) (Or.inl ⟨by kernel_rfl, ?_⟩) ?_
    rotate_left
    · intro w; go_simp; try with_reducible rfl
    refine wpAny_ready (rs := [11]) (by kernel_rfl) (by simp) ?_
    refine AllReady.cons (i := 11) rfl ?_ AllReady.nil
    intro K hK
    go_simp
    refine hK _ _ ?_
    clear hK K
    refine wpAny_done (by kernel_rfl) ?_ _
    go_wp2_with fail
    go_ret
    exact HD.out
end Go.Proofs.Ytmmmakfmpopniaa
