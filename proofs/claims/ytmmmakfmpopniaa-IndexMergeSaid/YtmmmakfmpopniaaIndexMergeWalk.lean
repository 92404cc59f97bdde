/-
  The walk of corncriblaw08.IndexMerge.
-/
import Derived.Test.YtmmmakfmpopniaaIdxAlive
namespace Go.Proofs.Ytmmmakfmpopniaa
open Go.RowKit
set_option linter.unusedVariables false

theorem ipos_neq (w : World) (p q : PosR) : (binOp .neq 32 (.agg #[.int .u64 p.key, .int .i64 p.off, .int .i64 p.len, .int .u32 p.ck, .bool p.gone]) (.agg #[.int .u64 q.key, .int .i64 q.off, .int .i64 q.len, .int .u32 q.ck, .bool q.gone])).run Try.prog w = .ok (.bool (!decide (p = q))) w := by
  obtain ⟨k, o, l, c, g⟩ := p
  obtain ⟨k', o', l', c', g'⟩ := q
  simp only [PosR.mk.injEq]
  simp [go_sem]
  by_cases h1 : k = k' <;> by_cases h2 : o = o' <;> by_cases h3 : l = l' <;> by_cases h4 : c = c' <;> by_cases h5 : g = g' <;> simp [h1, h2, h3, h4, h5, Int.ofNat_inj]
theorem ipos_same (w : World) (p : PosR) : (binOp .neq 32 (.agg #[.int .u64 p.key, .int .i64 p.off, .int .i64 p.len, .int .u32 p.ck, .bool p.gone]) (.agg #[.int .u64 p.key, .int .i64 p.off, .int .i64 p.len, .int .u32 p.ck, .bool p.gone])).run Try.prog w = .ok (.bool false) w := by
  rw [ipos_neq, decide_eq_true rfl]; rfl
theorem iappend_nil {W : World} {v : Value} {base k c : Nat} {xs : List Value} (hown : W.ownsRow base 32 5 v k xs) :
    (Builtin.append_ #[26, 26] 26 #[v, .slice none 0 c]).run Try.prog W = .ok v W := by
  obtain ⟨i0, hi, hz0, hz1, hz2⟩ := info_parts info_pos
  rcases hown.2 with ⟨rfl, rfl⟩ | ⟨g, cap, cur, rfl, _, _, hnc, _⟩
  · simp [Builtin.append_, run_underlying Try.underlying26, sizeOf, typeInfo, hi, Builtin.lenOf, Builtin.firstCells]
  · simp [Builtin.append_, run_underlying Try.underlying26, sizeOf, typeInfo, hi, Builtin.lenOf, Builtin.firstCells, hnc, storeCells]
/-- append of two rows of positions, the first one of one's own. -/
theorem iappend_any {W : World} {base k : Nat} {v : Value} {xs : List Value} (hown : W.ownsRow base 32 5 v k xs) {B : Nat} {a : Option Addr} {n : Nat} {ps : List PosR} (c : Nat) (h : PSl W B a n ps) (h0 : a = none → n = 0) (hs : k + n ≤ 4398046510976) (hbase : base ≤ W.heap.size) :
    ∃ v' W', (Builtin.append_ #[26, 26] 26 #[v, .slice a n c]).run Try.prog W = .ok v' W' ∧ W'.ownsRow base 32 5 v' (k + n) (xs ++ flatP ps) ∧ W.grownBy W' v.ownBlock := by
  cases a with
  | none =>
    obtain rfl := h0 rfl
    have hp : ps = [] := List.eq_nil_of_length_eq_zero h.1
    subst hp
    exact ⟨v, W, iappend_nil hown, by simpa [flatP] using hown, grown_refl W _⟩
  | some ad =>
    obtain ⟨i0, hi, hz0, hz1, hz2⟩ := info_parts info_pos
    have hnews : ∀ j u, (flatP ps)[j]? = some u → W.cell? (ad.add j) = some u := by
      intro j u hj
      have hjl : j < n * 5 := by
        have := (List.getElem?_eq_some_iff.1 hj).1
        rw [flatP_length, h.1] at this
        exact this
      obtain ⟨b, off, e, -, hc⟩ := h.2.2 (by omega)
      cases e
      have := hc (j / 5) (j % 5) (by omega) (by omega)
      rw [show j / 5 * 5 + j % 5 = j from by omega, hj] at this
      rw [Addr.add_lit, ← this]
      congr 2
      omega
    obtain ⟨v', w', hr, h2, h3, _, _⟩ := run_append_own_at (P := Try.prog) W base 26 26 32 i0 _ 5 32 Try.underlying26 hi hz0 hz1 hz2 rfl (by decide) _ k xs hown ad n c (flatP ps) (by rw [flatP_length, h.1]) hnews (flatP_one ps) (by unfold maxLen; omega) (by omega) hbase
    exact ⟨v', w', hr, h2, h3⟩

/-- What is of two lists put one behind the other. -/
theorem merge_at {A Bs : List PosR} {z : PosR} (hz : z ∈ insAll PosR.key [] (A ++ Bs)) : fnd z.key (insAll PosR.key [] Bs) = some z ∨ (fnd z.key (insAll PosR.key [] Bs) = none ∧ fnd z.key (insAll PosR.key [] A) = some z) := by
  have sA : Srt PosR.key (insAll PosR.key [] A) := srt_insAll A List.Pairwise.nil
  have sB : Srt PosR.key (insAll PosR.key [] Bs) := srt_insAll Bs List.Pairwise.nil
  have e : insAll PosR.key [] (A ++ Bs) = insAll PosR.key (insAll PosR.key [] A) Bs := by simp [insAll]
  rw [e] at hz
  rcases (mem_insAll Bs sA).1 hz with h | ⟨h1, h2⟩
  · exact .inl ((fnd_some sB).2 ⟨(mem_insAll Bs List.Pairwise.nil).2 (.inl h), rfl⟩)
  · refine .inr ⟨(fnd_none sB).2 fun h => ?_, (fnd_some sA).2 ⟨h1, rfl⟩⟩
    rcases (key_insAll _ Bs List.Pairwise.nil).1 h with ⟨x, hx, _⟩ | ⟨x, hx, e⟩
    · cases hx
    · exact h2 x hx e
theorem merge_l {A Bs : List PosR} {p : PosR} (hp : p ∈ insAll PosR.key [] A ∨ p ∈ insAll PosR.key [] Bs) : ∃ z, fnd p.key (insAll PosR.key [] (A ++ Bs)) = some z := by
  have sZ : Srt PosR.key (insAll PosR.key [] (A ++ Bs)) := srt_insAll _ List.Pairwise.nil
  have hk : ∃ x ∈ A ++ Bs, x.key = p.key := by
    rcases hp with h | h
    · rcases (key_insAll p.key A List.Pairwise.nil).1 ⟨p, h, rfl⟩ with ⟨x, hx, _⟩ | ⟨x, hx, e⟩
      · cases hx
      · exact ⟨x, List.mem_append_left _ hx, e⟩
    · rcases (key_insAll p.key Bs List.Pairwise.nil).1 ⟨p, h, rfl⟩ with ⟨x, hx, _⟩ | ⟨x, hx, e⟩
      · cases hx
      · exact ⟨x, List.mem_append_right _ hx, e⟩
  obtain ⟨z, hz, e⟩ := (key_insAll p.key (A ++ Bs) List.Pairwise.nil).2 (.inr hk)
  exact ⟨z, (fnd_some sZ).2 ⟨hz, e⟩⟩
theorem merge_len (A Bs : List PosR) : (insAll PosR.key [] (A ++ Bs)).length ≤ (insAll PosR.key [] A).length + (insAll PosR.key [] Bs).length := by
  have e : insAll PosR.key [] (A ++ Bs) = insAll PosR.key (insAll PosR.key [] A) Bs := by simp [insAll]
  rw [e]
  exact insAll_count Bs (srt_insAll A List.Pairwise.nil)
theorem FindP.yes {w : World} {z : PosR} {e : Ending} {w' : World} (h : FindP w (some z) e w') : e = .returned (.tuple #[.agg #[.int .u64 z.key, .int .i64 z.off, .int .i64 z.len, .int .u32 z.ck, .bool z.gone], errc 0]) ∧ Below w.heap.size w w' := by
  obtain ⟨p, cd, rfl, hp, hb⟩ := h
  rcases hp with ⟨e, rfl⟩ | ⟨e, _⟩
  · injection e with e; subst e; exact ⟨rfl, hb⟩
  · cases e
theorem FindP.no {w : World} {e : Ending} {w' : World} (h : FindP w none e w') : e = .returned (.tuple #[.agg #[.int .u64 0, .int .i64 0, .int .i64 0, .int .u32 0, .bool false], errc 6]) ∧ Below w.heap.size w w' := by
  obtain ⟨p, cd, rfl, hp, hb⟩ := h
  rcases hp with ⟨e, _⟩ | ⟨_, rfl, rfl⟩
  · cases e
  · exact ⟨rfl, hb⟩
theorem getD_mem {L : List PosR} {i : Nat} (h : i < L.length) : L.getD i dP ∈ L := by
  have e : L.getD i dP = L[i] := by simp [List.getD, h]
  rw [e]; exact List.getElem_mem h
theorem getD_lt {L : List PosR} (hs : Srt PosR.key L) {i : Nat} (h : i < L.length) (h0 : 0 < i) : (L.getD (i - 1) dP).key < (L.getD i dP).key := by
  have e1 : L.getD i dP = L[i] := by simp [List.getD, h]
  have e2 : L.getD (i - 1) dP = L[i - 1]'(by omega) := by simp [List.getD, show i - 1 < L.length by omega]
  rw [e1, e2]
  exact hs.lt h (by omega)

set_option maxRecDepth 100000 in
set_option maxHeartbeats 8000000 in
theorem merge_walk (a : Option Addr) (n c : Nat) (A : List PosR) (b : Option Addr) (m d : Nat) (Bs : List PosR) (w : World) (ha : PSl w w.heap.size a n A) (hb : PSl w w.heap.size b m Bs) (hn : n ≤ 9223372036854775807) (hm : m ≤ 9223372036854775807) :
    Calls Try.prog 3 #[.slice a n c, .slice b m d] w fun e w' => e = .returned (.bool true) ∧ Below w.heap.size w w' := by
  have HA := Lib.hid fun (W : World) (B0 : Below w.heap.size w W) => (show PSl W W.heap.size a n A from (ha.below B0).more B0.size)
  have HBs := Lib.hid fun (W : World) (B0 : Below w.heap.size w W) => (show PSl W W.heap.size b m Bs from (hb.below B0).more B0.size)
  have hla := ha.1
  have hlb := hb.1
  clear ha hb
  by_cases hbig : 40 < n
  · have b0 : decide (40 < (n : Int)) = true := decide_eq_true (by omega)
    go_enter Try.func3, Try.ntmps3
    go_wp2_with fail
    refine (idx_alive _).mono ?_
    rintro e w1 ⟨rfl, B1⟩
    have HB1 := Lib.hid B1
    clear B1
    go_wp2_with fail
    go_ret
    exact ⟨rfl, HB1.out⟩
  have b0 : decide (40 < (n : Int)) = false := decide_eq_false (by omega)
  by_cases hbig2 : 40 < m
  · have b1 : decide (40 < (m : Int)) = true := decide_eq_true (by omega)
    go_enter Try.func3, Try.ntmps3
    go_wp2_with fail
    refine (idx_alive _).mono ?_
    rintro e w1 ⟨rfl, B1⟩
    have HB1 := Lib.hid B1
    clear B1
    go_wp2_with fail
    go_ret
    exact ⟨rfl, HB1.out⟩
  have b1 : decide (40 < (m : Int)) = false := decide_eq_false (by omega)
  have hn40 : n ≤ 40 := by omega
  have hm40 : m ≤ 40 := by omega
  have HN := Lib.hid (And.intro hn40 hm40)
  have HLA := Lib.hid hla
  have HLB := Lib.hid hlb
  clear hbig hbig2 hn hm hn40 hm40 hla hlb
  go_enter Try.func3, Try.ntmps3
  go_wp2_with fail
  refine (idx_alive _).mono ?_
  rintro e w1 ⟨rfl, B1⟩
  have HB1 := Lib.hid B1
  have E2 := Lib.hid (of_any5 a n c A w1 (HA.out _ B1) (by have := HN.out; omega))
  clear B1
  go_wp2_with fail
  refine E2.out.mono ?_
  rintro e w2 ⟨v2, rfl, ho2, B2⟩
  obtain ⟨a2, c2, rfl, -⟩ := own_form_any ho2
  have HB2 := Lib.hid (HB1.out.trans (B2.mono HB1.out.size))
  have E3 := Lib.hid (inew_any a2 n c2 A w2 (psl_own_same ho2 (HA.out _ HB1.out).2.1) (by have := HN.out; omega))
  clear ho2 B2 E2 HB1
  go_wp2_with fail
  refine E3.out.mono ?_
  rintro e w3 ⟨Bx, vx, rfl, hx, B3⟩
  have HB3 := Lib.hid (HB2.out.trans (B3.mono HB2.out.size))
  have HX3 := Lib.hid hx
  have E4 := Lib.hid (of_any5 b m d Bs w3 (HBs.out _ HB3.out) (by have := HN.out; omega))
  clear hx B3 E3 HB2
  go_wp2_with fail
  refine E4.out.mono ?_
  rintro e w4 ⟨v4, rfl, ho4, B4⟩
  obtain ⟨a4, c4, rfl, -⟩ := own_form_any ho4
  have HB4 := Lib.hid (HB3.out.trans (B4.mono HB3.out.size))
  have HX4 := Lib.hid (HX3.out.on B4)
  have E5 := Lib.hid (inew_any a4 m c4 Bs w4 (psl_own_same ho4 (HBs.out _ HB3.out).2.1) (by have := HN.out; omega))
  clear ho4 B4 E4 HB3 HX3
  go_wp2_with fail
  refine E5.out.mono ?_
  rintro e w5 ⟨By, vy, rfl, hy, B5⟩
  have HB5 := Lib.hid (HB4.out.trans (B5.mono HB4.out.size))
  have HX5 := Lib.hid (HX4.out.on B5)
  have HY5 := Lib.hid hy
  have E6 := Lib.hid (of_any5 a n c A w5 (HA.out _ HB5.out) (by have := HN.out; omega))
  clear hy B5 E5 HB4 HX4
  go_wp2_with fail
  refine E6.out.mono ?_
  rintro e w6 ⟨v6, rfl, ho6, B6⟩
  have HO6 := Lib.hid ho6
  have HC6 := Lib.hid B6
  have E7 := Lib.hid (of_any5 b m d Bs w6 (HBs.out _ (HB5.out.trans (B6.mono HB5.out.size))) (by have := HN.out; omega))
  clear ho6 B6 E6
  go_wp2_with fail
  refine E7.out.mono ?_
  rintro e w7 ⟨v7, rfl, ho7, B7⟩
  obtain ⟨a7, c7, rfl, -⟩ := own_form_any ho7
  have ho6 := own_belowI HO6.out B7 (Nat.le_refl _)
  have hc7 := HC6.out.trans (B7.mono HC6.out.size)
  have hn7 : a7 = none → m = 0 := fun e => by
    rcases ho7.2 with ⟨_, e2⟩ | ⟨g, cap, cur, e1, _⟩
    · exact e2
    · rw [e] at e1; cases e1
  obtain ⟨v8, w8, hr, ho8, hg8⟩ := iappend_any ho6 c7 (psl_own_same ho7 (HBs.out _ HB5.out).2.1) hn7 (by have := HN.out; omega) hc7.size
  have hc8 : Below w5.heap.size w5 w8 := hc7.grown hg8 hc7.size (fun k e => (ho6.lt k e).1)
  rw [← flatP_app] at ho8
  obtain ⟨a8, c8, rfl, -⟩ := own_form_any ho8
  have HB8 := Lib.hid (HB5.out.trans (hc8.mono HB5.out.size))
  have HX8 := Lib.hid (HX5.out.on hc8)
  have HY8 := Lib.hid (HY5.out.on hc8)
  have E9 := Lib.hid (inew_any a8 (n + m) c8 (A ++ Bs) w8 (psl_own_same ho8 (fun p hp => by
    rcases List.mem_append.1 hp with h | h
    · exact (HA.out _ HB5.out).2.1 p h
    · exact (HBs.out _ HB5.out).2.1 p h)) (by have := HN.out; omega))
  clear ho6 hc7 hn7 ho7 ho8 hg8 hc8 B7 E7 HO6 HC6 HB5 HX5 HY5
  go_wp2_with (at_builtin; refine list_run (by rfl) _ _ rfl rfl rfl hr ?_; clear hr)
  refine E9.out.mono ?_
  rintro e w9 ⟨Bz, vz, rfl, hz, B9⟩
  have HB9 := Lib.hid (HB8.out.trans (B9.mono HB8.out.size))
  have HX9 := Lib.hid (HX8.out.on B9)
  have HY9 := Lib.hid (HY8.out.on B9)
  have HZ9 := Lib.hid hz
  have E10 := Lib.hid (all_any hz)
  clear hz B9 E9 HB8 HX8 HY8
  have HAT := Lib.hid fun (z : PosR) (h : z ∈ insAll PosR.key [] (A ++ Bs)) => merge_at h
  have HLX := Lib.hid fun (p : PosR) (h : p ∈ insAll PosR.key [] A) => merge_l (Bs := Bs) (.inl h)
  have HLY := Lib.hid fun (p : PosR) (h : p ∈ insAll PosR.key [] Bs) => merge_l (A := A) (.inr h)
  have HLN := Lib.hid (merge_len A Bs)
  generalize insAll PosR.key [] (A ++ Bs) = Z at *
  generalize insAll PosR.key [] A = X at *
  generalize insAll PosR.key [] Bs = Y at *
  clear HN HLA HLB HA HBs
  go_wp2_with fail
  refine E10.out.mono ?_
  rintro e w10 ⟨v10, rfl, ho10, B10⟩
  obtain ⟨a10, c10, rfl, -⟩ := own_form_any ho10
  have HB10 := Lib.hid (HB9.out.trans (B10.mono HB9.out.size))
  have HX := Lib.hid fun (W : World) (B0 : Below w10.heap.size w10 W) => ((HX9.out.on B10).on B0)
  have HY := Lib.hid fun (W : World) (B0 : Below w10.heap.size w10 W) => ((HY9.out.on B10).on B0)
  have HZ := Lib.hid fun (W : World) (B0 : Below w10.heap.size w10 W) => ((HZ9.out.on B10).on B0)
  have HO := Lib.hid fun (W : World) (B0 : Below w10.heap.size w10 W) => own_belowI ho10 B0 (Nat.le_refl _)
  have hlz : (Z.length : Int) ≤ 4096 := by have := HZ9.out.len; omega
  have HSZ := Lib.hid HZ9.out.srt
  clear ho10 B10 E10 HB9 HX9 HY9 HZ9 b0 b1
  go_wp2_with fail
  go_loopw [9] (fun iv wr => ∃ i : Nat, i ≤ Z.length ∧ iv = .int .i64 i ∧ Below w10.heap.size w10 wr) (fun iv _ => Z.length - (intOf iv).toNat)
  case atStart => exact ⟨0, by omega, rfl, Below.refl _ _⟩
  case round =>
    obtain ⟨i, hi, rfl, hB⟩ := hrel
    have HB := Lib.hid hB
    clear hB
    by_cases hlt : i < Z.length
    · obtain ⟨g, rfl, -⟩ := own_some (HO.out _ HB.out) (by omega)
      obtain ⟨k0, -, -, -, -⟩ := own_cells (HO.out _ HB.out) i hlt rfl
      have hzm := HAT.out _ (getD_mem hlt)
      have HPR := Lib.hid fun (h0 : 0 < i) => getD_lt HSZ.out hlt h0
      have HCZ := Lib.hid fun (W : World) (B0 : Below w10.heap.size w10 W) => own_cells (HO.out W B0) i hlt rfl
      have HCP := Lib.hid fun (W : World) (B0 : Below w10.heap.size w10 W) (h0 : 0 < i) => (own_cells (HO.out W B0) (i - 1) (by omega) rfl).1
      generalize Z.getD i dP = z at *
      generalize Z.getD (i - 1) dP = z1 at *
      have hiz : (i : Int) < (Z.length : Int) := by omega
      rcases hzm with hy | ⟨hy, hx⟩
      · have EY := Lib.hid (find_any (HY.out _ HB.out) z.key)
        rw [hy] at EY
        skip
        clear hy
        go_wp2_with fail
        refine EY.out.mono ?_
        rintro e w11 hf
        obtain ⟨rfl, B11⟩ := hf.yes
        have HB11 := Lib.hid (HB.out.trans (B11.mono HB.out.size))
        clear hf B11 EY HB k0
        go_upto_region 11 with fail
        obtain ⟨w12, hw12, hP12, hB12⟩ : ∃ X, w11.alloc (.cells #[.int .u64 z.key, .int .i64 z.off, .int .i64 z.len, .int .u32 z.ck, .bool z.gone] 32) = X ∧ Blk X w11.heap.size 32 #[.int .u64 z.key, .int .i64 z.off, .int .i64 z.len, .int .u32 z.ck, .bool z.gone] ∧ Below w11.heap.size w11 X := ⟨_, rfl, Blk.made _ _ _, (Below.refl _ _).alloc (Nat.le_refl _) _⟩
        have HB12 := Lib.hid (HB11.out.trans (hB12.mono HB11.out.size))
        have HP12 := Lib.hid hP12
        rw [hw12]
        clear hw12 hP12 hB12 HB11
        generalize w11.heap.size = P at *
        obtain ⟨k0, -, -, -, -⟩ := HCZ.out _ HB12.out
        have EX := Lib.hid (find_any (HX.out _ HB12.out) z.key)
        skip
        go_wp2_with fail
        refine EX.out.mono ?_
        rintro e w13 ⟨q, cd, rfl, -, B13⟩
        have HB13 := Lib.hid (HB12.out.trans (B13.mono HB12.out.size))
        have HP13 := Lib.hid (HP12.out.below B13 HP12.out.lt)
        clear B13 EX HB12 HP12 k0
        go_upto_region 12 with fail
        obtain ⟨w14, hw14, hQ14, hB14⟩ : ∃ X, w13.alloc (.cells #[.int .u64 q.key, .int .i64 q.off, .int .i64 q.len, .int .u32 q.ck, .bool q.gone] 32) = X ∧ Blk X w13.heap.size 32 #[.int .u64 q.key, .int .i64 q.off, .int .i64 q.len, .int .u32 q.ck, .bool q.gone] ∧ Below w13.heap.size w13 X := ⟨_, rfl, Blk.made _ _ _, (Below.refl _ _).alloc (Nat.le_refl _) _⟩
        have HB14 := Lib.hid (HB13.out.trans (hB14.mono HB13.out.size))
        have HP14 := Lib.hid (HP13.out.below hB14 HP13.out.lt)
        have HQ14 := Lib.hid hQ14
        rw [hw14]
        clear hw14 hQ14 hB14 HB13 HP13
        generalize w13.heap.size = Q at *
        have hsame := fun W => ipos_same W z
        rcases Nat.eq_zero_or_pos i with hi0 | hi0
        · subst hi0
          refine wp_region_held_drew (S := fun W => Below w14.heap.size w14 W) (by kernel_rfl) ((Below.refl _ _).drew) (fun hS => ?_)
          refine wpAnyH_take (i := 0) (v := ?_) rfl (by kernel_rfl) (by kernel_rfl) (by kernel_rfl) (fun _ _ _ h => h) (Or.inl ⟨by kernel_rfl, ?_⟩) hS ?_
          rotate_left
          · intro W hW; go_simp; try with_reducible rfl
          refine wpAnyH_ready (rs := [1]) (by kernel_rfl) (by simp) ?_
          go_simp
          refine AllReadyH.cons (i := 1) rfl ?_ AllReadyH.nil
          intro K hK
          go_simp
          refine (code_c 0 _ (by decide)).mono ?_
          rintro e w15 ⟨rfl, rfl⟩
          have hT := hS
          go_simp
          refine hK.out _ _ ?_ (fun hN => ?_)
          · first | exact hT | exact hS | exact hS.alloc hS.size _ | exact hS.drew
          clear hK K
          try clear hT
          clear hS
          have hS := hN
          clear hN
          refine wpAnyH_take (i := 2) (v := ?_) rfl (by kernel_rfl) (by kernel_rfl) (by kernel_rfl) (fun _ _ _ h => h) (Or.inl ⟨by kernel_rfl, ?_⟩) hS ?_
          rotate_left
          · intro W hW; go_simp; try with_reducible rfl
          refine wpAnyH_take (i := 3) (v := ?_) rfl (by kernel_rfl) (by kernel_rfl) (by kernel_rfl) (fun _ _ _ h => h) (Or.inl ⟨by kernel_rfl, ?_⟩) hS ?_
          rotate_left
          · intro W hW; go_simp; try with_reducible rfl
          refine wpAnyH_take (i := 4) (v := ?_) rfl (by kernel_rfl) (by kernel_rfl) (by kernel_rfl) (fun _ _ _ h => h) (Or.inl ⟨by kernel_rfl, ?_⟩) hS ?_
          rotate_left
          · intro W hW; obtain ⟨p0, p1, p2, p3, p4⟩ := blk_fives (HP14.out.below hW HP14.out.lt); obtain ⟨q0, q1, q2, q3, q4⟩ := blk_fives (HQ14.out.below hW HQ14.out.lt); obtain ⟨z0, z1', z2, z3, z4⟩ := HCZ.out W (HB14.out.trans (hW.mono HB14.out.size)); skip; go_simp; try with_reducible rfl
          refine wpAnyH_take (i := 5) (v := ?_) rfl (by kernel_rfl) (by kernel_rfl) (by kernel_rfl) (fun _ _ _ h => h) (Or.inl ⟨by kernel_rfl, ?_⟩) hS ?_
          rotate_left
          · intro W hW; go_simp; try with_reducible rfl
          refine wpAnyH_take (i := 6) (v := ?_) rfl (by kernel_rfl) (by kernel_rfl) (by kernel_rfl) (fun _ _ _ h => h) (Or.inl ⟨by kernel_rfl, ?_⟩) hS ?_
          rotate_left
          · intro W hW; go_simp; try with_reducible rfl
          refine wpAnyH_take (i := 7) (v := ?_) rfl (by kernel_rfl) (by kernel_rfl) (by kernel_rfl) (fun _ _ _ h => h) (Or.inl ⟨by kernel_rfl, ?_⟩) hS ?_
          rotate_left
          · intro W hW; go_simp; try with_reducible rfl
          refine wpAnyH_take (i := 8) (v := ?_) rfl (by kernel_rfl) (by kernel_rfl) (by kernel_rfl) (fun _ _ _ h => h) (Or.inl ⟨by kernel_rfl, ?_⟩) hS ?_
          rotate_left
          · intro W hW; obtain ⟨p0, p1, p2, p3, p4⟩ := blk_fives (HP14.out.below hW HP14.out.lt); obtain ⟨q0, q1, q2, q3, q4⟩ := blk_fives (HQ14.out.below hW HQ14.out.lt); obtain ⟨z0, z1', z2, z3, z4⟩ := HCZ.out W (HB14.out.trans (hW.mono HB14.out.size)); skip; go_simp; try with_reducible rfl
          refine wpAnyH_take (i := 9) (v := ?_) rfl (by kernel_rfl) (by kernel_rfl) (by kernel_rfl) (fun _ _ _ h => h) (Or.inl ⟨by kernel_rfl, ?_⟩) hS ?_
          rotate_left
          · intro W hW; go_simp; try with_reducible rfl
          refine wpAnyH_take (i := 10) (v := ?_) rfl (by kernel_rfl) (by kernel_rfl) (by kernel_rfl) (fun _ _ _ h => h) (Or.inl ⟨by kernel_rfl, ?_⟩) hS ?_
          rotate_left
          · intro W hW; go_simp; try with_reducible rfl
          refine wpAnyH_take (i := 11) (v := ?_) rfl (by kernel_rfl) (by kernel_rfl) (by kernel_rfl) (fun _ _ _ h => h) (Or.inl ⟨by kernel_rfl, ?_⟩) hS ?_
          rotate_left
          · intro W hW; go_simp; try with_reducible rfl
          refine wpAnyH_take (i := 12) (v := ?_) rfl (by kernel_rfl) (by kernel_rfl) (by kernel_rfl) (fun _ _ _ h => h) (Or.inl ⟨by kernel_rfl, ?_⟩) hS ?_
          rotate_left
          · intro W hW; go_simp; try with_reducible rfl
          refine wpAnyH_ready (rs := [13]) (by kernel_rfl) (by simp) ?_
          go_simp
          refine AllReadyH.cons (i := 13) rfl ?_ AllReadyH.nil
          intro K hK
          go_simp
          refine (code_c 0 _ (by decide)).mono ?_
          rintro e w15 ⟨rfl, rfl⟩
          have hT := hS
          go_simp
          refine hK.out _ _ ?_ (fun hN => ?_)
          · first | exact hT | exact hS | exact hS.alloc hS.size _ | exact hS.drew
          clear hK K
          try clear hT
          clear hS
          have hS := hN
          clear hN
          refine wpAnyH_take (i := 14) (v := ?_) rfl (by kernel_rfl) (by kernel_rfl) (by kernel_rfl) (fun _ _ _ h => h) (Or.inl ⟨by kernel_rfl, ?_⟩) hS ?_
          rotate_left
          · intro W hW; go_simp; try with_reducible rfl
          refine wpAnyH_take (i := 15) (v := ?_) rfl (by kernel_rfl) (by kernel_rfl) (by kernel_rfl) (fun _ _ _ h => h) (Or.inl ⟨by kernel_rfl, ?_⟩) hS ?_
          rotate_left
          · intro W hW; go_simp; try with_reducible rfl
          refine wpAnyH_take (i := 16) (v := undef) rfl (by kernel_rfl) (by kernel_rfl) (by kernel_rfl) (fun _ _ _ h => h) (Or.inr ⟨by kernel_rfl, rfl⟩) hS ?_
          refine wpAnyH_take (i := 17) (v := undef) rfl (by kernel_rfl) (by kernel_rfl) (by kernel_rfl) (fun _ _ _ h => h) (Or.inr ⟨by kernel_rfl, rfl⟩) hS ?_
          refine wpAnyH_take (i := 18) (v := undef) rfl (by kernel_rfl) (by kernel_rfl) (by kernel_rfl) (fun _ _ _ h => h) (Or.inr ⟨by kernel_rfl, rfl⟩) hS ?_
          refine wpAnyH_take (i := 19) (v := undef) rfl (by kernel_rfl) (by kernel_rfl) (by kernel_rfl) (fun _ _ _ h => h) (Or.inr ⟨by kernel_rfl, rfl⟩) hS ?_
          refine wpAnyH_take (i := 20) (v := undef) rfl (by kernel_rfl) (by kernel_rfl) (by kernel_rfl) (fun _ _ _ h => h) (Or.inr ⟨by kernel_rfl, rfl⟩) hS ?_
          refine wpAnyH_take (i := 21) (v := undef) rfl (by kernel_rfl) (by kernel_rfl) (by kernel_rfl) (fun _ _ _ h => h) (Or.inr ⟨by kernel_rfl, rfl⟩) hS ?_
          refine wpAnyH_take (i := 22) (v := undef) rfl (by kernel_rfl) (by kernel_rfl) (by kernel_rfl) (fun _ _ _ h => h) (Or.inr ⟨by kernel_rfl, rfl⟩) hS ?_
          refine wpAnyH_take (i := 23) (v := undef) rfl (by kernel_rfl) (by kernel_rfl) (by kernel_rfl) (fun _ _ _ h => h) (Or.inr ⟨by kernel_rfl, rfl⟩) hS ?_
          refine wpAnyH_take (i := 24) (v := undef) rfl (by kernel_rfl) (by kernel_rfl) (by kernel_rfl) (fun _ _ _ h => h) (Or.inr ⟨by kernel_rfl, rfl⟩) hS ?_
          refine wpAnyH_take (i := 25) (v := undef) rfl (by kernel_rfl) (by kernel_rfl) (by kernel_rfl) (fun _ _ _ h => h) (Or.inr ⟨by kernel_rfl, rfl⟩) hS ?_
          refine wpAnyH_take (i := 26) (v := undef) rfl (by kernel_rfl) (by kernel_rfl) (by kernel_rfl) (fun _ _ _ h => h) (Or.inr ⟨by kernel_rfl, rfl⟩) hS ?_
          refine wpAnyH_take (i := 27) (v := ?_) rfl (by kernel_rfl) (by kernel_rfl) (by kernel_rfl) (fun _ _ _ h => h) (Or.inl ⟨by kernel_rfl, ?_⟩) hS ?_
          rotate_left
          · intro W hW; go_simp; try with_reducible rfl
          refine wpAnyH_take (i := 28) (v := ?_) rfl (by kernel_rfl) (by kernel_rfl) (by kernel_rfl) (fun _ _ _ h => h) (Or.inl ⟨by kernel_rfl, ?_⟩) hS ?_
          rotate_left
          · intro W hW; go_simp; try with_reducible rfl
          refine wpAnyH_take (i := 29) (v := ?_) rfl (by kernel_rfl) (by kernel_rfl) (by kernel_rfl) (fun _ _ _ h => h) (Or.inl ⟨by kernel_rfl, ?_⟩) hS ?_
          rotate_left
          · intro W hW; go_simp; try with_reducible rfl
          refine wpAnyH_take (i := 30) (v := ?_) rfl (by kernel_rfl) (by kernel_rfl) (by kernel_rfl) (fun _ _ _ h => h) (Or.inl ⟨by kernel_rfl, ?_⟩) hS ?_
          rotate_left
          · intro W hW; go_simp; try with_reducible rfl
          refine wpAnyH_take (i := 31) (v := ?_) rfl (by kernel_rfl) (by kernel_rfl) (by kernel_rfl) (fun _ _ _ h => h) (Or.inl ⟨by kernel_rfl, ?_⟩) hS ?_
          rotate_left
          · intro W hW; go_simp; try with_reducible rfl
          refine wpAnyH_take (i := 32) (v := ?_) rfl (by kernel_rfl) (by kernel_rfl) (by kernel_rfl) (fun _ _ _ h => h) (Or.inl ⟨by kernel_rfl, ?_⟩) hS ?_
          rotate_left
          · intro W hW; go_simp; try with_reducible rfl
          refine wpAnyH_take (i := 33) (v := undef) rfl (by kernel_rfl) (by kernel_rfl) (by kernel_rfl) (fun _ _ _ h => h) (Or.inr ⟨by kernel_rfl, rfl⟩) hS ?_
          refine wpAnyH_take (i := 34) (v := undef) rfl (by kernel_rfl) (by kernel_rfl) (by kernel_rfl) (fun _ _ _ h => h) (Or.inr ⟨by kernel_rfl, rfl⟩) hS ?_
          refine wpAnyH_take (i := 35) (v := undef) rfl (by kernel_rfl) (by kernel_rfl) (by kernel_rfl) (fun _ _ _ h => h) (Or.inr ⟨by kernel_rfl, rfl⟩) hS ?_
          refine wpAnyH_take (i := 36) (v := undef) rfl (by kernel_rfl) (by kernel_rfl) (by kernel_rfl) (fun _ _ _ h => h) (Or.inr ⟨by kernel_rfl, rfl⟩) hS ?_
          refine wpAnyH_take (i := 37) (v := undef) rfl (by kernel_rfl) (by kernel_rfl) (by kernel_rfl) (fun _ _ _ h => h) (Or.inr ⟨by kernel_rfl, rfl⟩) hS ?_
          refine wpAnyH_take (i := 38) (v := undef) rfl (by kernel_rfl) (by kernel_rfl) (by kernel_rfl) (fun _ _ _ h => h) (Or.inr ⟨by kernel_rfl, rfl⟩) hS ?_
          refine wpAnyH_take (i := 39) (v := undef) rfl (by kernel_rfl) (by kernel_rfl) (by kernel_rfl) (fun _ _ _ h => h) (Or.inr ⟨by kernel_rfl, rfl⟩) hS ?_
          refine wpAnyH_take (i := 40) (v := undef) rfl (by kernel_rfl) (by kernel_rfl) (by kernel_rfl) (fun _ _ _ h => h) (Or.inr ⟨by kernel_rfl, rfl⟩) hS ?_
          refine wpAnyH_take (i := 41) (v := undef) rfl (by kernel_rfl) (by kernel_rfl) (by kernel_rfl) (fun _ _ _ h => h) (Or.inr ⟨by kernel_rfl, rfl⟩) hS ?_
          refine wpAnyH_take (i := 42) (v := undef) rfl (by kernel_rfl) (by kernel_rfl) (by kernel_rfl) (fun _ _ _ h => h) (Or.inr ⟨by kernel_rfl, rfl⟩) hS ?_
          refine wpAnyH_take (i := 43) (v := undef) rfl (by kernel_rfl) (by kernel_rfl) (by kernel_rfl) (fun _ _ _ h => h) (Or.inr ⟨by kernel_rfl, rfl⟩) hS ?_
          refine wpAnyH_take (i := 44) (v := undef) rfl (by kernel_rfl) (by kernel_rfl) (by kernel_rfl) (fun _ _ _ h => h) (Or.inr ⟨by kernel_rfl, rfl⟩) hS ?_
          refine wpAnyH_take (i := 45) (v := ?_) rfl (by kernel_rfl) (by kernel_rfl) (by kernel_rfl) (fun _ _ _ h => h) (Or.inl ⟨by kernel_rfl, ?_⟩) hS ?_
          rotate_left
          · intro W hW; go_simp; try with_reducible rfl
          refine wpAnyH_take (i := 46) (v := ?_) rfl (by kernel_rfl) (by kernel_rfl) (by kernel_rfl) (fun _ _ _ h => h) (Or.inl ⟨by kernel_rfl, ?_⟩) hS ?_
          rotate_left
          · intro W hW; go_simp; try with_reducible rfl
          refine wpAnyH_done (by kernel_rfl) ?_ _
          go_simp
          have HB16 := Lib.hid (HB14.out.trans (hS.mono HB14.out.size))
          clear hS HB14 HP14 HQ14 hsame
          go_wp2_with fail
          go_roundw
          case rel => exact ⟨1, by omega, rfl, HB16.out⟩
          case measure => simp [intOf]; omega
        · have hb1 : decide ((0 : Int) < (i : Int)) = true := decide_eq_true (by omega)
          have hb1n : decide (0 < i) = true := decide_eq_true hi0
          have hpr := HPR.out hi0
          have hb2 : decide ((z.key : Int) ≤ (z1.key : Int)) = false := decide_eq_false (by omega)
          have hnk : ¬ (z.key ≤ z1.key) := by omega
          have hb3 : decide (z.key ≤ z1.key) = false := decide_eq_false hnk
          have hwi : IntKind.i64.wrap ((i : Int) - 1) = (i : Int) - 1 := by rw [IntKind.wrap_i64]; omega
          have htn : ((i : Int) - 1).toNat = i - 1 := by omega
          have hg0 : (0 : Int) ≤ (i : Int) - 1 := by omega
          have hg2 : (1 : Int) ≤ (i : Int) := by omega
          have hg1 : (i : Int) - 1 < (Z.length : Int) := by omega
          have HI0 := Lib.hid hi0
          clear hpr hi0
          refine wp_region_held_drew (S := fun W => Below w14.heap.size w14 W) (by kernel_rfl) ((Below.refl _ _).drew) (fun hS => ?_)
          refine wpAnyH_take (i := 0) (v := ?_) rfl (by kernel_rfl) (by kernel_rfl) (by kernel_rfl) (fun _ _ _ h => h) (Or.inl ⟨by kernel_rfl, ?_⟩) hS ?_
          rotate_left
          · intro W hW; go_simp; try with_reducible rfl
          refine wpAnyH_ready (rs := [1]) (by kernel_rfl) (by simp) ?_
          go_simp
          refine AllReadyH.cons (i := 1) rfl ?_ AllReadyH.nil
          intro K hK
          go_simp
          refine (code_c 0 _ (by decide)).mono ?_
          rintro e w15 ⟨rfl, rfl⟩
          have hT := hS
          go_simp
          refine hK.out _ _ ?_ (fun hN => ?_)
          · first | exact hT | exact hS | exact hS.alloc hS.size _ | exact hS.drew
          clear hK K
          try clear hT
          clear hS
          have hS := hN
          clear hN
          refine wpAnyH_take (i := 2) (v := ?_) rfl (by kernel_rfl) (by kernel_rfl) (by kernel_rfl) (fun _ _ _ h => h) (Or.inl ⟨by kernel_rfl, ?_⟩) hS ?_
          rotate_left
          · intro W hW; go_simp; try with_reducible rfl
          refine wpAnyH_take (i := 3) (v := ?_) rfl (by kernel_rfl) (by kernel_rfl) (by kernel_rfl) (fun _ _ _ h => h) (Or.inl ⟨by kernel_rfl, ?_⟩) hS ?_
          rotate_left
          · intro W hW; go_simp; try with_reducible rfl
          refine wpAnyH_take (i := 4) (v := ?_) rfl (by kernel_rfl) (by kernel_rfl) (by kernel_rfl) (fun _ _ _ h => h) (Or.inl ⟨by kernel_rfl, ?_⟩) hS ?_
          rotate_left
          · intro W hW; obtain ⟨p0, p1, p2, p3, p4⟩ := blk_fives (HP14.out.below hW HP14.out.lt); obtain ⟨q0, q1, q2, q3, q4⟩ := blk_fives (HQ14.out.below hW HQ14.out.lt); obtain ⟨z0, z1', z2, z3, z4⟩ := HCZ.out W (HB14.out.trans (hW.mono HB14.out.size)); have y0 := HCP.out W (HB14.out.trans (hW.mono HB14.out.size)) HI0.out; go_simp; try with_reducible rfl
          refine wpAnyH_take (i := 5) (v := ?_) rfl (by kernel_rfl) (by kernel_rfl) (by kernel_rfl) (fun _ _ _ h => h) (Or.inl ⟨by kernel_rfl, ?_⟩) hS ?_
          rotate_left
          · intro W hW; go_simp; try with_reducible rfl
          refine wpAnyH_take (i := 6) (v := ?_) rfl (by kernel_rfl) (by kernel_rfl) (by kernel_rfl) (fun _ _ _ h => h) (Or.inl ⟨by kernel_rfl, ?_⟩) hS ?_
          rotate_left
          · intro W hW; go_simp; try with_reducible rfl
          refine wpAnyH_take (i := 7) (v := ?_) rfl (by kernel_rfl) (by kernel_rfl) (by kernel_rfl) (fun _ _ _ h => h) (Or.inl ⟨by kernel_rfl, ?_⟩) hS ?_
          rotate_left
          · intro W hW; go_simp; try with_reducible rfl
          refine wpAnyH_take (i := 8) (v := ?_) rfl (by kernel_rfl) (by kernel_rfl) (by kernel_rfl) (fun _ _ _ h => h) (Or.inl ⟨by kernel_rfl, ?_⟩) hS ?_
          rotate_left
          · intro W hW; obtain ⟨p0, p1, p2, p3, p4⟩ := blk_fives (HP14.out.below hW HP14.out.lt); obtain ⟨q0, q1, q2, q3, q4⟩ := blk_fives (HQ14.out.below hW HQ14.out.lt); obtain ⟨z0, z1', z2, z3, z4⟩ := HCZ.out W (HB14.out.trans (hW.mono HB14.out.size)); have y0 := HCP.out W (HB14.out.trans (hW.mono HB14.out.size)) HI0.out; go_simp; try with_reducible rfl
          refine wpAnyH_take (i := 9) (v := ?_) rfl (by kernel_rfl) (by kernel_rfl) (by kernel_rfl) (fun _ _ _ h => h) (Or.inl ⟨by kernel_rfl, ?_⟩) hS ?_
          rotate_left
          · intro W hW; go_simp; try with_reducible rfl
          refine wpAnyH_take (i := 10) (v := ?_) rfl (by kernel_rfl) (by kernel_rfl) (by kernel_rfl) (fun _ _ _ h => h) (Or.inl ⟨by kernel_rfl, ?_⟩) hS ?_
          rotate_left
          · intro W hW; go_simp; try with_reducible rfl
          refine wpAnyH_take (i := 11) (v := ?_) rfl (by kernel_rfl) (by kernel_rfl) (by kernel_rfl) (fun _ _ _ h => h) (Or.inl ⟨by kernel_rfl, ?_⟩) hS ?_
          rotate_left
          · intro W hW; go_simp; try with_reducible rfl
          refine wpAnyH_take (i := 12) (v := ?_) rfl (by kernel_rfl) (by kernel_rfl) (by kernel_rfl) (fun _ _ _ h => h) (Or.inl ⟨by kernel_rfl, ?_⟩) hS ?_
          rotate_left
          · intro W hW; go_simp; try with_reducible rfl
          refine wpAnyH_ready (rs := [13]) (by kernel_rfl) (by simp) ?_
          go_simp
          refine AllReadyH.cons (i := 13) rfl ?_ AllReadyH.nil
          intro K hK
          go_simp
          refine (code_c 0 _ (by decide)).mono ?_
          rintro e w15 ⟨rfl, rfl⟩
          have hT := hS
          go_simp
          refine hK.out _ _ ?_ (fun hN => ?_)
          · first | exact hT | exact hS | exact hS.alloc hS.size _ | exact hS.drew
          clear hK K
          try clear hT
          clear hS
          have hS := hN
          clear hN
          refine wpAnyH_take (i := 14) (v := ?_) rfl (by kernel_rfl) (by kernel_rfl) (by kernel_rfl) (fun _ _ _ h => h) (Or.inl ⟨by kernel_rfl, ?_⟩) hS ?_
          rotate_left
          · intro W hW; go_simp; try with_reducible rfl
          refine wpAnyH_take (i := 15) (v := ?_) rfl (by kernel_rfl) (by kernel_rfl) (by kernel_rfl) (fun _ _ _ h => h) (Or.inl ⟨by kernel_rfl, ?_⟩) hS ?_
          rotate_left
          · intro W hW; go_simp; try with_reducible rfl
          refine wpAnyH_take (i := 16) (v := undef) rfl (by kernel_rfl) (by kernel_rfl) (by kernel_rfl) (fun _ _ _ h => h) (Or.inr ⟨by kernel_rfl, rfl⟩) hS ?_
          refine wpAnyH_take (i := 17) (v := undef) rfl (by kernel_rfl) (by kernel_rfl) (by kernel_rfl) (fun _ _ _ h => h) (Or.inr ⟨by kernel_rfl, rfl⟩) hS ?_
          refine wpAnyH_take (i := 18) (v := undef) rfl (by kernel_rfl) (by kernel_rfl) (by kernel_rfl) (fun _ _ _ h => h) (Or.inr ⟨by kernel_rfl, rfl⟩) hS ?_
          refine wpAnyH_take (i := 19) (v := undef) rfl (by kernel_rfl) (by kernel_rfl) (by kernel_rfl) (fun _ _ _ h => h) (Or.inr ⟨by kernel_rfl, rfl⟩) hS ?_
          refine wpAnyH_take (i := 20) (v := undef) rfl (by kernel_rfl) (by kernel_rfl) (by kernel_rfl) (fun _ _ _ h => h) (Or.inr ⟨by kernel_rfl, rfl⟩) hS ?_
          refine wpAnyH_take (i := 21) (v := undef) rfl (by kernel_rfl) (by kernel_rfl) (by kernel_rfl) (fun _ _ _ h => h) (Or.inr ⟨by kernel_rfl, rfl⟩) hS ?_
          refine wpAnyH_take (i := 22) (v := undef) rfl (by kernel_rfl) (by kernel_rfl) (by kernel_rfl) (fun _ _ _ h => h) (Or.inr ⟨by kernel_rfl, rfl⟩) hS ?_
          refine wpAnyH_take (i := 23) (v := undef) rfl (by kernel_rfl) (by kernel_rfl) (by kernel_rfl) (fun _ _ _ h => h) (Or.inr ⟨by kernel_rfl, rfl⟩) hS ?_
          refine wpAnyH_take (i := 24) (v := undef) rfl (by kernel_rfl) (by kernel_rfl) (by kernel_rfl) (fun _ _ _ h => h) (Or.inr ⟨by kernel_rfl, rfl⟩) hS ?_
          refine wpAnyH_take (i := 25) (v := undef) rfl (by kernel_rfl) (by kernel_rfl) (by kernel_rfl) (fun _ _ _ h => h) (Or.inr ⟨by kernel_rfl, rfl⟩) hS ?_
          refine wpAnyH_take (i := 26) (v := undef) rfl (by kernel_rfl) (by kernel_rfl) (by kernel_rfl) (fun _ _ _ h => h) (Or.inr ⟨by kernel_rfl, rfl⟩) hS ?_
          refine wpAnyH_take (i := 27) (v := ?_) rfl (by kernel_rfl) (by kernel_rfl) (by kernel_rfl) (fun _ _ _ h => h) (Or.inl ⟨by kernel_rfl, ?_⟩) hS ?_
          rotate_left
          · intro W hW; go_simp; try with_reducible rfl
          refine wpAnyH_take (i := 28) (v := ?_) rfl (by kernel_rfl) (by kernel_rfl) (by kernel_rfl) (fun _ _ _ h => h) (Or.inl ⟨by kernel_rfl, ?_⟩) hS ?_
          rotate_left
          · intro W hW; go_simp; try with_reducible rfl
          refine wpAnyH_take (i := 29) (v := ?_) rfl (by kernel_rfl) (by kernel_rfl) (by kernel_rfl) (fun _ _ _ h => h) (Or.inl ⟨by kernel_rfl, ?_⟩) hS ?_
          rotate_left
          · intro W hW; go_simp; try with_reducible rfl
          refine wpAnyH_take (i := 30) (v := ?_) rfl (by kernel_rfl) (by kernel_rfl) (by kernel_rfl) (fun _ _ _ h => h) (Or.inl ⟨by kernel_rfl, ?_⟩) hS ?_
          rotate_left
          · intro W hW; go_simp; try with_reducible rfl
          refine wpAnyH_take (i := 31) (v := ?_) rfl (by kernel_rfl) (by kernel_rfl) (by kernel_rfl) (fun _ _ _ h => h) (Or.inl ⟨by kernel_rfl, ?_⟩) hS ?_
          rotate_left
          · intro W hW; go_simp; try with_reducible rfl
          refine wpAnyH_take (i := 32) (v := ?_) rfl (by kernel_rfl) (by kernel_rfl) (by kernel_rfl) (fun _ _ _ h => h) (Or.inl ⟨by kernel_rfl, ?_⟩) hS ?_
          rotate_left
          · intro W hW; go_simp; try with_reducible rfl
          refine wpAnyH_take (i := 33) (v := ?_) rfl (by kernel_rfl) (by kernel_rfl) (by kernel_rfl) (fun _ _ _ h => h) (Or.inl ⟨by kernel_rfl, ?_⟩) hS ?_
          rotate_left
          · intro W hW; go_simp; try with_reducible rfl
          refine wpAnyH_take (i := 34) (v := ?_) rfl (by kernel_rfl) (by kernel_rfl) (by kernel_rfl) (fun _ _ _ h => h) (Or.inl ⟨by kernel_rfl, ?_⟩) hS ?_
          rotate_left
          · intro W hW; go_simp; try with_reducible rfl
          refine wpAnyH_take (i := 35) (v := ?_) rfl (by kernel_rfl) (by kernel_rfl) (by kernel_rfl) (fun _ _ _ h => h) (Or.inl ⟨by kernel_rfl, ?_⟩) hS ?_
          rotate_left
          · intro W hW; go_simp; try with_reducible rfl
          refine wpAnyH_take (i := 36) (v := ?_) rfl (by kernel_rfl) (by kernel_rfl) (by kernel_rfl) (fun _ _ _ h => h) (Or.inl ⟨by kernel_rfl, ?_⟩) hS ?_
          rotate_left
          · intro W hW; go_simp; try with_reducible rfl
          refine wpAnyH_take (i := 37) (v := ?_) rfl (by kernel_rfl) (by kernel_rfl) (by kernel_rfl) (fun _ _ _ h => h) (Or.inl ⟨by kernel_rfl, ?_⟩) hS ?_
          rotate_left
          · intro W hW; go_simp; try with_reducible rfl
          refine wpAnyH_take (i := 38) (v := ?_) rfl (by kernel_rfl) (by kernel_rfl) (by kernel_rfl) (fun _ _ _ h => h) (Or.inl ⟨by kernel_rfl, ?_⟩) hS ?_
          rotate_left
          · intro W hW; obtain ⟨p0, p1, p2, p3, p4⟩ := blk_fives (HP14.out.below hW HP14.out.lt); obtain ⟨q0, q1, q2, q3, q4⟩ := blk_fives (HQ14.out.below hW HQ14.out.lt); obtain ⟨z0, z1', z2, z3, z4⟩ := HCZ.out W (HB14.out.trans (hW.mono HB14.out.size)); have y0 := HCP.out W (HB14.out.trans (hW.mono HB14.out.size)) HI0.out; go_simp; try with_reducible rfl
          refine wpAnyH_take (i := 39) (v := ?_) rfl (by kernel_rfl) (by kernel_rfl) (by kernel_rfl) (fun _ _ _ h => h) (Or.inl ⟨by kernel_rfl, ?_⟩) hS ?_
          rotate_left
          · intro W hW; go_simp; try with_reducible rfl
          refine wpAnyH_take (i := 40) (v := ?_) rfl (by kernel_rfl) (by kernel_rfl) (by kernel_rfl) (fun _ _ _ h => h) (Or.inl ⟨by kernel_rfl, ?_⟩) hS ?_
          rotate_left
          · intro W hW; go_simp; try with_reducible rfl
          refine wpAnyH_take (i := 41) (v := ?_) rfl (by kernel_rfl) (by kernel_rfl) (by kernel_rfl) (fun _ _ _ h => h) (Or.inl ⟨by kernel_rfl, ?_⟩) hS ?_
          rotate_left
          · intro W hW; go_simp; try with_reducible rfl
          refine wpAnyH_take (i := 42) (v := ?_) rfl (by kernel_rfl) (by kernel_rfl) (by kernel_rfl) (fun _ _ _ h => h) (Or.inl ⟨by kernel_rfl, ?_⟩) hS ?_
          rotate_left
          · intro W hW; go_simp; try with_reducible rfl
          refine wpAnyH_take (i := 43) (v := ?_) rfl (by kernel_rfl) (by kernel_rfl) (by kernel_rfl) (fun _ _ _ h => h) (Or.inl ⟨by kernel_rfl, ?_⟩) hS ?_
          rotate_left
          · intro W hW; obtain ⟨p0, p1, p2, p3, p4⟩ := blk_fives (HP14.out.below hW HP14.out.lt); obtain ⟨q0, q1, q2, q3, q4⟩ := blk_fives (HQ14.out.below hW HQ14.out.lt); obtain ⟨z0, z1', z2, z3, z4⟩ := HCZ.out W (HB14.out.trans (hW.mono HB14.out.size)); have y0 := HCP.out W (HB14.out.trans (hW.mono HB14.out.size)) HI0.out; go_simp; try with_reducible rfl
          refine wpAnyH_take (i := 44) (v := ?_) rfl (by kernel_rfl) (by kernel_rfl) (by kernel_rfl) (fun _ _ _ h => h) (Or.inl ⟨by kernel_rfl, ?_⟩) hS ?_
          rotate_left
          · intro W hW; go_simp; try with_reducible rfl
          refine wpAnyH_take (i := 45) (v := ?_) rfl (by kernel_rfl) (by kernel_rfl) (by kernel_rfl) (fun _ _ _ h => h) (Or.inl ⟨by kernel_rfl, ?_⟩) hS ?_
          rotate_left
          · intro W hW; go_simp; try with_reducible rfl
          refine wpAnyH_take (i := 46) (v := ?_) rfl (by kernel_rfl) (by kernel_rfl) (by kernel_rfl) (fun _ _ _ h => h) (Or.inl ⟨by kernel_rfl, ?_⟩) hS ?_
          rotate_left
          · intro W hW; go_simp; try with_reducible rfl
          refine wpAnyH_done (by kernel_rfl) ?_ _
          go_simp
          have HB16 := Lib.hid (HB14.out.trans (hS.mono HB14.out.size))
          clear hS HB14 HP14 HQ14 hsame
          go_wp2_with fail
          go_roundw
          case rel => exact ⟨i + 1, by omega, by go_num, HB16.out⟩
          case measure => simp [intOf]; omega
      · have EY := Lib.hid (find_any (HY.out _ HB.out) z.key)
        rw [hy] at EY
        have HXX := Lib.hid hx
        clear hx
        clear hy
        go_wp2_with fail
        refine EY.out.mono ?_
        rintro e w11 hf
        obtain ⟨rfl, B11⟩ := hf.no
        have HB11 := Lib.hid (HB.out.trans (B11.mono HB.out.size))
        clear hf B11 EY HB k0
        go_upto_region 11 with fail
        obtain ⟨w12, hw12, hP12, hB12⟩ : ∃ X, w11.alloc (.cells #[.int .u64 0, .int .i64 0, .int .i64 0, .int .u32 0, .bool false] 32) = X ∧ Blk X w11.heap.size 32 #[.int .u64 0, .int .i64 0, .int .i64 0, .int .u32 0, .bool false] ∧ Below w11.heap.size w11 X := ⟨_, rfl, Blk.made _ _ _, (Below.refl _ _).alloc (Nat.le_refl _) _⟩
        have HB12 := Lib.hid (HB11.out.trans (hB12.mono HB11.out.size))
        have HP12 := Lib.hid hP12
        rw [hw12]
        clear hw12 hP12 hB12 HB11
        generalize w11.heap.size = P at *
        obtain ⟨k0, -, -, -, -⟩ := HCZ.out _ HB12.out
        have EX := Lib.hid (find_any (HX.out _ HB12.out) z.key)
        rw [HXX.out] at EX
        go_wp2_with fail
        refine EX.out.mono ?_
        rintro e w13 hf
        obtain ⟨rfl, B13⟩ := hf.yes
        clear hf
        have HB13 := Lib.hid (HB12.out.trans (B13.mono HB12.out.size))
        have HP13 := Lib.hid (HP12.out.below B13 HP12.out.lt)
        clear B13 EX HB12 HP12 k0
        go_upto_region 12 with fail
        obtain ⟨w14, hw14, hQ14, hB14⟩ : ∃ X, w13.alloc (.cells #[.int .u64 z.key, .int .i64 z.off, .int .i64 z.len, .int .u32 z.ck, .bool z.gone] 32) = X ∧ Blk X w13.heap.size 32 #[.int .u64 z.key, .int .i64 z.off, .int .i64 z.len, .int .u32 z.ck, .bool z.gone] ∧ Below w13.heap.size w13 X := ⟨_, rfl, Blk.made _ _ _, (Below.refl _ _).alloc (Nat.le_refl _) _⟩
        have HB14 := Lib.hid (HB13.out.trans (hB14.mono HB13.out.size))
        have HP14 := Lib.hid (HP13.out.below hB14 HP13.out.lt)
        have HQ14 := Lib.hid hQ14
        rw [hw14]
        clear hw14 hQ14 hB14 HB13 HP13
        generalize w13.heap.size = Q at *
        have hsame := fun W => ipos_same W z
        rcases Nat.eq_zero_or_pos i with hi0 | hi0
        · subst hi0
          refine wp_region_held_drew (S := fun W => Below w14.heap.size w14 W) (by kernel_rfl) ((Below.refl _ _).drew) (fun hS => ?_)
          refine wpAnyH_take (i := 0) (v := ?_) rfl (by kernel_rfl) (by kernel_rfl) (by kernel_rfl) (fun _ _ _ h => h) (Or.inl ⟨by kernel_rfl, ?_⟩) hS ?_
          rotate_left
          · intro W hW; go_simp; try with_reducible rfl
          refine wpAnyH_ready (rs := [1]) (by kernel_rfl) (by simp) ?_
          go_simp
          refine AllReadyH.cons (i := 1) rfl ?_ AllReadyH.nil
          intro K hK
          go_simp
          refine (code_c 6 _ (by decide)).mono ?_
          rintro e w15 ⟨rfl, rfl⟩
          have hT := hS
          go_simp
          refine hK.out _ _ ?_ (fun hN => ?_)
          · first | exact hT | exact hS | exact hS.alloc hS.size _ | exact hS.drew
          clear hK K
          try clear hT
          clear hS
          have hS := hN
          clear hN
          refine wpAnyH_take (i := 2) (v := ?_) rfl (by kernel_rfl) (by kernel_rfl) (by kernel_rfl) (fun _ _ _ h => h) (Or.inl ⟨by kernel_rfl, ?_⟩) hS ?_
          rotate_left
          · intro W hW; go_simp; try with_reducible rfl
          refine wpAnyH_take (i := 3) (v := ?_) rfl (by kernel_rfl) (by kernel_rfl) (by kernel_rfl) (fun _ _ _ h => h) (Or.inl ⟨by kernel_rfl, ?_⟩) hS ?_
          rotate_left
          · intro W hW; go_simp; try with_reducible rfl
          refine wpAnyH_take (i := 4) (v := undef) rfl (by kernel_rfl) (by kernel_rfl) (by kernel_rfl) (fun _ _ _ h => h) (Or.inr ⟨by kernel_rfl, rfl⟩) hS ?_
          refine wpAnyH_take (i := 5) (v := undef) rfl (by kernel_rfl) (by kernel_rfl) (by kernel_rfl) (fun _ _ _ h => h) (Or.inr ⟨by kernel_rfl, rfl⟩) hS ?_
          refine wpAnyH_take (i := 6) (v := undef) rfl (by kernel_rfl) (by kernel_rfl) (by kernel_rfl) (fun _ _ _ h => h) (Or.inr ⟨by kernel_rfl, rfl⟩) hS ?_
          refine wpAnyH_take (i := 7) (v := undef) rfl (by kernel_rfl) (by kernel_rfl) (by kernel_rfl) (fun _ _ _ h => h) (Or.inr ⟨by kernel_rfl, rfl⟩) hS ?_
          refine wpAnyH_take (i := 8) (v := undef) rfl (by kernel_rfl) (by kernel_rfl) (by kernel_rfl) (fun _ _ _ h => h) (Or.inr ⟨by kernel_rfl, rfl⟩) hS ?_
          refine wpAnyH_take (i := 9) (v := undef) rfl (by kernel_rfl) (by kernel_rfl) (by kernel_rfl) (fun _ _ _ h => h) (Or.inr ⟨by kernel_rfl, rfl⟩) hS ?_
          refine wpAnyH_take (i := 10) (v := ?_) rfl (by kernel_rfl) (by kernel_rfl) (by kernel_rfl) (fun _ _ _ h => h) (Or.inl ⟨by kernel_rfl, ?_⟩) hS ?_
          rotate_left
          · intro W hW; go_simp; try with_reducible rfl
          refine wpAnyH_take (i := 11) (v := ?_) rfl (by kernel_rfl) (by kernel_rfl) (by kernel_rfl) (fun _ _ _ h => h) (Or.inl ⟨by kernel_rfl, ?_⟩) hS ?_
          rotate_left
          · intro W hW; go_simp; try with_reducible rfl
          refine wpAnyH_take (i := 12) (v := ?_) rfl (by kernel_rfl) (by kernel_rfl) (by kernel_rfl) (fun _ _ _ h => h) (Or.inl ⟨by kernel_rfl, ?_⟩) hS ?_
          rotate_left
          · intro W hW; go_simp; try with_reducible rfl
          refine wpAnyH_ready (rs := [13]) (by kernel_rfl) (by simp) ?_
          go_simp
          refine AllReadyH.cons (i := 13) rfl ?_ AllReadyH.nil
          intro K hK
          go_simp
          refine (code_c 6 _ (by decide)).mono ?_
          rintro e w15 ⟨rfl, rfl⟩
          have hT := hS
          go_simp
          refine hK.out _ _ ?_ (fun hN => ?_)
          · first | exact hT | exact hS | exact hS.alloc hS.size _ | exact hS.drew
          clear hK K
          try clear hT
          clear hS
          have hS := hN
          clear hN
          refine wpAnyH_take (i := 14) (v := ?_) rfl (by kernel_rfl) (by kernel_rfl) (by kernel_rfl) (fun _ _ _ h => h) (Or.inl ⟨by kernel_rfl, ?_⟩) hS ?_
          rotate_left
          · intro W hW; go_simp; try with_reducible rfl
          refine wpAnyH_take (i := 15) (v := ?_) rfl (by kernel_rfl) (by kernel_rfl) (by kernel_rfl) (fun _ _ _ h => h) (Or.inl ⟨by kernel_rfl, ?_⟩) hS ?_
          rotate_left
          · intro W hW; go_simp; try with_reducible rfl
          refine wpAnyH_take (i := 16) (v := ?_) rfl (by kernel_rfl) (by kernel_rfl) (by kernel_rfl) (fun _ _ _ h => h) (Or.inl ⟨by kernel_rfl, ?_⟩) hS ?_
          rotate_left
          · intro W hW; go_simp; try with_reducible rfl
          refine wpAnyH_ready (rs := [17]) (by kernel_rfl) (by simp) ?_
          go_simp
          refine AllReadyH.cons (i := 17) rfl ?_ AllReadyH.nil
          intro K hK
          go_simp
          refine (code_c 0 _ (by decide)).mono ?_
          rintro e w15 ⟨rfl, rfl⟩
          have hT := hS
          go_simp
          refine hK.out _ _ ?_ (fun hN => ?_)
          · first | exact hT | exact hS | exact hS.alloc hS.size _ | exact hS.drew
          clear hK K
          try clear hT
          clear hS
          have hS := hN
          clear hN
          refine wpAnyH_take (i := 18) (v := ?_) rfl (by kernel_rfl) (by kernel_rfl) (by kernel_rfl) (fun _ _ _ h => h) (Or.inl ⟨by kernel_rfl, ?_⟩) hS ?_
          rotate_left
          · intro W hW; go_simp; try with_reducible rfl
          refine wpAnyH_take (i := 19) (v := ?_) rfl (by kernel_rfl) (by kernel_rfl) (by kernel_rfl) (fun _ _ _ h => h) (Or.inl ⟨by kernel_rfl, ?_⟩) hS ?_
          rotate_left
          · intro W hW; go_simp; try with_reducible rfl
          refine wpAnyH_take (i := 20) (v := ?_) rfl (by kernel_rfl) (by kernel_rfl) (by kernel_rfl) (fun _ _ _ h => h) (Or.inl ⟨by kernel_rfl, ?_⟩) hS ?_
          rotate_left
          · intro W hW; obtain ⟨p0, p1, p2, p3, p4⟩ := blk_fives (HP14.out.below hW HP14.out.lt); obtain ⟨q0, q1, q2, q3, q4⟩ := blk_fives (HQ14.out.below hW HQ14.out.lt); obtain ⟨z0, z1', z2, z3, z4⟩ := HCZ.out W (HB14.out.trans (hW.mono HB14.out.size)); skip; go_simp; try with_reducible rfl
          refine wpAnyH_take (i := 21) (v := ?_) rfl (by kernel_rfl) (by kernel_rfl) (by kernel_rfl) (fun _ _ _ h => h) (Or.inl ⟨by kernel_rfl, ?_⟩) hS ?_
          rotate_left
          · intro W hW; go_simp; try with_reducible rfl
          refine wpAnyH_take (i := 22) (v := ?_) rfl (by kernel_rfl) (by kernel_rfl) (by kernel_rfl) (fun _ _ _ h => h) (Or.inl ⟨by kernel_rfl, ?_⟩) hS ?_
          rotate_left
          · intro W hW; go_simp; try with_reducible rfl
          refine wpAnyH_take (i := 23) (v := ?_) rfl (by kernel_rfl) (by kernel_rfl) (by kernel_rfl) (fun _ _ _ h => h) (Or.inl ⟨by kernel_rfl, ?_⟩) hS ?_
          rotate_left
          · intro W hW; go_simp; try with_reducible rfl
          refine wpAnyH_take (i := 24) (v := ?_) rfl (by kernel_rfl) (by kernel_rfl) (by kernel_rfl) (fun _ _ _ h => h) (Or.inl ⟨by kernel_rfl, ?_⟩) hS ?_
          rotate_left
          · intro W hW; obtain ⟨p0, p1, p2, p3, p4⟩ := blk_fives (HP14.out.below hW HP14.out.lt); obtain ⟨q0, q1, q2, q3, q4⟩ := blk_fives (HQ14.out.below hW HQ14.out.lt); obtain ⟨z0, z1', z2, z3, z4⟩ := HCZ.out W (HB14.out.trans (hW.mono HB14.out.size)); skip; go_simp; try with_reducible rfl
          refine wpAnyH_take (i := 25) (v := ?_) rfl (by kernel_rfl) (by kernel_rfl) (by kernel_rfl) (fun _ _ _ h => h) (Or.inl ⟨by kernel_rfl, ?_⟩) hS ?_
          rotate_left
          · intro W hW; go_simp; try with_reducible rfl
          refine wpAnyH_take (i := 26) (v := ?_) rfl (by kernel_rfl) (by kernel_rfl) (by kernel_rfl) (fun _ _ _ h => h) (Or.inl ⟨by kernel_rfl, ?_⟩) hS ?_
          rotate_left
          · intro W hW; go_simp; try with_reducible rfl
          refine wpAnyH_take (i := 27) (v := ?_) rfl (by kernel_rfl) (by kernel_rfl) (by kernel_rfl) (fun _ _ _ h => h) (Or.inl ⟨by kernel_rfl, ?_⟩) hS ?_
          rotate_left
          · intro W hW; go_simp; try with_reducible rfl
          refine wpAnyH_take (i := 28) (v := ?_) rfl (by kernel_rfl) (by kernel_rfl) (by kernel_rfl) (fun _ _ _ h => h) (Or.inl ⟨by kernel_rfl, ?_⟩) hS ?_
          rotate_left
          · intro W hW; go_simp; try with_reducible rfl
          refine wpAnyH_take (i := 29) (v := ?_) rfl (by kernel_rfl) (by kernel_rfl) (by kernel_rfl) (fun _ _ _ h => h) (Or.inl ⟨by kernel_rfl, ?_⟩) hS ?_
          rotate_left
          · intro W hW; go_simp; try with_reducible rfl
          refine wpAnyH_take (i := 30) (v := ?_) rfl (by kernel_rfl) (by kernel_rfl) (by kernel_rfl) (fun _ _ _ h => h) (Or.inl ⟨by kernel_rfl, ?_⟩) hS ?_
          rotate_left
          · intro W hW; go_simp; try with_reducible rfl
          refine wpAnyH_take (i := 31) (v := ?_) rfl (by kernel_rfl) (by kernel_rfl) (by kernel_rfl) (fun _ _ _ h => h) (Or.inl ⟨by kernel_rfl, ?_⟩) hS ?_
          rotate_left
          · intro W hW; go_simp; try with_reducible rfl
          refine wpAnyH_take (i := 32) (v := ?_) rfl (by kernel_rfl) (by kernel_rfl) (by kernel_rfl) (fun _ _ _ h => h) (Or.inl ⟨by kernel_rfl, ?_⟩) hS ?_
          rotate_left
          · intro W hW; go_simp; try with_reducible rfl
          refine wpAnyH_take (i := 33) (v := undef) rfl (by kernel_rfl) (by kernel_rfl) (by kernel_rfl) (fun _ _ _ h => h) (Or.inr ⟨by kernel_rfl, rfl⟩) hS ?_
          refine wpAnyH_take (i := 34) (v := undef) rfl (by kernel_rfl) (by kernel_rfl) (by kernel_rfl) (fun _ _ _ h => h) (Or.inr ⟨by kernel_rfl, rfl⟩) hS ?_
          refine wpAnyH_take (i := 35) (v := undef) rfl (by kernel_rfl) (by kernel_rfl) (by kernel_rfl) (fun _ _ _ h => h) (Or.inr ⟨by kernel_rfl, rfl⟩) hS ?_
          refine wpAnyH_take (i := 36) (v := undef) rfl (by kernel_rfl) (by kernel_rfl) (by kernel_rfl) (fun _ _ _ h => h) (Or.inr ⟨by kernel_rfl, rfl⟩) hS ?_
          refine wpAnyH_take (i := 37) (v := undef) rfl (by kernel_rfl) (by kernel_rfl) (by kernel_rfl) (fun _ _ _ h => h) (Or.inr ⟨by kernel_rfl, rfl⟩) hS ?_
          refine wpAnyH_take (i := 38) (v := undef) rfl (by kernel_rfl) (by kernel_rfl) (by kernel_rfl) (fun _ _ _ h => h) (Or.inr ⟨by kernel_rfl, rfl⟩) hS ?_
          refine wpAnyH_take (i := 39) (v := undef) rfl (by kernel_rfl) (by kernel_rfl) (by kernel_rfl) (fun _ _ _ h => h) (Or.inr ⟨by kernel_rfl, rfl⟩) hS ?_
          refine wpAnyH_take (i := 40) (v := undef) rfl (by kernel_rfl) (by kernel_rfl) (by kernel_rfl) (fun _ _ _ h => h) (Or.inr ⟨by kernel_rfl, rfl⟩) hS ?_
          refine wpAnyH_take (i := 41) (v := undef) rfl (by kernel_rfl) (by kernel_rfl) (by kernel_rfl) (fun _ _ _ h => h) (Or.inr ⟨by kernel_rfl, rfl⟩) hS ?_
          refine wpAnyH_take (i := 42) (v := undef) rfl (by kernel_rfl) (by kernel_rfl) (by kernel_rfl) (fun _ _ _ h => h) (Or.inr ⟨by kernel_rfl, rfl⟩) hS ?_
          refine wpAnyH_take (i := 43) (v := undef) rfl (by kernel_rfl) (by kernel_rfl) (by kernel_rfl) (fun _ _ _ h => h) (Or.inr ⟨by kernel_rfl, rfl⟩) hS ?_
          refine wpAnyH_take (i := 44) (v := undef) rfl (by kernel_rfl) (by kernel_rfl) (by kernel_rfl) (fun _ _ _ h => h) (Or.inr ⟨by kernel_rfl, rfl⟩) hS ?_
          refine wpAnyH_take (i := 45) (v := ?_) rfl (by kernel_rfl) (by kernel_rfl) (by kernel_rfl) (fun _ _ _ h => h) (Or.inl ⟨by kernel_rfl, ?_⟩) hS ?_
          rotate_left
          · intro W hW; go_simp; try with_reducible rfl
          refine wpAnyH_take (i := 46) (v := ?_) rfl (by kernel_rfl) (by kernel_rfl) (by kernel_rfl) (fun _ _ _ h => h) (Or.inl ⟨by kernel_rfl, ?_⟩) hS ?_
          rotate_left
          · intro W hW; go_simp; try with_reducible rfl
          refine wpAnyH_done (by kernel_rfl) ?_ _
          go_simp
          have HB16 := Lib.hid (HB14.out.trans (hS.mono HB14.out.size))
          clear hS HB14 HP14 HQ14 hsame
          go_wp2_with fail
          go_roundw
          case rel => exact ⟨1, by omega, rfl, HB16.out⟩
          case measure => simp [intOf]; omega
        · have hb1 : decide ((0 : Int) < (i : Int)) = true := decide_eq_true (by omega)
          have hb1n : decide (0 < i) = true := decide_eq_true hi0
          have hpr := HPR.out hi0
          have hb2 : decide ((z.key : Int) ≤ (z1.key : Int)) = false := decide_eq_false (by omega)
          have hnk : ¬ (z.key ≤ z1.key) := by omega
          have hb3 : decide (z.key ≤ z1.key) = false := decide_eq_false hnk
          have hwi : IntKind.i64.wrap ((i : Int) - 1) = (i : Int) - 1 := by rw [IntKind.wrap_i64]; omega
          have htn : ((i : Int) - 1).toNat = i - 1 := by omega
          have hg0 : (0 : Int) ≤ (i : Int) - 1 := by omega
          have hg2 : (1 : Int) ≤ (i : Int) := by omega
          have hg1 : (i : Int) - 1 < (Z.length : Int) := by omega
          have HI0 := Lib.hid hi0
          clear hpr hi0
          refine wp_region_held_drew (S := fun W => Below w14.heap.size w14 W) (by kernel_rfl) ((Below.refl _ _).drew) (fun hS => ?_)
          refine wpAnyH_take (i := 0) (v := ?_) rfl (by kernel_rfl) (by kernel_rfl) (by kernel_rfl) (fun _ _ _ h => h) (Or.inl ⟨by kernel_rfl, ?_⟩) hS ?_
          rotate_left
          · intro W hW; go_simp; try with_reducible rfl
          refine wpAnyH_ready (rs := [1]) (by kernel_rfl) (by simp) ?_
          go_simp
          refine AllReadyH.cons (i := 1) rfl ?_ AllReadyH.nil
          intro K hK
          go_simp
          refine (code_c 6 _ (by decide)).mono ?_
          rintro e w15 ⟨rfl, rfl⟩
          have hT := hS
          go_simp
          refine hK.out _ _ ?_ (fun hN => ?_)
          · first | exact hT | exact hS | exact hS.alloc hS.size _ | exact hS.drew
          clear hK K
          try clear hT
          clear hS
          have hS := hN
          clear hN
          refine wpAnyH_take (i := 2) (v := ?_) rfl (by kernel_rfl) (by kernel_rfl) (by kernel_rfl) (fun _ _ _ h => h) (Or.inl ⟨by kernel_rfl, ?_⟩) hS ?_
          rotate_left
          · intro W hW; go_simp; try with_reducible rfl
          refine wpAnyH_take (i := 3) (v := ?_) rfl (by kernel_rfl) (by kernel_rfl) (by kernel_rfl) (fun _ _ _ h => h) (Or.inl ⟨by kernel_rfl, ?_⟩) hS ?_
          rotate_left
          · intro W hW; go_simp; try with_reducible rfl
          refine wpAnyH_take (i := 4) (v := undef) rfl (by kernel_rfl) (by kernel_rfl) (by kernel_rfl) (fun _ _ _ h => h) (Or.inr ⟨by kernel_rfl, rfl⟩) hS ?_
          refine wpAnyH_take (i := 5) (v := undef) rfl (by kernel_rfl) (by kernel_rfl) (by kernel_rfl) (fun _ _ _ h => h) (Or.inr ⟨by kernel_rfl, rfl⟩) hS ?_
          refine wpAnyH_take (i := 6) (v := undef) rfl (by kernel_rfl) (by kernel_rfl) (by kernel_rfl) (fun _ _ _ h => h) (Or.inr ⟨by kernel_rfl, rfl⟩) hS ?_
          refine wpAnyH_take (i := 7) (v := undef) rfl (by kernel_rfl) (by kernel_rfl) (by kernel_rfl) (fun _ _ _ h => h) (Or.inr ⟨by kernel_rfl, rfl⟩) hS ?_
          refine wpAnyH_take (i := 8) (v := undef) rfl (by kernel_rfl) (by kernel_rfl) (by kernel_rfl) (fun _ _ _ h => h) (Or.inr ⟨by kernel_rfl, rfl⟩) hS ?_
          refine wpAnyH_take (i := 9) (v := undef) rfl (by kernel_rfl) (by kernel_rfl) (by kernel_rfl) (fun _ _ _ h => h) (Or.inr ⟨by kernel_rfl, rfl⟩) hS ?_
          refine wpAnyH_take (i := 10) (v := ?_) rfl (by kernel_rfl) (by kernel_rfl) (by kernel_rfl) (fun _ _ _ h => h) (Or.inl ⟨by kernel_rfl, ?_⟩) hS ?_
          rotate_left
          · intro W hW; go_simp; try with_reducible rfl
          refine wpAnyH_take (i := 11) (v := ?_) rfl (by kernel_rfl) (by kernel_rfl) (by kernel_rfl) (fun _ _ _ h => h) (Or.inl ⟨by kernel_rfl, ?_⟩) hS ?_
          rotate_left
          · intro W hW; go_simp; try with_reducible rfl
          refine wpAnyH_take (i := 12) (v := ?_) rfl (by kernel_rfl) (by kernel_rfl) (by kernel_rfl) (fun _ _ _ h => h) (Or.inl ⟨by kernel_rfl, ?_⟩) hS ?_
          rotate_left
          · intro W hW; go_simp; try with_reducible rfl
          refine wpAnyH_ready (rs := [13]) (by kernel_rfl) (by simp) ?_
          go_simp
          refine AllReadyH.cons (i := 13) rfl ?_ AllReadyH.nil
          intro K hK
          go_simp
          refine (code_c 6 _ (by decide)).mono ?_
          rintro e w15 ⟨rfl, rfl⟩
          have hT := hS
          go_simp
          refine hK.out _ _ ?_ (fun hN => ?_)
          · first | exact hT | exact hS | exact hS.alloc hS.size _ | exact hS.drew
          clear hK K
          try clear hT
          clear hS
          have hS := hN
          clear hN
          refine wpAnyH_take (i := 14) (v := ?_) rfl (by kernel_rfl) (by kernel_rfl) (by kernel_rfl) (fun _ _ _ h => h) (Or.inl ⟨by kernel_rfl, ?_⟩) hS ?_
          rotate_left
          · intro W hW; go_simp; try with_reducible rfl
          refine wpAnyH_take (i := 15) (v := ?_) rfl (by kernel_rfl) (by kernel_rfl) (by kernel_rfl) (fun _ _ _ h => h) (Or.inl ⟨by kernel_rfl, ?_⟩) hS ?_
          rotate_left
          · intro W hW; go_simp; try with_reducible rfl
          refine wpAnyH_take (i := 16) (v := ?_) rfl (by kernel_rfl) (by kernel_rfl) (by kernel_rfl) (fun _ _ _ h => h) (Or.inl ⟨by kernel_rfl, ?_⟩) hS ?_
          rotate_left
          · intro W hW; go_simp; try with_reducible rfl
          refine wpAnyH_ready (rs := [17]) (by kernel_rfl) (by simp) ?_
          go_simp
          refine AllReadyH.cons (i := 17) rfl ?_ AllReadyH.nil
          intro K hK
          go_simp
          refine (code_c 0 _ (by decide)).mono ?_
          rintro e w15 ⟨rfl, rfl⟩
          have hT := hS
          go_simp
          refine hK.out _ _ ?_ (fun hN => ?_)
          · first | exact hT | exact hS | exact hS.alloc hS.size _ | exact hS.drew
          clear hK K
          try clear hT
          clear hS
          have hS := hN
          clear hN
          refine wpAnyH_take (i := 18) (v := ?_) rfl (by kernel_rfl) (by kernel_rfl) (by kernel_rfl) (fun _ _ _ h => h) (Or.inl ⟨by kernel_rfl, ?_⟩) hS ?_
          rotate_left
          · intro W hW; go_simp; try with_reducible rfl
          refine wpAnyH_take (i := 19) (v := ?_) rfl (by kernel_rfl) (by kernel_rfl) (by kernel_rfl) (fun _ _ _ h => h) (Or.inl ⟨by kernel_rfl, ?_⟩) hS ?_
          rotate_left
          · intro W hW; go_simp; try with_reducible rfl
          refine wpAnyH_take (i := 20) (v := ?_) rfl (by kernel_rfl) (by kernel_rfl) (by kernel_rfl) (fun _ _ _ h => h) (Or.inl ⟨by kernel_rfl, ?_⟩) hS ?_
          rotate_left
          · intro W hW; obtain ⟨p0, p1, p2, p3, p4⟩ := blk_fives (HP14.out.below hW HP14.out.lt); obtain ⟨q0, q1, q2, q3, q4⟩ := blk_fives (HQ14.out.below hW HQ14.out.lt); obtain ⟨z0, z1', z2, z3, z4⟩ := HCZ.out W (HB14.out.trans (hW.mono HB14.out.size)); have y0 := HCP.out W (HB14.out.trans (hW.mono HB14.out.size)) HI0.out; go_simp; try with_reducible rfl
          refine wpAnyH_take (i := 21) (v := ?_) rfl (by kernel_rfl) (by kernel_rfl) (by kernel_rfl) (fun _ _ _ h => h) (Or.inl ⟨by kernel_rfl, ?_⟩) hS ?_
          rotate_left
          · intro W hW; go_simp; try with_reducible rfl
          refine wpAnyH_take (i := 22) (v := ?_) rfl (by kernel_rfl) (by kernel_rfl) (by kernel_rfl) (fun _ _ _ h => h) (Or.inl ⟨by kernel_rfl, ?_⟩) hS ?_
          rotate_left
          · intro W hW; go_simp; try with_reducible rfl
          refine wpAnyH_take (i := 23) (v := ?_) rfl (by kernel_rfl) (by kernel_rfl) (by kernel_rfl) (fun _ _ _ h => h) (Or.inl ⟨by kernel_rfl, ?_⟩) hS ?_
          rotate_left
          · intro W hW; go_simp; try with_reducible rfl
          refine wpAnyH_take (i := 24) (v := ?_) rfl (by kernel_rfl) (by kernel_rfl) (by kernel_rfl) (fun _ _ _ h => h) (Or.inl ⟨by kernel_rfl, ?_⟩) hS ?_
          rotate_left
          · intro W hW; obtain ⟨p0, p1, p2, p3, p4⟩ := blk_fives (HP14.out.below hW HP14.out.lt); obtain ⟨q0, q1, q2, q3, q4⟩ := blk_fives (HQ14.out.below hW HQ14.out.lt); obtain ⟨z0, z1', z2, z3, z4⟩ := HCZ.out W (HB14.out.trans (hW.mono HB14.out.size)); have y0 := HCP.out W (HB14.out.trans (hW.mono HB14.out.size)) HI0.out; go_simp; try with_reducible rfl
          refine wpAnyH_take (i := 25) (v := ?_) rfl (by kernel_rfl) (by kernel_rfl) (by kernel_rfl) (fun _ _ _ h => h) (Or.inl ⟨by kernel_rfl, ?_⟩) hS ?_
          rotate_left
          · intro W hW; go_simp; try with_reducible rfl
          refine wpAnyH_take (i := 26) (v := ?_) rfl (by kernel_rfl) (by kernel_rfl) (by kernel_rfl) (fun _ _ _ h => h) (Or.inl ⟨by kernel_rfl, ?_⟩) hS ?_
          rotate_left
          · intro W hW; go_simp; try with_reducible rfl
          refine wpAnyH_take (i := 27) (v := ?_) rfl (by kernel_rfl) (by kernel_rfl) (by kernel_rfl) (fun _ _ _ h => h) (Or.inl ⟨by kernel_rfl, ?_⟩) hS ?_
          rotate_left
          · intro W hW; go_simp; try with_reducible rfl
          refine wpAnyH_take (i := 28) (v := ?_) rfl (by kernel_rfl) (by kernel_rfl) (by kernel_rfl) (fun _ _ _ h => h) (Or.inl ⟨by kernel_rfl, ?_⟩) hS ?_
          rotate_left
          · intro W hW; go_simp; try with_reducible rfl
          refine wpAnyH_take (i := 29) (v := ?_) rfl (by kernel_rfl) (by kernel_rfl) (by kernel_rfl) (fun _ _ _ h => h) (Or.inl ⟨by kernel_rfl, ?_⟩) hS ?_
          rotate_left
          · intro W hW; go_simp; try with_reducible rfl
          refine wpAnyH_take (i := 30) (v := ?_) rfl (by kernel_rfl) (by kernel_rfl) (by kernel_rfl) (fun _ _ _ h => h) (Or.inl ⟨by kernel_rfl, ?_⟩) hS ?_
          rotate_left
          · intro W hW; go_simp; try with_reducible rfl
          refine wpAnyH_take (i := 31) (v := ?_) rfl (by kernel_rfl) (by kernel_rfl) (by kernel_rfl) (fun _ _ _ h => h) (Or.inl ⟨by kernel_rfl, ?_⟩) hS ?_
          rotate_left
          · intro W hW; go_simp; try with_reducible rfl
          refine wpAnyH_take (i := 32) (v := ?_) rfl (by kernel_rfl) (by kernel_rfl) (by kernel_rfl) (fun _ _ _ h => h) (Or.inl ⟨by kernel_rfl, ?_⟩) hS ?_
          rotate_left
          · intro W hW; go_simp; try with_reducible rfl
          refine wpAnyH_take (i := 33) (v := ?_) rfl (by kernel_rfl) (by kernel_rfl) (by kernel_rfl) (fun _ _ _ h => h) (Or.inl ⟨by kernel_rfl, ?_⟩) hS ?_
          rotate_left
          · intro W hW; go_simp; try with_reducible rfl
          refine wpAnyH_take (i := 34) (v := ?_) rfl (by kernel_rfl) (by kernel_rfl) (by kernel_rfl) (fun _ _ _ h => h) (Or.inl ⟨by kernel_rfl, ?_⟩) hS ?_
          rotate_left
          · intro W hW; go_simp; try with_reducible rfl
          refine wpAnyH_take (i := 35) (v := ?_) rfl (by kernel_rfl) (by kernel_rfl) (by kernel_rfl) (fun _ _ _ h => h) (Or.inl ⟨by kernel_rfl, ?_⟩) hS ?_
          rotate_left
          · intro W hW; go_simp; try with_reducible rfl
          refine wpAnyH_take (i := 36) (v := ?_) rfl (by kernel_rfl) (by kernel_rfl) (by kernel_rfl) (fun _ _ _ h => h) (Or.inl ⟨by kernel_rfl, ?_⟩) hS ?_
          rotate_left
          · intro W hW; go_simp; try with_reducible rfl
          refine wpAnyH_take (i := 37) (v := ?_) rfl (by kernel_rfl) (by kernel_rfl) (by kernel_rfl) (fun _ _ _ h => h) (Or.inl ⟨by kernel_rfl, ?_⟩) hS ?_
          rotate_left
          · intro W hW; go_simp; try with_reducible rfl
          refine wpAnyH_take (i := 38) (v := ?_) rfl (by kernel_rfl) (by kernel_rfl) (by kernel_rfl) (fun _ _ _ h => h) (Or.inl ⟨by kernel_rfl, ?_⟩) hS ?_
          rotate_left
          · intro W hW; obtain ⟨p0, p1, p2, p3, p4⟩ := blk_fives (HP14.out.below hW HP14.out.lt); obtain ⟨q0, q1, q2, q3, q4⟩ := blk_fives (HQ14.out.below hW HQ14.out.lt); obtain ⟨z0, z1', z2, z3, z4⟩ := HCZ.out W (HB14.out.trans (hW.mono HB14.out.size)); have y0 := HCP.out W (HB14.out.trans (hW.mono HB14.out.size)) HI0.out; go_simp; try with_reducible rfl
          refine wpAnyH_take (i := 39) (v := ?_) rfl (by kernel_rfl) (by kernel_rfl) (by kernel_rfl) (fun _ _ _ h => h) (Or.inl ⟨by kernel_rfl, ?_⟩) hS ?_
          rotate_left
          · intro W hW; go_simp; try with_reducible rfl
          refine wpAnyH_take (i := 40) (v := ?_) rfl (by kernel_rfl) (by kernel_rfl) (by kernel_rfl) (fun _ _ _ h => h) (Or.inl ⟨by kernel_rfl, ?_⟩) hS ?_
          rotate_left
          · intro W hW; go_simp; try with_reducible rfl
          refine wpAnyH_take (i := 41) (v := ?_) rfl (by kernel_rfl) (by kernel_rfl) (by kernel_rfl) (fun _ _ _ h => h) (Or.inl ⟨by kernel_rfl, ?_⟩) hS ?_
          rotate_left
          · intro W hW; go_simp; try with_reducible rfl
          refine wpAnyH_take (i := 42) (v := ?_) rfl (by kernel_rfl) (by kernel_rfl) (by kernel_rfl) (fun _ _ _ h => h) (Or.inl ⟨by kernel_rfl, ?_⟩) hS ?_
          rotate_left
          · intro W hW; go_simp; try with_reducible rfl
          refine wpAnyH_take (i := 43) (v := ?_) rfl (by kernel_rfl) (by kernel_rfl) (by kernel_rfl) (fun _ _ _ h => h) (Or.inl ⟨by kernel_rfl, ?_⟩) hS ?_
          rotate_left
          · intro W hW; obtain ⟨p0, p1, p2, p3, p4⟩ := blk_fives (HP14.out.below hW HP14.out.lt); obtain ⟨q0, q1, q2, q3, q4⟩ := blk_fives (HQ14.out.below hW HQ14.out.lt); obtain ⟨z0, z1', z2, z3, z4⟩ := HCZ.out W (HB14.out.trans (hW.mono HB14.out.size)); have y0 := HCP.out W (HB14.out.trans (hW.mono HB14.out.size)) HI0.out; go_simp; try with_reducible rfl
          refine wpAnyH_take (i := 44) (v := ?_) rfl (by kernel_rfl) (by kernel_rfl) (by kernel_rfl) (fun _ _ _ h => h) (Or.inl ⟨by kernel_rfl, ?_⟩) hS ?_
          rotate_left
          · intro W hW; go_simp; try with_reducible rfl
          refine wpAnyH_take (i := 45) (v := ?_) rfl (by kernel_rfl) (by kernel_rfl) (by kernel_rfl) (fun _ _ _ h => h) (Or.inl ⟨by kernel_rfl, ?_⟩) hS ?_
          rotate_left
          · intro W hW; go_simp; try with_reducible rfl
          refine wpAnyH_take (i := 46) (v := ?_) rfl (by kernel_rfl) (by kernel_rfl) (by kernel_rfl) (fun _ _ _ h => h) (Or.inl ⟨by kernel_rfl, ?_⟩) hS ?_
          rotate_left
          · intro W hW; go_simp; try with_reducible rfl
          refine wpAnyH_done (by kernel_rfl) ?_ _
          go_simp
          have HB16 := Lib.hid (HB14.out.trans (hS.mono HB14.out.size))
          clear hS HB14 HP14 HQ14 hsame
          go_wp2_with fail
          go_roundw
          case rel => exact ⟨i + 1, by omega, by go_num, HB16.out⟩
          case measure => simp [intOf]; omega
    · have hie : i = Z.length := by omega
      subst hie
      have hiz : ¬ ((Z.length : Int) < (Z.length : Int)) := by omega
      have EX := Lib.hid (all_any (HX.out _ HB.out))
      go_wp2_with fail
      refine EX.out.mono ?_
      rintro e w16 ⟨vv, rfl, hoo, BB⟩
      obtain ⟨aa, cc, rfl, -⟩ := own_form_any hoo
      have Hw16 := Lib.hid fun (W : World) (B0 : Below w16.heap.size w16 W) => (show Below w10.heap.size w10 W from (HB.out.trans (BB.mono HB.out.size)).trans (B0.mono (HB.out.trans (BB.mono HB.out.size)).size))
      have HOw16 := Lib.hid fun (W : World) (B0 : Below w16.heap.size w16 W) => own_belowI hoo B0 (Nat.le_refl _)
      have hlw16 : (X.length : Int) ≤ 4096 := by have := (HX.out _ (Hw16.out _ (Below.refl _ _))).len; omega
      clear hoo BB EX HB hiz hlt
      go_wp2_with fail
      go_loopw [125] (fun iv wr => ∃ i : Nat, i ≤ X.length ∧ iv = .int .i64 i ∧ Below w16.heap.size w16 wr) (fun iv _ => X.length - (intOf iv).toNat)
      case atStart => exact ⟨0, by omega, rfl, Below.refl _ _⟩
      case round =>
        obtain ⟨i, hi, rfl, hB⟩ := hrel
        by_cases hlt : i < X.length
        · obtain ⟨g2, rfl, -⟩ := own_some (HOw16.out _ hB) (by omega)
          obtain ⟨k0, k1, k2, k3, k4⟩ := own_cells (HOw16.out _ hB) i hlt rfl
          obtain ⟨z, hz⟩ := HLX.out _ (getD_mem hlt)
          have HZZ := Lib.hid hz
          have HB := Lib.hid hB
          clear hz hB
          generalize X.getD i dP = p at *
          have hiz : (i : Int) < (X.length : Int) := by omega
          go_upto_region 18 with fail
          obtain ⟨w12, hw12, hP12, hB12⟩ : ∃ X, wr.alloc (.cells #[.int .u64 p.key, .int .i64 p.off, .int .i64 p.len, .int .u32 p.ck, .bool p.gone] 32) = X ∧ Blk X wr.heap.size 32 #[.int .u64 p.key, .int .i64 p.off, .int .i64 p.len, .int .u32 p.ck, .bool p.gone] ∧ Below wr.heap.size wr X := ⟨_, rfl, Blk.made _ _ _, (Below.refl _ _).alloc (Nat.le_refl _) _⟩
          have HB12 := Lib.hid (HB.out.trans (hB12.mono HB.out.size))
          have EF := Lib.hid (find_any (HZ.out _ (Hw16.out _ HB12.out)) p.key)
          rw [HZZ.out] at EF
          rw [hw12]
          clear k0 k1 k2 k3 k4
          obtain ⟨k0, -, -, -, -⟩ := blk_fives hP12
          clear hw12 hP12 hB12 HB HZZ
          generalize wr.heap.size = P at *
          go_wp2_with fail
          refine EF.out.mono ?_
          rintro e w13 hf
          obtain ⟨rfl, B13⟩ := hf.yes
          have HB13 := Lib.hid (HB12.out.trans (B13.mono HB12.out.size))
          clear hf B13 EF HB12 k0
          go_upto_region 19 with fail
          have HB14 := Lib.hid (HB13.out.alloc HB13.out.size (.cells #[.int .u64 z.key, .int .i64 z.off, .int .i64 z.len, .int .u32 z.ck, .bool z.gone] 32))
          clear HB13
          go_wp2_with fail
          refine (code_c 0 _ (by decide)).mono ?_
          rintro e w15 ⟨rfl, rfl⟩
          go_wp2_with fail
          go_roundw
          case rel => exact ⟨i + 1, by omega, by go_num, HB14.out⟩
          case measure => simp [intOf]; omega
        · have hie : i = X.length := by omega
          subst hie
          have hiz : ¬ ((X.length : Int) < (X.length : Int)) := by omega
          have HB := Lib.hid (Hw16.out _ hB)
          clear hB Hw16 HOw16
          have EY := Lib.hid (all_any (HY.out _ HB.out))
          go_wp2_with fail
          refine EY.out.mono ?_
          rintro e w17 ⟨vv, rfl, hoo, BB⟩
          obtain ⟨aa, cc, rfl, -⟩ := own_form_any hoo
          have Hw17 := Lib.hid fun (W : World) (B0 : Below w17.heap.size w17 W) => (show Below w10.heap.size w10 W from (HB.out.trans (BB.mono HB.out.size)).trans (B0.mono (HB.out.trans (BB.mono HB.out.size)).size))
          have HOw17 := Lib.hid fun (W : World) (B0 : Below w17.heap.size w17 W) => own_belowI hoo B0 (Nat.le_refl _)
          have hlw17 : (Y.length : Int) ≤ 4096 := by have := (HY.out _ (Hw17.out _ (Below.refl _ _))).len; omega
          clear hoo BB EY HB hiz hlt
          go_wp2_with fail
          go_loopw [143] (fun iv wr => ∃ i : Nat, i ≤ Y.length ∧ iv = .int .i64 i ∧ Below w17.heap.size w17 wr) (fun iv _ => Y.length - (intOf iv).toNat)
          case atStart => exact ⟨0, by omega, rfl, Below.refl _ _⟩
          case round =>
            obtain ⟨i, hi, rfl, hB⟩ := hrel
            by_cases hlt : i < Y.length
            · obtain ⟨g2, rfl, -⟩ := own_some (HOw17.out _ hB) (by omega)
              obtain ⟨k0, k1, k2, k3, k4⟩ := own_cells (HOw17.out _ hB) i hlt rfl
              obtain ⟨z, hz⟩ := HLY.out _ (getD_mem hlt)
              have HZZ := Lib.hid hz
              have HB := Lib.hid hB
              clear hz hB
              generalize Y.getD i dP = p at *
              have hiz : (i : Int) < (Y.length : Int) := by omega
              go_upto_region 25 with fail
              obtain ⟨w12, hw12, hP12, hB12⟩ : ∃ X, wr.alloc (.cells #[.int .u64 p.key, .int .i64 p.off, .int .i64 p.len, .int .u32 p.ck, .bool p.gone] 32) = X ∧ Blk X wr.heap.size 32 #[.int .u64 p.key, .int .i64 p.off, .int .i64 p.len, .int .u32 p.ck, .bool p.gone] ∧ Below wr.heap.size wr X := ⟨_, rfl, Blk.made _ _ _, (Below.refl _ _).alloc (Nat.le_refl _) _⟩
              have HB12 := Lib.hid (HB.out.trans (hB12.mono HB.out.size))
              have EF := Lib.hid (find_any (HZ.out _ (Hw17.out _ HB12.out)) p.key)
              rw [HZZ.out] at EF
              rw [hw12]
              clear k0 k1 k2 k3 k4
              obtain ⟨k0, -, -, -, -⟩ := blk_fives hP12
              clear hw12 hP12 hB12 HB HZZ
              generalize wr.heap.size = P at *
              go_wp2_with fail
              refine EF.out.mono ?_
              rintro e w13 hf
              obtain ⟨rfl, B13⟩ := hf.yes
              have HB13 := Lib.hid (HB12.out.trans (B13.mono HB12.out.size))
              clear hf B13 EF HB12 k0
              go_upto_region 26 with fail
              have HB14 := Lib.hid (HB13.out.alloc HB13.out.size (.cells #[.int .u64 z.key, .int .i64 z.off, .int .i64 z.len, .int .u32 z.ck, .bool z.gone] 32))
              clear HB13
              go_wp2_with fail
              refine (code_c 0 _ (by decide)).mono ?_
              rintro e w15 ⟨rfl, rfl⟩
              go_wp2_with fail
              go_roundw
              case rel => exact ⟨i + 1, by omega, by go_num, HB14.out⟩
              case measure => simp [intOf]; omega
            · have hie : i = Y.length := by omega
              subst hie
              have hiz : ¬ ((Y.length : Int) < (Y.length : Int)) := by omega
              have HB := Lib.hid (Hw17.out _ hB)
              clear hB Hw17 HOw17
              have E1 := Lib.hid (all_any (HX.out _ HB.out))
              go_wp2_with fail
              refine E1.out.mono ?_
              rintro e w20 ⟨v20, rfl, ho20, B20⟩
              obtain ⟨a20, c20, rfl, -⟩ := own_form_any ho20
              have HB20 := Lib.hid (HB.out.trans (B20.mono HB.out.size))
              have E2 := Lib.hid (all_any (HY.out _ HB20.out))
              clear ho20 B20 E1 HB
              go_wp2_with fail
              refine E2.out.mono ?_
              rintro e w21 ⟨v21, rfl, ho21, B21⟩
              obtain ⟨a21, c21, rfl, -⟩ := own_form_any ho21
              have HB21 := Lib.hid (HB20.out.trans (B21.mono HB20.out.size))
              have hln : (Z.length : Int) ≤ (X.length : Int) + (Y.length : Int) := by have := HLN.out; omega
              have hbb : decide ((Z.length : Int) ≤ (X.length : Int) + (Y.length : Int)) = true := decide_eq_true hln
              clear ho21 B21 E2 HB20
              go_wp2_with fail
              go_ret
              exact ⟨rfl, HB10.out.trans (HB21.out.mono HB10.out.size)⟩
end Go.Proofs.Ytmmmakfmpopniaa
