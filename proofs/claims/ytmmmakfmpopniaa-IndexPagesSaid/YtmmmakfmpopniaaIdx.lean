/-
  index: the search.
-/
import Derived.Test.YtmmmakfmpopniaaIdxIns
import Derived.Test.YtmmmakfmpopniaaIdxLaw
namespace Go.Proofs.Ytmmmakfmpopniaa
open Go.RowKit
set_option linter.unusedVariables false

theorem eq_fi {a b : Int} (h : a ≠ b) : (a == b) = false := by rw [beq_eq_false_iff_ne]; exact h
theorem nan_any (x : Nat) (w : World) : Calls Try.prog 32 #[.int .u64 x] w fun e w' => e = .returned (.bool false) ∧ w' = w := by
  have hx : ((x : Int) != (x : Int)) = false := bne_self_eq_false _
  go_enter Try.func32, Try.ntmps32
  go_wp2_with fail
  go_ret
  exact ⟨rfl, rfl⟩
/-- Which one is less? -/
def cmpK (x y : Nat) : Int := if x < y then -1 else if y < x then 1 else 0
theorem cmp_any (x y : Nat) (w : World) : Calls Try.prog 27 #[.int .u64 x, .int .u64 y] w fun e w' => e = .returned (.int .i64 (cmpK x y)) ∧ w' = w := by
  go_enter Try.func27, Try.ntmps27
  go_wp2_with fail
  refine (nan_any x w).mono ?_
  rintro e w1 ⟨rfl, rfl⟩
  go_wp2_with fail
  refine (nan_any y w1).mono ?_
  rintro e w2 ⟨rfl, rfl⟩
  by_cases h1 : x < y
  · have hc : cmpK x y = -1 := if_pos h1
    have h1' : (x : Int) < (y : Int) := by omega
    go_wp2_with fail
    go_ret
    exact ⟨by rw [hc]; rfl, rfl⟩
  · have h1' : ¬ ((x : Int) < (y : Int)) := by omega
    by_cases h2 : y < x
    · have hc : cmpK x y = 1 := by unfold cmpK; rw [if_neg h1, if_pos h2]
      have h2' : (y : Int) < (x : Int) := by omega
      go_wp2_with fail
      go_ret
      exact ⟨by rw [hc]; rfl, rfl⟩
    · have hc : cmpK x y = 0 := by unfold cmpK; rw [if_neg h1, if_neg h2]
      have h2' : ¬ ((y : Int) < (x : Int)) := by omega
      go_wp2_with fail
      go_ret
      exact ⟨by rw [hc]; rfl, rfl⟩
theorem pcmp_any (p : PosR) (k : Nat) (w : World) : Calls Try.prog 26 #[.agg #[.int .u64 p.key, .int .i64 p.off, .int .i64 p.len, .int .u32 p.ck, .bool p.gone], .int .u64 k] w fun e w' => e = .returned (.int .i64 (cmpK p.key k)) ∧ Below w.heap.size w w' := by
  have HB := Lib.hid ((Below.refl w.heap.size w).alloc (Nat.le_refl _) (.cells #[.int .u64 p.key, .int .i64 p.off, .int .i64 p.len, .int .u32 p.ck, .bool p.gone] 32))
  go_enter Try.func26, Try.ntmps26
  go_wp2_with fail
  refine (cmp_any p.key k _).mono ?_
  rintro e w1 ⟨rfl, rfl⟩
  go_wp2_with fail
  go_ret
  exact ⟨rfl, HB.out⟩

set_option maxRecDepth 100000 in
set_option maxHeartbeats 2000000 in
theorem search_any (a : Option Addr) (n c : Nat) (L : List PosR) (k : Nat) (w : World) (h : PSl w w.heap.size a n L) (hs : Srt PosR.key L) (hn : n ≤ 1000000) :
    Calls Try.prog 25 #[.slice a n c, .int .u64 k, .func (.func 26) #[] #[]] w fun e w' => e = .returned (.tuple #[.int .i64 (lo PosR.key k L : Nat), .bool (decide (lo PosR.key k L < n ∧ (L.getD (lo PosR.key k L) dP).key = k))]) ∧ Below w.heap.size w w' := by
  have HH := Lib.hid h
  have HS := Lib.hid hs
  have HL := Lib.hid h.1
  obtain ⟨r, hr⟩ : ∃ r, lo PosR.key k L = r := ⟨_, rfl⟩
  have HR := Lib.hid hr
  rw [hr]
  obtain ⟨bq, hbq⟩ : ∃ b, decide (r < n ∧ (L.getD r dP).key = k) = b := ⟨_, rfl⟩
  rw [hbq]
  have HBQ := Lib.hid hbq
  clear h hs hr hbq
  go_enter Try.func25, Try.ntmps25
  go_wp2_with fail
  go_loopw [9, 10] (fun lv hv wr => ∃ x y : Nat, lv = .int .i64 x ∧ hv = .int .i64 y ∧ x ≤ r ∧ r ≤ y ∧ y ≤ n ∧ Below w.heap.size w wr) (fun lv hv _ => (intOf hv - intOf lv).toNat)
  case atStart => exact ⟨0, n, rfl, rfl, by omega, by have := lo_le (key := PosR.key) k L; have := HR.out; have := HL.out; omega, by omega, Below.refl _ _⟩
  case round =>
    obtain ⟨x, y, rfl, rfl, hx, hy, hyn, hB⟩ := hrel
    have HB := Lib.hid hB
    clear hB
    by_cases hlt : x < y
    · have hlz : (x : Int) < (y : Int) := by omega
      obtain ⟨m, hm⟩ : ∃ m, (x + y) / 2 = m := ⟨_, rfl⟩
      have hmz : ((x : Int) + (y : Int)) / 2 = (m : Int) := by omega
      have hmn : m < n := by omega
      have hmi : (m : Int) < (n : Int) := by omega
      obtain ⟨b, off, ha, hbb, hcell⟩ := HH.out.2.2 (by omega)
      subst ha
      obtain ⟨c0, c1, c2, c3, c4⟩ := psl_cells (w := wr) (B := 0) HL.out (fun i j hi hj => (HB.out.cell (p := ⟨b, off + i * 5 + j, none⟩) hbb).trans (hcell i j hi hj)) m hmn rfl
      have hq : L.getD m dP = L[m]'(by rw [HL.out]; exact hmn) := by simp [List.getD, HL.out, hmn]
      have HLT := Lib.hid fun (h : (L.getD m dP).key < k) => (show m < r from by
        rcases Nat.lt_or_ge m r with e | e
        · exact e
        · have := lo_ge k L HS.out m (by rw [HL.out]; exact hmn) (by rw [HR.out]; exact e); rw [← hq] at this; omega)
      have HGE := Lib.hid fun (h : ¬ (L.getD m dP).key < k) => (show r ≤ m from by
        rcases Nat.lt_or_ge m r with e | e
        · exact absurd (by rw [hq]; exact lo_lt (key := PosR.key) k L m (by rw [HL.out]; exact hmn) (by rw [HR.out]; exact e)) h
        · exact e)
      clear hq hcell
      generalize L.getD m dP = q at *
      have hxm : x ≤ m ∧ m < y := by omega
      clear hm
      by_cases hk : q.key < k
      · have hc : cmpK q.key k = -1 := if_pos hk
        have hr2 := HLT.out hk
        go_wp2_with fail
        refine (pcmp_any q k _).mono ?_
        rintro e w1 ⟨rfl, B1⟩
        rw [hc]
        have HB1 := Lib.hid (HB.out.trans (B1.mono HB.out.size))
        clear B1 HB c0 c1 c2 c3 c4
        go_wp2_with fail
        go_roundw
        case rel => exact ⟨m + 1, y, by go_num, rfl, by omega, hy, hyn, HB1.out⟩
        case measure => simp [intOf]; omega
      · have hc : ¬ cmpK q.key k < 0 := by unfold cmpK; rw [if_neg hk]; split <;> omega
        have hr2 := HGE.out hk
        go_wp2_with fail
        refine (pcmp_any q k _).mono ?_
        rintro e w1 ⟨rfl, B1⟩
        have HB1 := Lib.hid (HB.out.trans (B1.mono HB.out.size))
        clear B1 HB c0 c1 c2 c3 c4
        go_wp2_with fail
        go_roundw
        case rel => exact ⟨x, m, rfl, by go_num, hx, by omega, by omega, HB1.out⟩
        case measure => simp [intOf]; omega
    · obtain rfl : x = r := by omega
      obtain rfl : x = y := by omega
      have hlz : ¬ ((x : Int) < (x : Int)) := by omega
      by_cases hxn : x < n
      · have hxi : (x : Int) < (n : Int) := by omega
        obtain ⟨b, off, ha, hbb, hcell⟩ := HH.out.2.2 (by omega)
        subst ha
        obtain ⟨c0, c1, c2, c3, c4⟩ := psl_cells (w := wr) (B := 0) HL.out (fun i j hi hj => (HB.out.cell (p := ⟨b, off + i * 5 + j, none⟩) hbb).trans (hcell i j hi hj)) x hxn rfl
        clear hcell
        have HBX := Lib.hid HBQ.out
        generalize L.getD x dP = q at *
        by_cases hk : q.key = k
        · have hc : cmpK q.key k = 0 := by unfold cmpK; rw [if_neg (by omega), if_neg (by omega)]
          have HD := Lib.hid (show true = bq from by rw [← HBX.out]; exact (decide_eq_true ⟨hxn, hk⟩).symm)
          clear hk
          go_wp2_with fail
          refine (pcmp_any q k _).mono ?_
          rintro e w1 ⟨rfl, B1⟩
          rw [hc]
          have HB1 := Lib.hid (HB.out.trans (B1.mono HB.out.size))
          clear B1 HB c0 c1 c2 c3 c4
          go_wp2_with fail
          go_ret2
          exact ⟨by rw [← HD.out]; rfl, HB1.out⟩
        · have hc : (cmpK q.key k == 0) = false := eq_fi (by unfold cmpK; split <;> (try split) <;> omega)
          have HD := Lib.hid (show false = bq from by rw [← HBX.out]; exact (decide_eq_false fun e => hk e.2).symm)
          clear hk
          go_wp2_with fail
          refine (pcmp_any q k _).mono ?_
          rintro e w1 ⟨rfl, B1⟩
          have HB1 := Lib.hid (HB.out.trans (B1.mono HB.out.size))
          clear B1 HB c0 c1 c2 c3 c4
          go_wp2_with fail
          go_ret2
          exact ⟨by rw [← HD.out, ← hc]; rfl, HB1.out⟩
      · have hxi : ¬ ((x : Int) < (n : Int)) := by omega
        have HD := Lib.hid (show false = bq from by rw [← HBQ.out]; exact (decide_eq_false fun e => hxn e.1).symm)
        go_wp2_with fail
        go_ret2
        exact ⟨by rw [← HD.out]; rfl, HB.out⟩
end Go.Proofs.Ytmmmakfmpopniaa
