/-
  The document's list (layer 8): Find, Put.
-/
import Derived.Test.YtmmmakfmpopniaaIdxAlive
import Derived.BigQuiet
namespace Go.Proofs.Ytmmmakfmpopniaa
open Go.RowKit
set_option linter.unusedVariables false

/-- The place of a key, or -1. -/
def fndI (k : Nat) (L : List PosR) : Int := if thr k L = true then (lo PosR.key k L : Int) else -1
theorem no_before {k : Nat} {L : List PosR} {i : Nat} (h : i < L.length) (hb : ∀ t, t < i → (L.getD t dP).key ≠ k) (he : (L.getD i dP).key = k) (hs : Srt PosR.key L) : fndI k L = i := by
  have e : L.getD i dP = L[i] := by simp [List.getD, h]
  rw [e] at he
  have ht : thr k L = true := (thr_iff hs).2 ⟨L[i], List.getElem_mem h, he⟩
  have hl : lo PosR.key k L = i := lo_unique hs _ i (by omega) (fun t ht hlt => by rw [← he]; exact hs.lt h hlt) (fun t ht hle => by
    rw [← he]
    rcases Nat.lt_or_ge i t with h' | h'
    · exact Nat.le_of_lt (hs.lt ht h')
    · have : t = i := by omega
      subst this; exact Nat.le_refl _)
  unfold fndI
  rw [if_pos ht, hl]
theorem none_at {k : Nat} {L : List PosR} (hb : ∀ t, t < L.length → (L.getD t dP).key ≠ k) (hs : Srt PosR.key L) : fndI k L = -1 := by
  have ht : ¬ thr k L = true := by
    rw [thr_iff hs]
    rintro ⟨x, hx, e⟩
    obtain ⟨i, hi, rfl⟩ := List.getElem_of_mem hx
    exact hb i hi (by simpa [List.getD, hi] using e)
  unfold fndI
  rw [if_neg ht]
set_option maxRecDepth 100000 in
set_option maxHeartbeats 2000000 in
theorem rfind8_any (a : Option Addr) (n c : Nat) (L : List PosR) (k : Nat) (w : World) (h : PSl w w.heap.size a n L) (hs : Srt PosR.key L) (hn : n ≤ 1000000) :
    Calls Try.prog 17 #[.slice a n c, .int .u64 k] w fun e w' => e = .returned (.int .i64 (fndI k L)) ∧ w' = w := by
  have HH := Lib.hid h
  have HS := Lib.hid hs
  clear h hs
  go_enter Try.func17, Try.ntmps17
  go_wp2_with fail
  go_loopw [5] (fun iv wr => ∃ i : Nat, i ≤ n ∧ iv = .int .i64 i ∧ (∀ t, t < i → (L.getD t dP).key ≠ k) ∧ wr = w) (fun iv _ => n - (intOf iv).toNat)
  case atStart => exact ⟨0, by omega, rfl, fun t ht => absurd ht (by omega), rfl⟩
  case round =>
    obtain ⟨i, hi, rfl, hb, rfl⟩ := hrel
    have HBf := Lib.hid hb
    clear hb
    by_cases hlt : i < n
    · obtain ⟨b, off, ha, -, hcell⟩ := HH.out.2.2 (by omega)
      subst ha
      obtain ⟨c0, c1, c2, c3, c4⟩ := psl_cells (w := wr) (B := 0) HH.out.1 hcell i hlt rfl
      have HY := Lib.hid fun (he : (L.getD i dP).key = k) => no_before (by rw [HH.out.1]; exact hlt) HBf.out he HS.out
      have HNx := Lib.hid fun (he : (L.getD i dP).key ≠ k) => (show ∀ t, t < i + 1 → (L.getD t dP).key ≠ k from fun t ht => by
        rcases Nat.lt_or_ge t i with h | h
        · exact HBf.out t h
        · have : t = i := by omega
          subst this; exact he)
      clear hcell
      generalize (L.getD i dP).key = x at *
      have hi0 : (0 : Int) ≤ i := by omega
      have hi1 : (i : Int) < n := by omega
      by_cases he : x = k
      · have hR := Lib.hid (HY.out he)
        have hx : ((x : Int) == (k : Int)) = true := by rw [he]; exact beq_self_eq_true _
        clear he
        go_wp2_with fail
        go_ret
        exact ⟨by rw [hR.out]; rfl, rfl⟩
      · have hN := Lib.hid (HNx.out he)
        have hx : ((x : Int) == (k : Int)) = false := by rw [beq_eq_false_iff_ne]; omega
        clear he
        go_wp2_with fail
        go_roundw
        case rel => exact ⟨i + 1, by omega, by go_num, hN.out, trivial⟩
        case measure => simp [intOf]; omega
    · obtain rfl : i = n := by omega
      have hR := Lib.hid (none_at (by rw [HH.out.1]; exact HBf.out) HS.out)
      go_wp2_with fail
      go_ret
      exact ⟨by rw [hR.out]; rfl, rfl⟩

/-- What goes on behind the place. -/
def rst (k r i : Nat) (L : List PosR) : List PosR := ((L.drop r).take (i - r)).filter (fun q => decide (q.key ≠ k))
theorem rst_step {k r i : Nat} {L : List PosR} (h : i < L.length) (hr : r ≤ i) : rst k r (i + 1) L = rst k r i L ++ (if (L.getD i dP).key ≠ k then [L.getD i dP] else []) := by
  have e : L.getD i dP = L[i] := by simp [List.getD, h]
  unfold rst
  rw [show i + 1 - r = (i - r) + 1 from by omega, List.take_succ_eq_append_getElem (by rw [List.length_drop]; omega), List.filter_append]
  congr 1
  have e2 : (L.drop r)[i - r]'(by rw [List.length_drop]; omega) = L[i] := by rw [List.getElem_drop]; congr 1; omega
  rw [e2, e]
  by_cases hk : (L[i]).key = k <;> simp [hk]
theorem rst_end (k r : Nat) (L : List PosR) : rst k r L.length L = (L.drop r).filter (fun q => decide (q.key ≠ k)) := by
  unfold rst
  rw [List.take_of_length_le (l := L.drop r) (by rw [List.length_drop]; omega)]
theorem insK_rst {p : PosR} {L : List PosR} (hs : Srt PosR.key L) : insK PosR.key p L = L.take (lo PosR.key p.key L) ++ p :: rst p.key (lo PosR.key p.key L) L.length L := by
  have hr : lo PosR.key p.key L ≤ L.length := lo_le _ _
  have sI : Srt PosR.key (L.take (lo PosR.key p.key L) ++ p :: rst p.key (lo PosR.key p.key L) L.length L) := by
    rw [rst_end]
    refine List.pairwise_append.2 ⟨hs.sublist (List.take_sublist _ _), List.pairwise_cons.2 ⟨fun x hx => ?_, (hs.sublist (List.drop_sublist _ _)).sublist List.filter_sublist⟩, fun x hx y hy => ?_⟩
    · obtain ⟨h1, h2⟩ := List.mem_filter.1 hx
      obtain ⟨j, hj, rfl⟩ := List.getElem_of_mem h1
      rw [List.getElem_drop] at h2 ⊢
      have := lo_ge p.key L hs (lo PosR.key p.key L + j) (by rw [List.length_drop] at hj; omega) (by omega)
      simp at h2
      omega
    · obtain ⟨j, hj, rfl⟩ := List.getElem_of_mem hx
      rw [List.length_take] at hj
      have hx' := lo_lt (key := PosR.key) p.key L j (by omega) (by omega)
      rw [List.getElem_take]
      rcases List.mem_cons.1 hy with rfl | hy
      · exact hx'
      · obtain ⟨h1, -⟩ := List.mem_filter.1 hy
        obtain ⟨t, ht, rfl⟩ := List.getElem_of_mem h1
        rw [List.getElem_drop]
        have := lo_ge p.key L hs (lo PosR.key p.key L + t) (by rw [List.length_drop] at ht; omega) (by omega)
        omega
  refine srt_ext (srt_insK p hs) sI fun x => ?_
  rw [mem_insK hs]
  constructor
  · rintro (rfl | ⟨h1, h2⟩)
    · exact List.mem_append_right _ List.mem_cons_self
    · rw [← List.take_append_drop (lo PosR.key p.key L) L] at h1
      rcases List.mem_append.1 h1 with h | h
      · exact List.mem_append_left _ h
      · refine List.mem_append_right _ (List.mem_cons_of_mem _ ?_)
        rw [rst_end]
        exact List.mem_filter.2 ⟨h, by simpa using h2⟩
  · intro h
    rcases List.mem_append.1 h with h | h
    · refine .inr ⟨List.mem_of_mem_take h, ?_⟩
      obtain ⟨j, hj, rfl⟩ := List.getElem_of_mem h
      rw [List.length_take] at hj
      rw [List.getElem_take]
      have := lo_lt (key := PosR.key) p.key L j (by omega) (by omega)
      omega
    · rcases List.mem_cons.1 h with rfl | h
      · exact .inl rfl
      · rw [rst_end] at h
        obtain ⟨h1, h2⟩ := List.mem_filter.1 h
        exact .inr ⟨List.mem_of_mem_drop h1, by simpa using h2⟩
end Go.Proofs.Ytmmmakfmpopniaa
