/-
  The chapter's example (index); keys of what was put.
-/
import Derived.Test.YtmmmakfmpopniaaIdxNew
namespace Go.Proofs.Ytmmmakfmpopniaa
open Go.RowKit
set_option linter.unusedVariables false

theorem psl_blk {w : World} {g : Nat} {T : TypeId} {ps : List PosR} (h : Blk w g T (flatP ps).toArray) (hb : ∀ p ∈ ps, PosB p) : PSl w w.heap.size (some ⟨g, 0, none⟩) ps.length ps :=
  ⟨rfl, hb, fun _ => ⟨g, 0, rfl, h.lt, fun i j hi hj => by rw [h.cell]; simp⟩⟩
def exL : List PosR := [⟨5, 0, 0, 0, false⟩, ⟨3, 0, 0, 0, false⟩]
def exS : List PosR := [⟨3, 0, 0, 0, false⟩, ⟨5, 0, 0, 0, false⟩]
theorem ex_ins : insAll PosR.key [] exL = exS := by decide
theorem ex_fnd : fnd 4 exS = none := by decide
theorem ex_b : ∀ p ∈ exL, PosB p := by
  intro p hp
  simp only [exL, List.mem_cons, List.not_mem_nil, or_false] at hp
  rcases hp with rfl | rfl <;> (unfold PosB; dsimp only; omega)
set_option maxRecDepth 100000 in
set_option maxHeartbeats 2000000 in
theorem idx_alive (w : World) : Calls Try.prog 7 #[] w fun e w' => e = .returned (.bool true) ∧ Below w.heap.size w w' := by
  obtain ⟨w1, hw1, hM1, hB1⟩ : ∃ X, w.alloc (.cells #[.int .u64 5, .int .i64 0, .int .i64 0, .int .u32 0, .bool false, .int .u64 3, .int .i64 0, .int .i64 0, .int .u32 0, .bool false] 32) = X ∧ Blk X w.heap.size 32 #[.int .u64 5, .int .i64 0, .int .i64 0, .int .u32 0, .bool false, .int .u64 3, .int .i64 0, .int .i64 0, .int .u32 0, .bool false] ∧ Below w.heap.size w X := ⟨_, rfl, Blk.made _ _ _, (Below.refl _ _).alloc (Nat.le_refl _) _⟩
  have E := Lib.hid (inew_any (some ⟨w.heap.size, 0, none⟩) 2 2 exL w1 (psl_blk hM1 ex_b) (by omega))
  rw [ex_ins] at E
  have HB1 := Lib.hid hB1
  clear hM1 hB1
  go_enter Try.func7, Try.ntmps7
  go_wp2_with fail
  try rw [hw1]
  refine E.out.mono ?_
  rintro e w2 ⟨B, v, rfl, hI2, B2⟩
  have HI2 := Lib.hid hI2
  have HB2 := Lib.hid (HB1.out.trans (B2.mono HB1.out.size))
  have E2 := Lib.hid (all_any hI2)
  clear hw1 hI2 B2 E HB1
  go_wp2_with fail
  refine E2.out.mono ?_
  rintro e w3 ⟨v3, rfl, ho3, B3⟩
  have HI3 := Lib.hid (HI2.out.on B3)
  have HB3 := Lib.hid (HB2.out.trans (B3.mono HB2.out.size))
  have HO3 := Lib.hid ho3
  have E3 := Lib.hid (find_any HI3.out 4)
  rw [ex_fnd] at E3
  clear ho3 B3 E2 HI2 HB2
  go_wp2_with fail
  refine E3.out.mono ?_
  rintro e w4 ⟨p, cd, rfl, hp, B4⟩
  obtain ⟨-, rfl, rfl⟩ : none = none ∧ p = dP ∧ cd = 6 := by
    rcases hp with ⟨e, _⟩ | h
    · cases e
    · exact h
  dsimp only [dP]
  have HB4 := Lib.hid (HB3.out.trans (B4.mono HB3.out.size))
  have ho4 := own_belowI HO3.out B4 (Nat.le_refl _)
  obtain ⟨a, c, rfl, hc⟩ := own_form_any ho4
  obtain ⟨g, rfl, -⟩ := own_some ho4 (by decide)
  have HO4 := Lib.hid ho4
  clear B4 E3 HI3 HB3 HO3 hp ho4
  go_upto_region 4 with fail
  obtain ⟨w5, hw5, hB5⟩ : ∃ X, w4.alloc (.cells #[.int .u64 0, .int .i64 0, .int .i64 0, .int .u32 0, .bool false] 32) = X ∧ Below w4.heap.size w4 X := ⟨_, rfl, (Below.refl _ _).alloc (Nat.le_refl _) _⟩
  have ho5 := own_belowI HO4.out hB5 (Nat.le_refl _)
  have HB5 := Lib.hid (HB4.out.trans (hB5.mono HB4.out.size))
  have q0 : w5.cell? ⟨g, 0, none⟩ = some (.int .u64 3) := (own_cells ho5 0 (by decide) rfl).1
  have q1 : w5.cell? ⟨g, 5, none⟩ = some (.int .u64 5) := (own_cells ho5 1 (by decide) rfl).1
  rw [hw5]
  clear hw5 hB5 ho5 HB4
  rw [show exS.length = 2 from rfl]
  go_wp2_with fail
  refine (code_c 6 _ (by decide)).mono ?_
  rintro e w6 ⟨rfl, rfl⟩
  go_wp2_with fail
  go_ret
  exact ⟨rfl, HB5.out⟩

/-- Keys of what was put. -/
theorem key_insK {p : PosR} {L : List PosR} (hs : Srt PosR.key L) (k : Nat) : (∃ x ∈ insK PosR.key p L, x.key = k) ↔ (p.key = k ∨ ∃ x ∈ L, x.key = k) := by
  constructor
  · rintro ⟨x, hx, rfl⟩
    rcases (mem_insK hs).1 hx with rfl | ⟨h1, _⟩
    · exact .inl rfl
    · exact .inr ⟨x, h1, rfl⟩
  · rintro (rfl | ⟨x, hx, rfl⟩)
    · exact ⟨p, (mem_insK hs).2 (.inl rfl), rfl⟩
    · by_cases h : x.key = p.key
      · exact ⟨p, (mem_insK hs).2 (.inl rfl), h.symm⟩
      · exact ⟨x, (mem_insK hs).2 (.inr ⟨hx, h⟩), rfl⟩
theorem key_insAll (k : Nat) (ps : List PosR) : ∀ {L : List PosR}, Srt PosR.key L → ((∃ x ∈ insAll PosR.key L ps, x.key = k) ↔ ((∃ x ∈ L, x.key = k) ∨ ∃ x ∈ ps, x.key = k)) := by
  induction ps with
  | nil => intro L _; simp [insAll]
  | cons p r ih =>
    intro L hs
    show (∃ x ∈ insAll PosR.key (insK PosR.key p L) r, x.key = k) ↔ _
    rw [ih (srt_insK p hs), key_insK hs]
    constructor
    · rintro ((h | ⟨x, hx, e⟩) | ⟨x, hx, e⟩)
      · exact .inr ⟨p, List.mem_cons_self, h⟩
      · exact .inl ⟨x, hx, e⟩
      · exact .inr ⟨x, List.mem_cons_of_mem _ hx, e⟩
    · rintro (⟨x, hx, e⟩ | ⟨x, hx, e⟩)
      · exact .inl (.inr ⟨x, hx, e⟩)
      · rcases List.mem_cons.1 hx with rfl | hx
        · exact .inl (.inl e)
        · exact .inr ⟨x, hx, e⟩
theorem thr_iff {k : Nat} {L : List PosR} (hs : Srt PosR.key L) : thr k L = true ↔ ∃ x ∈ L, x.key = k := by
  constructor
  · intro h
    obtain ⟨h1, h2⟩ := thr_yes h
    refine ⟨L[lo PosR.key k L], List.getElem_mem h1, ?_⟩
    simpa [List.getD, List.getElem?_eq_getElem h1] using h2
  · rintro ⟨x, hx, rfl⟩
    obtain ⟨i, hi, rfl⟩ := List.getElem_of_mem hx
    have e : lo PosR.key (L[i]).key L = i := lo_unique hs _ i (by omega) (fun t ht hlt => hs.lt hi hlt) (fun t ht hle => by
      rcases Nat.lt_or_ge i t with h | h
      · exact Nat.le_of_lt (hs.lt ht h)
      · have : t = i := by omega
        subst this; exact Nat.le_refl _)
    unfold thr
    rw [e]
    exact decide_eq_true ⟨hi, by simp [List.getD, hi]⟩
theorem fnd_some {k : Nat} {L : List PosR} {p : PosR} (hs : Srt PosR.key L) : fnd k L = some p ↔ p ∈ L ∧ p.key = k := by
  unfold fnd
  constructor
  · intro h
    split at h
    · rename_i ht
      obtain ⟨h1, h2⟩ := thr_yes ht
      have e : L.getD (lo PosR.key k L) dP = L[lo PosR.key k L] := by simp [List.getD, h1]
      injection h with h
      rw [e] at h h2
      subst h
      exact ⟨List.getElem_mem h1, h2⟩
    · cases h
  · rintro ⟨hp, rfl⟩
    have ht := (thr_iff hs).2 ⟨p, hp, rfl⟩
    rw [if_pos ht]
    obtain ⟨h1, h2⟩ := thr_yes ht
    have e : L.getD (lo PosR.key p.key L) dP = L[lo PosR.key p.key L] := by simp [List.getD, h1]
    rw [e] at h2 ⊢
    rw [srt_key hs (List.getElem_mem h1) hp h2]
theorem fnd_none {k : Nat} {L : List PosR} (hs : Srt PosR.key L) : fnd k L = none ↔ ¬ ∃ x ∈ L, x.key = k := by
  rw [← thr_iff hs]
  unfold fnd
  split <;> simp_all
theorem insK_count {p : PosR} : ∀ {L : List PosR}, Srt PosR.key L → (insK PosR.key p L).length = L.length + (if ∃ x ∈ L, x.key = p.key then 0 else 1) := by
  intro L hs
  cases ht : thr p.key L with
  | true => rw [insK_there hs rfl ht, if_pos ((thr_iff hs).1 ht), List.length_set, Nat.add_zero]
  | false => rw [insK_len (insK_new hs rfl ht), if_neg (fun h => by rw [(thr_iff hs).2 h] at ht; cases ht)]
theorem insAll_count (ps : List PosR) : ∀ {L : List PosR}, Srt PosR.key L → (insAll PosR.key L ps).length ≤ L.length + (insAll PosR.key [] ps).length := by
  intro L hs
  have key : ∀ i, i ≤ ps.length → (insAll PosR.key L (ps.take i)).length ≤ L.length + (insAll PosR.key [] (ps.take i)).length := by
    intro i
    induction i with
    | zero => intro _; simp [insAll]
    | succ i ih =>
      intro hi
      have := ih (by omega)
      rw [List.take_succ_eq_append_getElem (by omega), insAll_snoc, insAll_snoc, insK_count (srt_insAll _ hs), insK_count (srt_insAll _ List.Pairwise.nil)]
      by_cases h : ∃ x ∈ insAll PosR.key [] (ps.take i), x.key = (ps[i]).key
      · rw [if_pos h, if_pos ((key_insAll _ _ hs).2 (.inr (by
          rcases (key_insAll _ _ List.Pairwise.nil).1 h with ⟨x, hx, _⟩ | h
          · cases hx
          · exact h)))]
        omega
      · rw [if_neg h]
        split <;> omega
  have := key ps.length (Nat.le_refl _)
  rwa [List.take_length] at this
end Go.Proofs.Ytmmmakfmpopniaa
