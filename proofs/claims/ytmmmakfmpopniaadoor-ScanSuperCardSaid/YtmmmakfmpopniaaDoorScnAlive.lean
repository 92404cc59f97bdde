/-
  corncriblaw06.alive.
-/
import Derived.Test.YtmmmakfmpopniaaDoorScnAll
namespace Go.Proofs.YtmmmakfmpopniaaDoor
open Go.RowKit
set_option linter.unusedVariables false

theorem ScnP.is {nm : ByteArray} {L : List (BitVec 8)} {fr : Nat} {w w' : World} {e : Ending} (h : ScnP nm L fr w e w') {fs : List Fd} {o c : Nat} (hs : scn L fr = (fs, o, c)) :
    Below w.heap.size w w' ∧ ∃ a cc ev, e = .returned (.tuple #[.slice a fs.length cc, .int .i64 (o : Int), ev]) ∧ fs.length ≤ cc ∧ FRow w' w.heap.size 41 (.slice a fs.length cc) fs ∧ AtE w' nm o c ev := by
  obtain ⟨B, v, ev, he, hr, ha⟩ := h
  rw [hs] at he hr ha
  obtain ⟨a, cc, hv, hc⟩ := hr.form
  subst hv
  exact ⟨B, a, cc, ev, he, hc, hr, ha⟩
theorem RScnP.is {L : List (BitVec 8)} {fr : Nat} {w w' : World} {e : Ending} (h : RScnP L fr w e w') {fs : List Fd} {o c : Nat} (hs : scn L fr = (fs, o, c)) :
    Below w.heap.size w w' ∧ ∃ a cc, e = .returned (.tuple #[.slice a fs.length cc, .int .i64 (o : Int), .int .i64 (c : Int)]) ∧ fs.length ≤ cc ∧ FRow w' w.heap.size 44 (.slice a fs.length cc) fs := by
  obtain ⟨B, v, he, hr⟩ := h
  rw [hs] at he hr
  obtain ⟨a, cc, hv, hc⟩ := hr.form
  subst hv
  exact ⟨B, a, cc, he, hc, hr⟩
/-- The number of what ends a scan. -/
theorem code_ate {w : World} {nm : ByteArray} {o c : Nat} {ev : Value} (h : AtE w nm o c ev) (hc : c ≤ 17) : Calls Tryd.prog 9 #[ev] w fun e w' => e = .returned (.int .i64 c) ∧ w = w' := by
  rcases h with ⟨rfl, rfl⟩ | ⟨h0, p, rfl, hp⟩
  · exact code_nil w
  · exact code_at p c w (by omega) hc (hp.cell 2)
/-- Is the end of a scan something torn? -/
theorem torn_ate {w : World} {nm : ByteArray} {o c : Nat} {ev : Value} (h : AtE w nm o c ev) (hg : Laid w) : Calls Tryd.prog 10 #[ev] w fun e w' => e = .returned (.bool (tornB c)) ∧ Below w.heap.size w w' := by
  rcases h with ⟨rfl, rfl⟩ | ⟨h0, p, rfl, hp⟩
  · exact torn_nil w
  · exact torn_at p c w hg (.inl (hp.cell 2))
theorem scn_alive1 : scn [] 0 = ([], 0, 0) := scn_end (by simp)
theorem scn_alive2 : scn [1#8] 0 = ([], 0, 3) := scn_bad (by simp) (key := 0) (ck := 0) (g := false) (lx := []) (all := 0) (by unfold ndGet; rw [if_pos (by simp)]; rfl) (by decide)
set_option maxRecDepth 100000 in
set_option maxHeartbeats 2000000 in
theorem scn_alive (w : World) (hg : Laid w) : Calls Tryd.prog 7 #[] w fun e w' => e = .returned (.bool true) ∧ Below w.heap.size w w' := by
  have E1 := Lib.hid (scn_any ⟨#[102]⟩ none 0 0 [] 0 w (BSl.nil _ _ _) (Nat.le_refl _) (by omega) (Nat.le_refl _))
  have HG := Lib.hid hg
  clear hg
  go_enter Tryd.func7, Tryd.ntmps7
  go_wp2_with fail
  refine E1.out.mono ?_
  intro e W1 h1
  obtain ⟨B1, a1, c1, ev1, rfl, -, -, hE1⟩ := h1.is scn_alive1
  obtain rfl : ev1 = .nilIface := by
    rcases hE1 with ⟨_, h⟩ | ⟨h, _⟩
    · exact h
    · exact absurd rfl h
  have HB1 := Lib.hid B1
  have B2 := B1.alloc B1.size (.cells #[.int .u8 1] 5)
  have K2 := Blk.made W1 5 #[.int .u8 1]
  have E2 := Lib.hid (scn_any ⟨#[102]⟩ (some ⟨W1.heap.size, 0, none⟩) 1 1 [1#8] 0 _ (blk_bytes [1#8] K2 rfl K2.lt rfl) (Nat.le_refl _) (by omega) (by omega))
  have HB2 := Lib.hid B2
  clear h1 hE1 B1 B2 K2 E1
  go_wp2_with fail
  refine E2.out.mono ?_
  intro e W3 h3
  obtain ⟨B3, a3, c3, ev3, rfl, -, -, hE3⟩ := h3.is scn_alive2
  have B3 := HB2.out.trans (B3.mono HB2.out.size)
  have HL3 := Lib.hid (HG.out.on B3)
  have ET := Lib.hid (torn_ate hE3 HL3.out)
  have HE3 := Lib.hid hE3
  have HB3 := Lib.hid B3
  clear h3 hE3 B3 E2
  rw [show tornB 3 = true from rfl] at ET
  go_wp2_with fail
  refine (code_nil _).mono ?_
  rintro e W4 ⟨rfl, rfl⟩
  go_wp2_with fail
  refine ET.out.mono ?_
  rintro e W5 ⟨rfl, B5⟩
  have EC := Lib.hid (code_ate (HE3.out.below B5 (Nat.le_refl _)) (by decide))
  have HB5 := Lib.hid (HB3.out.trans (B5.mono HB3.out.size))
  clear B5
  go_wp2_with fail
  refine EC.out.mono ?_
  rintro e W6 ⟨rfl, rfl⟩
  go_wp2_with fail
  go_ret
  exact ⟨rfl, HB5.out⟩
end Go.Proofs.YtmmmakfmpopniaaDoor
