/-
  The document's table: Find, Keep.
-/
import Derived.Test.YtboadalojimdlaaOnceKeep
import Derived.Test.YtboadalojimdlaaMsl
import Derived.Test.YtboadalojimdlaaOpen
import Derived.Deep.AppendLies
namespace Go.Proofs.Ytboadalojimdlaa
open Go.RowKit

/-- Where the document finds an answer. -/
def Found (l : List MsgR) (t : Int) (i : Nat) (r : Int) : Prop := (r = -1 ∧ mFind l t i = none) ∨ ∃ k : Nat, r = k ∧ k < l.length ∧ mFind l t i = some (l.getD k mNone)
theorem found_no {l : List MsgR} {t : Int} {i : Nat} (h : ∀ j, j < l.length → ¬ ((l.getD j mNone).tt = t ∧ (l.getD j mNone).id = i)) : mFind l t i = none := by
  apply List.find?_eq_none.2
  intro m hm
  obtain ⟨j, hj, rfl⟩ := List.mem_iff_getElem.1 hm
  have := h j hj
  have e : l.getD j mNone = l[j] := by simp [List.getD, hj]
  rw [e] at this
  simpa using this
theorem found_yes {l : List MsgR} {t : Int} {i k : Nat} (hk : k < l.length) (h : ∀ j, j < k → ¬ ((l.getD j mNone).tt = t ∧ (l.getD j mNone).id = i)) (h1 : (l.getD k mNone).tt = t ∧ (l.getD k mNone).id = i) : mFind l t i = some (l.getD k mNone) := by
  apply List.find?_eq_some_iff_getElem.2
  refine ⟨by simpa using h1, k, hk, by simp [List.getD, hk], fun j hj => ?_⟩
  have := h j hj
  have e : l.getD j mNone = l[j] := by simp [List.getD, show j < l.length by omega]
  rw [e] at this
  simpa [-not_and, Classical.not_and_iff_not_or_not] using this

set_option maxRecDepth 100000 in
theorem rfind_any (a : Option Addr) (n c : Nat) (l : List MsgR) (t : Int) (id : Nat) (w : World) (h : MSl w w.heap.size a n l) (hn : n ≤ 1000000) :
    Calls Try.prog 33 #[.slice a n c, .int .i64 t, .int .u64 id] w fun e w' => ∃ r, e = .returned (.int .i64 r) ∧ Found l t id r ∧ w = w' := by
  have HH := Lib.hid h
  have HL := Lib.hid h.1
  clear h
  go_enter Try.func33, Try.ntmps33
  go_wp2_with fail
  go_loopw [7] (fun iv wr => ∃ i : Nat, i ≤ n ∧ iv = .int .i64 i ∧ (∀ j, j < i → ¬ ((l.getD j mNone).tt = t ∧ (l.getD j mNone).id = id)) ∧ w = wr)
    (fun iv _ => n - (intOf iv).toNat)
  case atStart => exact ⟨0, by omega, rfl, fun j hj => absurd hj (by omega), rfl⟩
  case round =>
    obtain ⟨i, hi, rfl, hno, rfl⟩ := hrel
    have HN := Lib.hid hno
    clear hno
    by_cases hlt : i < n
    · obtain ⟨m, hm⟩ : ∃ m, l.getD i mNone = m := ⟨_, rfl⟩
      obtain ⟨ab, off, rfl, hab, -, k1, -, -, -, k5, -⟩ := HH.out.at_ hlt hm
      have HM := Lib.hid hm
      clear hm hab
      by_cases h1 : m.tt = t
      · by_cases h2 : m.id = id
        · have HY := Lib.hid (found_yes (l := l) (k := i) (by rw [HL.out]; exact hlt) HN.out (by rw [HM.out]; exact ⟨h1, h2⟩))
          have b1 : (m.tt == t) = true := eq_t h1
          have b2 : ((m.id : Int) == (id : Int)) = true := eq_t (by omega)
          clear h1 h2
          go_wp2_with fail
          go_ret
          exact ⟨i, rfl, .inr ⟨i, rfl, by rw [HL.out]; exact hlt, HY.out⟩, rfl⟩
        · have HX := Lib.hid (show ¬ ((l.getD i mNone).tt = t ∧ (l.getD i mNone).id = id) from by rw [HM.out]; exact fun q => h2 q.2)
          have b1 : (m.tt == t) = true := eq_t h1
          have b2 : ((m.id : Int) == (id : Int)) = false := eq_f (by omega)
          clear h1 h2
          go_wp2_with fail
          go_roundw
          case rel => exact ⟨i + 1, by omega, by go_num, fun j hj => by rcases Nat.lt_succ_iff_lt_or_eq.1 hj with h | rfl; exact HN.out j h; exact HX.out, by first | trivial | rfl⟩
          case measure => simp [intOf]; omega
      · have HX := Lib.hid (show ¬ ((l.getD i mNone).tt = t ∧ (l.getD i mNone).id = id) from by rw [HM.out]; exact fun q => h1 q.1)
        have b1 : (m.tt == t) = false := eq_f h1
        clear h1
        go_wp2_with fail
        go_roundw
        case rel => exact ⟨i + 1, by omega, by go_num, fun j hj => by rcases Nat.lt_succ_iff_lt_or_eq.1 hj with h | rfl; exact HN.out j h; exact HX.out, by first | trivial | rfl⟩
        case measure => simp [intOf]; omega
    · obtain rfl : i = n := by omega
      go_wp2_with fail
      go_ret
      exact ⟨-1, rfl, .inl ⟨rfl, found_no (fun j hj => HN.out j (by rw [HL.out] at hj; exact hj))⟩, rfl⟩

theorem MSl.news {w : World} {B n : Nat} {ad : Addr} {l : List MsgR} (h : MSl w B (some ad) n l) : ∀ j u, (flatM l)[j]? = some u → w.cell? (ad.add j) = some u := by
  intro j u hu
  have hj : j < (flatM l).length := (List.getElem?_eq_some_iff.1 hu).1
  have hlen : l.length * 12 = (flatM l).length := (flatM_length l).symm
  have hln := h.1
  have hd : j / 12 < n := by omega
  obtain ⟨b, off, e, -, hc⟩ := h.2.2 (by omega)
  injection e with e
  subst e
  have := hc (j / 12) (j % 12) hd (by omega)
  rw [← flatM_at l (j / 12) (j % 12) (by omega) (by omega), show j / 12 * 12 + j % 12 = j from by omega, hu, show off + j / 12 * 12 + j % 12 = off + j from by omega] at this
  have hadd : (⟨b, off, none⟩ : Addr).add j = ⟨b, off + j, none⟩ := by
    unfold Addr.add; split
    · next h => subst h; rfl
    · rfl
  rw [hadd]
  exact this
theorem flatM_one (l : List MsgR) : ∀ u ∈ flatM l, u.oneCell' = true := by
  intro u hu
  simp only [flatM, List.mem_flatten, List.mem_map] at hu
  obtain ⟨_, ⟨m, _, rfl⟩, hu⟩ := hu
  exact mcells_one m u hu
theorem info_rmsg_parts : ∃ i, Try.prog.info? 60 = some i ∧ i.zero = some mNone.vals ∧ i.size = 12 ∧ i.bytes = 104 := info_parts info_rmsg
set_option maxRecDepth 100000 in
/-- append of a list of messages to a row of one's own. -/
theorem append_msgs {W : World} {base g k cap : Nat} {xs : List Value} (hown : W.ownsRow base 60 12 (.slice (some ⟨g, 0, none⟩) k cap) k xs) {B : Nat} {a : Option Addr} {n : Nat} {l : List MsgR} (c : Nat) (h : MSl W B a n l) (hs : k + n ≤ 1000000) (hbase : base ≤ W.heap.size) :
    ∃ g' cap' W', (Builtin.append_ #[66, 66] 66 #[.slice (some ⟨g, 0, none⟩) k cap, .slice a n c]).run Try.prog W = .ok (.slice (some ⟨g', 0, none⟩) (k + n) cap') W' ∧
      W'.ownsRow base 60 12 (.slice (some ⟨g', 0, none⟩) (k + n) cap') (k + n) (xs ++ flatM l) ∧ W.grownBy W' (some g) := by
  obtain ⟨i0, hi, hz0, hz1, hz2⟩ := info_rmsg_parts
  cases a with
  | none =>
    have hn : n = 0 := by
      rcases Nat.eq_zero_or_pos n with h0 | h0
      · exact h0
      · obtain ⟨_, _, e, _⟩ := h.2.2 h0; cases e
    subst hn
    have hl : l = [] := List.eq_nil_of_length_eq_zero h.1
    subst hl
    refine ⟨g, cap, W, ?_, by simpa [flatM] using hown, grown_refl W _⟩
    rcases hown.2 with ⟨e, _⟩ | ⟨g', cap', cur, e, _, _, hnc, _⟩
    · cases e
    · injection e with e1 e2 e3
      have hnc' : k ≤ cap := by rw [e3]; exact hnc
      simp [Builtin.append_, run_underlying Try.underlying66, sizeOf, typeInfo, hi, Builtin.lenOf, Builtin.firstCells, hnc', storeCells]
  | some ad =>
    obtain ⟨v', w', hr, h2, h3, _, h5⟩ := run_append_own_at (P := Try.prog) W base 66 66 60 i0 _ 12 104 Try.underlying66 hi hz0 hz1 hz2 rfl (by decide) _ k xs hown ad n c (flatM l) (by rw [flatM_length, h.1]) h.news (flatM_one l) (by unfold maxLen; omega) (by omega) hbase
    have hform : ∃ g' cap', v' = .slice (some ⟨g', 0, none⟩) (k + n) cap' := by
      rcases h2.2 with ⟨e1, _⟩ | ⟨g', cap', _, e1, _⟩
      · rw [e1] at h5
        rcases h5 with h5 | h5 <;> cases h5
      · exact ⟨g', cap', e1⟩
    obtain ⟨g', cap', rfl⟩ := hform
    exact ⟨g', cap', w', hr, h2, h3⟩
set_option maxRecDepth 100000 in
/-- append of one message that lies in a block. -/
theorem append_msg {W : World} {base gb : Nat} {v : Value} {k : Nat} {xs : List Value} (hown : W.ownsRow base 60 12 v k xs) (m : MsgR) (hb : Blk W gb 60 m.cells.toArray) (hk : k + 1 ≤ 1000000) (hbase : base ≤ W.heap.size) :
    ∃ g cap W2, (Builtin.append_ #[66, 66] 66 #[v, .slice (some ⟨gb, 0, none⟩) 1 1]).run Try.prog W = .ok (.slice (some ⟨g, 0, none⟩) (k + 1) cap) W2 ∧
      W2.ownsRow base 60 12 (.slice (some ⟨g, 0, none⟩) (k + 1) cap) (k + 1) (xs ++ m.cells) ∧ W.grownBy W2 v.ownBlock := by
  obtain ⟨i0, hi, hz0, hz1, hz2⟩ := info_rmsg_parts
  obtain ⟨g, cap, W2, hrun, hown2, hgrow, -, -⟩ := run_append_lies (P := Try.prog) W 66 66 base 60 i0 _ 12 104 Try.underlying66 hi hz0 hz1 hz2 rfl (by decide)
    _ k xs hown ⟨gb, 0, none⟩ 1 1 m.cells rfl (by simpa using World.news_of_block hb) (mcells_one m) (by decide) (by unfold maxLen; omega) (by omega) hbase W.heap.size rfl
  exact ⟨g, cap, W2, hrun, hown2, hgrow⟩
theorem made_at {B s : Nat} {a W : World} (_ : Below B a W) (t : TypeId) (cs : Array Value) (hs : W.heap.size = s) : Blk (W.alloc (.cells cs t)) s t cs := by rw [← hs]; exact Blk.made W t cs
theorem ownsRow_new {B s : Nat} {a W : World} (h : Below B a W) (t : TypeId) (hs : W.heap.size = s) : (W.alloc (.cells #[] t)).ownsRow a.heap.size t 12 (.slice (some ⟨s, 0, none⟩) 0 0) 0 [] := by rw [← hs]; exact World.ownsRow_made W #[] 0 h.size (Nat.zero_le _) rfl
end Go.Proofs.Ytboadalojimdlaa
