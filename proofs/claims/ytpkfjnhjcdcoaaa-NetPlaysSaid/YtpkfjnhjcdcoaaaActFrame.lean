/-
  A list of calls of layer 15 that came in.
-/
import Derived.Test.YtpkfjnhjcdcoaaaMslFrame
import Derived.Test.YtpkfjnhjcdcoaaaAct
namespace Go.Proofs.Ytpkfjnhjcdcoaaa
open Go.ChangeShapes Go.WideShapes Go.ChangeAt Go.RowKit

set_option maxRecDepth 100000 in
theorem open_act {H : Type} {enc : TypeId × Value → H} {W : World} {cs : List Value} {m : Nat} {y : DataW H × List MemPlace} (hl : cs.length = 15)
    (hr : DataW.trod enc Try.prog W 0 (fun _ => true) true m 66 cs = some y) : ∃ x : ActR, cs = x.cells ∧ AIn W W.heap.size x := by
  obtain ⟨v0, m0, y0, e0, t0⟩ := field_cell (k := 0) (j := 0) Try.underlying66 hr rfl rfl (by kernel_rfl) (by omega)
  obtain ⟨v1, m1, y1, e1, t1⟩ := field_cell (k := 1) (j := 1) Try.underlying66 hr rfl rfl (by kernel_rfl) (by omega)
  obtain ⟨v2, m2, y2, e2, t2⟩ := field_cell (k := 2) (j := 2) Try.underlying66 hr rfl rfl (by kernel_rfl) (by omega)
  obtain ⟨mp, yp, hp⟩ := field_part (k := 3) (j := 3) (C := 12) Try.underlying66 hr rfl rfl (by kernel_rfl)
  have h12 : ((cs.drop 3).take 12).length = 12 := by rw [List.length_take, List.length_drop]; omega
  obtain ⟨mm, hmc, hmi⟩ := open_msg h12 hp
  obtain ⟨k0, x0, -, wf0⟩ := DataW.trod_int Try.underlying3 t0
  obtain ⟨k1, x1, -, wf1⟩ := DataW.trod_int Try.underlying3 t1
  obtain ⟨k2, x2, -, wf2⟩ := DataW.trod_int Try.underlying3 t2
  simp at x0 x1 x2
  subst x0 x1 x2
  obtain ⟨lo0, hi0⟩ := wf_i64b wf0
  obtain ⟨lo1, hi1⟩ := wf_i64b wf1
  obtain ⟨lo2, hi2⟩ := wf_i64b wf2
  refine ⟨⟨k0, k1, k2, mm⟩, ?_, ⟨hmi, lo0, hi0, lo1, hi1, lo2, hi2⟩⟩
  rw [List.take_of_length_le (by rw [List.length_drop]; omega)] at hmc
  show cs = Value.int .i64 k0 :: Value.int .i64 k1 :: Value.int .i64 k2 :: mm.cells
  rw [← hmc]
  apply List.ext_getElem?
  intro i
  match i with
  | 0 => exact e0
  | 1 => exact e1
  | 2 => exact e2
  | i + 3 => rw [List.getElem?_cons_succ, List.getElem?_cons_succ, List.getElem?_cons_succ, List.getElem?_drop, Nat.add_comm 3 i]
theorem open_acts {H : Type} {enc : TypeId × Value → H} {W : World} {a : Option Addr} {n c : Nat} {d : DataW H} {p : List MemPlace} (h : DataW.Trod enc Try.prog W 0 (fun _ => true) true 63 (.slice a n c) d p) :
    n ≤ c ∧ c ≤ maxLen ∧ ∃ l, ASl W W.heap.size a n l := by
  obtain ⟨h1, h2, h⟩ := open_elems (C := 15) Try.underlying63 (by kernel_rfl) (by omega) h
  refine ⟨h1, h2, ?_⟩
  rcases Nat.eq_zero_or_pos n with hz | hn
  · exact ⟨[], by rw [hz]; rfl, fun i hi => by omega, fun h => by omega⟩
  · obtain ⟨b, off, e1, hb, hi⟩ := h hn
    have key : ∀ i, ∃ q : ActR, i < n → (AIn W W.heap.size q ∧ ∀ j, j < 15 → W.cell? ⟨b, off + i * 15 + j, none⟩ = q.cells[j]?) := by
      intro i
      by_cases hin : i < n
      · obtain ⟨cs, m, y, hl, hc, hr⟩ := hi i hin
        obtain ⟨q, rfl, hq⟩ := open_act hl hr
        exact ⟨q, fun _ => ⟨hq, hc⟩⟩
      · exact ⟨aNone, fun h => absurd h hin⟩
    have hall := fun i => Classical.choose_spec (key i)
    generalize hf : (fun i => Classical.choose (key i)) = f at *
    have hf' : ∀ i, Classical.choose (key i) = f i := fun i => congrFun hf i
    simp only [hf'] at hall
    have hlen : ((List.range n).map f).length = n := by simp
    have hget : ∀ i, i < n → ((List.range n).map f).getD i aNone = f i := fun i hi => by simp [List.getD, hi]
    exact ⟨(List.range n).map f, hlen, fun i hi => by rw [hget i hi]; exact (hall i hi).1, fun _ => ⟨b, off, e1, hb, fun i j hin hj => by rw [hget i hin]; exact (hall i hin).2 j hj⟩⟩
end Go.Proofs.Ytpkfjnhjcdcoaaa
