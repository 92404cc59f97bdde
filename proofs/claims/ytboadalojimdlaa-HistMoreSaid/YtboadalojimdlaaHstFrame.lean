/-
  Calls that came in: a list of them; one by value.
-/
import Derived.Test.YtboadalojimdlaaFrame
import Derived.Test.YtboadalojimdlaaHstRef
namespace Go.Proofs.Ytboadalojimdlaa
open Go.ChangeShapes Go.WideShapes Go.ChangeAt Go.RowKit Go.Deep

/-- What a call wants of the cells of one that came in. -/
theorem open_call {H : Type} {enc : TypeId × Value → H} {W : World} {cs : List Value} {m : Nat} {y : DataW H × List MemPlace} (hl : cs.length = 7)
    (hr : DataW.trod enc Try.prog W 0 (fun _ => true) true m 30 cs = some y) : ∃ c : CallR, cs = c.cells ∧ COk W W.heap.size c := by
  obtain ⟨v0, m0, y0, e0, t0⟩ := field_cell (k := 0) (j := 0) Try.underlying30 hr rfl rfl (by kernel_rfl) (by omega)
  obtain ⟨v1, m1, y1, e1, t1⟩ := field_cell (k := 1) (j := 1) Try.underlying30 hr rfl rfl (by kernel_rfl) (by omega)
  obtain ⟨v2, m2, y2, e2, t2⟩ := field_cell (k := 2) (j := 2) Try.underlying30 hr rfl rfl (by kernel_rfl) (by omega)
  obtain ⟨v3, m3, y3, e3, t3⟩ := field_cell (k := 3) (j := 3) Try.underlying30 hr rfl rfl (by kernel_rfl) (by omega)
  obtain ⟨v4, m4, y4, e4, t4⟩ := field_cell (k := 4) (j := 4) Try.underlying30 hr rfl rfl (by kernel_rfl) (by omega)
  obtain ⟨v5, m5, y5, e5, t5⟩ := field_cell (k := 5) (j := 5) Try.underlying30 hr rfl rfl (by kernel_rfl) (by omega)
  obtain ⟨v6, m6, y6, e6, t6⟩ := field_cell (k := 6) (j := 6) Try.underlying30 hr rfl rfl (by kernel_rfl) (by omega)
  obtain ⟨k0, x0, -, wf0⟩ := DataW.trod_int Try.underlying3 t0
  obtain ⟨k1, x1, -, wf1⟩ := DataW.trod_int Try.underlying25 t1
  obtain ⟨k3, x3, -, wf3⟩ := DataW.trod_int Try.underlying3 t3
  obtain ⟨k4, x4, -, wf4⟩ := DataW.trod_int Try.underlying3 t4
  obtain ⟨k5, x5, -, wf5⟩ := DataW.trod_int Try.underlying3 t5
  have hs : ∀ {v : Value} {k : Nat} {z : DataW H × List MemPlace}, DataW.trod enc Try.prog W 0 (fun _ => true) true k 26 [v] = some z → ∃ a n c l, v = .slice a n c ∧ BSl W W.heap.size a n l := by
    intro v k z hz
    have h3 : ∃ a n c, v = .slice a n c := by
      rcases DataW.trod_slice Try.underlying26 hz with ⟨e, _⟩ | ⟨a, len, cap, _, _, _, _, e, _⟩
      · injection e with e _
        exact ⟨_, _, _, e⟩
      · injection e with e _
        exact ⟨_, _, _, e⟩
    obtain ⟨a, n, c, rfl⟩ := h3
    have hT : DataW.Trod enc Try.prog W 0 (fun _ => true) true 26 (.slice a n c) z.1 z.2 := ⟨k, hz⟩
    obtain ⟨-, -, l, hl⟩ := open_bytes Try.underlying26 Try.underlying5 (by kernel_rfl) hT
    exact ⟨a, n, c, l, rfl, hl⟩
  obtain ⟨a2, n2, c2, l2, rfl, hb2⟩ := hs t2
  obtain ⟨a6, n6, c6, l6, rfl, hb6⟩ := hs t6
  simp at x0 x1 x3 x4 x5
  subst x0 x1 x3 x4 x5
  obtain ⟨lo0, hi0⟩ := wf_i64b wf0
  obtain ⟨lo1, hi1⟩ := wf_u32b wf1
  obtain ⟨lo3, hi3⟩ := wf_i64b wf3
  obtain ⟨lo4, hi4⟩ := wf_i64b wf4
  obtain ⟨lo5, hi5⟩ := wf_i64b wf5
  refine ⟨⟨k0, k1, a2, n2, c2, l2, k3, k4, k5, a6, n6, c6, l6⟩, ?_, hb2, hb6, lo1, by show k1 < 4294967296; omega, lo0, hi0, lo3, hi3, lo4, hi4, lo5, hi5⟩
  apply List.ext_getElem?
  intro i
  match i with
  | 0 => exact e0
  | 1 => exact e1
  | 2 => exact e2
  | 3 => exact e3
  | 4 => exact e4
  | 5 => exact e5
  | 6 => exact e6
  | i + 7 => rw [List.getElem?_eq_none (by omega), List.getElem?_eq_none (by show 7 ≤ i + 7; omega)]

/-- A list of calls that came in. -/
theorem open_calls {H : Type} {enc : TypeId × Value → H} {W : World} {a : Option Addr} {n c : Nat} {d : DataW H} {p : List MemPlace} (h : DataW.Trod enc Try.prog W 0 (fun _ => true) true 22 (.slice a n c) d p) :
    n ≤ c ∧ c ≤ maxLen ∧ ∃ l, CSl W W.heap.size a n l := by
  obtain ⟨h1, h2, h⟩ := open_elems (C := 7) Try.underlying22 (by kernel_rfl) (by omega) h
  refine ⟨h1, h2, ?_⟩
  rcases Nat.eq_zero_or_pos n with hz | hn
  · exact ⟨[], by rw [hz]; rfl, fun i hi => by omega, fun h => by omega⟩
  · obtain ⟨b, off, e1, hb, hi⟩ := h hn
    have key : ∀ i, ∃ q : CallR, i < n → (COk W W.heap.size q ∧ ∀ j, j < 7 → W.cell? ⟨b, off + i * 7 + j, none⟩ = q.cells[j]?) := by
      intro i
      by_cases hin : i < n
      · obtain ⟨cs, m, y, hl, hc, hr⟩ := hi i hin
        obtain ⟨q, rfl, hq⟩ := open_call hl hr
        exact ⟨q, fun _ => ⟨hq, hc⟩⟩
      · exact ⟨dC, fun h => absurd h hin⟩
    have hall := fun i => Classical.choose_spec (key i)
    generalize hf : (fun i => Classical.choose (key i)) = f at *
    have hf' : ∀ i, Classical.choose (key i) = f i := fun i => congrFun hf i
    simp only [hf'] at hall
    have hlen : ((List.range n).map f).length = n := by simp
    have hget : ∀ i, i < n → ((List.range n).map f).getD i dC = f i := fun i hi => by simp [List.getD, hi]
    exact ⟨(List.range n).map f, hlen, fun i hi => by rw [hget i hi]; exact (hall i hi).1, fun _ => ⟨b, off, e1, hb, fun i j hin hj => by rw [hget i hin]; exact (hall i hin).2 j hj⟩⟩

set_option maxRecDepth 100000 in
/-- A call that came in by value. -/
theorem open_call1 {H : Type} {enc : TypeId × Value → H} {W : World} {v : Value} {d : DataW H} {p : List MemPlace} {base : Nat}
    (hok : Value.okWide Try.prog W .any base 30 v) (h : DataW.Trod enc Try.prog W 0 (fun _ => true) true 30 v d p) : ∃ c : CallR, v = c.vals ∧ COk W W.heap.size c := by
  obtain ⟨cs, rfl, hsz⟩ := okWide_struct Try.underlying30 hok
  have h7 : cs.size = 7 := by rw [hsz]; kernel_rfl
  obtain ⟨m, hm⟩ := h
  obtain ⟨c, hc, ho⟩ := open_call (by simp [Value.cells, h7]) hm
  refine ⟨c, ?_, ho⟩
  have : cs = c.cells.toArray := by
    apply Array.ext'
    have hcell : (Value.agg cs).cells.toList = cs.toList := rfl
    rw [← hcell, hc]
  rw [this]; rfl

end Go.Proofs.Ytboadalojimdlaa
