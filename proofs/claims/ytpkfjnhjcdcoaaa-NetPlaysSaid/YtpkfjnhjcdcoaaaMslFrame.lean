/-
  Messages that came in: a list of them; one by value.
-/
import Derived.Test.YtpkfjnhjcdcoaaaFrame
import Derived.Test.YtpkfjnhjcdcoaaaMsl
namespace Go.Proofs.Ytpkfjnhjcdcoaaa
open Go.ChangeShapes Go.WideShapes Go.ChangeAt Go.RowKit Go.Deep

/-- Of a struct's cells: a field of several. -/
theorem field_part {H : Type} {enc : TypeId × Value → H} {P : Program} {W : World} {base : Nat} {t : TypeId} {fs : Array Field} {f : Field} {k j C : Nat} {cs : List Value} {m : Nat} {y : DataW H × List MemPlace} {sp : Nat → Bool} {hd : Bool}
    (hs : P.underlying t = some (.struct fs)) (h : DataW.trod enc P W base sp hd m t cs = some y)
    (hf : fs[k]? = some f) (ho : f.offset = j) (h1 : P.cellsOf f.type = C) :
    ∃ (m' : Nat) (y' : DataW H × List MemPlace), DataW.trod enc P W base sp hd m' f.type ((cs.drop j).take C) = some y' := by
  obtain ⟨xs, m', _, _, _, hlen, hall⟩ := DataW.trod_struct hs h
  have hk : k < xs.length := by rw [hlen]; exact (Array.getElem?_eq_some_iff.1 hf).1
  have := hall k f hf
  rw [ho, h1, List.getElem?_eq_getElem hk] at this
  exact ⟨m', _, this⟩
theorem part_at {cs : List Value} {j C i : Nat} {v : Value} (h : ((cs.drop j).take C)[i]? = some v) : cs[j + i]? = some v := by
  rw [List.getElem?_take] at h
  split at h
  · rwa [List.getElem?_drop] at h
  · cases h

/-- What a message wants of the cells of one that came in. -/
theorem open_msg {H : Type} {enc : TypeId × Value → H} {W : World} {cs : List Value} {m : Nat} {y : DataW H × List MemPlace} (hl : cs.length = 12)
    (hr : DataW.trod enc Try.prog W 0 (fun _ => true) true m 36 cs = some y) : ∃ c : MsgR, cs = c.cells ∧ MIn W W.heap.size c := by
  obtain ⟨v0, m0, y0, e0, t0⟩ := field_cell (k := 0) (j := 0) Try.underlying36 hr rfl rfl (by kernel_rfl) (by omega)
  obtain ⟨v1, m1, y1, e1, t1⟩ := field_cell (k := 1) (j := 1) Try.underlying36 hr rfl rfl (by kernel_rfl) (by omega)
  obtain ⟨v2, m2, y2, e2, t2⟩ := field_cell (k := 2) (j := 2) Try.underlying36 hr rfl rfl (by kernel_rfl) (by omega)
  obtain ⟨v3, m3, y3, e3, t3⟩ := field_cell (k := 3) (j := 3) Try.underlying36 hr rfl rfl (by kernel_rfl) (by omega)
  obtain ⟨v4, m4, y4, e4, t4⟩ := field_cell (k := 4) (j := 4) Try.underlying36 hr rfl rfl (by kernel_rfl) (by omega)
  obtain ⟨v5, m5, y5, e5, t5⟩ := field_cell (k := 5) (j := 5) Try.underlying36 hr rfl rfl (by kernel_rfl) (by omega)
  obtain ⟨v6, m6, y6, e6, t6⟩ := field_cell (k := 6) (j := 6) Try.underlying36 hr rfl rfl (by kernel_rfl) (by omega)
  obtain ⟨v7, m7, y7, e7, t7⟩ := field_cell (k := 7) (j := 7) Try.underlying36 hr rfl rfl (by kernel_rfl) (by omega)
  obtain ⟨mn, yn, hn⟩ := field_part (k := 8) (j := 8) (C := 4) Try.underlying36 hr rfl rfl (by kernel_rfl)
  have hcs : ((cs.drop 8).take 4).length = 4 := by rw [List.length_take, List.length_drop]; omega
  obtain ⟨v8, m8, y8, e8, t8⟩ := field_cell (k := 0) (j := 0) Try.underlying34 hn rfl rfl (by kernel_rfl) (by omega)
  obtain ⟨v9, m9, y9, e9, t9⟩ := field_cell (k := 1) (j := 1) Try.underlying34 hn rfl rfl (by kernel_rfl) (by omega)
  obtain ⟨v10, m10, y10, e10, t10⟩ := field_cell (k := 2) (j := 2) Try.underlying34 hn rfl rfl (by kernel_rfl) (by omega)
  obtain ⟨v11, m11, y11, e11, t11⟩ := field_cell (k := 3) (j := 3) Try.underlying34 hn rfl rfl (by kernel_rfl) (by omega)
  replace e8 := part_at e8
  replace e9 := part_at e9
  replace e10 := part_at e10
  replace e11 := part_at e11
  obtain ⟨k0, x0, -, wf0⟩ := DataW.trod_int Try.underlying3 t0
  obtain ⟨k1, x1, -, wf1⟩ := DataW.trod_int Try.underlying3 t1
  obtain ⟨k2, x2, -, wf2⟩ := DataW.trod_int Try.underlying3 t2
  obtain ⟨k3, x3, -, wf3⟩ := DataW.trod_int Try.underlying3 t3
  obtain ⟨k4, x4, -, wf4⟩ := DataW.trod_int Try.underlying3 t4
  obtain ⟨k5, x5, -, wf5⟩ := DataW.trod_int Try.underlying24 t5
  obtain ⟨k6, x6, -, wf6⟩ := DataW.trod_int Try.underlying3 t6
  obtain ⟨b7, x7, -⟩ := DataW.trod_bool Try.underlying4 t7
  obtain ⟨k8, x8, -, wf8⟩ := DataW.trod_int Try.underlying24 t8
  obtain ⟨k9, x9, -, wf9⟩ := DataW.trod_int Try.underlying25 t9
  obtain ⟨b10, x10, -⟩ := DataW.trod_bool Try.underlying4 t10
  have h3 : ∃ a n c, v11 = .slice a n c := by
    rcases DataW.trod_slice Try.underlying22 t11 with ⟨e, _⟩ | ⟨a, len, cap, _, _, _, _, e, _⟩
    · injection e with e _
      exact ⟨_, _, _, e⟩
    · injection e with e _
      exact ⟨_, _, _, e⟩
  obtain ⟨a, n, c, rfl⟩ := h3
  have hT : DataW.Trod enc Try.prog W 0 (fun _ => true) true 22 (.slice a n c) y11.1 y11.2 := ⟨m11, t11⟩
  obtain ⟨hnc, hcm, l, hbl⟩ := open_bytes Try.underlying22 Try.underlying5 (by kernel_rfl) hT
  simp at x0 x1 x2 x3 x4 x5 x6 x7 x8 x9 x10
  subst x0 x1 x2 x3 x4 x5 x6 x7 x8 x9 x10
  obtain ⟨lo0, hi0⟩ := wf_i64b wf0
  obtain ⟨lo1, hi1⟩ := wf_i64b wf1
  obtain ⟨lo2, hi2⟩ := wf_i64b wf2
  obtain ⟨lo3, hi3⟩ := wf_i64b wf3
  obtain ⟨lo4, hi4⟩ := wf_i64b wf4
  obtain ⟨lo5, hi5⟩ := wf_u64b wf5
  obtain ⟨lo6, hi6⟩ := wf_i64b wf6
  obtain ⟨lo8, hi8⟩ := wf_u64b wf8
  obtain ⟨lo9, hi9⟩ := wf_u32b wf9
  obtain ⟨j5, rfl⟩ := Int.eq_ofNat_of_zero_le lo5
  obtain ⟨j8, rfl⟩ := Int.eq_ofNat_of_zero_le lo8
  obtain ⟨j9, rfl⟩ := Int.eq_ofNat_of_zero_le lo9
  unfold maxLen at hcm
  refine ⟨⟨k0, k1, k2, k3, k4, j5, k6, b7, j8, j9, b10, a, n, c, l⟩, ?_, ⟨hbl, hnc, by simpa using hcm, lo0, hi0, lo1, hi1, lo2, hi2, lo3, hi3, lo4, hi4, by show j5 < _; omega, lo6, hi6, by show j8 < _; omega, by show j9 < _; omega⟩⟩
  apply List.ext_getElem?
  intro i
  match i with
  | 0 => exact e0
  | 1 => exact e1
  | 2 => exact e2
  | 3 => exact e3
  | 4 => exact e4
  | 5 => exact e5
  | 6 => exact e6
  | 7 => exact e7
  | 8 => exact e8
  | 9 => exact e9
  | 10 => exact e10
  | 11 => exact e11
  | i + 12 => rw [List.getElem?_eq_none (by omega), List.getElem?_eq_none (by show 12 ≤ i + 12; omega)]

/-- A list of messages that came in. -/
theorem open_msgs {H : Type} {enc : TypeId × Value → H} {W : World} {a : Option Addr} {n c : Nat} {d : DataW H} {p : List MemPlace} (h : DataW.Trod enc Try.prog W 0 (fun _ => true) true 70 (.slice a n c) d p) :
    n ≤ c ∧ c ≤ maxLen ∧ ∃ l, MSl W W.heap.size a n l := by
  obtain ⟨h1, h2, h⟩ := open_elems (C := 12) Try.underlying70 (by kernel_rfl) (by omega) h
  refine ⟨h1, h2, ?_⟩
  rcases Nat.eq_zero_or_pos n with hz | hn
  · exact ⟨[], by rw [hz]; rfl, fun i hi => by omega, fun h => by omega⟩
  · obtain ⟨b, off, e1, hb, hi⟩ := h hn
    have key : ∀ i, ∃ q : MsgR, i < n → (MIn W W.heap.size q ∧ ∀ j, j < 12 → W.cell? ⟨b, off + i * 12 + j, none⟩ = q.cells[j]?) := by
      intro i
      by_cases hin : i < n
      · obtain ⟨cs, m, y, hl, hc, hr⟩ := hi i hin
        obtain ⟨q, rfl, hq⟩ := open_msg hl hr
        exact ⟨q, fun _ => ⟨hq, hc⟩⟩
      · exact ⟨mNone, fun h => absurd h hin⟩
    have hall := fun i => Classical.choose_spec (key i)
    generalize hf : (fun i => Classical.choose (key i)) = f at *
    have hf' : ∀ i, Classical.choose (key i) = f i := fun i => congrFun hf i
    simp only [hf'] at hall
    have hlen : ((List.range n).map f).length = n := by simp
    have hget : ∀ i, i < n → ((List.range n).map f).getD i mNone = f i := fun i hi => by simp [List.getD, hi]
    exact ⟨(List.range n).map f, hlen, fun i hi => by rw [hget i hi]; exact (hall i hi).1, fun _ => ⟨b, off, e1, hb, fun i j hin hj => by rw [hget i hin]; exact (hall i hin).2 j hj⟩⟩

set_option maxRecDepth 100000 in
/-- A message that came in by value. -/
theorem open_msg1 {H : Type} {enc : TypeId × Value → H} {W : World} {v : Value} {d : DataW H} {p : List MemPlace} {base : Nat}
    (hok : Value.okWide Try.prog W .any base 36 v) (h : DataW.Trod enc Try.prog W 0 (fun _ => true) true 36 v d p) : ∃ c : MsgR, v = c.vals ∧ MIn W W.heap.size c := by
  obtain ⟨cs, rfl, hsz⟩ := okWide_struct Try.underlying36 hok
  have h7 : cs.size = 12 := by rw [hsz]; kernel_rfl
  obtain ⟨m, hm⟩ := h
  obtain ⟨c, hc, ho⟩ := open_msg (by simp [Value.cells, h7]) hm
  refine ⟨c, ?_, ho⟩
  have : cs = c.cells.toArray := by
    apply Array.ext'
    have hcell : (Value.agg cs).cells.toList = cs.toList := rfl
    rw [← hcell, hc]
  rw [this]; rfl

end Go.Proofs.Ytpkfjnhjcdcoaaa
