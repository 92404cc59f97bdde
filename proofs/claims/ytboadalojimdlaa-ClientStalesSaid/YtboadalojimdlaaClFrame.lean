/-
  An operation of the client that came in by value.
-/
import Derived.Test.YtboadalojimdlaaMslFrame
import Derived.Test.YtboadalojimdlaaNdlFrame
import Derived.Test.YtboadalojimdlaaCl
import Derived.Laws.IdiomArrays
namespace Go.Proofs.Ytboadalojimdlaa
open Go.ChangeShapes Go.WideShapes Go.ChangeAt Go.RowKit Go.Deep

theorem take_three {cs : List Value} {j : Nat} (h : j + 3 ≤ cs.length) : ∃ c0 c1 c2, (cs.drop j).take 3 = [c0, c1, c2] ∧ cs[j]? = some c0 ∧ cs[j + 1]? = some c1 ∧ cs[j + 2]? = some c2 := by
  refine ⟨cs[j], cs[j + 1], cs[j + 2], ?_, List.getElem?_eq_getElem (by omega), List.getElem?_eq_getElem (by omega), List.getElem?_eq_getElem (by omega)⟩
  rw [List.drop_eq_getElem_cons (i := j) (by omega), List.drop_eq_getElem_cons (i := j + 1) (by omega), List.drop_eq_getElem_cons (i := j + 1 + 1) (by omega)]
  rfl
/-- What holds of an operation that came in. -/
structure OpIn (w : World) (o : OpR) : Prop where
  b : BSl w w.heap.size o.a o.n o.l
  nc : o.n ≤ o.c
  cm : o.c ≤ 9223372036854775807
  id1 : o.id < 18446744073709551616
  kd0 : -9223372036854775808 ≤ o.kd
  kd1 : o.kd ≤ 9223372036854775807
set_option maxRecDepth 100000 in
theorem open_op21 {H : Type} {enc : TypeId × Value → H} {W : World} {v : Value} {d : DataW H} {p : List MemPlace} {base : Nat}
    (hok : Value.okWide Try.prog W .any base 75 v) (h : DataW.Trod enc Try.prog W 0 (fun _ => true) true 75 v d p) : ∃ o : OpR, v = o.vals ∧ OpIn W o := by
  obtain ⟨ca, rfl, hsz⟩ := okWide_struct Try.underlying75 hok
  have h14 : ca.size = 14 := by rw [hsz]; kernel_rfl
  obtain ⟨m, hr⟩ := h
  obtain ⟨cs, hcs⟩ : ∃ cs, (Value.agg ca).cells.toList = cs := ⟨_, rfl⟩
  rw [hcs] at hr
  have hl : cs.length = 14 := by rw [← hcs]; simp [Value.cells, h14]
  obtain ⟨v0, m0, y0, e0, t0⟩ := field_cell (k := 0) (j := 0) Try.underlying75 hr rfl rfl (by kernel_rfl) (by omega)
  obtain ⟨v1, m1, y1, e1, t1⟩ := field_cell (k := 1) (j := 1) Try.underlying75 hr rfl rfl (by kernel_rfl) (by omega)
  obtain ⟨v2, m2, y2, e2, t2⟩ := field_cell (k := 2) (j := 2) Try.underlying75 hr rfl rfl (by kernel_rfl) (by omega)
  obtain ⟨v6, m6, y6, e6, t6⟩ := field_cell (k := 4) (j := 6) Try.underlying75 hr rfl rfl (by kernel_rfl) (by omega)
  obtain ⟨ma, ya, ha⟩ := field_part (k := 3) (j := 3) (C := 3) Try.underlying75 hr rfl rfl (by kernel_rfl)
  obtain ⟨ml, yl, hlf⟩ := field_part (k := 5) (j := 7) (C := 3) Try.underlying75 hr rfl rfl (by kernel_rfl)
  obtain ⟨mn, yn, hn⟩ := field_part (k := 6) (j := 10) (C := 4) Try.underlying75 hr rfl rfl (by kernel_rfl)
  obtain ⟨v3, v4, v5, ea, e3, e4, e5⟩ := take_three (cs := cs) (j := 3) (by omega)
  obtain ⟨v7, v8, v9, el, e7, e8, e9⟩ := take_three (cs := cs) (j := 7) (by omega)
  rw [ea] at ha
  rw [el] at hlf
  obtain ⟨y3, y4, y5, na, -, t3, t4, t5⟩ := trod_array3 Try.underlying73 (by kernel_rfl) ha
  obtain ⟨y7, y8, y9, nl, -, t7, t8, t9⟩ := trod_array3 Try.underlying73 (by kernel_rfl) hlf
  obtain ⟨w0, u0, z0, g0, s0⟩ := field_cell (k := 0) (j := 0) Try.underlying58 hn rfl rfl (by kernel_rfl) (by rw [List.length_take, List.length_drop]; omega)
  obtain ⟨w1, u1, z1, g1, s1⟩ := field_cell (k := 1) (j := 1) Try.underlying58 hn rfl rfl (by kernel_rfl) (by rw [List.length_take, List.length_drop]; omega)
  obtain ⟨w2, u2, z2, g2, s2⟩ := field_cell (k := 2) (j := 2) Try.underlying58 hn rfl rfl (by kernel_rfl) (by rw [List.length_take, List.length_drop]; omega)
  obtain ⟨w3, u3, z3, g3, s3⟩ := field_cell (k := 3) (j := 3) Try.underlying58 hn rfl rfl (by kernel_rfl) (by rw [List.length_take, List.length_drop]; omega)
  replace g0 := part_at g0
  replace g1 := part_at g1
  replace g2 := part_at g2
  replace g3 := part_at g3
  obtain ⟨k0, x0, -, wf0⟩ := DataW.trod_int Try.underlying3 t0
  obtain ⟨k1, x1, -, wf1⟩ := DataW.trod_int Try.underlying3 t1
  obtain ⟨k2, x2, -, wf2⟩ := DataW.trod_int Try.underlying3 t2
  obtain ⟨k3, x3, -, wf3⟩ := DataW.trod_int Try.underlying3 t3
  obtain ⟨k4, x4, -, wf4⟩ := DataW.trod_int Try.underlying3 t4
  obtain ⟨k5, x5, -, wf5⟩ := DataW.trod_int Try.underlying3 t5
  obtain ⟨k7, x7, -, wf7⟩ := DataW.trod_int Try.underlying3 t7
  obtain ⟨k8, x8, -, wf8⟩ := DataW.trod_int Try.underlying3 t8
  obtain ⟨k9, x9, -, wf9⟩ := DataW.trod_int Try.underlying3 t9
  obtain ⟨k6, x6, -, wf6⟩ := DataW.trod_int Try.underlying49 t6
  obtain ⟨k10, x10, -, wf10⟩ := DataW.trod_int Try.underlying49 s0
  obtain ⟨k11, x11, -, wf11⟩ := DataW.trod_int Try.underlying25 s1
  obtain ⟨b12, x12, -⟩ := DataW.trod_bool Try.underlying4 s2
  have h3 : ∃ a n c, w3 = .slice a n c := by
    rcases DataW.trod_slice Try.underlying26 s3 with ⟨e, _⟩ | ⟨a, len, cap, _, _, _, _, e, _⟩
    · injection e with e _
      exact ⟨_, _, _, e⟩
    · injection e with e _
      exact ⟨_, _, _, e⟩
  obtain ⟨a, n, c, rfl⟩ := h3
  have hT : DataW.Trod enc Try.prog W 0 (fun _ => true) true 26 (.slice a n c) z3.1 z3.2 := ⟨u3, s3⟩
  obtain ⟨hnc, hcm, l, hbl⟩ := open_bytes Try.underlying26 Try.underlying5 (by kernel_rfl) hT
  simp at x0 x1 x2 x3 x4 x5 x6 x7 x8 x9 x10 x11 x12
  subst x0 x1 x2 x3 x4 x5 x6 x7 x8 x9 x10 x11 x12
  obtain ⟨lo0, hi0⟩ := wf_i64b wf0
  obtain ⟨lo6, hi6⟩ := wf_u64b wf6
  obtain ⟨lo10, hi10⟩ := wf_u64b wf10
  obtain ⟨lo11, hi11⟩ := wf_u32b wf11
  obtain ⟨j6, rfl⟩ := Int.eq_ofNat_of_zero_le lo6
  obtain ⟨j10, rfl⟩ := Int.eq_ofNat_of_zero_le lo10
  obtain ⟨j11, rfl⟩ := Int.eq_ofNat_of_zero_le lo11
  unfold maxLen at hcm
  refine ⟨⟨k0, k1, k2, k3, k4, k5, j6, k7, k8, k9, j10, j11, b12, a, n, c, l⟩, ?_, ⟨hbl, hnc, by simpa using hcm, by show j6 < _; omega, lo0, hi0⟩⟩
  have hcc : cs = (⟨k0, k1, k2, k3, k4, k5, j6, k7, k8, k9, j10, j11, b12, a, n, c, l⟩ : OpR).cells := by
    apply List.ext_getElem?
    intro i
    match i with
    | 0 => exact e0
    | 1 => exact e1
    | 2 => exact e2
    | 3 => exact e3
    | 4 => exact e4
    | 5 => exact e5
    | 6 => exact e6
    | 7 => exact e7
    | 8 => exact e8
    | 9 => exact e9
    | 10 => exact g0
    | 11 => exact g1
    | 12 => exact g2
    | 13 => exact g3
    | i + 14 => rw [List.getElem?_eq_none (by omega), List.getElem?_eq_none (by show 14 ≤ i + 14; omega)]
  have : ca = (⟨k0, k1, k2, k3, k4, k5, j6, k7, k8, k9, j10, j11, b12, a, n, c, l⟩ : OpR).cells.toArray := by
    apply Array.ext'
    have hcell : (Value.agg ca).cells.toList = ca.toList := rfl
    rw [← hcell, hcs, hcc]
  rw [this]; rfl
end Go.Proofs.Ytboadalojimdlaa
