/-
  A checkpoint that came in, by value: its fields.
-/
import Derived.Test.YtkmifimdjdjdpaaFrame
import Derived.Test.YtkmifimdjdjdpaaChkRight
import Derived.SizedLaws
namespace Go.Proofs.Ytkmifimdjdjdpaa
open Go.ChangeShapes Go.WideShapes Go.ChangeAt Go.RowKit Go.Deep

/-- What a call wants of a list of positions that came in. -/
theorem open_posns {H : Type} {enc : TypeId × Value → H} {W : World} {a : Option Addr} {n c : Nat} {d : DataW H} {p : List MemPlace} (h : DataW.Trod enc Try.prog W 0 (fun _ => true) true 38 (.slice a n c) d p) :
    n ≤ c ∧ c ≤ maxLen ∧ ∃ ps, PSl W W.heap.size a n ps := by
  obtain ⟨h1, h2, h⟩ := open_elems (C := 5) Try.underlying38 (by kernel_rfl) (by omega) h
  refine ⟨h1, h2, ?_⟩
  rcases Nat.eq_zero_or_pos n with hz | hn
  · exact ⟨[], by rw [hz]; rfl, fun p hp => absurd hp (by simp), fun h => by omega⟩
  · obtain ⟨b, off, e1, hb, hi⟩ := h hn
    have key : ∀ i, ∃ q : PosR, i < n → ((q.key < 18446744073709551616 ∧ q.ck < 4294967296 ∧ -9223372036854775808 ≤ q.off ∧ q.off ≤ 9223372036854775807 ∧ -9223372036854775808 ≤ q.len ∧ q.len ≤ 9223372036854775807) ∧ ∀ j, j < 5 → W.cell? ⟨b, off + i * 5 + j, none⟩ = q.cells[j]?) := by
      intro i
      by_cases hin : i < n
      · obtain ⟨cs, m, y, hl, hc, hr⟩ := hi i hin
        obtain ⟨v0, m0, y0, e0, t0⟩ := field_cell (k := 0) (j := 0) Try.underlying82 hr rfl rfl (by kernel_rfl) (by omega)
        obtain ⟨v1, m1, y1, e1, t1⟩ := field_cell (k := 1) (j := 1) Try.underlying82 hr rfl rfl (by kernel_rfl) (by omega)
        obtain ⟨v2, m2, y2, e2, t2⟩ := field_cell (k := 2) (j := 2) Try.underlying82 hr rfl rfl (by kernel_rfl) (by omega)
        obtain ⟨v3, m3, y3, e3, t3⟩ := field_cell (k := 3) (j := 3) Try.underlying82 hr rfl rfl (by kernel_rfl) (by omega)
        obtain ⟨v4, m4, y4, e4, t4⟩ := field_cell (k := 4) (j := 4) Try.underlying82 hr rfl rfl (by kernel_rfl) (by omega)
        obtain ⟨k0, x0, -, wf0⟩ := DataW.trod_int Try.underlying24 t0
        obtain ⟨k1, x1, -, wf1⟩ := DataW.trod_int Try.underlying3 t1
        obtain ⟨k2, x2, -, wf2⟩ := DataW.trod_int Try.underlying3 t2
        obtain ⟨k3, x3, -, wf3⟩ := DataW.trod_int Try.underlying25 t3
        obtain ⟨b4, x4, -⟩ := DataW.trod_bool Try.underlying4 t4
        simp at x0 x1 x2 x3 x4
        subst x0 x1 x2 x3 x4
        obtain ⟨lo0, hi0⟩ := wf_u64b wf0
        obtain ⟨lo1, hi1⟩ := wf_i64b wf1
        obtain ⟨lo2, hi2⟩ := wf_i64b wf2
        obtain ⟨lo3, hi3⟩ := wf_u32b wf3
        obtain ⟨key, rfl⟩ := Int.eq_ofNat_of_zero_le lo0
        obtain ⟨ck, rfl⟩ := Int.eq_ofNat_of_zero_le lo3
        refine ⟨⟨key, k1, k2, ck, b4⟩, fun _ => ⟨⟨by show key < _; omega, by show ck < _; omega, lo1, hi1, lo2, hi2⟩, fun j hj => ?_⟩⟩
        rw [hc j hj]
        match j, hj with
        | 0, _ => exact e0
        | 1, _ => exact e1
        | 2, _ => exact e2
        | 3, _ => exact e3
        | 4, _ => exact e4
      · exact ⟨⟨0, 0, 0, 0, false⟩, fun h => absurd h hin⟩
    have hall := fun i => Classical.choose_spec (key i)
    generalize hf : (fun i => Classical.choose (key i)) = f at *
    have hf' : ∀ i, Classical.choose (key i) = f i := fun i => congrFun hf i
    simp only [hf'] at hall
    have hlen : ((List.range n).map f).length = n := by simp
    refine ⟨(List.range n).map f, hlen, ?_, fun _ => ⟨b, off, e1, hb, fun i j hin hj => ?_⟩⟩
    · intro p hp
      obtain ⟨i, hi, rfl⟩ := List.mem_map.1 hp
      exact (hall i (by simpa using hi)).1
    · rw [flatP_at _ i j hj (by rw [hlen]; exact hin), (hall i hin).2 j hj]
      simp

set_option maxRecDepth 100000 in
theorem open_check {H : Type} {enc : TypeId × Value → H} {W : World} {v : Value} {d : DataW H} {p : List MemPlace} {base : Nat}
    (hok : Value.okWide Try.prog W .any base 40 v) (h : DataW.Trod enc Try.prog W 0 (fun _ => true) true 40 v d p) :
    ∃ (x g u : Int) (a : Option Addr) (n c : Nat) (ps : List PosR), v = .agg #[.int .i64 x, .int .i64 g, .int .i64 u, .slice a n c] ∧
      (-9223372036854775808 ≤ x ∧ x ≤ 9223372036854775807 ∧ -9223372036854775808 ≤ g ∧ g ≤ 9223372036854775807 ∧ -9223372036854775808 ≤ u ∧ u ≤ 9223372036854775807) ∧ n ≤ c ∧ c ≤ maxLen ∧ PSl W W.heap.size a n ps := by
  obtain ⟨cs, rfl, hsz⟩ := okWide_struct Try.underlying40 hok
  have h4 : cs.size = 4 := by rw [hsz]; kernel_rfl
  obtain ⟨m, hm⟩ := h
  have hcs : (Value.agg cs).cells.toList.length = 4 := by simp [Value.cells, h4]
  obtain ⟨v0, m0, y0, e0, t0⟩ := field_cell (k := 0) (j := 0) Try.underlying40 hm rfl rfl (by kernel_rfl) (by omega)
  obtain ⟨v1, m1, y1, e1, t1⟩ := field_cell (k := 1) (j := 1) Try.underlying40 hm rfl rfl (by kernel_rfl) (by omega)
  obtain ⟨v2, m2, y2, e2, t2⟩ := field_cell (k := 2) (j := 2) Try.underlying40 hm rfl rfl (by kernel_rfl) (by omega)
  obtain ⟨v3, m3, y3, e3, t3⟩ := field_cell (k := 3) (j := 3) Try.underlying40 hm rfl rfl (by kernel_rfl) (by omega)
  obtain ⟨k0, x0, -, wf0⟩ := DataW.trod_int Try.underlying3 t0
  obtain ⟨k1, x1, -, wf1⟩ := DataW.trod_int Try.underlying3 t1
  obtain ⟨k2, x2, -, wf2⟩ := DataW.trod_int Try.underlying3 t2
  have h3 : ∃ a n c, v3 = .slice a n c := by
    rcases DataW.trod_slice Try.underlying38 t3 with ⟨e, _⟩ | ⟨a, len, cap, _, _, _, _, e, _⟩
    · injection e with e _
      exact ⟨_, _, _, e⟩
    · injection e with e _
      exact ⟨_, _, _, e⟩
  obtain ⟨a, n, c, rfl⟩ := h3
  injection x0 with x0 _
  injection x1 with x1 _
  injection x2 with x2 _
  subst x0 x1 x2
  have hl : cs = #[.int .i64 k0, .int .i64 k1, .int .i64 k2, .slice a n c] := by
    apply Array.ext'
    have hcell : (Value.agg cs).cells.toList = cs.toList := rfl
    rw [hcell] at e0 e1 e2 e3
    apply List.ext_getElem?
    intro i
    match i with
    | 0 => exact e0
    | 1 => exact e1
    | 2 => exact e2
    | 3 => exact e3
    | i + 4 =>
      rw [List.getElem?_eq_none (by rw [Array.length_toList]; omega), List.getElem?_eq_none (by simp)]
  subst hl
  obtain ⟨lo0, hi0⟩ := wf_i64b wf0
  obtain ⟨lo1, hi1⟩ := wf_i64b wf1
  obtain ⟨lo2, hi2⟩ := wf_i64b wf2
  have t3' : DataW.Trod enc Try.prog W 0 (fun _ => true) true 38 (.slice a n c) y3.1 y3.2 := ⟨m3, t3⟩
  obtain ⟨hnc, hcm, ps, hps⟩ := open_posns t3'
  exact ⟨k0, k1, k2, a, n, c, ps, rfl, ⟨lo0, hi0, lo1, hi1, lo2, hi2⟩, hnc, hcm, hps⟩

/-- A list of positions that came in lies within the reach. -/
theorem check_reach {H : Type} {enc : TypeId × Value → H} {W : World} {x g u : Value} {a : Option Addr} {n c : Nat} {d : DataW H} {p : List MemPlace}
    (h : DataW.Trod enc Try.prog W 0 (fun _ => true) true 40 (.agg #[x, g, u, .slice a n c]) d p) (hz : ∀ k ∈ d.weights Try.prog 40, k ≤ reachBytes) : n ≤ 4398046510976 := by
  obtain ⟨m, hm⟩ := h
  obtain ⟨xs, m', -, hx, hcl, hlen, hall⟩ := DataW.trod_struct Try.underlying40 hm
  have hk : 3 < xs.length := by rw [hlen]; decide
  have h3 := hall 3 _ rfl
  have hone : (((Value.agg #[x, g, u, .slice a n c]).cells.toList).drop 3).take 1 = [.slice a n c] := rfl
  have hc1 : Try.prog.cellsOf 38 = 1 := by kernel_rfl
  have h3 : DataW.trod enc Try.prog W 0 (fun _ => true) true m' 38 ((((Value.agg #[x, g, u, .slice a n c]).cells.toList).drop 3).take (Try.prog.cellsOf 38)) = xs[3]? := h3
  rw [hc1, hone, List.getElem?_eq_getElem hk] at h3
  obtain ⟨hd, -⟩ := Prod.mk.inj hx
  rcases DataW.trod_slice Try.underlying38 h3 with ⟨e, _⟩ | ⟨a', len, cap, elems, rest, k, _, e, ex, _, _, _, hel, _, _⟩
  · injection e with e _
    injection e with _ e _
    omega
  · injection e with e _
    injection e with _ e _
    have hb : Try.prog.bytesOf 82 = 32 := by kernel_rfl
    have hmem : (elems.length + rest.length) * Try.prog.bytesOf 82 ∈ d.weights Try.prog 40 := by
      rw [hd]
      simp only [DataW.weights, Try.underlying40]
      refine DataW.weights_mem_each (j := 3) (t := 38) (d := .slice (elems.map (·.1)) (rest.map (·.1))) rfl ?_ _ ?_
      · rw [List.getElem?_map, List.getElem?_eq_getElem hk, Option.map_some, ex]
      · simp [DataW.weights, Try.underlying38]
    have := hz _ hmem
    rw [hb, hel] at this
    unfold reachBytes at this
    omega

end Go.Proofs.Ytkmifimdjdjdpaa
