/-
  A checkpoint that came in, by value: its fields.
-/
import Derived.Test.YtmmmakfmpopniaaFrame
import Derived.Test.YtmmmakfmpopniaaChkRight
import Derived.SizedLaws
namespace Go.Proofs.Ytmmmakfmpopniaa
open Go.ChangeShapes Go.WideShapes Go.ChangeAt Go.RowKit Go.Deep

/-- What a call wants of a list of positions that came in. -/
theorem open_posns {H : Type} {enc : TypeId × Value → H} {W : World} {a : Option Addr} {n c : Nat} {d : DataW H} {p : List MemPlace} (h : DataW.Trod enc Try.prog W 0 (fun _ => true) true 22 (.slice a n c) d p) :
    n ≤ c ∧ c ≤ maxLen ∧ ∃ ps, PSl W W.heap.size a n ps := by
  obtain ⟨h1, h2, h⟩ := open_elems (C := 5) Try.underlying22 (by kernel_rfl) (by omega) h
  refine ⟨h1, h2, ?_⟩
  rcases Nat.eq_zero_or_pos n with hz | hn
  · exact ⟨[], by rw [hz]; rfl, fun p hp => absurd hp (by simp), fun h => by omega⟩
  · obtain ⟨b, off, e1, hb, hi⟩ := h hn
    have key : ∀ i, ∃ q : PosR, i < n → ((q.key < 18446744073709551616 ∧ q.ck < 4294967296 ∧ -9223372036854775808 ≤ q.off ∧ q.off ≤ 9223372036854775807 ∧ -9223372036854775808 ≤ q.len ∧ q.len ≤ 9223372036854775807) ∧ ∀ j, j < 5 → W.cell? ⟨b, off + i * 5 + j, none⟩ = q.cells[j]?) := by
      intro i
      by_cases hin : i < n
      · obtain ⟨cs, m, y, hl, hc, hr⟩ := hi i hin
        obtain ⟨v0, m0, y0, e0, t0⟩ := field_cell (k := 0) (j := 0) Try.underlying40 hr rfl rfl (by kernel_rfl) (by omega)
        obtain ⟨v1, m1, y1, e1, t1⟩ := field_cell (k := 1) (j := 1) Try.underlying40 hr rfl rfl (by kernel_rfl) (by omega)
        obtain ⟨v2, m2, y2, e2, t2⟩ := field_cell (k := 2) (j := 2) Try.underlying40 hr rfl rfl (by kernel_rfl) (by omega)
        obtain ⟨v3, m3, y3, e3, t3⟩ := field_cell (k := 3) (j := 3) Try.underlying40 hr rfl rfl (by kernel_rfl) (by omega)
        obtain ⟨v4, m4, y4, e4, t4⟩ := field_cell (k := 4) (j := 4) Try.underlying40 hr rfl rfl (by kernel_rfl) (by omega)
        obtain ⟨k0, x0, -, wf0⟩ := DataW.trod_int Try.underlying29 t0
        obtain ⟨k1, x1, -, wf1⟩ := DataW.trod_int Try.underlying3 t1
        obtain ⟨k2, x2, -, wf2⟩ := DataW.trod_int Try.underlying3 t2
        obtain ⟨k3, x3, -, wf3⟩ := DataW.trod_int Try.underlying30 t3
        obtain ⟨b4, x4, -⟩ := DataW.trod_bool Try.underlying4 t4
        simp at x0 x1 x2 x3 x4
        subst x0 x1 x2 x3 x4
        obtain ⟨lo0, hi0⟩ := wf_u64b wf0
        obtain ⟨lo1, hi1⟩ := wf_i64b wf1
        obtain ⟨lo2, hi2⟩ := wf_i64b wf2
        obtain ⟨lo3, hi3⟩ := wf_u32b wf3
        obtain ⟨key, rfl⟩ := Int.eq_ofNat_of_zero_le lo0
        obtain ⟨ck, rfl⟩ := Int.eq_ofNat_of_zero_le lo3
        refine ⟨⟨key, k1, k2, ck, b4⟩, fun _ => ⟨⟨by show key < _; omega, by show ck < _; omega, lo1, hi1, lo2, hi2⟩, fun j hj => ?_⟩⟩
        rw [hc j hj]
        match j, hj with
        | 0, _ => exact e0
        | 1, _ => exact e1
        | 2, _ => exact e2
        | 3, _ => exact e3
        | 4, _ => exact e4
      · exact ⟨⟨0, 0, 0, 0, false⟩, fun h => absurd h hin⟩
    have hall := fun i => Classical.choose_spec (key i)
    generalize hf : (fun i => Classical.choose (key i)) = f at *
    have hf' : ∀ i, Classical.choose (key i) = f i := fun i => congrFun hf i
    simp only [hf'] at hall
    have hlen : ((List.range n).map f).length = n := by simp
    refine ⟨(List.range n).map f, hlen, ?_, fun _ => ⟨b, off, e1, hb, fun i j hin hj => ?_⟩⟩
    · intro p hp
      obtain ⟨i, hi, rfl⟩ := List.mem_map.1 hp
      exact (hall i (by simpa using hi)).1
    · rw [flatP_at _ i j hj (by rw [hlen]; exact hin), (hall i hin).2 j hj]
      simp

end Go.Proofs.Ytmmmakfmpopniaa
