/-
  A needle that came in, by value: its fields.
-/
import Derived.Test.YtpkfjnhjcdcoaaaFrame
import Derived.Test.YtpkfjnhjcdcoaaaNdlAlive
namespace Go.Proofs.Ytpkfjnhjcdcoaaa
open Go.ChangeShapes Go.WideShapes Go.ChangeAt Go.RowKit

set_option maxRecDepth 100000 in
theorem open_needle_agg {H : Type} {enc : TypeId × Value → H} {W : World} {cs : Array Value} {d : DataW H} {p : List MemPlace}
    (h4 : cs.size = 4) (h : DataW.Trod enc Try.prog W 0 (fun _ => true) true 34 (.agg cs) d p) :
    ∃ (key ck : Nat) (g : Bool) (a : Option Addr) (n c : Nat) (l : List (BitVec 8)), Value.agg cs = .agg #[.int .u64 key, .int .u32 ck, .bool g, .slice a n c] ∧ key < 18446744073709551616 ∧ ck < 4294967296 ∧ n ≤ c ∧ c ≤ maxLen ∧ BSl W W.heap.size a n l := by
  obtain ⟨m, hm⟩ := h
  have hcs : (Value.agg cs).cells.toList.length = 4 := by simp [Value.cells, h4]
  obtain ⟨v0, m0, y0, e0, t0⟩ := field_cell (k := 0) (j := 0) Try.underlying34 hm rfl rfl (by kernel_rfl) (by omega)
  obtain ⟨v1, m1, y1, e1, t1⟩ := field_cell (k := 1) (j := 1) Try.underlying34 hm rfl rfl (by kernel_rfl) (by omega)
  obtain ⟨v2, m2, y2, e2, t2⟩ := field_cell (k := 2) (j := 2) Try.underlying34 hm rfl rfl (by kernel_rfl) (by omega)
  obtain ⟨v3, m3, y3, e3, t3⟩ := field_cell (k := 3) (j := 3) Try.underlying34 hm rfl rfl (by kernel_rfl) (by omega)
  obtain ⟨k0, x0, -, wf0⟩ := DataW.trod_int Try.underlying24 t0
  obtain ⟨k1, x1, -, wf1⟩ := DataW.trod_int Try.underlying25 t1
  obtain ⟨b2, x2, -⟩ := DataW.trod_bool Try.underlying4 t2
  have h3 : ∃ a n c, v3 = .slice a n c := by
    rcases DataW.trod_slice Try.underlying22 t3 with ⟨e, _⟩ | ⟨a, len, cap, _, _, _, _, e, _⟩
    · injection e with e _
      exact ⟨_, _, _, e⟩
    · injection e with e _
      exact ⟨_, _, _, e⟩
  obtain ⟨a, n, c, rfl⟩ := h3
  injection x0 with x0 _
  injection x1 with x1 _
  injection x2 with x2 _
  subst x0 x1 x2
  have hl : cs = #[.int .u64 k0, .int .u32 k1, .bool b2, .slice a n c] := by
    apply Array.ext'
    have hcell : (Value.agg cs).cells.toList = cs.toList := rfl
    rw [hcell] at e0 e1 e2 e3
    apply List.ext_getElem?
    intro i
    match i with
    | 0 => exact e0
    | 1 => exact e1
    | 2 => exact e2
    | 3 => exact e3
    | i + 4 =>
      rw [List.getElem?_eq_none (by rw [Array.length_toList]; omega), List.getElem?_eq_none (by simp)]
  subst hl
  obtain ⟨lo0, hi0⟩ := wf_u64b wf0
  obtain ⟨lo1, hi1⟩ := wf_u32b wf1
  have t3' : DataW.Trod enc Try.prog W 0 (fun _ => true) true 22 (.slice a n c) y3.1 y3.2 := ⟨m3, t3⟩
  obtain ⟨hnc, hcm, l, hl⟩ := open_bytes Try.underlying22 Try.underlying5 (by kernel_rfl) t3'
  obtain ⟨key, rfl⟩ := Int.eq_ofNat_of_zero_le lo0
  obtain ⟨ck, rfl⟩ := Int.eq_ofNat_of_zero_le lo1
  exact ⟨key, ck, b2, a, n, c, l, rfl, by omega, by omega, hnc, hcm, hl⟩

set_option maxRecDepth 100000 in
theorem open_needle {H : Type} {enc : TypeId × Value → H} {W : World} {v : Value} {d : DataW H} {p : List MemPlace} {base : Nat}
    (hok : Value.okWide Try.prog W .any base 34 v) (h : DataW.Trod enc Try.prog W 0 (fun _ => true) true 34 v d p) :
    ∃ (key ck : Nat) (g : Bool) (a : Option Addr) (n c : Nat) (l : List (BitVec 8)), v = .agg #[.int .u64 key, .int .u32 ck, .bool g, .slice a n c] ∧ key < 18446744073709551616 ∧ ck < 4294967296 ∧ n ≤ c ∧ c ≤ maxLen ∧ BSl W W.heap.size a n l := by
  obtain ⟨cs, rfl, hsz⟩ := okWide_struct Try.underlying34 hok
  exact open_needle_agg (by rw [hsz]; kernel_rfl) h

end Go.Proofs.Ytpkfjnhjcdcoaaa
