/-
  From the arguments' readings to what the walks ask.
-/
import Derived.Test.YtpkfjnhjcdcoaaaMem
import Derived.Test.YtpkfjnhjcdcoaaaChecked
import Derived.ProofKit
import Derived.OpenShut
import Derived.ChangeOld
import Derived.Deep.Slices
namespace Go.Proofs.Ytpkfjnhjcdcoaaa
open Go.ChangeShapes Go.WideShapes Go.ChangeAt Go.RowKit Go.Deep

theorem own : ownKnob Try.prog.godebug = none := by kernel_rfl
theorem laidOut : laidOutB Try.prog = true := by kernel_rfl

theorem wfb {k : IntKind} {a : Int} (h : (Lit.int k a).wf = true) : k.min ≤ a ∧ a ≤ k.max := by
  simpa only [Lit.wf, Bool.and_eq_true, decide_eq_true_eq] using h
theorem wf_u8b {a : Int} (h : (Lit.int .u8 a).wf = true) : 0 ≤ a ∧ a ≤ 255 := wfb h
theorem wf_u16b {a : Int} (h : (Lit.int .u16 a).wf = true) : 0 ≤ a ∧ a ≤ 65535 := wfb h
theorem wf_u32b {a : Int} (h : (Lit.int .u32 a).wf = true) : 0 ≤ a ∧ a ≤ 4294967295 := wfb h
theorem wf_u64b {a : Int} (h : (Lit.int .u64 a).wf = true) : 0 ≤ a ∧ a ≤ 18446744073709551615 := wfb h
theorem wf_i64b {a : Int} (h : (Lit.int .i64 a).wf = true) : -9223372036854775808 ≤ a ∧ a ≤ 9223372036854775807 := wfb h

section
variable {H : Type} {enc : TypeId × Value → H} {P : Program} {W : World} {base : Nat} {t e : TypeId} {a : Option Addr} {n c : Nat} {d : DataW H} {p : List MemPlace}

theorem add_spot {w : World} {x : Addr} {v : Value} (h : w.cell? x = some v) : x.spot = none := by
  obtain ⟨b, off, s⟩ := x
  exact World.cell?_spot h

/-- A slice of numbers that came in. -/
theorem open_nums {k : IntKind} (ht : P.underlying t = some (.slice e)) (he : P.underlying e = some (.int k)) (hc : P.cellsOf e = 1) (h : DataW.Trod enc P W base (fun _ => true) true t (.slice a n c) d p) :
    n ≤ c ∧ c ≤ maxLen ∧ ∃ zs : List Int, zs.length = n ∧ (∀ z ∈ zs, (Lit.int k z).wf = true) ∧
      (0 < n → ∃ b off, a = some ⟨b, off, none⟩ ∧ b < W.heap.size ∧ ∀ i, i < n → W.cell? ⟨b, off + i, none⟩ = some (.int k (zs.getD i 0))) := by
  obtain ⟨fuel, hf⟩ := h
  rcases open_ints ht he hc hf with ⟨hcs, _⟩ | ⟨x, l, cp, zs, hcs, _, hl, hm, hz, _, hcell, hwz⟩
  · simp [Value.cells] at hcs
    obtain ⟨rfl, rfl, rfl⟩ := hcs
    exact ⟨Nat.le_refl _, Nat.zero_le _, [], rfl, by simp, fun h => absurd h (by omega)⟩
  · simp [Value.cells] at hcs
    obtain ⟨rfl, rfl, rfl⟩ := hcs
    have hz : zs.length = c := by simpa using hz
    refine ⟨hl, hm, zs.take n, by rw [List.length_take]; omega, fun z hzm => hwz z (List.mem_of_mem_take hzm), fun hn => ?_⟩
    obtain ⟨b, off, s⟩ := x
    have h0 := hcell 0 (by omega)
    have hs : s = none := by
      have h00 : W.cell? ⟨b, off, s⟩ = some (.int k (zs.getD 0 0)) := by simpa [Addr.add] using h0
      exact World.cell?_spot h00
    subst hs
    have hadd : ∀ i, (⟨b, off, none⟩ : Addr).add i = ⟨b, off + i, none⟩ := fun i => by
      unfold Addr.add; split
      · next h => subst h; rfl
      · rfl
    refine ⟨b, off, rfl, ?_, fun i hi => ?_⟩
    · rw [hadd] at h0; exact World.block_lt_of_cell? _ _ h0
    · have := hcell i (by omega)
      rw [hadd] at this
      rw [this]
      simp [List.getD, hi]

/-- A slice of bytes that came in. -/
theorem open_bytes (ht : P.underlying t = some (.slice e)) (he : P.underlying e = some (.int .u8)) (hc : P.cellsOf e = 1) (h : DataW.Trod enc P W base (fun _ => true) true t (.slice a n c) d p) :
    n ≤ c ∧ c ≤ maxLen ∧ ∃ l, BSl W W.heap.size a n l := by
  obtain ⟨h1, h2, zs, hz, hw, hcell⟩ := open_nums ht he hc h
  refine ⟨h1, h2, zs.map fun z => BitVec.ofInt 8 z, by simpa using hz, fun hn => ?_⟩
  obtain ⟨b, off, e1, hb, hc'⟩ := hcell hn
  refine ⟨b, off, e1, hb, fun i hi => ?_⟩
  rw [hc' i hi]
  have hi' : i < zs.length := by omega
  have hm := wf_u8b (hw zs[i] (List.getElem_mem hi'))
  have e2 : zs.getD i 0 = zs[i] := by simp [List.getD, hi']
  have e3 : (zs.map fun z => BitVec.ofInt 8 z).getD i 0 = BitVec.ofInt 8 zs[i] := by simp [List.getD, hi']
  rw [e2, e3, bv]
  congr 2
  rw [BitVec.toNat_ofInt]
  omega
end

section
variable {H : Type} {enc : TypeId × Value → H} {P : Program} {W : World} {base : Nat} {t e : TypeId} {a : Option Addr} {n c : Nat} {d : DataW H} {p : List MemPlace}

theorem add_flat (b off i : Nat) : (⟨b, off, none⟩ : Addr).add i = ⟨b, off + i, none⟩ := by
  unfold Addr.add; split
  · next h => subst h; rfl
  · rfl

/-- A slice that came in, whatever its elements: each element's cells, and that they read as that type. -/
theorem open_elems {C : Nat} (ht : P.underlying t = some (.slice e)) (hC : P.cellsOf e = C) (h0 : 0 < C) (h : DataW.Trod enc P W base (fun _ => true) true t (.slice a n c) d p) :
    n ≤ c ∧ c ≤ maxLen ∧ (0 < n → ∃ b off, a = some ⟨b, off, none⟩ ∧ b < W.heap.size ∧ ∀ i, i < n →
      ∃ (cs : List Value) (m : Nat) (y : DataW H × List MemPlace), cs.length = C ∧ (∀ j, j < C → W.cell? ⟨b, off + i * C + j, none⟩ = cs[j]?) ∧ DataW.trod enc P W base (fun _ => true) true m e cs = some y) := by
  obtain ⟨fuel, hf⟩ := h
  rcases open_slice ht hf with ⟨hcs, _⟩ | ⟨x, l, cp, m, k, D, Pl, hcs, _, hl, hm, hmm, _, hi⟩
  · simp [Value.cells] at hcs
    obtain ⟨rfl, rfl, rfl⟩ := hcs
    exact ⟨Nat.le_refl _, Nat.zero_le _, fun h => absurd h (by omega)⟩
  · simp [Value.cells] at hcs
    obtain ⟨rfl, rfl, rfl⟩ := hcs
    have hmm : m = c := by simpa using hmm
    subst hmm
    refine ⟨hl, hm, fun hn => ?_⟩
    rw [hC] at hi
    obtain ⟨b, off, s⟩ := x
    have hs : s = none := by
      obtain ⟨cs, hc, _⟩ := hi 0 (by omega)
      obtain ⟨_, hlen, hat⟩ := World.cells?_some hc
      have h00 := hat 0 h0
      rw [List.getElem?_eq_getElem (by omega)] at h00
      have h01 : W.cell? ⟨b, off, s⟩ = some cs[0] := by simpa [Addr.add] using h00
      exact World.cell?_spot h01
    subst hs
    have key : ∀ i, i < m → ∃ (cs : List Value) (m : Nat) (y : DataW H × List MemPlace), cs.length = C ∧ (∀ j, j < C → W.cell? ⟨b, off + i * C + j, none⟩ = cs[j]?) ∧ DataW.trod enc P W base (fun _ => true) true m e cs = some y := by
      intro i him
      obtain ⟨cs, hc, hr⟩ := hi i him
      obtain ⟨_, hlen, hat⟩ := World.cells?_some hc
      refine ⟨cs, _, _, hlen, fun j hj => ?_, hr⟩
      have := hat j hj
      rw [add_flat, add_flat] at this
      exact this
    refine ⟨b, off, rfl, ?_, fun i hin => key i (by omega)⟩
    obtain ⟨cs, _, _, hlen, hat, _⟩ := key 0 (by omega)
    have h00 := hat 0 h0
    rw [List.getElem?_eq_getElem (by omega)] at h00
    exact World.block_lt_of_cell? _ _ h00

/-- Of a struct's cells: a field of one cell. -/
theorem field_cell {fs : Array Field} {f : Field} {k j : Nat} {cs : List Value} {m : Nat} {y : DataW H × List MemPlace} {sp : Nat → Bool} {hd : Bool} (hs : P.underlying t = some (.struct fs)) (h : DataW.trod enc P W base sp hd m t cs = some y)
    (hf : fs[k]? = some f) (ho : f.offset = j) (h1 : P.cellsOf f.type = 1) (hj : j < cs.length) :
    ∃ (v : Value) (m' : Nat) (y' : DataW H × List MemPlace), cs[j]? = some v ∧ DataW.trod enc P W base sp hd m' f.type [v] = some y' := by
  obtain ⟨xs, m', _, _, _, hlen, hall⟩ := DataW.trod_struct hs h
  have hk : k < xs.length := by rw [hlen]; exact (Array.getElem?_eq_some_iff.1 hf).1
  have := hall k f hf
  rw [ho, h1] at this
  have hone : (cs.drop j).take 1 = [cs[j]] := by
    rw [List.drop_eq_getElem_cons hj]; rfl
  rw [hone, List.getElem?_eq_getElem hk] at this
  exact ⟨cs[j], m', _, List.getElem?_eq_getElem hj, this⟩
end

theorem lt_places {H : Type} {enc : TypeId × Value → H} {P : Program} {W : World} {t : TypeId} {v : Value} {d : DataW H} {p : List MemPlace} {base : Nat} {sp : Nat → Bool} {hd : Bool}
    (h : DataW.Trod enc P W base sp hd t v d p) : ∀ x ∈ p, x.block < W.heap.size := by
  obtain ⟨m, hm⟩ := h
  exact DataW.trod_lt m _ _ _ hm

end Go.Proofs.Ytpkfjnhjcdcoaaa
