/-
  The contracts of the package pack: sized, fits, Get.
-/
import Derived.Test.YtboadalojimdlaaBack
import Derived.Test.YtboadalojimdlaaNum
import Derived.Test.YtboadalojimdlaaIs
import Derived.WalkSpells
import Derived.Maps.AppendAt
import Derived.Deep.RegionHeld3
import Derived.Deep.AppendLies
import Derived.Deep.DrawnRows
import Derived.BigRegion
namespace Go.Proofs.Ytboadalojimdlaa
open Go.RowKit Go.Shelf

attribute [local go_sem] Oper.semAt_some

/-- Is it a size of a number? -/
def isSize (n : Int) : Bool := n == 1 || n == 2 || n == 4 || n == 8

/-- A slice of bytes, cut. -/
theorem cut_bytes_at {w : World} {B : Nat} {a : Option Addr} {n c : Nat} {l : List (BitVec 8)} (h : BSl w B a n l) (hc : n ≤ c) (p k : Nat) (hp : p + k ≤ n) :
    ∃ a', (∀ (x y : Int) (W : World), x = p → y = p + k → (Instr.slice 26 (.slice a n c) (some (.int .i64 x)) (some (.int .i64 y)) none).run Try.prog W = .ok (.slice a' k (c - p)) W) ∧
      (∀ (x : Int) (W : World), x = p → p + k = n → (Instr.slice 26 (.slice a n c) (some (.int .i64 x)) none none).run Try.prog W = .ok (.slice a' k (c - p)) W) ∧
      (∀ (y : Int) (W : World), p = 0 → y = k → (Instr.slice 26 (.slice a n c) none (some (.int .i64 y)) none).run Try.prog W = .ok (.slice a' k c) W) ∧ BSl w B a' k ((l.drop p).take k) ∧ (∀ b off, a' = some ⟨b, off, none⟩ → ∃ q, a = some q ∧ q.block = b) := by
  have hs : ∀ W, (sizeOf (Try.prog.elem 26)).run Try.prog W = .ok 1 W := fun W => by kernel_rfl
  have hu : Try.prog.underlying 26 = some (.slice (Try.prog.elem 26)) := by kernel_rfl
  refine ⟨if c = p then a else a.map (·.add p), fun x y W hx hy => ?_, fun x W hx hy => ?_, fun y W h0 hy => ?_, ?_, fun b off e => ?_⟩
  · subst hx hy
    rw [run_slice_lh _ _ _ _ _ hu _ _ _ _ (by omega) (by omega) (by omega)]
    simp only [hs, sliced, Result.andThen_ok, Nat.mul_one, Int.toNat_natCast]
    rw [show ((p : Int) + k).toNat - p = k from by omega]
  · subst hx
    rw [run_slice_l _ _ _ _ _ hu _ _ (by omega) (by omega)]
    simp only [hs, sliced, Result.andThen_ok, Nat.mul_one, Int.toNat_natCast]
    rw [show n - p = k from by omega]
  · subst hy h0
    rw [run_slice_h _ _ _ _ _ hu _ _ (by omega) (by omega)]
    simp only [hs, sliced, Result.andThen_ok, Nat.mul_one, Int.toNat_natCast]
    simp
  · refine ⟨by rw [List.length_take, List.length_drop, h.1]; omega, fun hk => ?_⟩
    obtain ⟨b, off, rfl, hb, hcell⟩ := h.2 (by omega)
    rw [if_neg (by omega)]
    refine ⟨b, off + p, ?_, hb, fun i hi => ?_⟩
    · unfold Addr.add
      split
      · next h0 => subst h0; rfl
      · rfl
    · rw [Nat.add_assoc, hcell (p + i) (by omega)]
      simp [List.getD, hi]
  · by_cases hcp : c = p
    · rw [if_pos hcp] at e
      exact ⟨_, e, rfl⟩
    · rw [if_neg hcp] at e
      cases a with
      | none => cases e
      | some q =>
        have e2 : q.add p = ⟨b, off, none⟩ := by simpa using e
        refine ⟨q, rfl, ?_⟩
        have e3 := congrArg Addr.block e2
        unfold Addr.add at e3
        split at e3 <;> exact e3

theorem cut_bytes {w : World} {B : Nat} {a : Option Addr} {n c : Nat} {l : List (BitVec 8)} (h : BSl w B a n l) (hc : n ≤ c) (p k : Nat) (hp : p + k ≤ n) :
    ∃ a', (∀ (x y : Int) (W : World), x = p → y = p + k → (Instr.slice 26 (.slice a n c) (some (.int .i64 x)) (some (.int .i64 y)) none).run Try.prog W = .ok (.slice a' k (c - p)) W) ∧
      (∀ (x : Int) (W : World), x = p → p + k = n → (Instr.slice 26 (.slice a n c) (some (.int .i64 x)) none none).run Try.prog W = .ok (.slice a' k (c - p)) W) ∧
      (∀ (y : Int) (W : World), p = 0 → y = k → (Instr.slice 26 (.slice a n c) none (some (.int .i64 y)) none).run Try.prog W = .ok (.slice a' k c) W) ∧ BSl w B a' k ((l.drop p).take k) := by
  obtain ⟨a', h1, h2, h3, h4, _⟩ := cut_bytes_at h hc p k hp
  exact ⟨a', h1, h2, h3, h4⟩

theorem isSize_le {k : Nat} (h : isSize (k : Int) = true) : k = 1 ∨ k = 2 ∨ k = 4 ∨ k = 8 := by
  simp only [isSize, Bool.or_eq_true, beq_iff_eq] at h
  omega

theorem or_shift (v : Nat) (c : BitVec 8) (h : v < 72057594037927936) : bits .or .u64 ((v : Int) * 256) (c.toNat : Int) = ((v * 256 + c.toNat : Nat) : Int) := by
  have hc := c.isLt
  have hw : (v : Int) * 256 = ((v * 256 : Nat) : Int) := by omega
  have e : ∀ x : Nat, x < 18446744073709551616 → (BitVec.ofInt 64 (x : Int)).toNat = x := fun x hx => by
    rw [BitVec.ofInt_natCast, BitVec.toNat_ofNat]; exact Nat.mod_eq_of_lt hx
  rw [hw]
  show IntKind.u64.wrap ((BitVec.ofInt 64 ((v * 256 : Nat) : Int) ||| BitVec.ofInt 64 (c.toNat : Int)).toNat : Int) = _
  rw [BitVec.toNat_or, e _ (by omega), e _ (by omega), Num.or_byte]
  show ((v * 256 + c.toNat : Nat) : Int) % 18446744073709551616 = _
  omega

/-- The byte of a number at place k, as the walks carry it. -/
def pb (n k : Nat) : Int := ((n / 256 ^ k % 256 : Nat) : Int)

theorem info_u8 : (Try.prog.info? 5).map (fun i => (i.zero, i.size, i.bytes)) = some (some (.int .u8 0), 1, 1) := by kernel_rfl

theorem bv_one (l : List (BitVec 8)) : ∀ u ∈ l.map bv, u.oneCell' = true := by
  intro u hu
  obtain ⟨x, _, rfl⟩ := List.mem_map.1 hu
  rfl

/-- A slice of bytes that is read as the source of an append. -/
theorem BSl.news {w : World} {B n : Nat} {ad : Addr} {l : List (BitVec 8)} (h : BSl w B (some ad) n l) : ∀ j u, (l.map bv)[j]? = some u → w.cell? (ad.add j) = some u := by
  intro j u hu
  have hj : j < l.length := by
    rw [List.getElem?_map] at hu
    rcases Nat.lt_or_ge j l.length with h1 | h1
    · exact h1
    · rw [List.getElem?_eq_none h1] at hu; cases hu
  obtain ⟨b, off, e, hb, hc⟩ := h.2 (by have := h.1; omega)
  cases e
  have e1 : (⟨b, off, none⟩ : Addr).add j = ⟨b, off + j, none⟩ := by
    unfold Addr.add; split
    · next h0 => subst h0; rfl
    · rfl
  rw [e1, hc j (by have := h.1; omega)]
  rw [List.getElem?_map, List.getElem?_eq_getElem hj] at hu
  simpa [List.getD, hj] using hu

end Go.Proofs.Ytboadalojimdlaa
