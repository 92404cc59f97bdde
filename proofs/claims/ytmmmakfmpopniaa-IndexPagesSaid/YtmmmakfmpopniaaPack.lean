/-
  The contracts of the package pack: sized, fits, Get.
-/
import Derived.Test.YtmmmakfmpopniaaBack
import Derived.Test.YtmmmakfmpopniaaNum
import Derived.Test.YtmmmakfmpopniaaIs
import Derived.WalkSpells
import Derived.Maps.AppendAt
import Derived.Deep.RegionHeld3
import Derived.Deep.AppendLies
import Derived.Deep.DrawnRows
import Derived.BigRegion
namespace Go.Proofs.Ytmmmakfmpopniaa
open Go.RowKit Go.Shelf

attribute [local go_sem] Oper.semAt_some

/-- Is it a size of a number? -/
def isSize (n : Int) : Bool := n == 1 || n == 2 || n == 4 || n == 8

theorem isSize_le {k : Nat} (h : isSize (k : Int) = true) : k = 1 ∨ k = 2 ∨ k = 4 ∨ k = 8 := by
  simp only [isSize, Bool.or_eq_true, beq_iff_eq] at h
  omega

theorem or_shift (v : Nat) (c : BitVec 8) (h : v < 72057594037927936) : bits .or .u64 ((v : Int) * 256) (c.toNat : Int) = ((v * 256 + c.toNat : Nat) : Int) := by
  have hc := c.isLt
  have hw : (v : Int) * 256 = ((v * 256 : Nat) : Int) := by omega
  have e : ∀ x : Nat, x < 18446744073709551616 → (BitVec.ofInt 64 (x : Int)).toNat = x := fun x hx => by
    rw [BitVec.ofInt_natCast, BitVec.toNat_ofNat]; exact Nat.mod_eq_of_lt hx
  rw [hw]
  show IntKind.u64.wrap ((BitVec.ofInt 64 ((v * 256 : Nat) : Int) ||| BitVec.ofInt 64 (c.toNat : Int)).toNat : Int) = _
  rw [BitVec.toNat_or, e _ (by omega), e _ (by omega), Num.or_byte]
  show ((v * 256 + c.toNat : Nat) : Int) % 18446744073709551616 = _
  omega

/-- The byte of a number at place k, as the walks carry it. -/
def pb (n k : Nat) : Int := ((n / 256 ^ k % 256 : Nat) : Int)

theorem info_u8 : (Try.prog.info? 5).map (fun i => (i.zero, i.size, i.bytes)) = some (some (.int .u8 0), 1, 1) := by kernel_rfl

theorem bv_one (l : List (BitVec 8)) : ∀ u ∈ l.map bv, u.oneCell' = true := by
  intro u hu
  obtain ⟨x, _, rfl⟩ := List.mem_map.1 hu
  rfl

/-- A slice of bytes that is read as the source of an append. -/
theorem BSl.news {w : World} {B n : Nat} {ad : Addr} {l : List (BitVec 8)} (h : BSl w B (some ad) n l) : ∀ j u, (l.map bv)[j]? = some u → w.cell? (ad.add j) = some u := by
  intro j u hu
  have hj : j < l.length := by
    rw [List.getElem?_map] at hu
    rcases Nat.lt_or_ge j l.length with h1 | h1
    · exact h1
    · rw [List.getElem?_eq_none h1] at hu; cases hu
  obtain ⟨b, off, e, hb, hc⟩ := h.2 (by have := h.1; omega)
  cases e
  have e1 : (⟨b, off, none⟩ : Addr).add j = ⟨b, off + j, none⟩ := by
    unfold Addr.add; split
    · next h0 => subst h0; rfl
    · rfl
  rw [e1, hc j (by have := h.1; omega)]
  rw [List.getElem?_map, List.getElem?_eq_getElem hj] at hu
  simpa [List.getD, hj] using hu

end Go.Proofs.Ytmmmakfmpopniaa
