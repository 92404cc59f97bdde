/-
  pack.Put's loop: what holds between its rounds.
-/
import Derived.Test.YtmmmakfmpopniaaRound
namespace Go.Proofs.Ytmmmakfmpopniaa
open Go.RowKit Go.Shelf

/-- The place that comes in round j, from behind; the byte there; what the loop is handed. -/
def ix (k j : Nat) : Nat := k - 1 - j
def ibyte (L : List (BitVec 8)) (k j : Nat) : BitVec 8 := L.getD (ix k j) 0
def encP (L : List (BitVec 8)) (k j : Nat) : Array Value := #[.int .i64 (ix k j : Int), .int .u8 ((ibyte L k j).toNat : Int)]

/-- A number's byte. -/
def nbyte (n k : Nat) : BitVec 8 := BitVec.ofNat 8 (n / 256 ^ k)
theorem bv_nbyte (n k : Nat) : bv (nbyte n k) = .int .u8 (pb n k) := by
  unfold bv nbyte pb
  rw [BitVec.toNat_ofNat]


theorem rest_bytes {W : World} {base g s rc : Nat} {rs : List Value} (h : W.ownsRow base 5 1 (.slice (some ⟨g, 0, none⟩) s rc) s rs) (L : List (BitVec 8)) (hL : rs = L.map bv) : BSl W W.heap.size (some ⟨g, 0, none⟩) s L ∧ s ≤ rc := by
  have hlen : L.length = s := by have := h.1; rw [hL, List.length_map] at this; omega
  refine ⟨⟨hlen, fun hs => ⟨g, 0, rfl, (h.lt g rfl).2, fun k hk => ?_⟩⟩, ?_⟩
  · rw [Nat.zero_add, h.cellAt k (by omega), hL, List.getElem?_map, List.getElem?_eq_getElem (by omega)]
    simp [List.getD, show k < L.length by omega]
  · rcases h.2 with ⟨e1, _⟩ | ⟨_, cap, _, e1, _, _, e2, _⟩
    · cases e1
    · cases e1
      exact e2

theorem out_bytes1 (l : List (BitVec 8)) (n : Nat) : (l.map bv ++ [.int .u8 (pb n 0)]) ++ (upto id 0).map (fun j => bv (ibyte [] 0 j)) = (l ++ Num.le n 1).map bv := by
  rw [← bv_nbyte]
  simp [upto, Num.le, nbyte]
theorem out_bytes2 (l : List (BitVec 8)) (n : Nat) : (l.map bv ++ [.int .u8 (pb n 0)]) ++ (upto id 1).map (fun j => bv (ibyte [nbyte n 1] 1 j)) = (l ++ Num.le n 2).map bv := by
  rw [← bv_nbyte]
  simp [upto, List.range_succ, ibyte, ix, Num.le, nbyte]
theorem out_bytes4 (l : List (BitVec 8)) (n : Nat) : (l.map bv ++ [.int .u8 (pb n 0)]) ++ (upto id 3).map (fun j => bv (ibyte [nbyte n 3, nbyte n 2, nbyte n 1] 3 j)) = (l ++ Num.le n 4).map bv := by
  rw [← bv_nbyte]
  simp [upto, List.range_succ, ibyte, ix, Num.le, nbyte, Nat.div_div_eq_div_mul]
theorem out_bytes8 (l : List (BitVec 8)) (n : Nat) : (l.map bv ++ [.int .u8 (pb n 0)]) ++ (upto id 7).map (fun j => bv (ibyte [nbyte n 7, nbyte n 6, nbyte n 5, nbyte n 4, nbyte n 3, nbyte n 2, nbyte n 1] 7 j)) = (l ++ Num.le n 8).map bv := by
  rw [← bv_nbyte]
  simp [upto, List.range_succ, ibyte, ix, Num.le, nbyte, Nat.div_div_eq_div_mul]

end Go.Proofs.Ytmmmakfmpopniaa
