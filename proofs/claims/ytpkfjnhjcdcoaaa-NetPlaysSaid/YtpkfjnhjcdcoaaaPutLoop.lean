/-
  pack.Put's loop: what holds between its rounds.
-/
import Derived.Test.YtpkfjnhjcdcoaaaRound
namespace Go.Proofs.Ytpkfjnhjcdcoaaa
open Go.RowKit Go.Shelf

theorem PutAt.kept {w W W' : World} {N O R n m : Nat} {av : Option Addr} {cv : Nat} {xs : List Value} {g s rc : Nat} {rs : List Value} (h : PutAt w W N O R n m av cv xs g s rc rs) {row : Option Nat} (hg : W.grownBy W' row)
    (hr : ∀ r, row = some r → w.heap.size ≤ r ∧ ∃ o : Obj, W.heap[r]? = some o ∧ o.isCells = false) : PutAt w W' N O R n m av cv xs g s rc rs := by
  have nb : ∀ {b : Nat} {t : TypeId} {cs : Array Value} {fz : Nat × Nat}, W.heap[b]? = some (.cells cs t fz) → some b ≠ row := fun hb e => by
    obtain ⟨_, o, ho, hc⟩ := hr _ e.symm
    rw [hb] at ho
    cases ho
    cases hc
  have no : ∀ {v : Value} {k : Nat} {ys : List Value}, W.ownsRow w.heap.size 5 1 v k ys → W'.ownsRow w.heap.size 5 1 v k ys := fun ho => by
    refine ho.kept hg ?_
    rcases ho.2 with ⟨e1, _⟩ | ⟨q, cap, cur, e1, _, hgb, _⟩
    · left; rw [e1]; rfl
    · right; rw [e1]; exact nb hgb
  exact ⟨h.num.kept hg (nb h.num), h.out.kept hg (nb h.out), h.rest.kept hg (nb h.rest), no h.outRow, no h.restRow, h.apart, h.below.grown hg h.below.size (fun k e => (hr k e).1), h.hN, h.hO, h.hR, h.hOR, h.hNO, h.hNR, h.hg⟩

/-- Between two rounds. -/
def PutI (w : World) (N O R n m : Nat) (xs : List Value) (g s rc : Nat) (rs : List Value) (Bn : Nat) (vB : Value) (by_ : Nat → Value) (pre : List Nat) (W : World) : Prop :=
  (∃ av cv, PutAt w W N O R n (m + pre.length) av cv (xs ++ pre.map by_) g s rc rs) ∧ Boxed W Bn 22 vB

theorem putI_own {w : World} {N O R n m : Nat} {xs : List Value} {g s rc : Nat} {rs : List Value} {Bn : Nat} {vB : Value} {by_ : Nat → Value} {B : Nat} (hB : w.heap.size ≤ B) : OwnFrom B (PutI w N O R n m xs g s rc rs Bn vB by_) :=
  fun pre W W' row ⟨⟨av, cv, hp⟩, hb⟩ hg hr => ⟨⟨av, cv, hp.kept hg (fun r e => ⟨Nat.le_trans hB (hr r e).1, (hr r e).2⟩)⟩, hb.kept hg (fun e => by
    obtain ⟨_, o, ho, hc⟩ := hr _ e.symm
    rw [show W.heap[Bn]? = _ from hb] at ho
    cases ho
    cases hc)⟩

/-- A round: one byte more. -/
theorem putI_round {w : World} {N O R n m : Nat} {xs : List Value} {g s rc : Nat} {rs : List Value} {Bn : Nat} {vB : Value} {by_ : Nat → Value} {pre : List Nat} {W : World} (hI : PutI w N O R n m xs g s rc rs Bn vB by_ pre W) (hBO : Bn ≠ O) (x : Nat) (h1 : (by_ x).oneCell' = true) (hm : m + pre.length + 1 ≤ 1099511627800) :
    ∃ av cv g' rc' W2, PutAt w W N O R n (m + pre.length) av cv (xs ++ pre.map by_) g s rc rs ∧
      (Builtin.append_ #[22, 22] 22 #[.slice av (m + pre.length) cv, .slice (some ⟨W.heap.size, 0, none⟩) 1 1]).run Try.prog (W.alloc (.cells #[by_ x] 5)).drew = .ok (.slice (some ⟨g', 0, none⟩) (m + pre.length + 1) rc') W2 ∧
      W2.cell? ⟨O, 0, none⟩ = some (.slice av (m + pre.length) cv) ∧ W2.frozen? ⟨O, 0, none⟩ = false ∧
      KeepsOthers W (W2.setCell ⟨O, 0, none⟩ (.slice (some ⟨g', 0, none⟩) (m + pre.length + 1) rc')) ∧ KS (fun b => b = g ∨ b = Bn) W (W2.setCell ⟨O, 0, none⟩ (.slice (some ⟨g', 0, none⟩) (m + pre.length + 1) rc')) ∧
      PutI w N O R n m xs g s rc rs Bn vB by_ (pre ++ [x]) (W2.setCell ⟨O, 0, none⟩ (.slice (some ⟨g', 0, none⟩) (m + pre.length + 1) rc')) := by
  obtain ⟨⟨av, cv, hp⟩, hb⟩ := hI
  obtain ⟨g', rc', W2, hrun, hc, hf, hp2, hk, hu⟩ := put_out hp (by_ x) h1 (by omega)
  have hgl : g < W.heap.size := (hp.restRow.lt g rfl).2
  have hgO : g ≠ O := fun e => by
    have := hp.out.not_row (by decide) hp.restRow
    exact this (by rw [e]; rfl)
  have hBl : Bn < W.heap.size := Blk.lt hb
  have hu1 := hu g hgl hgO hp.apart
  have hu2 := hu Bn hBl hBO (fun e => hb.not_row (by decide) hp.outRow e.symm)
  refine ⟨av, cv, g', rc', W2, hp, hrun, hc, hf, hk, ?_, ⟨some ⟨g', 0, none⟩, rc', ?_⟩, hu2.trans hb⟩
  · rintro b (rfl | rfl)
    · exact hu1
    · exact hu2
  · have e1 : (xs ++ (pre ++ [x]).map by_) = (xs ++ pre.map by_) ++ [by_ x] := by simp
    have e2 : m + (pre ++ [x]).length = m + pre.length + 1 := by simp; omega
    rw [e1, e2]
    exact hp2

/-- The place that comes in round j, from behind; the byte there; what the loop is handed. -/
def ix (k j : Nat) : Nat := k - 1 - j
def ibyte (L : List (BitVec 8)) (k j : Nat) : BitVec 8 := L.getD (ix k j) 0
def encP (L : List (BitVec 8)) (k j : Nat) : Array Value := #[.int .i64 (ix k j : Int), .int .u8 ((ibyte L k j).toNat : Int)]

/-- A number's byte. -/
def nbyte (n k : Nat) : BitVec 8 := BitVec.ofNat 8 (n / 256 ^ k)
theorem bv_nbyte (n k : Nat) : bv (nbyte n k) = .int .u8 (pb n k) := by
  unfold bv nbyte pb
  rw [BitVec.toNat_ofNat]


theorem rest_bytes {W : World} {base g s rc : Nat} {rs : List Value} (h : W.ownsRow base 5 1 (.slice (some ⟨g, 0, none⟩) s rc) s rs) (L : List (BitVec 8)) (hL : rs = L.map bv) : BSl W W.heap.size (some ⟨g, 0, none⟩) s L ∧ s ≤ rc := by
  have hlen : L.length = s := by have := h.1; rw [hL, List.length_map] at this; omega
  refine ⟨⟨hlen, fun hs => ⟨g, 0, rfl, (h.lt g rfl).2, fun k hk => ?_⟩⟩, ?_⟩
  · rw [Nat.zero_add, h.cellAt k (by omega), hL, List.getElem?_map, List.getElem?_eq_getElem (by omega)]
    simp [List.getD, show k < L.length by omega]
  · rcases h.2 with ⟨e1, _⟩ | ⟨_, cap, _, e1, _, _, e2, _⟩
    · cases e1
    · cases e1
      exact e2

/-- A byte of the rest, behind the first. -/
theorem put_cell {w W : World} {N O R n m : Nat} {av : Option Addr} {cv : Nat} {xs : List Value} {g s rc : Nat} {rs : List Value} (h : PutAt w W N O R n m av cv xs g s rc rs) (c : BitVec 8) (L : List (BitVec 8)) (hL : rs = (c :: L).map bv) (hs : L.length + 1 = s) (i : Nat) (hi : i < L.length) :
    W.cell? ⟨g, i + 1, none⟩ = some (.int .u8 ((L.getD i 0).toNat : Int)) := by
  rw [h.restRow.cellAt (i + 1) (by omega), hL, List.getElem?_map, List.getElem?_cons_succ, List.getElem?_eq_getElem hi]
  simp [List.getD, hi, bv]

theorem out_bytes1 (l : List (BitVec 8)) (n : Nat) : (l.map bv ++ [.int .u8 (pb n 0)]) ++ (upto id 0).map (fun j => bv (ibyte [] 0 j)) = (l ++ Num.le n 1).map bv := by
  rw [← bv_nbyte]
  simp [upto, Num.le, nbyte]
theorem out_bytes2 (l : List (BitVec 8)) (n : Nat) : (l.map bv ++ [.int .u8 (pb n 0)]) ++ (upto id 1).map (fun j => bv (ibyte [nbyte n 1] 1 j)) = (l ++ Num.le n 2).map bv := by
  rw [← bv_nbyte]
  simp [upto, List.range_succ, ibyte, ix, Num.le, nbyte]
theorem out_bytes4 (l : List (BitVec 8)) (n : Nat) : (l.map bv ++ [.int .u8 (pb n 0)]) ++ (upto id 3).map (fun j => bv (ibyte [nbyte n 3, nbyte n 2, nbyte n 1] 3 j)) = (l ++ Num.le n 4).map bv := by
  rw [← bv_nbyte]
  simp [upto, List.range_succ, ibyte, ix, Num.le, nbyte, Nat.div_div_eq_div_mul]
theorem out_bytes8 (l : List (BitVec 8)) (n : Nat) : (l.map bv ++ [.int .u8 (pb n 0)]) ++ (upto id 7).map (fun j => bv (ibyte [nbyte n 7, nbyte n 6, nbyte n 5, nbyte n 4, nbyte n 3, nbyte n 2, nbyte n 1] 7 j)) = (l ++ Num.le n 8).map bv := by
  rw [← bv_nbyte]
  simp [upto, List.range_succ, ibyte, ix, Num.le, nbyte, Nat.div_div_eq_div_mul]

end Go.Proofs.Ytpkfjnhjcdcoaaa
