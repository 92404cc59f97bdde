/-
  Lists of messages.
-/
import Derived.Test.YtpkfjnhjcdcoaaaMsg
namespace Go.Proofs.Ytpkfjnhjcdcoaaa
open Go.RowKit

/-- What holds of a message that came in. -/
structure MIn (w : World) (B : Nat) (m : MsgR) : Prop where
  hb : BSl w B m.a m.n m.l
  hc : m.n ≤ m.c
  hm : m.c ≤ 9223372036854775807
  fr0 : -9223372036854775808 ≤ m.fr
  fr1 : m.fr ≤ 9223372036854775807
  to0 : -9223372036854775808 ≤ m.tt
  to1 : m.tt ≤ 9223372036854775807
  kd0 : -9223372036854775808 ≤ m.kd
  kd1 : m.kd ≤ 9223372036854775807
  vol0 : -9223372036854775808 ≤ m.vol
  vol1 : m.vol ≤ 9223372036854775807
  life0 : -9223372036854775808 ≤ m.life
  life1 : m.life ≤ 9223372036854775807
  id1 : m.id < 18446744073709551616
  cd0 : -9223372036854775808 ≤ m.cd
  cd1 : m.cd ≤ 9223372036854775807
  key1 : m.key < 18446744073709551616
  ck1 : m.ck < 4294967296
theorem MIn.below {w w' : World} {B : Nat} {m : MsgR} (h : MIn w B m) (hb : Below B w w') : MIn w' B m := { h with hb := h.hb.below hb }
theorem MIn.more {w : World} {B B' : Nat} {m : MsgR} (h : MIn w B m) (hB : B ≤ B') : MIn w B' m := { h with hb := h.hb.more hB }

/-- A slice of messages that reads as l. -/
def MSl (w : World) (B : Nat) (a : Option Addr) (n : Nat) (l : List MsgR) : Prop :=
  l.length = n ∧ (∀ i, i < n → MIn w B (l.getD i mNone)) ∧
  (0 < n → ∃ b off, a = some ⟨b, off, none⟩ ∧ b < B ∧ ∀ i j, i < n → j < 12 → w.cell? ⟨b, off + i * 12 + j, none⟩ = (l.getD i mNone).cells[j]?)
theorem MSl.nil (w : World) (B : Nat) (a : Option Addr) : MSl w B a 0 [] := ⟨rfl, fun i hi => absurd hi (by simp), fun h => absurd h (by omega)⟩
theorem MSl.below {w w' : World} {B n : Nat} {a : Option Addr} {l : List MsgR} (h : MSl w B a n l) (hb : Below B w w') : MSl w' B a n l :=
  ⟨h.1, fun i hi => (h.2.1 i hi).below hb, fun h0 => by obtain ⟨b, off, e, hlt, hc⟩ := h.2.2 h0; exact ⟨b, off, e, hlt, fun i j hi hj => (hb.cell (p := ⟨b, off + i * 12 + j, none⟩) hlt).trans (hc i j hi hj)⟩⟩
theorem MSl.more {w : World} {B B' n : Nat} {a : Option Addr} {l : List MsgR} (h : MSl w B a n l) (hB : B ≤ B') : MSl w B' a n l :=
  ⟨h.1, fun i hi => (h.2.1 i hi).more hB, fun h0 => by obtain ⟨b, off, e, hlt, hc⟩ := h.2.2 h0; exact ⟨b, off, e, by omega, hc⟩⟩
theorem MSl.at_ {w : World} {B n i : Nat} {a : Option Addr} {l : List MsgR} (h : MSl w B a n l) (hi : i < n) {m : MsgR} (hm : l.getD i mNone = m) : ∃ b off, a = some ⟨b, off, none⟩ ∧ b < B ∧ w.cell? ⟨b, off + i * 12, none⟩ = some (.int .i64 m.fr) ∧ w.cell? ⟨b, off + i * 12 + 1, none⟩ = some (.int .i64 m.tt) ∧ w.cell? ⟨b, off + i * 12 + 2, none⟩ = some (.int .i64 m.kd) ∧ w.cell? ⟨b, off + i * 12 + 3, none⟩ = some (.int .i64 m.vol) ∧ w.cell? ⟨b, off + i * 12 + 4, none⟩ = some (.int .i64 m.life) ∧ w.cell? ⟨b, off + i * 12 + 5, none⟩ = some (.int .u64 m.id) ∧ w.cell? ⟨b, off + i * 12 + 6, none⟩ = some (.int .i64 m.cd) ∧ w.cell? ⟨b, off + i * 12 + 7, none⟩ = some (.bool m.has) ∧ w.cell? ⟨b, off + i * 12 + 8, none⟩ = some (.int .u64 m.key) ∧ w.cell? ⟨b, off + i * 12 + 9, none⟩ = some (.int .u32 m.ck) ∧ w.cell? ⟨b, off + i * 12 + 10, none⟩ = some (.bool m.g) ∧ w.cell? ⟨b, off + i * 12 + 11, none⟩ = some (.slice m.a m.n m.c) := by
  obtain ⟨b, off, e, hb, hc⟩ := h.2.2 (by omega)
  subst hm
  exact ⟨b, off, e, hb, hc i 0 hi (by omega), hc i 1 hi (by omega), hc i 2 hi (by omega), hc i 3 hi (by omega), hc i 4 hi (by omega), hc i 5 hi (by omega), hc i 6 hi (by omega), hc i 7 hi (by omega), hc i 8 hi (by omega), hc i 9 hi (by omega), hc i 10 hi (by omega), hc i 11 hi (by omega)⟩
theorem MSl.at_some {w : World} {B n i b off : Nat} {l : List MsgR} (h : MSl w B (some ⟨b, off, none⟩) n l) (hi : i < n) {m : MsgR} (hm : l.getD i mNone = m) : w.cell? ⟨b, off + i * 12, none⟩ = some (.int .i64 m.fr) ∧ w.cell? ⟨b, off + i * 12 + 1, none⟩ = some (.int .i64 m.tt) ∧ w.cell? ⟨b, off + i * 12 + 2, none⟩ = some (.int .i64 m.kd) ∧ w.cell? ⟨b, off + i * 12 + 3, none⟩ = some (.int .i64 m.vol) ∧ w.cell? ⟨b, off + i * 12 + 4, none⟩ = some (.int .i64 m.life) ∧ w.cell? ⟨b, off + i * 12 + 5, none⟩ = some (.int .u64 m.id) ∧ w.cell? ⟨b, off + i * 12 + 6, none⟩ = some (.int .i64 m.cd) ∧ w.cell? ⟨b, off + i * 12 + 7, none⟩ = some (.bool m.has) ∧ w.cell? ⟨b, off + i * 12 + 8, none⟩ = some (.int .u64 m.key) ∧ w.cell? ⟨b, off + i * 12 + 9, none⟩ = some (.int .u32 m.ck) ∧ w.cell? ⟨b, off + i * 12 + 10, none⟩ = some (.bool m.g) ∧ w.cell? ⟨b, off + i * 12 + 11, none⟩ = some (.slice m.a m.n m.c) := by
  obtain ⟨b', off', e, -, h⟩ := h.at_ hi hm
  injection e with e
  injection e with e1 e2
  subst e1 e2
  exact h
def flatM (l : List MsgR) : List Value := (l.map MsgR.cells).flatten
theorem flatM_snoc (l : List MsgR) (m : MsgR) : flatM (l ++ [m]) = flatM l ++ m.cells := by simp [flatM]
theorem flatM_length (l : List MsgR) : (flatM l).length = l.length * 12 := by
  induction l with
  | nil => rfl
  | cons m l ih =>
    have : flatM (m :: l) = m.cells ++ flatM l := by simp [flatM]
    rw [this, List.length_append, ih]
    simp [MsgR.cells]
    omega
theorem flatM_at (l : List MsgR) (i j : Nat) (hj : j < 12) (hi : i < l.length) : (flatM l)[i * 12 + j]? = (l.getD i mNone).cells[j]? := by
  induction l generalizing i with
  | nil => simp at hi
  | cons m l ih =>
    have hf : flatM (m :: l) = m.cells ++ flatM l := by simp [flatM]
    have hl : m.cells.length = 12 := rfl
    rw [hf]
    cases i with
    | zero => rw [List.getElem?_append_left (by omega)]; simp
    | succ i =>
      rw [List.getElem?_append_right (by omega), hl, show (i + 1) * 12 + j - 12 = i * 12 + j from by omega, ih i (by simpa using hi)]
      simp
theorem mcells_one (m : MsgR) : ∀ u ∈ m.cells, u.oneCell' = true := by
  intro u hu
  simp only [MsgR.cells, List.mem_cons, List.not_mem_nil, or_false] at hu
  rcases hu with rfl | rfl | rfl | rfl | rfl | rfl | rfl | rfl | rfl | rfl | rfl | rfl <;> rfl
/-- A row of messages of one's own reads as them. -/
theorem msl_own {W : World} {base k c : Nat} {T : TypeId} {a : Option Addr} {l : List MsgR} (h : W.ownsRow base T 12 (.slice a k c) k (flatM l)) (hl : l.length = k) (hok : ∀ i, i < k → MIn W W.heap.size (l.getD i mNone)) : MSl W W.heap.size a k l := by
  subst hl
  rcases h.2 with ⟨e1, e2⟩ | ⟨g, cap, cur, e1, e2, e3, e4, e5, e6, e7⟩
  · exact ⟨rfl, hok, fun h => by omega⟩
  · injection e1 with e1 e1' e1''
    refine ⟨rfl, hok, fun hn => ⟨g, 0, e1, (Array.getElem?_eq_some_iff.1 e3).1, fun i j hi hj => ?_⟩⟩
    have hx : i * 12 + j < (flatM l).length := by rw [flatM_length]; omega
    have := h.cells (g := g) (by rw [e1]; rfl) (i * 12 + j) ((flatM l)[i * 12 + j]) (List.getElem?_eq_getElem hx)
    rw [← flatM_at l i j hj hi, List.getElem?_eq_getElem hx]
    simpa [Addr.add_lit] using this
theorem info_rmsg : (Try.prog.info? 36).map (fun i => (i.zero, i.size, i.bytes)) = some (some mNone.vals, 12, 104) := by kernel_rfl
end Go.Proofs.Ytpkfjnhjcdcoaaa
