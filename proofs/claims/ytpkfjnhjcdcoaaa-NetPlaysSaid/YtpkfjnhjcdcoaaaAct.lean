/-
  The calls of layer 15's statements, in memory.
-/
import Derived.Test.YtpkfjnhjcdcoaaaMsl
namespace Go.Proofs.Ytpkfjnhjcdcoaaa
open Go.RowKit
set_option linter.unusedVariables false

/-- A call: its kind, two numbers, a message. -/
structure ActR where
  kd : Int
  i : Int
  k : Int
  m : MsgR
def ActR.cells (x : ActR) : List Value := .int .i64 x.kd :: .int .i64 x.i :: .int .i64 x.k :: x.m.cells
def aNone : ActR := ⟨0, 0, 0, mNone⟩
/-- What holds of one that came in. -/
structure AIn (w : World) (B : Nat) (x : ActR) : Prop where
  m : MIn w B x.m
  kd0 : -9223372036854775808 ≤ x.kd
  kd1 : x.kd ≤ 9223372036854775807
  i0 : -9223372036854775808 ≤ x.i
  i1 : x.i ≤ 9223372036854775807
  k0 : -9223372036854775808 ≤ x.k
  k1 : x.k ≤ 9223372036854775807
theorem AIn.below {w w' : World} {B : Nat} {x : ActR} (h : AIn w B x) (hb : Below B w w') : AIn w' B x := { h with m := h.m.below hb }
theorem AIn.more {w : World} {B B' : Nat} {x : ActR} (h : AIn w B x) (hB : B ≤ B') : AIn w B' x := { h with m := h.m.more hB }
/-- A slice of calls that reads as l. -/
def ASl (w : World) (B : Nat) (a : Option Addr) (n : Nat) (l : List ActR) : Prop :=
  l.length = n ∧ (∀ i, i < n → AIn w B (l.getD i aNone)) ∧
  (0 < n → ∃ b off, a = some ⟨b, off, none⟩ ∧ b < B ∧ ∀ i j, i < n → j < 15 → w.cell? ⟨b, off + i * 15 + j, none⟩ = (l.getD i aNone).cells[j]?)
theorem ASl.below {w w' : World} {B n : Nat} {a : Option Addr} {l : List ActR} (h : ASl w B a n l) (hb : Below B w w') : ASl w' B a n l :=
  ⟨h.1, fun i hi => (h.2.1 i hi).below hb, fun h0 => by obtain ⟨b, off, e, hlt, hc⟩ := h.2.2 h0; exact ⟨b, off, e, hlt, fun i j hi hj => (hb.cell (p := ⟨b, off + i * 15 + j, none⟩) hlt).trans (hc i j hi hj)⟩⟩
theorem ASl.at_ {w : World} {B n i : Nat} {a : Option Addr} {l : List ActR} (h : ASl w B a n l) (hi : i < n) {x : ActR} (hx : l.getD i aNone = x) : ∃ b off, a = some ⟨b, off, none⟩ ∧ b < B ∧ w.cell? ⟨b, off + i * 15, none⟩ = some (.int .i64 x.kd) ∧ w.cell? ⟨b, off + i * 15 + 1, none⟩ = some (.int .i64 x.i) ∧ w.cell? ⟨b, off + i * 15 + 2, none⟩ = some (.int .i64 x.k) ∧ w.cell? ⟨b, off + i * 15 + 3, none⟩ = some (.int .i64 x.m.fr) ∧ w.cell? ⟨b, off + i * 15 + 4, none⟩ = some (.int .i64 x.m.tt) ∧ w.cell? ⟨b, off + i * 15 + 5, none⟩ = some (.int .i64 x.m.kd) ∧ w.cell? ⟨b, off + i * 15 + 6, none⟩ = some (.int .i64 x.m.vol) ∧ w.cell? ⟨b, off + i * 15 + 7, none⟩ = some (.int .i64 x.m.life) ∧ w.cell? ⟨b, off + i * 15 + 8, none⟩ = some (.int .u64 x.m.id) ∧ w.cell? ⟨b, off + i * 15 + 9, none⟩ = some (.int .i64 x.m.cd) ∧ w.cell? ⟨b, off + i * 15 + 10, none⟩ = some (.bool x.m.has) ∧ w.cell? ⟨b, off + i * 15 + 11, none⟩ = some (.int .u64 x.m.key) ∧ w.cell? ⟨b, off + i * 15 + 12, none⟩ = some (.int .u32 x.m.ck) ∧ w.cell? ⟨b, off + i * 15 + 13, none⟩ = some (.bool x.m.g) ∧ w.cell? ⟨b, off + i * 15 + 14, none⟩ = some (.slice x.m.a x.m.n x.m.c) := by
  obtain ⟨b, off, e, hb, hc⟩ := h.2.2 (by omega)
  subst hx
  exact ⟨b, off, e, hb, hc i 0 hi (by omega), hc i 1 hi (by omega), hc i 2 hi (by omega), hc i 3 hi (by omega), hc i 4 hi (by omega), hc i 5 hi (by omega), hc i 6 hi (by omega), hc i 7 hi (by omega), hc i 8 hi (by omega), hc i 9 hi (by omega), hc i 10 hi (by omega), hc i 11 hi (by omega), hc i 12 hi (by omega), hc i 13 hi (by omega), hc i 14 hi (by omega)⟩
theorem act_cells {w : World} {g : Nat} {t : TypeId} {v0 v1 v2 v3 v4 v5 v6 v7 v8 v9 v10 v11 v12 v13 v14 : Value} (k : Blk w g t #[v0, v1, v2, v3, v4, v5, v6, v7, v8, v9, v10, v11, v12, v13, v14]) :
    w.cell? ⟨g, 0, none⟩ = some v0 ∧ w.cell? ⟨g, 1, none⟩ = some v1 ∧ w.cell? ⟨g, 2, none⟩ = some v2 ∧ w.cell? ⟨g, 3, none⟩ = some v3 ∧ w.cell? ⟨g, 4, none⟩ = some v4 ∧ w.cell? ⟨g, 5, none⟩ = some v5 ∧ w.cell? ⟨g, 6, none⟩ = some v6 ∧ w.cell? ⟨g, 7, none⟩ = some v7 ∧ w.cell? ⟨g, 8, none⟩ = some v8 ∧ w.cell? ⟨g, 9, none⟩ = some v9 ∧ w.cell? ⟨g, 10, none⟩ = some v10 ∧ w.cell? ⟨g, 11, none⟩ = some v11 ∧ w.cell? ⟨g, 12, none⟩ = some v12 ∧ w.cell? ⟨g, 13, none⟩ = some v13 ∧ w.cell? ⟨g, 14, none⟩ = some v14 :=
  ⟨k.cell 0, k.cell 1, k.cell 2, k.cell 3, k.cell 4, k.cell 5, k.cell 6, k.cell 7, k.cell 8, k.cell 9, k.cell 10, k.cell 11, k.cell 12, k.cell 13, k.cell 14⟩
end Go.Proofs.Ytpkfjnhjcdcoaaa
