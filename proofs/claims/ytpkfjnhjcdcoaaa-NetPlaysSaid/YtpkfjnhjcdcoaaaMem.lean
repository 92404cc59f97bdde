/-
  Small words on memory: a block that is known whole; a slice of bytes that reads as a list.
-/
import Derived.Below
import Derived.Laws.OwnMore
import Derived.Laws.Rows
import Derived.Deep.Draws
import Derived.OwnWalk
namespace Go.Proofs.Ytpkfjnhjcdcoaaa
open Go.RowKit

/-- Block g is just the cells cs of type t, none frozen. -/
def Blk (w : World) (g : Nat) (t : TypeId) (cs : Array Value) : Prop := w.heap[g]? = some (.cells cs t (0, 0))

section
variable {w w' : World} {g : Nat} {t : TypeId} {cs : Array Value}
theorem Blk.lt (h : Blk w g t cs) : g < w.heap.size := (Array.getElem?_eq_some_iff.1 h).1
theorem Blk.cell (h : Blk w g t cs) (i : Nat) : w.cell? ⟨g, i, none⟩ = cs[i]? := cell_of_row w g i cs t (0, 0) h
theorem Blk.frozen (h : Blk w g t cs) (i : Nat) : w.frozen? ⟨g, i, none⟩ = false := by simp [World.frozen?, show w.heap[g]? = _ from h]
theorem Blk.made (w : World) (t : TypeId) (cs : Array Value) : Blk (w.alloc (.cells cs t)) w.heap.size t cs := heap_alloc_new w _
theorem Blk.drew (h : Blk w g t cs) : Blk w.drew g t cs := h
theorem Blk.drewN (h : Blk w g t cs) (n : Nat) : Blk (w.drewN n) g t cs := h
theorem Blk.alloc (h : Blk w g t cs) (o : Obj) : Blk (w.alloc o) g t cs := (Below.heap_alloc w o g h.lt).trans h
theorem Blk.put (h : Blk w g t cs) (i : Nat) (u : Value) : Blk (w.setCell ⟨g, i, none⟩ u) g t (cs.setIfInBounds i u) := by
  unfold Blk at h ⊢
  simp [World.setCell, Array.getElem?_modify, h]
theorem Blk.far (h : Blk w g t cs) {p : Addr} (hp : g ≠ p.block) (u : Value) : Blk (w.setCell p u) g t cs := (Below.heap_setCell w p u g hp).trans h
theorem Blk.below {B : Nat} (h : Blk w g t cs) (hb : Below B w w') (hg : g < B) : Blk w' g t cs := (hb.block g hg).trans h
theorem Blk.grown {row : Option Nat} (h : Blk w g t cs) (hb : w.grownBy w' row) (hg : some g ≠ row) : Blk w' g t cs := (hb.block g h.lt hg).trans h
end

theorem ret_int {k : IntKind} {a b : Int} (h : a = b) : Ending.returned (.int k a) = .returned (.int k b) := by rw [h]
theorem ret_bool {a b : Bool} (h : a = b) : Ending.returned (.bool a) = .returned (.bool b) := by rw [h]
theorem vint {k : IntKind} {a b : Int} (h : a = b) : Value.int k a = Value.int k b := by rw [h]

/-- A byte as a value. -/
def bv (c : BitVec 8) : Value := .int .u8 (c.toNat : Int)

/-- The slice value '.slice a n c' reads as the bytes l, and lies below block B. -/
def BSl (w : World) (B : Nat) (a : Option Addr) (n : Nat) (l : List (BitVec 8)) : Prop :=
  l.length = n ∧ (0 < n → ∃ b off, a = some ⟨b, off, none⟩ ∧ b < B ∧ ∀ k, k < n → w.cell? ⟨b, off + k, none⟩ = some (bv (l.getD k 0)))

section
variable {w w' : World} {B B' n : Nat} {a : Option Addr} {l : List (BitVec 8)}
theorem BSl.nil (w : World) (B : Nat) (a : Option Addr) : BSl w B a 0 [] := ⟨rfl, fun h => absurd h (by omega)⟩
theorem BSl.at_ {k : Nat} (h : BSl w B a n l) (hk : k < n) : ∃ b off, a = some ⟨b, off, none⟩ ∧ b < B ∧ w.cell? ⟨b, off + k, none⟩ = some (bv (l.getD k 0)) := by
  obtain ⟨b, off, e, hb, hc⟩ := h.2 (by omega)
  exact ⟨b, off, e, hb, hc k hk⟩
theorem BSl.keep (h : BSl w B a n l) (hk : ∀ p : Addr, p.block < B → w'.cell? p = w.cell? p) : BSl w' B a n l :=
  ⟨h.1, fun hn => by obtain ⟨b, off, e, hb, hc⟩ := h.2 hn; exact ⟨b, off, e, hb, fun k hkn => (hk _ hb).trans (hc k hkn)⟩⟩
theorem BSl.below (h : BSl w B a n l) (hb : Below B w w') : BSl w' B a n l := h.keep fun _ hp => hb.cell hp
theorem BSl.more (h : BSl w B a n l) (hB : B ≤ B') : BSl w B' a n l :=
  ⟨h.1, fun hn => by obtain ⟨b, off, e, hb, hc⟩ := h.2 hn; exact ⟨b, off, e, by omega, hc⟩⟩
end

theorem grown_refl (w : World) (row : Option Nat) : w.grownBy w row := ⟨rfl, rfl, rfl, Nat.le_refl _, fun _ _ _ => rfl⟩
theorem grown_put {a w : World} {g : Nat} (h : a.grownBy w (some g)) (i : Nat) (u : Value) : a.grownBy (w.setCell ⟨g, i, none⟩ u) (some g) :=
  ⟨h.os, h.tape, h.output, by simpa [World.setCell] using h.size, fun k hk hne => (Below.heap_setCell w _ u k (fun e => hne (by rw [e]))).trans (h.block k hk hne)⟩
theorem grown_drew {a w : World} {row : Option Nat} (h : a.grownBy w row) : a.grownBy w.drew row := ⟨h.os, h.tape, h.output, h.size, h.block⟩
theorem grown_drewN {a w : World} {row : Option Nat} (h : a.grownBy w row) (n : Nat) : a.grownBy (w.drewN n) row := ⟨h.os, h.tape, h.output, h.size, h.block⟩
theorem grown_trans {a b c : World} {row : Option Nat} (h : a.grownBy b row) (k : b.grownBy c row) : a.grownBy c row :=
  ⟨k.os.trans h.os, k.tape.trans h.tape, k.output.trans h.output, Nat.le_trans h.size k.size, fun i hi hne => (k.block i (Nat.lt_of_lt_of_le hi h.size) hne).trans (h.block i hi hne)⟩
theorem grown_below {a w : World} {g : Nat} (h : a.grownBy w (some g)) {B : Nat} (hB : B ≤ a.heap.size) (hg : B ≤ g) : Below B a w :=
  ⟨h.os, h.tape, h.output, h.size, fun k hk => h.block k (by omega) (fun e => by injection e with e; omega)⟩
theorem below_on {B : Nat} {w w1 w2 : World} {b : Nat} {t : TypeId} {cs : Array Value} (h : Below B w w1) (g : Blk w1 b t cs) (hb : B ≤ b) (k : w1.grownBy w2 (some b)) : Below B w w2 :=
  h.grown k (by have := g.lt; omega) (fun j e => by injection e with e; omega)
theorem below_drewN {B : Nat} {a w : World} (h : Below B a w) (n : Nat) : Below B a (w.drewN n) := ⟨h.os, h.tape, h.output, h.size, h.block⟩

/-- A statement whose ways all come to one end: what follows is walked once. -/
theorem wp_once {c : Code} {P : Program} {Q : Exit → Act → World → Prop} {a : Act} {w : World} (h : ∃ A W, (∀ K : Exit → Act → World → Prop, K .normal A W → c.wp P K a w) ∧ Q .normal A W) : c.wp P Q a w := by
  obtain ⟨A, W, h1, h2⟩ := h
  exact h1 Q h2

/-! An append whose run is known: a rule for the walk, under a fact of the context. -/
def AppOk (P : Program) (w : World) (t ty : TypeId) (a b : Value) : Prop := ∃ r : Value × World, (Builtin.append_ #[t, t] ty #[a, b]).run P w = .ok r.1 r.2
open Classical in
noncomputable def appR (P : Program) (w : World) (t ty : TypeId) (a b : Value) : Value × World := if h : AppOk P w t ty a b then Classical.choose h else (.nilIface, w)
noncomputable def appV (P : Program) (w : World) (t ty : TypeId) (a b : Value) : Value := (appR P w t ty a b).1
noncomputable def appW (P : Program) (w : World) (t ty : TypeId) (a b : Value) : World := (appR P w t ty a b).2
theorem app_rule {P : Program} {w : World} {t ty : TypeId} {a b : Value} (h : AppOk P w t ty a b) : (Builtin.append_ #[t, t] ty #[a, b]).run P w = .ok (appV P w t ty a b) (appW P w t ty a b) := by
  unfold appV appW appR
  rw [dif_pos h]
  exact Classical.choose_spec h
theorem app_facts {P : Program} {w : World} {t ty : TypeId} {a b v : Value} {w' : World} (h : (Builtin.append_ #[t, t] ty #[a, b]).run P w = .ok v w') :
    AppOk P w t ty a b ∧ appV P w t ty a b = v ∧ appW P w t ty a b = w' := by
  have hok : AppOk P w t ty a b := ⟨(v, w'), h⟩
  have := app_rule hok
  rw [h] at this
  injection this with e1 e2
  exact ⟨hok, e1.symm, e2.symm⟩

end Go.Proofs.Ytpkfjnhjcdcoaaa
