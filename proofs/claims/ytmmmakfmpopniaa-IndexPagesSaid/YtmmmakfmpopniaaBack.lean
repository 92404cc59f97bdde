/-
  slices.Backward over bytes: the contract of the iterator, at whatever loop body.
-/
import Derived.RangeFuncNested
import Derived.RangeFuncBox
import Derived.RangeFuncLeaves
import Derived.Shelf.Abstract
import Derived.Shelf.RegionOpen
import Derived.Lib.Hide
import Derived.WalkKit
import Derived.OwnWalkIn
import Derived.TacticsInMore
import Derived.LoopNIn
import Derived.LoopIn
import Derived.Test.YtmmmakfmpopniaaMem
import Derived.Test.YtmmmakfmpopniaaChecked
namespace Go.Proofs.Ytmmmakfmpopniaa
open Go.RowKit Go.Shelf

attribute [local go_sem] Oper.semAt_some

/-- What has come when k rounds are over. -/
def upto {α : Type} (f : Nat → α) (k : Nat) : List α := (List.range k).map f
theorem upto_succ {α : Type} (f : Nat → α) (k : Nat) : upto f (k + 1) = upto f k ++ [f k] := by simp [upto, List.range_succ]
theorem upto_length {α : Type} (f : Nat → α) (k : Nat) : (upto f k).length = k := by simp [upto]

/-- What comes in round j, from behind: the place, and the byte there. -/
def backAt (l : List (BitVec 8)) (n j : Nat) : Nat × BitVec 8 := (n - 1 - j, l.getD (n - 1 - j) 0)
/-- What a round of the loop is handed. -/
def encB (x : Nat × BitVec 8) : Array Value := #[.int .i64 (x.1 : Int), .int .u8 (x.2.toNat : Int)]

/-- The law on a range over a function (wpIn_rangeFunc_ownG) at the wide fence; the frame behind the assignment is said as a turn of the frame ahead of the loop. -/
theorem range_wide {α : Type} {P : Program} {g : Operand} {ps : Array Tmp} {assign body : Code} {Q : Exit → Act → World → Prop} {a : Act} {w : World}
    {gf : Nat} {lb : Array Value} (hg : a.eval g = .func (.func gf) #[] lb) (eg : ∀ args w, (callFunc gf args).run P w = .ok (.enter gf args) w)
    {encs : α → Array Value} {Kp : World → World → Prop} {S Sp : List α → Prop} {N : Nat} {w0 : World} (hseq : SeqStopsK Fence.wide 4 P gf lb encs Kp S Sp N w0)
    (hKt : ∀ {A B C : World}, Kp A B → Kp B C → Kp A C) (hKb : ∀ (W : World) (l : Nat) (o o' : Obj), w.heap.size ≤ l → W.heap[l]? = some o → o.isCells = false → o.isWalk = false → Kp W (W.putObj l o')) (hb0 : Below w0.heap.size w0 w) (hps : ∀ x, (encs x).size = ps.size)
    (I : List α → World → Prop) (hI : OwnFrom w.heap.size I) (h0 : I [] w) (upd : Array Value → α → Array Value)
    (hassign : ∀ (l : Nat) (x : α) (W : World) (K : Act → World → Prop), K { tmps := upd a.tmps x, defers := [] } W →
      assign.wpIn (Fence.wide.inRound l) 3 P (Exit.then K (fun _ _ _ => False)) { tmps := (ps.zip (encs x)).foldl (fun t (p, v) => t.setIfInBounds p v) a.tmps, defers := [] } W)
    (hbody : ∀ (l : Nat) (pre : List α) (x : α) (W : World), I pre W → pre.length < N → body.wpIn (Fence.wide.inRound l) 3 P (ownPostG w.heap.size Kp I (fun _ _ _ => False) (pre ++ [x]) W) { tmps := upd a.tmps x, defers := [] } W)
    (hdone : ∀ (D : Nat) (xs : List α) (W : World), w.heap.size ≤ D → S xs → I xs W → W.heap[D]? = some (.deferred (some [])) → Q .normal { a with defers := { target := .collected D, args := #[] } :: a.defers } W) :
    (Code.rangeFunc g ps assign body).wp P Q a w :=
  (wpIn_wide (n := 5)).1 (wpIn_rangeFunc_ownG rfl (by omega) hg trivial eg hseq hKt hKb hb0 hps I (fun _ _ _ => False) hI (fun _ _ _ _ _ hs _ _ => hs) h0 (fun x => { tmps := upd a.tmps x, defers := [] }) hassign hbody hdone
    (fun _ _ _ _ _ _ h _ => h.elim))

/-- What a round of the loop keeps: the blocks of S. -/
def KS (S : Nat → Prop) (W W' : World) : Prop := ∀ b, S b → W'.heap[b]? = W.heap[b]?
theorem KS.refl (S : Nat → Prop) (W : World) : KS S W W := fun _ _ => rfl
theorem KS.trans {S : Nat → Prop} {A B C : World} (h : KS S A B) (k : KS S B C) : KS S A C := fun b hb => (k b hb).trans (h b hb)
theorem KS.cell {S : Nat → Prop} {A B : World} (h : KS S A B) {b : Nat} (hb : S b) (o : Nat) : B.cell? ⟨b, o, none⟩ = A.cell? ⟨b, o, none⟩ := World.cell?_of_block (w := A) (h b hb)
theorem ks_put {S : Nat → Prop} {w : World} (hS : ∀ b, S b → b < w.heap.size) (W : World) (l : Nat) (o o' : Obj) (hl : w.heap.size ≤ l) (h : W.heap[l]? = some o) (_ : o.isCells = false) (_ : o.isWalk = false) : KS S W (W.putObj l o') :=
  fun b hb => (grownBy_putObj' W l o').block b (by have := (Array.getElem?_eq_some_iff.1 h).1; have := hS b hb; omega) (fun e => by injection e with e; have := hS b hb; omega)

/-- The slice value '.slice a n c' reads as the bytes l, in a block of S. -/
def RSl (w : World) (S : Nat → Prop) (a : Option Addr) (n : Nat) (l : List (BitVec 8)) : Prop :=
  l.length = n ∧ (0 < n → ∃ b off, a = some ⟨b, off, none⟩ ∧ S b ∧ ∀ k, k < n → w.cell? ⟨b, off + k, none⟩ = some (bv (l.getD k 0)))
theorem RSl.keep {w w' : World} {S : Nat → Prop} {a : Option Addr} {n : Nat} {l : List (BitVec 8)} (h : RSl w S a n l) (hk : KS S w w') : RSl w' S a n l :=
  ⟨h.1, fun hn => by obtain ⟨b, off, e, hb, hc⟩ := h.2 hn; exact ⟨b, off, e, hb, fun k hkn => (hk.cell hb _).trans (hc k hkn)⟩⟩

end Go.Proofs.Ytmmmakfmpopniaa
