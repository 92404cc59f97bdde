/-
  slices.Backward over bytes: the contract of the iterator, at whatever loop body.
-/
import Derived.RangeFuncNested
import Derived.RangeFuncBox
import Derived.RangeFuncLeaves
import Derived.Shelf.Abstract
import Derived.Shelf.RegionOpen
import Derived.Lib.Hide
import Derived.WalkKit
import Derived.OwnWalkIn
import Derived.TacticsInMore
import Derived.LoopNIn
import Derived.LoopIn
import Derived.Test.YtpkfjnhjcdcoaaaMem
import Derived.Test.YtpkfjnhjcdcoaaaChecked
namespace Go.Proofs.Ytpkfjnhjcdcoaaa
open Go.RowKit Go.Shelf

attribute [local go_sem] Oper.semAt_some

/-- What has come when k rounds are over. -/
def upto {α : Type} (f : Nat → α) (k : Nat) : List α := (List.range k).map f
theorem upto_succ {α : Type} (f : Nat → α) (k : Nat) : upto f (k + 1) = upto f k ++ [f k] := by simp [upto, List.range_succ]
theorem upto_length {α : Type} (f : Nat → α) (k : Nat) : (upto f k).length = k := by simp [upto]

/-- What comes in round j, from behind: the place, and the byte there. -/
def backAt (l : List (BitVec 8)) (n j : Nat) : Nat × BitVec 8 := (n - 1 - j, l.getD (n - 1 - j) 0)
/-- What a round of the loop is handed. -/
def encB (x : Nat × BitVec 8) : Array Value := #[.int .i64 (x.1 : Int), .int .u8 (x.2.toNat : Int)]

/-- The law on a range over a function (wpIn_rangeFunc_ownG) at the wide fence; the frame behind the assignment is said as a turn of the frame ahead of the loop. -/
theorem range_wide {α : Type} {P : Program} {g : Operand} {ps : Array Tmp} {assign body : Code} {Q : Exit → Act → World → Prop} {a : Act} {w : World}
    {gf : Nat} {lb : Array Value} (hg : a.eval g = .func (.func gf) #[] lb) (eg : ∀ args w, (callFunc gf args).run P w = .ok (.enter gf args) w)
    {encs : α → Array Value} {Kp : World → World → Prop} {S Sp : List α → Prop} {N : Nat} {w0 : World} (hseq : SeqStopsK Fence.wide 4 P gf lb encs Kp S Sp N w0)
    (hKt : ∀ {A B C : World}, Kp A B → Kp B C → Kp A C) (hKb : ∀ (W : World) (l : Nat) (o o' : Obj), w.heap.size ≤ l → W.heap[l]? = some o → o.isCells = false → o.isWalk = false → Kp W (W.putObj l o')) (hb0 : Below w0.heap.size w0 w) (hps : ∀ x, (encs x).size = ps.size)
    (I : List α → World → Prop) (hI : OwnFrom w.heap.size I) (h0 : I [] w) (upd : Array Value → α → Array Value)
    (hassign : ∀ (l : Nat) (x : α) (W : World) (K : Act → World → Prop), K { tmps := upd a.tmps x, defers := [] } W →
      assign.wpIn (Fence.wide.inRound l) 3 P (Exit.then K (fun _ _ _ => False)) { tmps := (ps.zip (encs x)).foldl (fun t (p, v) => t.setIfInBounds p v) a.tmps, defers := [] } W)
    (hbody : ∀ (l : Nat) (pre : List α) (x : α) (W : World), I pre W → pre.length < N → body.wpIn (Fence.wide.inRound l) 3 P (ownPostG w.heap.size Kp I (fun _ _ _ => False) (pre ++ [x]) W) { tmps := upd a.tmps x, defers := [] } W)
    (hdone : ∀ (D : Nat) (xs : List α) (W : World), w.heap.size ≤ D → S xs → I xs W → W.heap[D]? = some (.deferred (some [])) → Q .normal { a with defers := { target := .collected D, args := #[] } :: a.defers } W) :
    (Code.rangeFunc g ps assign body).wp P Q a w :=
  (wpIn_wide (n := 5)).1 (wpIn_rangeFunc_ownG rfl (by omega) hg trivial eg hseq hKt hKb hb0 hps I (fun _ _ _ => False) hI (fun _ _ _ _ _ hs _ _ => hs) h0 (fun x => { tmps := upd a.tmps x, defers := [] }) hassign hbody hdone
    (fun _ _ _ _ _ _ h _ => h.elim))

/-- What a round of the loop keeps: the blocks of S. -/
def KS (S : Nat → Prop) (W W' : World) : Prop := ∀ b, S b → W'.heap[b]? = W.heap[b]?
theorem KS.refl (S : Nat → Prop) (W : World) : KS S W W := fun _ _ => rfl
theorem KS.trans {S : Nat → Prop} {A B C : World} (h : KS S A B) (k : KS S B C) : KS S A C := fun b hb => (k b hb).trans (h b hb)
theorem KS.cell {S : Nat → Prop} {A B : World} (h : KS S A B) {b : Nat} (hb : S b) (o : Nat) : B.cell? ⟨b, o, none⟩ = A.cell? ⟨b, o, none⟩ := World.cell?_of_block (w := A) (h b hb)
theorem ks_put {S : Nat → Prop} {w : World} (hS : ∀ b, S b → b < w.heap.size) (W : World) (l : Nat) (o o' : Obj) (hl : w.heap.size ≤ l) (h : W.heap[l]? = some o) (_ : o.isCells = false) (_ : o.isWalk = false) : KS S W (W.putObj l o') :=
  fun b hb => (grownBy_putObj' W l o').block b (by have := (Array.getElem?_eq_some_iff.1 h).1; have := hS b hb; omega) (fun e => by injection e with e; have := hS b hb; omega)

/-- The slice value '.slice a n c' reads as the bytes l, in a block of S. -/
def RSl (w : World) (S : Nat → Prop) (a : Option Addr) (n : Nat) (l : List (BitVec 8)) : Prop :=
  l.length = n ∧ (0 < n → ∃ b off, a = some ⟨b, off, none⟩ ∧ S b ∧ ∀ k, k < n → w.cell? ⟨b, off + k, none⟩ = some (bv (l.getD k 0)))
theorem RSl.keep {w w' : World} {S : Nat → Prop} {a : Option Addr} {n : Nat} {l : List (BitVec 8)} (h : RSl w S a n l) (hk : KS S w w') : RSl w' S a n l :=
  ⟨h.1, fun hn => by obtain ⟨b, off, e, hb, hc⟩ := h.2 hn; exact ⟨b, off, e, hb, fun k hkn => (hk.cell hb _).trans (hc k hkn)⟩⟩

set_option maxRecDepth 100000 in
set_option maxHeartbeats 2000000 in
/-- The iterator's text: for every loop body that keeps what lay below n₀. -/
theorem back1_in {α : Type} (encs : α → Array Value) (f : Nat → α) (F : Fence) (m : Nat) (h7 : F.fn 80) (hro : F.round = none) (hn : 1 ≤ m) (lp Bs n c : Nat) (S : Nat → Prop) (a : Option Addr) (l : List (BitVec 8)) (hf : ∀ j, j < n → encs (f j) = encB (backAt l n j)) (hreach : n ≤ 140737488351232) (J Jx : List α → World → Prop)
    (hY : ∀ pre x W, J pre W → pre.length < n → YieldAt F (m - 1) Try.prog lp (encs x) W fun e W' =>
      (e = .returned (.bool true) ∧ J (pre ++ [x]) W' ∧ KS S W W') ∨ (e = .returned (.bool false) ∧ Jx (pre ++ [x]) W'))
    (W : World) (hBs : W.cell? ⟨Bs, 0, none⟩ = some (.slice a n c)) (hBS : S Bs) (hc : RSl W S a n l) (h0 : J [] W) :
    CallsIn F m Try.prog 80 #[.func (.yield lp) #[] #[], .pointer (some ⟨Bs, 0, none⟩)] W fun e W' => (∃ v, e = .returned v) ∧
      ((∃ ys, ys = upto f n ∧ J ys W') ∨ (∃ pre, (∃ k, k ≤ n ∧ pre = upto f k) ∧ Jx pre W')) := by
  refine callsIn_of_wp Try.func80 rfl h7 ?_ hro
  simp only [Try.ntmps80, List.size_toArray, List.length_cons, List.length_nil, Nat.reduceAdd, Nat.reduceSub, Array.replicate_succ, Array.replicate_zero, List.push_toArray, List.append_toArray, List.nil_append, List.cons_append]
  gi_wp2
  gi_loopw [3] (fun i wr => ∃ k : Nat, k ≤ n ∧ i = .int .i64 ((n : Int) - 1 - k) ∧ J (upto f k) wr ∧ KS S W wr)
    (fun i _ => (intOf i + 1).toNat)
  case atStart => exact ⟨0, Nat.zero_le _, by simp, h0, KS.refl _ _⟩
  case round =>
    obtain ⟨k, hk, rfl, hJs, hnx⟩ := hrel
    have hBs' := (hnx.cell hBS 0).trans hBs
    by_cases hlt : k < n
    · obtain ⟨b, off, rfl, hb, hcell⟩ := hc.2 (by omega)
      have hcx : wr.cell? ⟨b, off + (n - 1 - k), none⟩ = some (bv (l.getD (n - 1 - k) 0)) := (hnx.cell hb _).trans (hcell (n - 1 - k) (by omega))
      obtain ⟨i, hi⟩ : ∃ i : Nat, n - 1 - k = i := ⟨_, rfl⟩
      obtain ⟨cb, hcb⟩ : ∃ cb : BitVec 8, l.getD i 0 = cb := ⟨_, rfl⟩
      have hx : backAt l n k = (i, cb) := by unfold backAt; rw [hi, hcb]
      have hYk := hY _ (f k) wr hJs (by rw [upto_length]; exact hlt)
      rw [hf k hlt, hx] at hYk
      obtain ⟨fn, tmps, assign, body, hy, hR⟩ := hYk
      have hii : ((n : Int) - 1 - k) = i := by omega
      simp only [encB] at hy
      rw [hi, hcb] at hcx
      unfold bv at hcx
      rw [hii]
      have hlo : 0 ≤ (i : Int) := by omega
      have hlo2 : (i : Int) < n := by omega
      clear hc hcell hcb hx
      gi_wp2
      refine hR.mono ?_
      rintro e W3 (⟨rfl, hJ3, hk3⟩ | ⟨rfl, hJx3⟩)
      · gi_wp2
        go_roundw
        case rel =>
          exact ⟨k + 1, by omega, vint (by push_cast; omega), by rw [upto_succ]; exact hJ3, hnx.trans hk3⟩
        case measure => simp [intOf]
      · gi_wp2
        refine bodyPost_ret (results_none rfl _ _ _) rfl ?_
        exact ⟨⟨_, rfl⟩, .inr ⟨_, ⟨k + 1, by omega, by rw [upto_succ]⟩, hJx3⟩⟩
    · obtain rfl : k = n := by omega
      gi_wp2
      go_end0
      exact ⟨⟨_, rfl⟩, .inl ⟨_, rfl, hJs⟩⟩

/-- slices.Backward(s): the slice value is boxed; the function value captures the box. -/
theorem back_calls (a : Option Addr) (n c : Nat) (w : World) :
    Calls Try.prog 61 #[.slice a n c] w fun e w' => e = .returned (.func (.func 80) #[] #[.pointer (some ⟨w.heap.size, 0, none⟩)]) ∧ w' = w.alloc (.cells #[.slice a n c] 22) := by
  go_enter Try.func61, Try.ntmps61
  go_wp2
  go_ret
  exact ⟨rfl, rfl⟩

/-- What slices.Backward hands back: each place with its byte, from behind; or the first k of them. -/
theorem back_stops_of {α : Type} (encs : α → Array Value) (f : Nat → α) (F : Fence) (m : Nat) (h7 : F.fn 80) (hro : F.round = none) (hn : 1 ≤ m) (Bs n c : Nat) (S : Nat → Prop) (a : Option Addr) (l : List (BitVec 8)) (hf : ∀ j, j < n → encs (f j) = encB (backAt l n j)) (hreach : n ≤ 140737488351232)
    (w : World) (hS : ∀ b, S b → b < w.heap.size) (hBS : S Bs) (hBs : w.cell? ⟨Bs, 0, none⟩ = some (.slice a n c)) (hc : RSl w S a n l) :
    SeqStopsK F m Try.prog 80 #[.pointer (some ⟨Bs, 0, none⟩)] encs (KS S) (fun ys => ys = upto f n) (fun pre => ∃ k, k ≤ n ∧ pre = upto f k) n w := fun lp J Jx W hW _ _ hY h0 => by
  have hW' : KS S w W := fun b hb => hW.block b (hS b hb)
  exact back1_in encs f F m h7 hro hn lp Bs n c S a l hf hreach J Jx hY W ((hW'.cell hBS 0).trans hBs) hBS (hc.keep hW') h0

theorem back_stops (F : Fence) (m : Nat) (h7 : F.fn 80) (hro : F.round = none) (hn : 1 ≤ m) (Bs n c : Nat) (S : Nat → Prop) (a : Option Addr) (l : List (BitVec 8)) (hreach : n ≤ 140737488351232)
    (w : World) (hS : ∀ b, S b → b < w.heap.size) (hBS : S Bs) (hBs : w.cell? ⟨Bs, 0, none⟩ = some (.slice a n c)) (hc : RSl w S a n l) :
    SeqStopsK F m Try.prog 80 #[.pointer (some ⟨Bs, 0, none⟩)] encB (KS S) (fun ys => ys = upto (backAt l n) n) (fun pre => ∃ k, k ≤ n ∧ pre = upto (backAt l n) k) n w :=
  back_stops_of encB (backAt l n) F m h7 hro hn Bs n c S a l (fun _ _ => rfl) hreach w hS hBS hBs hc

end Go.Proofs.Ytpkfjnhjcdcoaaa
