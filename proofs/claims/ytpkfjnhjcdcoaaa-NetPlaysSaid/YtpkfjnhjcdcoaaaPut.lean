/-
  The contract of pack.Put.
-/
import Derived.Test.YtpkfjnhjcdcoaaaPack
namespace Go.Proofs.Ytpkfjnhjcdcoaaa
open Go.RowKit Go.Shelf

attribute [local go_sem] Oper.semAt_some
attribute [local go_sem ↓] Go.wp_at_zero Go.wp_at_succ

/-- What is known behind the first byte of the rest: two boxes (out, rest), their rows, the number's box. -/
structure PutAt (w W : World) (N O R : Nat) (n m : Nat) (av : Option Addr) (cv : Nat) (xs : List Value) (g s rc : Nat) (rs : List Value) : Prop where
  num : Boxed W N 24 (.int .u64 n)
  out : Boxed W O 22 (.slice av m cv)
  rest : Boxed W R 22 (.slice (some ⟨g, 0, none⟩) s rc)
  outRow : W.ownsRow w.heap.size 5 1 (.slice av m cv) m xs
  restRow : W.ownsRow w.heap.size 5 1 (.slice (some ⟨g, 0, none⟩) s rc) s rs
  apart : (Value.slice av m cv).ownBlock ≠ some g
  below : Below w.heap.size w W
  hN : w.heap.size ≤ N
  hO : w.heap.size ≤ O
  hR : w.heap.size ≤ R
  hOR : O ≠ R
  hNO : N ≠ O
  hNR : N ≠ R
  hg : w.heap.size ≤ g

theorem own_block_lt {W : World} {base : Nat} {e : TypeId} {v : Value} {k : Nat} {xs : List Value} (h : W.ownsRow base e 1 v k xs) {b : Nat} (hb : W.heap.size ≤ b) : v.ownBlock ≠ some b := by
  intro he
  have := h.lt b he
  omega

theorem put_start {w w1 : World} {n m : Nat} {av : Option Addr} {cv : Nat} {xs : List Value} (p0 : Value) (hb1 : Below (w.heap.size + 1) (w.alloc (.cells #[.int .u64 n] 24)) w1)
    (hown : w1.ownsRow (w.heap.size + 1) 5 1 (.slice av m cv) m xs) (hw1 : w.heap.size + 1 ≤ w1.heap.size) :
    PutAt w (((w1.alloc (.cells #[.slice av m cv] 22)).alloc (.cells #[p0] 5)).alloc (.cells #[.slice (some ⟨w1.heap.size + 1, 0, none⟩) 1 1] 22))
      w.heap.size w1.heap.size (w1.heap.size + 1 + 1) n m av cv xs (w1.heap.size + 1) 1 1 [p0] := by
  have hN : Boxed w1 w.heap.size 24 (.int .u64 n) := (hb1.block w.heap.size (by omega)).trans (Boxed.new w 24 _)
  have hB : Below w.heap.size w w1 := ((Below.refl w.heap.size w).alloc (Nat.le_refl _) _).trans (hb1.mono (by omega))
  have hw : (Blk ((w1.alloc (.cells #[.slice av m cv] 22)).alloc (.cells #[p0] 5)) (w1.heap.size + 1) 5 #[p0]) := by
    have := Blk.made (w1.alloc (.cells #[.slice av m cv] 22)) 5 #[p0]
    rwa [World.size_alloc] at this
  have hr : (Boxed (((w1.alloc (.cells #[.slice av m cv] 22)).alloc (.cells #[p0] 5)).alloc (.cells #[.slice (some ⟨w1.heap.size + 1, 0, none⟩) 1 1] 22)) (w1.heap.size + 1 + 1) 22 (.slice (some ⟨w1.heap.size + 1, 0, none⟩) 1 1)) := by
    have := Boxed.new ((w1.alloc (.cells #[.slice av m cv] 22)).alloc (.cells #[p0] 5)) 22 (.slice (some ⟨w1.heap.size + 1, 0, none⟩) 1 1)
    rwa [World.size_alloc, World.size_alloc] at this
  have hbase : ∀ {X : World} {v : Value} {k : Nat} {ys : List Value}, X.ownsRow (w.heap.size + 1) 5 1 v k ys → X.ownsRow w.heap.size 5 1 v k ys := fun h => ⟨h.1, by
    rcases h.2 with h2 | ⟨g, cap, cur, e1, e2, e3⟩
    · exact .inl h2
    · exact .inr ⟨g, cap, cur, e1, by omega, e3⟩⟩
  exact ⟨((hN.alloc _).alloc _).alloc _, ((Boxed.new w1 _ _).alloc _).alloc _, hr, (((hbase hown).alloc _).alloc _).alloc _,
    ⟨rfl, .inr ⟨_, 1, #[p0], rfl, by omega, hw.alloc _, Nat.le_refl _, by decide, rfl, rfl⟩⟩, own_block_lt hown (by omega),
    ((hB.alloc (by omega) _).alloc (by simp; omega) _).alloc (by simp; omega) _, Nat.le_refl _, by omega, by omega, by omega, by omega, by omega, by omega⟩

section
variable {P : Program} {w w' : World} {v vs vx : Value} {t : TypeId}
/-- An append whose run is known, at the operation. -/
theorem wp_run {o : Oper} {a : Act} {K : Act → World → Prop} {Q : Exit → Act → World → Prop} (s x : Operand)
    (ho : o.op = .call { callee := .builtin .append, args := #[s, x], argTypes := #[t, t] }) (hs : a.eval s = vs) (hx : a.eval x = vx)
    (hr : (Builtin.append_ #[t, t] o.type #[vs, vx]).run P w = .ok v w') (h : K (a.put o.dst v) w') : o.wp P a w K Q := by
  unfold Oper.wp execOp
  simp only [ho, resolve, invoke, builtin, Sem.run_bind, Sem.run_pure, Result.andThen_ok, List.map_toArray, List.map_cons, List.map_nil, hs, hx, hr]
  exact h
/-- .. at a step of a region that draws its order. -/
theorem step_run {ops : Array Oper} {o : Oper} {a : Act} {K : Act → World → Prop} {Q : Exit → Act → World → Prop} {E : Prop} (hgd : o.guard = none) (s x : Operand)
    (ho : o.op = .call { callee := .builtin .append, args := #[s, x], argTypes := #[t, t] }) (hs : a.eval s = vs) (hx : a.eval x = vx)
    (hr : (Builtin.append_ #[t, t] o.type #[vs, vx]).run P w = .ok v w') (h : K (a.put o.dst v) w') :
    if Region.wanted o (yielded ops a.tmps) = true then Oper.wp P o a w K Q else E := by
  have hw : Region.wanted o (yielded ops a.tmps) = true := by simp [Region.wanted, hgd]
  rw [if_pos hw]
  exact wp_run s x ho hs hx hr h
end

/-- A statement all of whose ways come to one end. -/
def Ends (A : Act) (W : World) : Exit → Act → World → Prop
  | .normal, a, w => a = A ∧ w = W
  | _, _, _ => False
theorem wp_ends {c : Code} {P : Program} {Q : Exit → Act → World → Prop} {a : Act} {w : World} {A : Act} {W : World} (h : c.wp P (Ends A W) a w) (hQ : Q .normal A W) : c.wp P Q a w :=
  Code.wp_mono (fun e x y hh => by
    cases e <;> first | (obtain ⟨rfl, rfl⟩ := hh; exact hQ) | exact (hh : False).elim) h

theorem own_store_far {W : World} {base : Nat} {e : TypeId} {v : Value} {k : Nat} {xs : List Value} (h : W.ownsRow base e 1 v k xs) {b : Nat} {t : TypeId} {u u' : Value} (hb : Boxed W b t u) (hte : t ≠ e) : (W.setCell ⟨b, 0, none⟩ u').ownsRow base e 1 v k xs :=
  h.kept (grownBy_setCell' W b u') (.inr (hb.not_row hte h).symm)

/-- 'rest = append(rest, ..)': the append's run, and what is known behind the store. -/
theorem put_rest {w W : World} {N O R n m : Nat} {av : Option Addr} {cv : Nat} {xs : List Value} {g s rc : Nat} {rs : List Value} (h : PutAt w W N O R n m av cv xs g s rc rs)
    (cs : List Value) (k : Nat) (hk : cs.length = k) (hk0 : 0 < k) (h1 : ∀ u ∈ cs, u.oneCell' = true) (hs : s + k ≤ 100) :
    ∃ g' rc' W2, (Builtin.append_ #[22, 22] 22 #[.slice (some ⟨g, 0, none⟩) s rc, .slice (some ⟨W.heap.size, 0, none⟩) k k]).run Try.prog (W.alloc (.cells cs.toArray 5)).drew = .ok (.slice (some ⟨g', 0, none⟩) (s + k) rc') W2 ∧
      W2.cell? ⟨R, 0, none⟩ = some (.slice (some ⟨g, 0, none⟩) s rc) ∧ W2.cell? ⟨N, 0, none⟩ = some (.int .u64 n) ∧ W2.frozen? ⟨R, 0, none⟩ = false ∧ PutAt w (W2.setCell ⟨R, 0, none⟩ (.slice (some ⟨g', 0, none⟩) (s + k) rc')) N O R n m av cv xs g' (s + k) rc' (rs ++ cs) := by
  obtain ⟨i0, hi, hz0, hz1, hz2⟩ := info_parts info_u8
  have hb : Blk (W.alloc (.cells cs.toArray 5)).drew W.heap.size 5 cs.toArray := (Blk.made W _ _).drew
  have hrow : (W.alloc (.cells cs.toArray 5)).drew.ownsRow w.heap.size 5 1 (.slice (some ⟨g, 0, none⟩) s rc) s rs := (h.restRow.alloc _).drew
  have hsz : (W.alloc (.cells cs.toArray 5)).drew.heap.size = W.heap.size + 1 := by simp
  obtain ⟨g', rc', W2, hrun, hown2, hgrow, hat, hlt⟩ := run_append_lies (P := Try.prog) (W.alloc (.cells cs.toArray 5)).drew 22 22 w.heap.size 5 i0 _ 1 1 Try.underlying22 hi hz0 hz1 hz2 rfl (by decide)
    _ s rs hrow ⟨W.heap.size, 0, none⟩ k k cs (by omega) (World.news_of_block (cs := cs.toArray) (t := 5) (fr := (0, 0)) hb) h1 hk0 (by unfold maxLen; omega) (by omega) (by rw [hsz]; have := h.below.size; omega) (W.heap.size + 1) hsz
  have hgR : ∀ {b : Nat} {t : TypeId} {u : Value}, Boxed W b t u → t ≠ 5 → Boxed W2 b t u := fun hbx hte => ((hbx.alloc _).kept (grown_drew (grown_refl _ none)) (by simp)).kept hgrow (by
    intro e'
    have := hbx.not_row hte h.restRow
    exact this e')
  have hout : W2.ownsRow w.heap.size 5 1 (.slice av m cv) m xs := ((h.outRow.alloc _).drew).kept hgrow (by
    rcases hv : (Value.slice av m cv).ownBlock with _ | b
    · exact .inl rfl
    · right
      intro e'
      exact h.apart (by rw [hv]; exact e'))
  have hB2 : Below w.heap.size w W2 := by
    have hb0 : Below w.heap.size w (W.alloc (.cells cs.toArray 5)).drew := (h.below.alloc h.below.size _).drew
    refine hb0.grown hgrow (by rw [hsz]; have := h.below.size; omega) (fun b e' => ?_)
    have e2 : some g = some b := e'
    injection e2 with e2
    have := h.hg
    omega
  have hR2 := hgR h.rest (by decide)
  refine ⟨g', rc', W2, hrun, hR2.cell, (hgR h.num (by decide)).cell, hR2.frozen, ?_⟩
  have hset := hR2.set (.slice (some ⟨g', 0, none⟩) (s + k) rc')
  have hgrow2 := grownBy_setCell' W2 R (.slice (some ⟨g', 0, none⟩) (s + k) rc')
  refine ⟨(hgR h.num (by decide)).kept hgrow2 (by intro e'; injection e' with e'; exact h.hNR e'), (hgR h.out (by decide)).kept hgrow2 (by intro e'; injection e' with e'; exact h.hOR e'), hset, own_store_far hout hR2 (by decide), own_store_far hown2 hR2 (by decide), ?_, hB2.setCell (p := ⟨R, 0, none⟩) h.hR _, h.hN, h.hO, h.hR, h.hOR, h.hNO, h.hNR, ?_⟩
  · rcases hat with e | e
    · intro e'
      exact h.apart (e'.trans e.symm)
    · intro e'
      have := h.outRow.lt _ e'
      omega
  · rcases hat with e | e
    · have e2 : some g = some g' := e
      injection e2 with e2
      have := h.hg; omega
    · have := h.below.size; omega

/-- 'out = append(out, c)': likewise. -/
theorem put_out {w W : World} {N O R n m : Nat} {av : Option Addr} {cv : Nat} {xs : List Value} {g s rc : Nat} {rs : List Value} (h : PutAt w W N O R n m av cv xs g s rc rs)
    (u : Value) (h1 : u.oneCell' = true) (hm : m + 1 ≤ 1099511627800) :
    ∃ g' rc' W2, (Builtin.append_ #[22, 22] 22 #[.slice av m cv, .slice (some ⟨W.heap.size, 0, none⟩) 1 1]).run Try.prog (W.alloc (.cells #[u] 5)).drew = .ok (.slice (some ⟨g', 0, none⟩) (m + 1) rc') W2 ∧
      W2.cell? ⟨O, 0, none⟩ = some (.slice av m cv) ∧ W2.frozen? ⟨O, 0, none⟩ = false ∧ PutAt w (W2.setCell ⟨O, 0, none⟩ (.slice (some ⟨g', 0, none⟩) (m + 1) rc')) N O R n (m + 1) (some ⟨g', 0, none⟩) rc' (xs ++ [u]) g s rc rs ∧
      KeepsOthers W (W2.setCell ⟨O, 0, none⟩ (.slice (some ⟨g', 0, none⟩) (m + 1) rc')) ∧ (∀ b, b < W.heap.size → b ≠ O → (Value.slice av m cv).ownBlock ≠ some b → (W2.setCell ⟨O, 0, none⟩ (.slice (some ⟨g', 0, none⟩) (m + 1) rc')).heap[b]? = W.heap[b]?) := by
  obtain ⟨i0, hi, hz0, hz1, hz2⟩ := info_parts info_u8
  have hb : Blk (W.alloc (.cells #[u] 5)).drew W.heap.size 5 #[u] := (Blk.made W _ _).drew
  have hrow : (W.alloc (.cells #[u] 5)).drew.ownsRow w.heap.size 5 1 (.slice av m cv) m xs := (h.outRow.alloc _).drew
  have hsz : (W.alloc (.cells #[u] 5)).drew.heap.size = W.heap.size + 1 := by simp
  obtain ⟨g', rc', W2, hrun, hown2, hgrow, hat, hlt⟩ := run_append_lies (P := Try.prog) (W.alloc (.cells #[u] 5)).drew 22 22 w.heap.size 5 i0 _ 1 1 Try.underlying22 hi hz0 hz1 hz2 rfl (by decide)
    _ m xs hrow ⟨W.heap.size, 0, none⟩ 1 1 [u] rfl (World.news_of_block (cs := #[u]) (t := 5) (fr := (0, 0)) hb) (by simpa using h1) (by decide) (by unfold maxLen; omega) (by omega) (by rw [hsz]; have := h.below.size; omega) (W.heap.size + 1) hsz
  have hgR : ∀ {b : Nat} {t : TypeId} {u : Value}, Boxed W b t u → t ≠ 5 → Boxed W2 b t u := fun hbx hte => ((hbx.alloc _).kept (grown_drew (grown_refl _ none)) (by simp)).kept hgrow (by
    intro e'
    have := hbx.not_row hte h.outRow
    exact this e')
  have hrest : W2.ownsRow w.heap.size 5 1 (.slice (some ⟨g, 0, none⟩) s rc) s rs := ((h.restRow.alloc _).drew).kept hgrow (.inr (fun e' => h.apart e'.symm))
  have hB2 : Below w.heap.size w W2 := by
    have hb0 : Below w.heap.size w (W.alloc (.cells #[u] 5)).drew := (h.below.alloc h.below.size _).drew
    refine hb0.grown hgrow (by rw [hsz]; have := h.below.size; omega) (fun b e' => ?_)
    exact (h.outRow.lt _ e').1
  have hO2 := hgR h.out (by decide)
  have hset := hO2.set (.slice (some ⟨g', 0, none⟩) (m + 1) rc')
  have hgrow2 := grownBy_setCell' W2 O (.slice (some ⟨g', 0, none⟩) (m + 1) rc')
  have hglt : g < W.heap.size := (h.restRow.lt g rfl).2
  refine ⟨g', rc', W2, hrun, hO2.cell, hO2.frozen, ?_, ?_, ?_⟩
  · refine ⟨(hgR h.num (by decide)).kept hgrow2 (by intro e'; injection e' with e'; exact h.hNO e'), hset, (hgR h.rest (by decide)).kept hgrow2 (by intro e'; injection e' with e'; exact h.hOR e'.symm), own_store_far hown2 hO2 (by decide), own_store_far hrest hO2 (by decide), ?_, hB2.setCell (p := ⟨O, 0, none⟩) h.hO _, h.hN, h.hO, h.hR, h.hOR, h.hNO, h.hNR, h.hg⟩
    rcases hat with e | e
    · intro e'
      exact h.apart (e.trans e')
    · intro e'
      have e2 : some g' = some g := e'
      injection e2 with e2
      omega
  · refine (((KeepsOthers.alloc W _).trans (KeepsOthers.drew _)).trans (KeepsOthers.of_grownBy hgrow fun j o ej hj => ?_)).trans (KeepsOthers.setCell _ _ _)
    rcases hrow.2 with ⟨e1, _⟩ | ⟨q, cap, cur, e1, _, hgb, _⟩
    · rw [e1] at ej; simp [Value.ownBlock] at ej
    · rw [e1] at ej
      have e2 : some q = some j := ej
      obtain rfl : q = j := Option.some.inj e2
      rw [hgb] at hj; cases hj; rfl
  · intro b hb hbO hbrow
    rw [hgrow2.block b (by have := hgrow.size; rw [hsz] at this; omega) (by intro e'; injection e' with e'; exact hbO e'), hgrow.block b (by rw [hsz]; omega) (fun e' => hbrow e'.symm)]
    exact Below.heap_alloc W _ b hb

end Go.Proofs.Ytpkfjnhjcdcoaaa
