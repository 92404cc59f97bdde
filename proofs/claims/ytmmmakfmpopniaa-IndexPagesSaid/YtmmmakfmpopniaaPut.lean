/-
  The contract of pack.Put.
-/
import Derived.Test.YtmmmakfmpopniaaPack
namespace Go.Proofs.Ytmmmakfmpopniaa
open Go.RowKit Go.Shelf

attribute [local go_sem] Oper.semAt_some
attribute [local go_sem ↓] Go.wp_at_zero Go.wp_at_succ

theorem own_block_lt {W : World} {base : Nat} {e : TypeId} {v : Value} {k : Nat} {xs : List Value} (h : W.ownsRow base e 1 v k xs) {b : Nat} (hb : W.heap.size ≤ b) : v.ownBlock ≠ some b := by
  intro he
  have := h.lt b he
  omega

section
variable {P : Program} {w w' : World} {v vs vx : Value} {t : TypeId}
/-- An append whose run is known, at the operation. -/
theorem wp_run {o : Oper} {a : Act} {K : Act → World → Prop} {Q : Exit → Act → World → Prop} (s x : Operand)
    (ho : o.op = .call { callee := .builtin .append, args := #[s, x], argTypes := #[t, t] }) (hs : a.eval s = vs) (hx : a.eval x = vx)
    (hr : (Builtin.append_ #[t, t] o.type #[vs, vx]).run P w = .ok v w') (h : K (a.put o.dst v) w') : o.wp P a w K Q := by
  unfold Oper.wp execOp
  simp only [ho, resolve, invoke, builtin, Sem.run_bind, Sem.run_pure, Result.andThen_ok, List.map_toArray, List.map_cons, List.map_nil, hs, hx, hr]
  exact h
/-- .. at a step of a region that draws its order. -/
theorem step_run {ops : Array Oper} {o : Oper} {a : Act} {K : Act → World → Prop} {Q : Exit → Act → World → Prop} {E : Prop} (hgd : o.guard = none) (s x : Operand)
    (ho : o.op = .call { callee := .builtin .append, args := #[s, x], argTypes := #[t, t] }) (hs : a.eval s = vs) (hx : a.eval x = vx)
    (hr : (Builtin.append_ #[t, t] o.type #[vs, vx]).run P w = .ok v w') (h : K (a.put o.dst v) w') :
    if Region.wanted o (yielded ops a.tmps) = true then Oper.wp P o a w K Q else E := by
  have hw : Region.wanted o (yielded ops a.tmps) = true := by simp [Region.wanted, hgd]
  rw [if_pos hw]
  exact wp_run s x ho hs hx hr h
end

/-- A statement all of whose ways come to one end. -/
def Ends (A : Act) (W : World) : Exit → Act → World → Prop
  | .normal, a, w => a = A ∧ w = W
  | _, _, _ => False
theorem wp_ends {c : Code} {P : Program} {Q : Exit → Act → World → Prop} {a : Act} {w : World} {A : Act} {W : World} (h : c.wp P (Ends A W) a w) (hQ : Q .normal A W) : c.wp P Q a w :=
  Code.wp_mono (fun e x y hh => by
    cases e <;> first | (obtain ⟨rfl, rfl⟩ := hh; exact hQ) | exact (hh : False).elim) h

theorem own_store_far {W : World} {base : Nat} {e : TypeId} {v : Value} {k : Nat} {xs : List Value} (h : W.ownsRow base e 1 v k xs) {b : Nat} {t : TypeId} {u u' : Value} (hb : Boxed W b t u) (hte : t ≠ e) : (W.setCell ⟨b, 0, none⟩ u').ownsRow base e 1 v k xs :=
  h.kept (grownBy_setCell' W b u') (.inr (hb.not_row hte h).symm)

end Go.Proofs.Ytmmmakfmpopniaa
