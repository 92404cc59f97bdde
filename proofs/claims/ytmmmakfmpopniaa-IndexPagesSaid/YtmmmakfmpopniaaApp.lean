/-
  append(out, b...): the run, whatever b is; errors by their numbers.
-/
import Derived.Test.YtmmmakfmpopniaaPackAlive
namespace Go.Proofs.Ytmmmakfmpopniaa
open Go.RowKit

section
variable {P : Program} {w w' : World} {v vs vx : Value} {t : TypeId}
/-- .. at the operations of a plain region. -/
theorem list_run {ops : Array Oper} {rest : List Oper} {o : Oper} {a : Act} {Q : Exit → Act → World → Prop} (hgd : o.guard = none) (s x : Operand)
    (ho : o.op = .call { callee := .builtin .append, args := #[s, x], argTypes := #[t, t] }) (hs : a.eval s = vs) (hx : a.eval x = vx)
    (hr : (Builtin.append_ #[t, t] o.type #[vs, vx]).run P w = .ok v w') (h : wpList P ops Q rest (a.put o.dst v) w') : wpList P ops Q (o :: rest) a w :=
  wpList_plain hgd fun _ hK => wp_run s x ho hs hx hr (hK _ _ h)
/-- .. under a guard. -/
theorem list_run_g {ops : Array Oper} {rest : List Oper} {o : Oper} {a : Act} {Q : Exit → Act → World → Prop} (hgd : Region.wanted o (yielded ops a.tmps) = true) (s x : Operand)
    (ho : o.op = .call { callee := .builtin .append, args := #[s, x], argTypes := #[t, t] }) (hs : a.eval s = vs) (hx : a.eval x = vx)
    (hr : (Builtin.append_ #[t, t] o.type #[vs, vx]).run P w = .ok v w') (h : wpList P ops Q rest (a.put o.dst v) w') : wpList P ops Q (o :: rest) a w :=
  wpList_step fun _ hK => by
    rw [if_pos hgd]
    exact wp_run s x ho hs hx hr (hK _ _ h)
end

/-- An error by its number; none: 0. -/
def errc (c : Nat) : Value := if c = 0 then .nilIface else er c
theorem code_c (c : Nat) (w : World) (h : c ≤ 17) :
    Calls Try.prog 12 #[errc c] w fun e w' => e = .returned (.int .i64 c) ∧ w = w' := by
  unfold errc
  by_cases h0 : c = 0
  · subst h0
    exact code_nil w
  · rw [if_neg h0]
    exact code_er c w (by omega) (by omega)

end Go.Proofs.Ytmmmakfmpopniaa
