/-
  append(b, make([]byte, m)...): the run.
-/
import Derived.Test.YtmmmakfmpopniaaApp
import Derived.IntWalk
namespace Go.Proofs.Ytmmmakfmpopniaa
open Go.RowKit

theorem zeroCells_one (z : Value) (m : Nat) : Builtin.zeroCells #[z] m = (List.replicate m z).toArray := by
  apply Array.ext
  · simp [Builtin.zeroCells]
  · intro i h1 h2
    simp [Builtin.zeroCells, Nat.mod_one]

theorem run_underlying_int (W : World) : (underlying 3).run Try.prog W = .ok (.int .i64) W := run_underlying Try.underlying3 W

section
variable {P : Program} {w w' : World} {v vs vx : Value} {t t2 : TypeId}
/-- .. where the appended one is the number of a make. -/
theorem list_run2 {ops : Array Oper} {rest : List Oper} {o : Oper} {a : Act} {Q : Exit → Act → World → Prop} (hgd : Region.wanted o (yielded ops a.tmps) = true) (s x : Operand)
    (ho : o.op = .call { callee := .builtin .append, args := #[s, x], argTypes := #[t, t2] }) (hs : a.eval s = vs) (hx : a.eval x = vx)
    (hr : (Builtin.append_ #[t, t2] o.type #[vs, vx]).run P w = .ok v w') (h : wpList P ops Q rest (a.put o.dst v) w') : wpList P ops Q (o :: rest) a w :=
  wpList_step fun K hK => by
    rw [if_pos hgd]
    unfold Oper.wp execOp
    simp only [ho, resolve, invoke, builtin, Sem.run_bind, Sem.run_pure, Result.andThen_ok, List.map_toArray, List.map_cons, List.map_nil, hs, hx, hr]
    exact hK _ _ h
end

end Go.Proofs.Ytmmmakfmpopniaa
