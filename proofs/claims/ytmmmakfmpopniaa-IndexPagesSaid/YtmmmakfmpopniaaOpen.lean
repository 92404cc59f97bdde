/-
  sum.Open, all its answers in one form; a step that runs an append.
-/
import Derived.Test.YtmmmakfmpopniaaSeal
import Derived.Deep.RegionLaw
namespace Go.Proofs.Ytmmmakfmpopniaa
open Go.RowKit

theorem step_run_g {P : Program} {w w' : World} {v vs vx : Value} {t : TypeId} {ops : Array Oper} {o : Oper} {a : Act} {K : Act → World → Prop} {Q : Exit → Act → World → Prop} {E : Prop} (hw : Region.wanted o (yielded ops a.tmps) = true) (s x : Operand)
    (ho : o.op = .call { callee := .builtin .append, args := #[s, x], argTypes := #[t, t] }) (hs : a.eval s = vs) (hx : a.eval x = vx)
    (hr : (Builtin.append_ #[t, t] o.type #[vs, vx]).run P w = .ok v w') (h : K (a.put o.dst v) w') :
    if Region.wanted o (yielded ops a.tmps) = true then Oper.wp P o a w K Q else E := by
  rw [if_pos hw]
  exact wp_run s x ho hs hx hr h

theorem BSl.prefix {w : World} {B n : Nat} {a : Option Addr} {l : List (BitVec 8)} (h : BSl w B a n l) {k : Nat} (hk : k ≤ n) : BSl w B a k (l.take k) := by
  refine ⟨by rw [List.length_take, h.1]; omega, fun h0 => ?_⟩
  obtain ⟨b, off, e, hb, hc⟩ := h.2 (by omega)
  refine ⟨b, off, e, hb, fun j hj => ?_⟩
  rw [hc j (by omega)]
  simp [List.getD, hj]

theorem below_more {w w1 w2 : World} (h : Below w.heap.size w w1) (k : Below w1.heap.size w1 w2) : Below w.heap.size w w2 := h.trans (k.mono h.size)
theorem below_more2 {B : Nat} {w w1 w2 : World} (h : Below B w w1) (k : Below w1.heap.size w1.drew w2) (hB : B ≤ w1.heap.size) : Below B w w2 := h.drew.trans (k.mono hB)

theorem bsl_own {W : World} {base k c : Nat} {a : Option Addr} {l : List (BitVec 8)} (h : W.ownsRow base 5 1 (.slice a k c) k (l.map bv)) : BSl W W.heap.size a k l := by
  rcases h.2 with ⟨e1, e2⟩ | ⟨g, cap, cur, e1, _⟩
  · cases e1
    have hl : l = [] := by simpa using h.1
    subst hl
    exact BSl.nil _ _ _
  · cases e1
    exact BSl.row h _ rfl

end Go.Proofs.Ytmmmakfmpopniaa
