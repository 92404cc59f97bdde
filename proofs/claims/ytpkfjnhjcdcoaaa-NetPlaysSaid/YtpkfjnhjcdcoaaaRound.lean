/-
  A region that draws its order, inside a round of a range-over-func: what it does outside a round it does there too, if it defers nothing.
-/
import Derived.OrdersIn
import Derived.Deep.RegionLaw
import Derived.Test.YtpkfjnhjcdcoaaaPut
namespace Go.Proofs.Ytpkfjnhjcdcoaaa
open Go.RowKit

theorem calls_in_round {l n : Nat} {P : Program} {f : FuncId} {args : Array Value} {w : World} {R : Ending → World → Prop} (h : Calls P f args w R) : CallsIn (Fence.wide.inRound l) n P f args w R :=
  (callsIn_wide (n := n)).2 h
theorem rows_in_round {l n : Nat} {P : Program} {row : String} {args : Array Value} {w : World} {R : Value → World → Prop} (h : Rows P row args w R) : RowsIn (Fence.wide.inRound l) n P row args w R :=
  fun c cs _ => let ⟨v, w', r, s⟩ := h c cs; ⟨v, w', r, stepsIn_wide.2 s⟩

theorem op_in_round {l n : Nat} {P : Program} {o : Oper} {a : Act} {w : World} {K K' : Act → World → Prop} {Q : Exit → Act → World → Prop} (hd : ∀ c, o.op ≠ .defer c) (hk : ∀ a w, K a w → K' a w) (h : o.wp P a w K Q) : o.wpIn (Fence.wide.inRound l) n P a w K' Q := by
  refine ⟨fun _ _ => trivial, ?_⟩
  rw [Oper.semAt_eq _ _ _ hd]
  unfold Oper.wp at h
  generalize (execOp a.eval o).run P w = r at *
  cases r with
  | ok x w' =>
    cases x <;> simp only [Oper.uponIn, Oper.upon] at h ⊢
    case value => exact hk _ _ h
    case skip => exact hk _ _ h
    case defer => exact hk _ _ h
    case enter => exact ⟨fun hh => (by cases hh), calls_in_round (h.mono fun e w'' he => by cases e <;> first | exact hk _ _ he | exact he)⟩
    case row => exact ⟨fun hh => (by cases hh), rows_in_round (h.mono fun _ _ he => hk _ _ he)⟩
  | halt x w' => cases x <;> simp only [Oper.uponIn, Oper.upon] at h ⊢ <;> exact h

theorem any_in_round {l n : Nat} {P : Program} {md : Region.Mode} {ops : Array Oper} {Q : Exit → Act → World → Prop} (hq : ¬ LetsOut Q) (hd : ∀ o ∈ ops, ∀ c, o.op ≠ .defer c) :
    ∀ (fuel : Nat) (listed : Array Bool) (a : Act) (w : World), wpAny P md ops Q fuel listed a w → wpAnyIn (Fence.wide.inRound l) n P md ops Q fuel listed a w
  | 0, _, _, _, h => h
  | fuel + 1, listed, a, w, h => ⟨h.1, fun i hi => by
      have hh := h.2 i hi
      unfold wpOp at hh
      unfold wpOpIn
      cases ho : ops[i]? with
      | none => simp only [ho] at hh ⊢; exact any_in_round hq hd fuel _ _ _ hh
      | some o =>
        simp only [ho] at hh ⊢
        split
        · next hw =>
          simp only [hw, if_true] at hh
          exact op_in_round (hd o (Array.mem_of_getElem? ho)) (any_in_round hq hd fuel _) (hh.resolve_right fun x => hq x.2)
        · next hw =>
          simp only [hw] at hh
          exact ⟨fun _ _ => trivial, any_in_round hq hd fuel _ _ _ hh⟩⟩

theorem not_lets {A : Act} {W : World} : ¬ LetsOut (Ends A W) := fun h => by
  obtain ⟨_, _, hh⟩ := h
  exact hh

/-- Does an operation defer? -/
def defers? (o : Oper) : Bool := match o.op with | .defer _ => true | _ => false

theorem region_in_round {l n : Nat} {P : Program} {id : Nat} {ops : Array Oper} {Q : Exit → Act → World → Prop} {a A : Act} {w W : World} (hm : P.follows .mixedOrders = true) (hd : ops.all (fun o => !defers? o) = true)
    (h : wpAny P .any ops (Ends A W) ops.size (Array.replicate ops.size false) a w.drew) (hQ : Q .normal A W) : (Code.region id ops true).wpIn (Fence.wide.inRound l) n P Q a w := by
  refine wpIn_mono (Q := Ends A W) ?_ (fun e x y hh => by cases e <;> first | (obtain ⟨rfl, rfl⟩ := hh; exact hQ) | exact (hh : False).elim)
  refine wpIn_region_any hm (any_in_round not_lets (fun o ho c hc => ?_) _ _ _ _ h)
  have := Array.all_eq_true_iff_forall_mem.1 hd o ho
  simp [defers?, hc] at this

end Go.Proofs.Ytpkfjnhjcdcoaaa
