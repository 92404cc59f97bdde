/-
  Layer 18, LeaseTurns: when it has run out or was dropped, anybody takes it, in the next epoch.
  Proved: for every input the law 'LeaseTurns' returns true and each argument reads afterwards as it read before. No condition.
-/
import Derived.Test.YtalpeldjdmfnjaaRows
import Derived.Test.YtalpeldjdmfnjaaFrame
import Derived.Test.YtalpeldjdmfnjaaLeaseTurnsWalk
import Derived.WalkKit
import Derived.ProofKit
import Derived.OpenShut
import Derived.ShutString
import Derived.ChangeOld
namespace Go.Proofs.Ytalpeldjdmfnjaa.leaseTurnsDone
open Go.ChangeShapes Go.WideShapes Go.ChangeAt Go.RowKit
open Go.ChangeMaps (open_string shut_string)
set_option linter.unusedVariables false

/-- What the walk asks of a list of bools. -/
theorem flags {H : Type} {enc : TypeId × Value → H} {W : World} {a : Option Addr} {n c : Nat} {d : DataW H} {p : List MemPlace} (h : DataW.Trod enc Try.prog W 0 (fun _ => true) true 46 (.slice a n c) d p) : Flags W W.heap.size a n := by
  obtain ⟨_, _, h⟩ := open_elems (C := 1) Try.underlying46 (by kernel_rfl) (by omega) h
  intro hn
  obtain ⟨b, off, e1, hb, hi⟩ := h hn
  refine ⟨b, off, e1, hb, fun i hin => ?_⟩
  obtain ⟨cs, m, y, hl, hc, hr⟩ := hi i hin
  have e := hc 0 (by omega)
  obtain ⟨x, hx, _⟩ := DataW.trod_bool Try.underlying4 hr
  subst hx
  exact ⟨x, by simpa using e⟩

set_option maxRecDepth 100000 in
theorem lifted (os : Os) (started : os.Started) (H : Type) (enc : TypeId × Value → H) :
    ReturnsInHanded {} Try.checked os 6 .any (Rows.leaseTurnsSpec.pre6 enc Try.prog Try.f6 Rows.leaseTurnsRow.domain false) (Rows.leaseTurnsSpec.post enc Try.prog Try.f6 false true false false) := by
  refine returnsInHanded_of_change (C := Try.checked) own started (by kernel_rfl) Try.func6
    (ChangeSpec.witness6 (enc := enc) (C := Try.checked) false ⟨#[], #[.int .u8 0, .slice none 0 0], []⟩ 8 (by kernel_rfl) (by kernel_rfl) (by kernel_rfl) (by kernel_rfl)) ?_
  intro W base args ds gs before hval0 hW hcnd _
  have hval : ∀ (j : Nat) t v, Try.f6.params[j]? = some t → args[j]? = some v → Value.okWide Try.prog W .any base t v := hval0
  have hW' := hW
  obtain ⟨p, q, hA0, hV, rfl, hfz, hnd⟩ := hW
  have hA : DataW.TrodAll enc Try.prog W 0 (fun _ => true) true Try.f6.params.toList args.toList ds p := hA0
  rw [Try.params6] at hA hval
  obtain ⟨v0, vs0, d0, ds0, p0, q0, hargs, rfl, rfl, h0, r0⟩ := trodAll_cons hA
  obtain ⟨v1, vs1, d1, ds1, p1, q1, rfl, rfl, rfl, h1, r1⟩ := trodAll_cons r0
  obtain ⟨rfl, rfl, rfl⟩ := trodAll_nil r1
  obtain rfl : args = #[v0, v1] := by cases args; simp_all
  obtain ⟨rfl, rfl⟩ := trodVars_none hV
  have k0 := h0
  have lt0 := lt_places k0
  have k1 := h1
  have lt1 := lt_places k1
  obtain ⟨ticks, rfl, rfl, rfl, wf0⟩ := open_int Try.underlying5 (hval 0 5 v0 rfl rfl) h0
  obtain ⟨lo0, hi0⟩ := wf_u8b wf0
  obtain ⟨drops, drops_n, drops_c, rfl⟩ := okWide_slice Try.underlying46 (hval 1 46 v1 rfl rfl)
  have drops_r := flags h1
  clear hA0 hval0
  refine (turns_walk ticks drops drops_n drops_c W lo0 hi0 drops_r).mono fun e W' ⟨he, bel⟩ => ?_
  subst he
  exact ⟨_, rfl, _, _, _, [], _, [], hW', trodAll_mk1 (shut_bool Try.underlying4 _), (trodAll_cons_mk (Below.trod laidOut (by kernel_rfl) (of_decide_eq_true (by kernel_rfl)) k0 bel lt0) (trodAll_cons_mk (Below.trod laidOut (by kernel_rfl) (of_decide_eq_true (by kernel_rfl)) k1 bel lt1) trodAll_mk0)), rfl, bel.frame _, fun h => by cases h⟩

theorem over : Rows.leaseTurnsRow.holds Try.pinned (OpenSpec.ofChange Rows.leaseTurnsSpec) :=
  OpenClaim.holds_of_wide 6 Try.f6 rfl rfl rfl rfl rfl rfl rfl ⟨rfl, rfl, rfl, rfl, rfl⟩ rfl rfl rfl rfl rfl (by kernel_rfl) Try.func6 (by kernel_rfl)
    (of_decide_eq_true (by kernel_rfl)) (by unfold Func.isWrapper; first | (rw [if_pos (by decide +kernel)]; kernel_rfl) | (rw [if_neg (by decide +kernel)]; exact ⟨rfl, rfl⟩))
    (fun os started H enc _ => lifted os started H enc)

/-- The statement. -/
theorem proved : Rows.LeaseTurnsSaid := over
#print axioms proved
end Go.Proofs.Ytalpeldjdmfnjaa.leaseTurnsDone
