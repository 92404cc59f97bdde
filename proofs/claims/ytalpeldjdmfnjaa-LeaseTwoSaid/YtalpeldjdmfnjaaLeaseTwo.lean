/-
  Layer 18, LeaseTwo: two never hold the lease at one tick.
  Proved: for every input the law 'LeaseTwo' returns true and each argument reads afterwards as it read before. No condition.
-/
import Derived.Test.YtalpeldjdmfnjaaRows
import Derived.Test.YtalpeldjdmfnjaaFrame
import Derived.Test.YtalpeldjdmfnjaaLeaseTwoWalk
import Derived.WalkKit
import Derived.ProofKit
import Derived.OpenShut
import Derived.ShutString
import Derived.ChangeOld
namespace Go.Proofs.Ytalpeldjdmfnjaa.leaseTwoDone
open Go.ChangeShapes Go.WideShapes Go.ChangeAt Go.RowKit
open Go.ChangeMaps (open_string shut_string)
set_option linter.unusedVariables false

open Go.Deep
/-- What the walk asks of a list of acts. -/
theorem quads {H : Type} {enc : TypeId × Value → H} {W : World} {a : Option Addr} {n c : Nat} {d : DataW H} {p : List MemPlace} (h : DataW.Trod enc Try.prog W 0 (fun _ => true) true 42 (.slice a n c) d p) : Quads W W.heap.size a n := by
  obtain ⟨_, _, h⟩ := open_elems (C := 4) Try.underlying42 (by kernel_rfl) (by omega) h
  intro hn
  obtain ⟨b, off, e1, hb, hi⟩ := h hn
  refine ⟨b, off, e1, hb, fun i j hin hj => ?_⟩
  obtain ⟨cs, m, y, hl, hc, hr⟩ := hi i hin
  have e := hc j hj
  match j, hj with
  | 0, _ =>
    obtain ⟨v, m', y', hv, hy⟩ := field_cell (k := 0) (j := 0) Try.underlying44 hr rfl rfl (by kernel_rfl) (by omega)
    obtain ⟨x, hx, _, _⟩ := DataW.trod_int Try.underlying3 hy
    rw [hv] at e; simp at hx; subst hx; exact ⟨x, e⟩
  | 1, _ =>
    obtain ⟨v, m', y', hv, hy⟩ := field_cell (k := 1) (j := 1) Try.underlying44 hr rfl rfl (by kernel_rfl) (by omega)
    obtain ⟨x, hx, _, _⟩ := DataW.trod_int Try.underlying3 hy
    rw [hv] at e; simp at hx; subst hx; exact ⟨x, e⟩
  | 2, _ =>
    obtain ⟨v, m', y', hv, hy⟩ := field_cell (k := 2) (j := 2) Try.underlying44 hr rfl rfl (by kernel_rfl) (by omega)
    obtain ⟨x, hx, _, _⟩ := DataW.trod_int Try.underlying3 hy
    rw [hv] at e; simp at hx; subst hx; exact ⟨x, e⟩
  | 3, _ =>
    obtain ⟨v, m', y', hv, hy⟩ := field_cell (k := 3) (j := 3) Try.underlying44 hr rfl rfl (by kernel_rfl) (by omega)
    obtain ⟨x, hx, _, _⟩ := DataW.trod_int Try.underlying3 hy
    rw [hv] at e; simp at hx; subst hx; exact ⟨x, e⟩

set_option maxRecDepth 100000 in
theorem lifted (os : Os) (started : os.Started) (H : Type) (enc : TypeId × Value → H) :
    ReturnsInHanded {} Try.checked os 5 .any (Rows.leaseTwoSpec.pre6 enc Try.prog Try.f5 Rows.leaseTwoRow.domain false) (Rows.leaseTwoSpec.post enc Try.prog Try.f5 false true false false) := by
  refine returnsInHanded_of_change (C := Try.checked) own started (by kernel_rfl) Try.func5
    (ChangeSpec.witness6 (enc := enc) (C := Try.checked) false ⟨#[], #[.int .u8 0, .slice none 0 0], []⟩ 8 (by kernel_rfl) (by kernel_rfl) (by kernel_rfl) (by kernel_rfl)) ?_
  intro W base args ds gs before hval0 hW hcnd _
  have hval : ∀ (j : Nat) t v, Try.f5.params[j]? = some t → args[j]? = some v → Value.okWide Try.prog W .any base t v := hval0
  have hW' := hW
  obtain ⟨p, q, hA0, hV, rfl, hfz, hnd⟩ := hW
  have hA : DataW.TrodAll enc Try.prog W 0 (fun _ => true) true Try.f5.params.toList args.toList ds p := hA0
  rw [Try.params5] at hA hval
  obtain ⟨v0, vs0, d0, ds0, p0, q0, hargs, rfl, rfl, h0, r0⟩ := trodAll_cons hA
  obtain ⟨v1, vs1, d1, ds1, p1, q1, rfl, rfl, rfl, h1, r1⟩ := trodAll_cons r0
  obtain ⟨rfl, rfl, rfl⟩ := trodAll_nil r1
  obtain rfl : args = #[v0, v1] := by cases args; simp_all
  obtain ⟨rfl, rfl⟩ := trodVars_none hV
  have k0 := h0
  have lt0 := lt_places k0
  have k1 := h1
  have lt1 := lt_places k1
  obtain ⟨ticks, rfl, rfl, rfl, wf0⟩ := open_int Try.underlying5 (hval 0 5 v0 rfl rfl) h0
  obtain ⟨lo0, hi0⟩ := wf_u8b wf0
  obtain ⟨l, l_n, l_c, rfl⟩ := okWide_slice Try.underlying42 (hval 1 42 v1 rfl rfl)
  have l_r := quads h1
  clear hA0 hval0
  refine (two_walk ticks l l_n l_c W lo0 hi0 l_r).mono fun e W' ⟨he, bel⟩ => ?_
  subst he
  exact ⟨_, rfl, _, _, _, [], _, [], hW', trodAll_mk1 (shut_bool Try.underlying4 _), (trodAll_cons_mk (Below.trod laidOut (by kernel_rfl) (of_decide_eq_true (by kernel_rfl)) k0 bel lt0) (trodAll_cons_mk (Below.trod laidOut (by kernel_rfl) (of_decide_eq_true (by kernel_rfl)) k1 bel lt1) trodAll_mk0)), rfl, bel.frame _, fun h => by cases h⟩

theorem over : Rows.leaseTwoRow.holds Try.pinned (OpenSpec.ofChange Rows.leaseTwoSpec) :=
  OpenClaim.holds_of_wide 5 Try.f5 rfl rfl rfl rfl rfl rfl rfl ⟨rfl, rfl, rfl, rfl, rfl⟩ rfl rfl rfl rfl rfl (by kernel_rfl) Try.func5 (by kernel_rfl)
    (of_decide_eq_true (by kernel_rfl)) (by unfold Func.isWrapper; first | (rw [if_pos (by decide +kernel)]; kernel_rfl) | (rw [if_neg (by decide +kernel)]; exact ⟨rfl, rfl⟩))
    (fun os started H enc _ => lifted os started H enc)

/-- The statement. -/
theorem proved : Rows.LeaseTwoSaid := over
#print axioms proved
end Go.Proofs.Ytalpeldjdmfnjaa.leaseTwoDone
