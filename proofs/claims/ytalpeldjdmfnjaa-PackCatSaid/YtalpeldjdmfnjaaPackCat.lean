/-
  Layer 1, PackCat: numbers put one behind the other are got at their places.
  Proved: for every input the law 'PackCat' returns true and each argument reads afterwards as it read before. No condition.
-/
import Derived.Test.YtalpeldjdmfnjaaRows
import Derived.Test.YtalpeldjdmfnjaaFrame
import Derived.Test.YtalpeldjdmfnjaaPackCatWalk
import Derived.WalkKit
import Derived.ProofKit
import Derived.OpenShut
import Derived.ShutString
import Derived.ChangeOld
namespace Go.Proofs.Ytalpeldjdmfnjaa.packCatDone
open Go.ChangeShapes Go.WideShapes Go.ChangeAt Go.RowKit
open Go.ChangeMaps (open_string shut_string)
set_option linter.unusedVariables false

/-- What the walk asks of a list of numbers. -/
theorem nums {H : Type} {enc : TypeId × Value → H} {W : World} {a : Option Addr} {n c : Nat} {d : DataW H} {p : List MemPlace} (h : DataW.Trod enc Try.prog W 0 (fun _ => true) true 60 (.slice a n c) d p) : ∃ ns, U64s W W.heap.size a n ns := by
  obtain ⟨_, _, zs, hz, hw, hcell⟩ := open_nums Try.underlying60 Try.underlying48 (by kernel_rfl) h
  have key : ∀ i, 0 ≤ zs.getD i 0 ∧ zs.getD i 0 ≤ 18446744073709551615 := fun i => by
    by_cases hi : i < zs.length
    · have e : zs.getD i 0 = zs[i] := by simp [List.getD, hi]
      rw [e]
      exact wf_u64b (hw zs[i] (List.getElem_mem hi))
    · have e : zs.getD i 0 = 0 := by simp [List.getD, List.getElem?_eq_none (Nat.le_of_not_lt hi)]
      rw [e]
      omega
  have conv : ∀ i, (((zs.map Int.toNat).getD i 0 : Nat) : Int) = zs.getD i 0 := fun i => by
    have h1 := (key i).1
    by_cases hi : i < zs.length
    · have e : zs.getD i 0 = zs[i] := by simp [List.getD, hi]
      have e2 : (zs.map Int.toNat).getD i 0 = zs[i].toNat := by simp [List.getD, hi]
      rw [e2, e]
      rw [e] at h1
      omega
    · simp [List.getD, List.getElem?_eq_none (Nat.le_of_not_lt hi)]
  refine ⟨zs.map Int.toNat, by simpa using hz, fun i => ?_, fun hn => ?_⟩
  · have h1 := (key i).2
    have h2 := conv i
    omega
  · obtain ⟨b, off, e, hb, hc⟩ := hcell hn
    exact ⟨b, off, e, hb, fun k hk => by rw [hc k hk, conv k]⟩

set_option maxRecDepth 100000 in
theorem lifted (os : Os) (started : os.Started) (H : Type) (enc : TypeId × Value → H) :
    ReturnsInHanded {} Try.checked os 9 .any (Rows.packCatSpec.pre6 enc Try.prog Try.f9 Rows.packCatRow.domain false) (Rows.packCatSpec.post enc Try.prog Try.f9 false true false false) := by
  refine returnsInHanded_of_change (C := Try.checked) own started (by kernel_rfl) Try.func9
    (ChangeSpec.witness6 (enc := enc) (C := Try.checked) false ⟨#[], #[.slice none 0 0], []⟩ 8 (by kernel_rfl) (by kernel_rfl) (by kernel_rfl) (by kernel_rfl)) ?_
  intro W base args ds gs before hval0 hW hcnd _
  have hval : ∀ (j : Nat) t v, Try.f9.params[j]? = some t → args[j]? = some v → Value.okWide Try.prog W .any base t v := hval0
  have hW' := hW
  obtain ⟨p, q, hA0, hV, rfl, hfz, hnd⟩ := hW
  have hA : DataW.TrodAll enc Try.prog W 0 (fun _ => true) true Try.f9.params.toList args.toList ds p := hA0
  rw [Try.params9] at hA hval
  obtain ⟨v0, vs0, d0, ds0, p0, q0, hargs, rfl, rfl, h0, r0⟩ := trodAll_cons hA
  obtain ⟨rfl, rfl, rfl⟩ := trodAll_nil r0
  obtain rfl : args = #[v0] := by cases args; simp_all
  obtain ⟨rfl, rfl⟩ := trodVars_none hV
  have k0 := h0
  have lt0 := lt_places k0
  obtain ⟨l, l_n, l_c, rfl⟩ := okWide_slice Try.underlying60 (hval 0 60 v0 rfl rfl)
  obtain ⟨l_l, l_r⟩ := nums h0
  clear hA0 hval0
  refine (cat_walk l l_n l_c l_l W l_r).mono fun e W' ⟨he, bel⟩ => ?_
  subst he
  exact ⟨_, rfl, _, _, _, [], _, [], hW', trodAll_mk1 (shut_bool Try.underlying4 _), (trodAll_cons_mk (Below.trod laidOut (by kernel_rfl) (of_decide_eq_true (by kernel_rfl)) k0 bel lt0) trodAll_mk0), rfl, bel.frame _, fun h => by cases h⟩

theorem over : Rows.packCatRow.holds Try.pinned (OpenSpec.ofChange Rows.packCatSpec) :=
  OpenClaim.holds_of_wide 9 Try.f9 rfl rfl rfl rfl rfl rfl rfl ⟨rfl, rfl, rfl, rfl, rfl⟩ rfl rfl rfl rfl rfl (by kernel_rfl) Try.func9 (by kernel_rfl)
    (of_decide_eq_true (by kernel_rfl)) (by unfold Func.isWrapper; first | (rw [if_pos (by decide +kernel)]; kernel_rfl) | (rw [if_neg (by decide +kernel)]; exact ⟨rfl, rfl⟩))
    (fun os started H enc _ => lifted os started H enc)

/-- The statement. -/
theorem proved : Rows.PackCatSaid := over
#print axioms proved
end Go.Proofs.Ytalpeldjdmfnjaa.packCatDone
