/-
  Layer 3, NeedleRow: needles one behind the other are got one behind the other.
  Proved: for every input the law 'NeedleRow' returns true and each argument reads afterwards as it read before. No condition.
-/
import Derived.Test.YtkmifimdjdjdpaaRows
import Derived.Test.YtkmifimdjdjdpaaFrame
import Derived.Test.YtkmifimdjdjdpaaNeedleRowWalk
import Derived.WalkKit
import Derived.ProofKit
import Derived.OpenShut
import Derived.ShutString
import Derived.ChangeOld
import Derived.Test.YtkmifimdjdjdpaaNdlFrame
namespace Go.Proofs.Ytkmifimdjdjdpaa.needleRowDone
open Go.ChangeShapes Go.WideShapes Go.ChangeAt Go.RowKit
open Go.ChangeMaps (open_string shut_string)
set_option linter.unusedVariables false

set_option maxRecDepth 100000 in
/-- What the walk asks of a list of needles. -/
theorem nds {H : Type} {enc : TypeId × Value → H} {W : World} {a : Option Addr} {n c : Nat} {d : DataW H} {p : List MemPlace} (h : DataW.Trod enc Try.prog W 0 (fun _ => true) true 71 (.slice a n c) d p) : ∃ f, Nds W W.heap.size a n f := by
  obtain ⟨_, _, h⟩ := open_elems (C := 4) Try.underlying71 (by kernel_rfl) (by omega) h
  rcases Nat.eq_zero_or_pos n with h0 | h0
  · exact ⟨fun _ => ⟨0, 0, false, none, 0, 0, []⟩, fun hn => absurd hn (by omega)⟩
  · obtain ⟨b, off, e1, hb, hi⟩ := h h0
    have key : ∀ i, ∃ d : NdR, i < n → W.cell? ⟨b, off + i * 4, none⟩ = some (.int .u64 (d.key : Nat)) ∧ W.cell? ⟨b, off + i * 4 + 1, none⟩ = some (.int .u32 (d.ck : Nat)) ∧
        W.cell? ⟨b, off + i * 4 + 2, none⟩ = some (.bool d.g) ∧ W.cell? ⟨b, off + i * 4 + 3, none⟩ = some (.slice d.a d.n d.c) ∧ BSl W W.heap.size d.a d.n d.l ∧
        d.key < 18446744073709551616 ∧ d.ck < 4294967296 ∧ d.n ≤ 9223372036854775807 := fun i => by
      by_cases hin : i < n
      · obtain ⟨cs, m, y, hl, hc, hr⟩ := hi i hin
        have hcs : cs.toArray.size = 4 := by simpa using hl
        have hT : DataW.Trod enc Try.prog W 0 (fun _ => true) true 32 (.agg cs.toArray) y.1 y.2 := ⟨m, by simpa [Value.cells] using hr⟩
        obtain ⟨k, ck, g, a', n', c', l', e, h1, h2, h3, h4, h5⟩ := open_needle_agg hcs hT
        unfold maxLen at h4
        have e' : cs = [.int .u64 k, .int .u32 ck, .bool g, .slice a' n' c'] := by
          have e2 : cs.toArray = #[.int .u64 k, .int .u32 ck, .bool g, .slice a' n' c'] := by injection e
          simpa using congrArg Array.toList e2
        subst e'
        exact ⟨⟨k, ck, g, a', n', c', l'⟩, fun _ => ⟨hc 0 (by omega), hc 1 (by omega), hc 2 (by omega), hc 3 (by omega), h5, h1, h2, by dsimp only; omega⟩⟩
      · exact ⟨⟨0, 0, false, none, 0, 0, []⟩, fun hx => absurd hx hin⟩
    exact ⟨fun i => Classical.choose (key i), fun _ => ⟨b, off, e1, hb, fun i hin => Classical.choose_spec (key i) hin⟩⟩

set_option maxRecDepth 100000 in
theorem lifted (os : Os) (started : os.Started) (H : Type) (enc : TypeId × Value → H) :
    ReturnsInHanded {} Try.checked os 11 .any (Rows.needleRowSpec.pre6 enc Try.prog Try.f11 Rows.needleRowRow.domain false) (Rows.needleRowSpec.post enc Try.prog Try.f11 false true false false) := by
  refine returnsInHanded_of_change (C := Try.checked) own started (by kernel_rfl) Try.func11
    (ChangeSpec.witness6 (enc := enc) (C := Try.checked) false ⟨#[], #[.slice none 0 0], []⟩ 8 (by kernel_rfl) (by kernel_rfl) (by kernel_rfl) (by kernel_rfl)) ?_
  intro W base args ds gs before hval0 hW hcnd _
  have hval : ∀ (j : Nat) t v, Try.f11.params[j]? = some t → args[j]? = some v → Value.okWide Try.prog W .any base t v := hval0
  have hW' := hW
  obtain ⟨p, q, hA0, hV, rfl, hfz, hnd⟩ := hW
  have hA : DataW.TrodAll enc Try.prog W 0 (fun _ => true) true Try.f11.params.toList args.toList ds p := hA0
  rw [Try.params11] at hA hval
  obtain ⟨v0, vs0, d0, ds0, p0, q0, hargs, rfl, rfl, h0, r0⟩ := trodAll_cons hA
  obtain ⟨rfl, rfl, rfl⟩ := trodAll_nil r0
  obtain rfl : args = #[v0] := by cases args; simp_all
  obtain ⟨rfl, rfl⟩ := trodVars_none hV
  have k0 := h0
  have lt0 := lt_places k0
  obtain ⟨l, l_n, l_c, rfl⟩ := okWide_slice Try.underlying71 (hval 0 71 v0 rfl rfl)
  obtain ⟨l_f, l_r⟩ := nds h0
  clear hA0 hval0
  refine (nrow_walk l l_n l_c l_f W l_r).mono fun e W' ⟨he, bel⟩ => ?_
  subst he
  exact ⟨_, rfl, _, _, _, [], _, [], hW', trodAll_mk1 (shut_bool Try.underlying4 _), (trodAll_cons_mk (Below.trod laidOut (by kernel_rfl) (of_decide_eq_true (by kernel_rfl)) k0 bel lt0) trodAll_mk0), rfl, bel.frame _, fun h => by cases h⟩

theorem over : Rows.needleRowRow.holds Try.pinned (OpenSpec.ofChange Rows.needleRowSpec) :=
  OpenClaim.holds_of_wide 11 Try.f11 rfl rfl rfl rfl rfl rfl rfl ⟨rfl, rfl, rfl, rfl, rfl⟩ rfl rfl rfl rfl rfl (by kernel_rfl) Try.func11 (by kernel_rfl)
    (of_decide_eq_true (by kernel_rfl)) (by unfold Func.isWrapper; first | (rw [if_pos (by decide +kernel)]; kernel_rfl) | (rw [if_neg (by decide +kernel)]; exact ⟨rfl, rfl⟩))
    (fun os started H enc _ => lifted os started H enc)

/-- The statement. -/
theorem proved : Rows.NeedleRowSaid := over
#print axioms proved
end Go.Proofs.Ytkmifimdjdjdpaa.needleRowDone
