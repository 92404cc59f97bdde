/-
  append(b, make([]byte, m)...): the run.
-/
import Derived.Test.YtpkfjnhjcdcoaaaApp
import Derived.IntWalk
namespace Go.Proofs.Ytpkfjnhjcdcoaaa
open Go.RowKit

theorem zeroCells_one (z : Value) (m : Nat) : Builtin.zeroCells #[z] m = (List.replicate m z).toArray := by
  apply Array.ext
  · simp [Builtin.zeroCells]
  · intro i h1 h2
    simp [Builtin.zeroCells, Nat.mod_one]

theorem run_underlying_int (W : World) : (underlying 3).run Try.prog W = .ok (.int .i64) W := run_underlying Try.underlying3 W

theorem append_zeros {W : World} {base g k cap : Nat} {xs : List Value} (hown : W.ownsRow base 5 1 (.slice (some ⟨g, 0, none⟩) k cap) k xs) (m : Nat) (hs : k + m ≤ 2199023255552) (hbase : base ≤ W.heap.size) :
    ∃ g' cap' W', (Builtin.append_ #[22, 3] 22 #[.slice (some ⟨g, 0, none⟩) k cap, .int .i64 (m : Int)]).run Try.prog W = .ok (.slice (some ⟨g', 0, none⟩) (k + m) cap') W' ∧
      W'.ownsRow base 5 1 (.slice (some ⟨g', 0, none⟩) (k + m) cap') (k + m) (xs ++ List.replicate m (.int .u8 0)) ∧ W.grownBy W' (some g) ∧ (g' = g ∨ g' = W.heap.size) := by
  obtain ⟨i0, hi, hz0, hz1, hz2⟩ := info_parts info_u8
  have hw : IntKind.i64.wrap (m : Int) = m := IntWalk.i64_in _ (by omega)
  have hb : ¬ ((2 : Int) ^ 48 < (m : Int) * 1) := by omega
  have hlen : (xs ++ List.replicate m (Value.int .u8 0)).length = (k + m) * 1 := by rw [List.length_append, hown.1, List.length_replicate]; omega
  rcases hown.2 with ⟨h', _⟩ | ⟨g0, cap0, cur, h', hbg, hg, hnc, hcm, hcs, htake⟩
  · simp at h'
  simp only [Value.slice.injEq, Option.some.injEq, Addr.mk.injEq, and_true, true_and] at h'
  obtain ⟨rfl, rfl⟩ := h'
  have hneg : ¬ ((m : Int) < 0) := by omega
  have hbig : ¬ (281474976710656 < (m : Int)) := by omega
  by_cases hroom : k + m ≤ cap
  · by_cases hm : m = 0
    · have hw0 : IntKind.i64.wrap 0 = 0 := by decide
      subst hm
      refine ⟨g, cap, W, ?_, by simpa using hown, grown_refl W _, .inl rfl⟩
      simp [Builtin.append_, run_underlying Try.underlying22, run_underlying Try.underlying3, sizeOf, typeInfo, hi, asInt, asIntOf, hw0, hnc, storeCells]
    · have hst := run_storeCells_at Try.prog g (k * 1) 5 (List.replicate m (Value.int .u8 0)) 0 cur W hg (by simp; omega) (fun u hu => by rw [List.eq_of_mem_replicate hu]; rfl)
      simp only [Nat.add_zero, Nat.mul_one] at hst
      refine ⟨g, cap, W.setRow g (cur.toList.take k ++ List.replicate m (Value.int .u8 0) ++ cur.toList.drop (k + (List.replicate m (Value.int .u8 0)).length)).toArray, ?_, ?_⟩
      rotate_left
      · refine ⟨⟨hlen, .inr ⟨g, cap, _, rfl, hbg, setRow_heap W g cur _ 5 _ hg, hroom, hcm, ?_, ?_⟩⟩, ⟨rfl, rfl, rfl, by simp, fun q _ hq => setRow_other W g q _ (fun e => hq (by rw [e]))⟩, .inl rfl⟩
        rotate_left
        · rw [Nat.mul_one] at htake
          rw [htake, ← hlen]
          exact List.take_left
        · simp only [List.size_toArray, List.length_append, List.length_take, List.length_drop, Array.length_toList, List.length_replicate]
          omega
      · simp [Builtin.append_, run_underlying Try.underlying22, run_underlying Try.underlying3, sizeOf, typeInfo, zeroValue, hi, hz0, hz1, hz2, asInt, asIntOf, hw, hneg, hbig, hroom, hm, zeroCells_one, Value.cells, Addr.add_lit, hst]
  · have holds : ∀ j u, xs[j]? = some u → W.drew.cell? ((⟨g, 0, none⟩ : Addr).add j) = some u := fun j u h => hown.cells (g := g) rfl j u h
    have hfo := run_firstCells_some (P := Try.prog) W.drew 1 k ⟨g, 0, none⟩ k cap xs hown.1 holds
    have hm : ¬ m = 0 := by omega
    have h63 : ¬ (9223372036854775807 < ((k : Int) + (m : Int))) := by omega
    have h48 : ¬ (281474976710656 < Builtin.nextslicecap (k + m) cap) := by have := growslice_fits (bytes := 1) (need := k + m) (old := cap) (by omega) (by omega); omega
    have hge := grownCap_ge W (k + m) cap 5
    have hcm2 : grownCap W (k + m) cap 5 ≤ maxLen := grownCap_le_maxLen W (k + m) cap _ (by unfold maxLen; omega)
    refine ⟨W.heap.size, grownCap W (k + m) cap 5, W.drew.alloc (.cells (xs.toArray ++ (List.replicate m (Value.int .u8 0)).toArray ++ Builtin.zeroCells #[.int .u8 0] (grownCap W (k + m) cap 5 - (k + m))) 5), ?_, ⟨hlen, .inr ⟨W.heap.size, _, _, rfl, hbase, heap_alloc_new W.drew _, hge, hcm2, ?_, ?_⟩⟩, ⟨rfl, rfl, rfl, by simp, fun q hq _ => Below.heap_alloc W.drew _ q hq⟩, .inr rfl⟩
    · simp [Builtin.append_, run_underlying Try.underlying22, run_underlying Try.underlying3, sizeOf, typeInfo, zeroValue, hi, hz0, hz1, hz2, asInt, asIntOf, hw, hneg, hbig, hroom, hm, zeroCells_one, Value.cells, h63, h48, Question.forced, hfo, newRow, grownCap]
    · simp only [Array.size_append, List.size_toArray, size_zeroCells, hown.1, List.length_replicate]
      simp
      omega
    · simp only [Array.toList_append, List.append_assoc]
      rw [← List.append_assoc, ← hlen]
      exact List.take_left

section
variable {P : Program} {w w' : World} {v vs vx : Value} {t t2 : TypeId}
/-- .. where the appended one is the number of a make. -/
theorem list_run2 {ops : Array Oper} {rest : List Oper} {o : Oper} {a : Act} {Q : Exit → Act → World → Prop} (hgd : Region.wanted o (yielded ops a.tmps) = true) (s x : Operand)
    (ho : o.op = .call { callee := .builtin .append, args := #[s, x], argTypes := #[t, t2] }) (hs : a.eval s = vs) (hx : a.eval x = vx)
    (hr : (Builtin.append_ #[t, t2] o.type #[vs, vx]).run P w = .ok v w') (h : wpList P ops Q rest (a.put o.dst v) w') : wpList P ops Q (o :: rest) a w :=
  wpList_step fun K hK => by
    rw [if_pos hgd]
    unfold Oper.wp execOp
    simp only [ho, resolve, invoke, builtin, Sem.run_bind, Sem.run_pure, Result.andThen_ok, List.map_toArray, List.map_cons, List.map_nil, hs, hx, hr]
    exact hK _ _ h
end

end Go.Proofs.Ytpkfjnhjcdcoaaa
