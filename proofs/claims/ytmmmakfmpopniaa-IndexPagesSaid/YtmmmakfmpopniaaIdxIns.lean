/-
  slices.Insert of one position: the three roads (at the end; in place; a new row).
-/
import Derived.Test.YtmmmakfmpopniaaChkSame
import Derived.Test.YtmmmakfmpopniaaZeros
import Derived.Lib.Overlaps
import Derived.Laws.IdiomCopy
import Derived.Laws.CopyRow
import Derived.StillTailTactics
namespace Go.Proofs.Ytmmmakfmpopniaa
open Go.RowKit
set_option linter.unusedVariables false

/-- copy, elements of any number of cells, into a row known whole. -/
theorem run_copy_rowG {P : Program} (w : World) (dT sT ty elem : TypeId) (g o dLen dCap : Nat) (a : Addr) (sLen sCap : Nat) (cur : Array Value) (t : TypeId) (cs : List Value) (k : Nat)
    (hu : P.underlying dT = some (.slice elem)) (hs : (P.info? elem).map (·.size) = some k)
    (hg : w.heap[g]? = some (.cells cur t (0, 0))) (hn : cs.length = Nat.min sLen dLen * k)
    (hsrc : ∀ j v, cs[j]? = some v → w.cell? (a.add j) = some v) (hfit : o + cs.length ≤ cur.size) (h1 : ∀ v ∈ cs, v.oneCell' = true) :
    (Builtin.copy_ #[dT, sT] ty #[.slice (some ⟨g, o, none⟩) dLen dCap, .slice (some a) sLen sCap]).run P w =
      .ok (goInt (Nat.min sLen dLen)) (w.setRow g (cur.toList.take o ++ cs ++ cur.toList.drop (o + cs.length)).toArray) := by
  have hl := run_loadCells_list (P := P) w a cs hsrc
  have hst := run_storeCells_at P g o t cs 0 cur w hg (by simpa using hfit) h1
  cases hq : P.info? elem with
  | none => simp [hq] at hs
  | some i =>
    have hi : i.size = k := by simpa [hq] using hs
    simp [Builtin.copy_, run_underlying hu, Builtin.lenOf, Builtin.firstCells, sizeOf, typeInfo, hq, hi, ← hn, hl, hst]

theorem pos_size : (Try.prog.info? 32).map (·.size) = some 5 := by kernel_rfl
/-- append(s[:i], make([]api.Pos, m)...), no room. -/
theorem append_zeros5 {W : World} {g i cap : Nat} {xs : List Value} (hlx : xs.length = i * 5) (hcell : ∀ j v, xs[j]? = some v → W.cell? ⟨g, j, none⟩ = some v) (m : Nat) (hm0 : 0 < m) (hroom : cap < i + m) (hic : i ≤ cap) (hs : i + m ≤ 1000000) :
    ∃ cap' cur, (Builtin.append_ #[26, 3] 26 #[.slice (some ⟨g, 0, none⟩) i cap, .int .i64 (m : Int)]).run Try.prog W = .ok (.slice (some ⟨W.heap.size, 0, none⟩) (i + m) cap') (W.drew.alloc (.cells cur 32)) ∧
      i + m ≤ cap' ∧ cap' ≤ maxLen ∧ cur.size = cap' * 5 ∧ cur.toList.take (i * 5) = xs := by
  obtain ⟨i0, hi, hz0, hz1, hz2⟩ := info_parts info_pos
  have hw : IntKind.i64.wrap (m : Int) = m := IntWalk.i64_in _ (by omega)
  have hneg : ¬ ((m : Int) < 0) := by omega
  have hnr : ¬ (i + m ≤ cap) := by omega
  have hm : ¬ m = 0 := by omega
  have hfo := run_firstCells_some (P := Try.prog) W.drew 5 i ⟨g, 0, none⟩ i cap xs hlx (fun j u h => by rw [Addr.add_lit, Nat.zero_add]; exact hcell j u h)
  have h63 : ¬ (9223372036854775807 < ((i : Int) + (m : Int))) := by omega
  have h48 : ¬ (281474976710656 < Builtin.nextslicecap (i + m) cap * 32) := by have := growslice_fits (bytes := 32) (need := i + m) (old := cap) (by omega) (by omega); omega
  have hge := grownCap_ge W (i + m) cap 32
  have hcm2 : grownCap W (i + m) cap 32 ≤ maxLen := grownCap_le_maxLen W (i + m) cap _ (by unfold maxLen; omega)
  have hbig : ¬ (281474976710656 < (m : Int) * 32) := by omega
  refine ⟨grownCap W (i + m) cap 32, xs.toArray ++ Builtin.zeroCells #[.int .u64 0, .int .i64 0, .int .i64 0, .int .u32 0, .bool false] m ++ Builtin.zeroCells #[.int .u64 0, .int .i64 0, .int .i64 0, .int .u32 0, .bool false] (grownCap W (i + m) cap 32 - (i + m)), ?_, hge, hcm2, ?_, ?_⟩
  · simp [Builtin.append_, run_underlying Try.underlying26, run_underlying Try.underlying3, sizeOf, typeInfo, zeroValue, hi, hz0, hz1, hz2, asInt, asIntOf, hw, hneg, hbig, hnr, Value.cells, h63, h48, Question.forced, hfo, newRow, grownCap]
    intro h; omega
  · simp only [Array.size_append, List.size_toArray, size_zeroCells, hlx]
    simp
    omega
  · simp only [Array.toList_append, List.append_assoc]
    rw [← hlx]
    exact List.take_left

/-- What Insert leaves. -/
def InsP (w : World) (base : Nat) (v : Value) (n : Nat) (ys : List Value) (e : Ending) (w' : World) : Prop :=
  ∃ v', e = .returned v' ∧ w'.ownsRow base 32 5 v' (n + 1) ys ∧ w.grownBy w' v.ownBlock ∧ (v'.ownBlock = v.ownBlock ∨ ∀ k, v'.ownBlock = some k → w.heap.size ≤ k)

set_option maxRecDepth 100000 in
set_option maxHeartbeats 2000000 in
/-- At the end. -/
theorem ins_end {base n : Nat} {v : Value} {xs : List Value} (p : PosR) (w : World) (h : w.ownsRow base 32 5 v n xs) (hb : base ≤ w.heap.size) (hn : n ≤ 100000) :
    Calls Try.prog 24 #[v, .int .i64 n, .slice (some ⟨w.heap.size, 0, none⟩) 1 1] (w.alloc (.cells #[.int .u64 p.key, .int .i64 p.off, .int .i64 p.len, .int .u32 p.ck, .bool p.gone] 32)) (InsP w base v n (xs ++ p.cells)) := by
  obtain ⟨i0, hi, hz0, hz1, hz2⟩ := info_parts info_pos
  obtain ⟨g2, cap2, W2, hr, ho2, hg2, hat, -⟩ := append_elem (P := Try.prog) Try.underlying26 hi hz0 hz1 hz2 rfl (by decide) h p.cells p.cells_length p.cells_one (by omega) (by unfold maxLen; omega) hb
  have HF := Lib.hid (show InsP w base v n (xs ++ p.cells) (.returned (.slice (some ⟨g2, 0, none⟩) (n + 1) cap2)) W2 from ⟨_, rfl, ho2, hg2, by
    rcases hat with e | e
    · exact .inl e.symm
    · exact .inr fun k hk => by
        have hk : g2 = k := by simpa [Value.ownBlock] using hk
        omega⟩)
  obtain ⟨a, c, rfl, hnc⟩ := own_form_any h
  have HN := Lib.hid (show a = none → n = 0 from fun e => by
    rcases h.2 with ⟨_, e2⟩ | ⟨g, cap, cur, e1, _⟩
    · exact e2
    · rw [e] at e1; cases e1)
  have HC := Lib.hid (show c ≤ 9223372036854775807 from by
    rcases h.2 with ⟨e1, _⟩ | ⟨g, cap, cur, e1, _, _, _, e4, _⟩
    · injection e1 with _ _ e; omega
    · injection e1 with _ _ e; unfold maxLen at e4; omega)
  have hr : (Builtin.append_ #[26, 26] 26 #[.slice a n c, .slice (some ⟨w.heap.size, 0, none⟩) 1 1]).run Try.prog (w.alloc (.cells #[.int .u64 p.key, .int .i64 p.off, .int .i64 p.len, .int .u32 p.ck, .bool p.gone] 32)) = .ok (.slice (some ⟨g2, 0, none⟩) (n + 1) cap2) W2 := hr
  have hcz := HC.out
  clear hi hz0 hz1 hz2 ho2 hg2 hat h hb
  go_enter Try.func24, Try.ntmps24
  cases a with
  | none =>
    obtain rfl := HN.out rfl
    go_wp2_with (at_builtin; refine list_run (by rfl) _ _ rfl rfl rfl hr ?_; clear hr)
    go_ret
    exact HF.out
  | some a =>
    obtain ⟨ab, ao, asp⟩ := a
    go_wp2_with (at_builtin; refine list_run (by rfl) _ _ rfl rfl rfl hr ?_; clear hr)
    all_goals go_ret
    all_goals exact HF.out

section
variable {P : Program} {w w' : World} {v u v' : Value} {t t2 : TypeId}
/-- copy, its run known. -/
theorem list_copy {ops : Array Oper} {rest : List Oper} {o : Oper} {a : Act} {Q : Exit → Act → World → Prop} (hgd : Region.wanted o (yielded ops a.tmps) = true) (s x : Operand)
    (ho : o.op = .call { callee := .builtin .copy, args := #[s, x], argTypes := #[t, t2] }) (hs : a.eval s = v) (hx : a.eval x = u)
    (hr : (Builtin.copy_ #[t, t2] o.type #[v, u]).run P w = .ok v' w') (h : wpList P ops Q rest (a.put o.dst v') w') : wpList P ops Q (o :: rest) a w :=
  wpList_step fun K hK => by
    rw [if_pos hgd]
    unfold Oper.wp execOp
    simp only [ho, resolve, invoke, builtin, Sem.run_bind, Sem.run_pure, Result.andThen_ok, List.map_toArray, List.map_cons, List.map_nil, hs, hx, hr]
    exact hK _ _ h
end
section
variable {P : Program} {w w' : World} {v u v' : Value} {t t2 : TypeId}
/-- .. at a step of a region that draws its order. -/
theorem step_copy {ops : Array Oper} {o : Oper} {a : Act} {K : Act → World → Prop} {Q : Exit → Act → World → Prop} {E : Prop} (hgd : o.guard = none) (s x : Operand)
    (ho : o.op = .call { callee := .builtin .copy, args := #[s, x], argTypes := #[t, t2] }) (hs : a.eval s = v) (hx : a.eval x = u)
    (hr : (Builtin.copy_ #[t, t2] o.type #[v, u]).run P w = .ok v' w') (h : K (a.put o.dst v') w') :
    if Region.wanted o (yielded ops a.tmps) = true then Oper.wp P o a w K Q else E := by
  have hw : Region.wanted o (yielded ops a.tmps) = true := by simp [Region.wanted, hgd]
  rw [if_pos hw]
  unfold Oper.wp execOp
  simp only [ho, resolve, invoke, builtin, Sem.run_bind, Sem.run_pure, Result.andThen_ok, List.map_toArray, List.map_cons, List.map_nil, hs, hx, hr]
  exact h
end
theorem blk_shape {w : World} {g : Nat} {t : TypeId} {cs : Array Value} (h : w.heap[g]? = some (.cells cs t (0, 0))) : w.shape? g = some (t, cs.size) := by
  simp [World.shape?, h]
theorem no_overlap {w : World} {vb g : Nat} {us cur : Array Value} (hv : w.heap[vb]? = some (.cells us 32 (0, 0))) (hg : w.heap[g]? = some (.cells cur 32 (0, 0))) (hne : vb ≠ g) (hc : cur.size ≠ 0) (o lb cb : Nat) :
    (callFunc 30 #[.slice (some ⟨vb, 0, none⟩) 1 1, .slice (some ⟨g, o, none⟩) lb cb]).run Try.prog w = .ok (.value (.bool false)) w := by
  rw [run_callFunc_extern Try.func30 (by kernel_rfl) (by kernel_rfl) (by kernel_rfl) (e := Extern.SlicesOverlaps.overlaps #[26, 26] #[4]) (by kernel_rfl),
    Lib.run_overlaps_apart w 26 4 32 Try.underlying26 5 (fun w => by obtain ⟨i0, hi, hz0, hz1, hz2⟩ := info_parts info_pos; simp [sizeOf, typeInfo, hi, hz1]) ⟨vb, 0, none⟩ ⟨g, o, none⟩ 1 1 lb cb hne _ _ _ _ (blk_shape hv) (blk_shape hg) hc (by simp [World.frozen?, hv]) (by simp [World.frozen?, hv])]
  rfl
theorem nmin_r {a b c : Nat} (h : b ≤ a) (e : b = c) : Nat.min a b = c := by rw [← e]; exact Nat.min_eq_right h
theorem nmin_l {a b c : Nat} (h : a ≤ b) (e : a = c) : Nat.min a b = c := by rw [← e]; exact Nat.min_eq_left h
theorem take_two {α : Type} (a b : List α) : (a ++ b).take a.length = a := List.take_left
/-- The cells behind the two copies. -/
theorem take_shift {α : Type} {cur xs us : List α} {i n k c : Nat} (hc : cur.length = c * k) (hx : cur.take (n * k) = xs) (hu : us.length = k) (hi : i < n) (hn : n + 1 ≤ c) :
    ∃ c1 c2, c1 = cur.take ((i + 1) * k) ++ xs.drop (i * k) ++ cur.drop ((i + 1) * k + (xs.drop (i * k)).length) ∧ c2 = c1.take (i * k) ++ us ++ c1.drop (i * k + us.length) ∧
    c1.length = c * k ∧ c2.length = c * k ∧ c2.take ((n + 1) * k) = xs.take (i * k) ++ us ++ xs.drop (i * k) := by
  have e1 : (i + 1) * k = i * k + k := by rw [Nat.add_mul, Nat.one_mul]
  have e2 : (n + 1) * k = n * k + k := by rw [Nat.add_mul, Nat.one_mul]
  have l1 : i * k + k ≤ n * k := by rw [← e1]; exact Nat.mul_le_mul_right k hi
  have l2 : n * k + k ≤ c * k := by rw [← e2]; exact Nat.mul_le_mul_right k hn
  rw [e1, e2]
  generalize i * k = A at *
  generalize n * k = N at *
  generalize c * k = C at *
  have hxl : xs.length = N := by rw [← hx, List.length_take]; omega
  have hdl : (xs.drop A).length = N - A := by rw [List.length_drop, hxl]
  have ht : cur.take A = xs.take A := by rw [← hx, List.take_take, Nat.min_eq_left (by omega)]
  refine ⟨_, _, rfl, rfl, ?_, ?_, ?_⟩
  · simp only [List.length_append, List.length_take, List.length_drop, hxl, hc]; omega
  · simp only [List.length_append, List.length_take, List.length_drop, hxl, hc, hu]; omega
  · have d1 : (cur.take (A + k) ++ xs.drop A ++ cur.drop (A + k + (xs.drop A).length)).take A = xs.take A := by
      rw [List.append_assoc, List.take_append_of_le_length (by rw [List.length_take]; omega), List.take_take, Nat.min_eq_left (by omega), ht]
    have d2 : (cur.take (A + k) ++ xs.drop A ++ cur.drop (A + k + (xs.drop A).length)).drop (A + us.length) = xs.drop A ++ cur.drop (A + k + (xs.drop A).length) := by
      rw [List.append_assoc, hu]
      exact List.drop_left' (by rw [List.length_take]; omega)
    rw [d1, d2, ← List.append_assoc]
    have hl : N + k = (xs.take A ++ us ++ xs.drop A).length := by simp only [List.length_append, List.length_take, hdl, hxl, hu]; omega
    rw [hl]
    exact take_two _ _

set_option maxRecDepth 100000 in
set_option maxHeartbeats 2000000 in
/-- In place. -/
theorem ins_room {base n i g c : Nat} {xs : List Value} (p : PosR) (w : World) (h : w.ownsRow base 32 5 (.slice (some ⟨g, 0, none⟩) n c) n xs) (hi : i < n) (hr : n + 1 ≤ c) (hn : n ≤ 100000) (h1 : ∀ u ∈ xs, u.oneCell' = true) :
    Calls Try.prog 24 #[.slice (some ⟨g, 0, none⟩) n c, .int .i64 i, .slice (some ⟨w.heap.size, 0, none⟩) 1 1] (w.alloc (.cells #[.int .u64 p.key, .int .i64 p.off, .int .i64 p.len, .int .u32 p.ck, .bool p.gone] 32)) (InsP w base (.slice (some ⟨g, 0, none⟩) n c) n (xs.take (i * 5) ++ p.cells ++ xs.drop (i * 5))) := by
  rcases h.2 with ⟨e1, _⟩ | ⟨g', cap, cur, e1, hbg, hg, _, hcm, hcs, htake⟩
  · cases e1
  cases e1
  have hxl := h.1
  obtain ⟨w1, hw1⟩ : ∃ X, w.alloc (.cells #[.int .u64 p.key, .int .i64 p.off, .int .i64 p.len, .int .u32 p.ck, .bool p.gone] 32) = X := ⟨_, rfl⟩
  have hgl : g < w.heap.size := (Array.getElem?_eq_some_iff.1 hg).1
  have hv1 : w1.heap[w.heap.size]? = some (.cells p.cells.toArray 32 (0, 0)) := by rw [← hw1]; exact heap_alloc_new w _
  have hg1 : w1.heap[g]? = some (.cells cur 32 (0, 0)) := by rw [← hw1, heap_alloc_old w _ g hgl]; exact hg
  have hs1 : w1.heap.size = w.heap.size + 1 := by rw [← hw1]; simp
  have hov := no_overlap hv1 hg1 (by omega) (by omega)
  obtain ⟨c1, c2, hc1, hc2, hl1, hl2, ht2⟩ := take_shift (us := p.cells) (i := i) (k := 5) (c := c) (by rw [Array.length_toList]; exact hcs) htake p.cells_length hi hr
  have hdl : (xs.drop (i * 5)).length = (n - i) * 5 := by rw [List.length_drop, hxl]; omega
  have hcell : ∀ j v, xs[j]? = some v → w1.cell? ⟨g, j, none⟩ = some v := fun j v hj => by
    rw [cell_of_row w1 g j cur _ (0, 0) hg1]
    rw [← htake, List.getElem?_take] at hj
    split at hj
    · simpa using hj
    · cases hj
  have hcp1 : ∀ ty dc sc, (Builtin.copy_ #[26, 26] ty #[.slice (some ⟨g, (i + 1) * 5, none⟩) (n - i) dc, .slice (some ⟨g, i * 5, none⟩) (n + 1 - i) sc]).run Try.prog w1.drew = .ok (goInt ((n - i : Nat) : Int)) (w1.drew.setRow g c1.toArray) := fun ty dc sc => by
    have e := run_copy_rowG (P := Try.prog) w1.drew 26 26 ty 32 g ((i + 1) * 5) (n - i) dc ⟨g, i * 5, none⟩ (n + 1 - i) sc cur 32 (xs.drop (i * 5)) 5 Try.underlying26 pos_size hg1 (by rw [hdl, nmin_r (c := n - i) (by omega) rfl])
      (fun j v hj => by rw [Addr.add_lit]; rw [List.getElem?_drop] at hj; exact hcell _ v hj) (by rw [hdl, hcs]; omega) (fun u hu => h1 u (List.mem_of_mem_drop hu))
    rw [e, hc1, show Nat.min (n + 1 - i) (n - i) = n - i from nmin_r (by omega) rfl]
  obtain ⟨w2, hw2⟩ : ∃ X, w1.drew.setRow g c1.toArray = X := ⟨_, rfl⟩
  have hg2 : w2.heap[g]? = some (.cells c1.toArray 32 (0, 0)) := by rw [← hw2]; exact setRow_heap w1.drew g cur _ _ _ hg1
  have hv2 : w2.heap[w.heap.size]? = some (.cells p.cells.toArray 32 (0, 0)) := by rw [← hw2, setRow_other w1.drew g _ _ (by omega)]; exact hv1
  have hcp2 : ∀ ty dc, (Builtin.copy_ #[26, 26] ty #[.slice (some ⟨g, i * 5, none⟩) (n + 1 - i) dc, .slice (some ⟨w.heap.size, 0, none⟩) 1 1]).run Try.prog w2 = .ok (goInt ((1 : Nat) : Int)) (w2.setRow g c2.toArray) := fun ty dc => by
    have e := run_copy_rowG (P := Try.prog) w2 26 26 ty 32 g (i * 5) (n + 1 - i) dc ⟨w.heap.size, 0, none⟩ 1 1 c1.toArray 32 p.cells 5 Try.underlying26 pos_size hg2 (by rw [p.cells_length, nmin_l (c := 1) (by omega) rfl])
      (fun j v hj => by rw [Addr.add_lit, Nat.zero_add, cell_of_row w2 _ j _ _ (0, 0) hv2]; simpa using hj) (by rw [p.cells_length, List.size_toArray, hl1]; omega) p.cells_one
    rw [e, hc2, show Nat.min 1 (n + 1 - i) = 1 from nmin_l (by omega) rfl]
  have HF := Lib.hid (show InsP w base (.slice (some ⟨g, 0, none⟩) n c) n (xs.take (i * 5) ++ p.cells ++ xs.drop (i * 5)) (.returned (.slice (some ⟨g, 0, none⟩) (n + 1) c)) (w2.setRow g c2.toArray) from ⟨_, rfl, ⟨by rw [← ht2, List.length_take, hl2]; omega, .inr ⟨g, c, c2.toArray, rfl, hbg, setRow_heap w2 g _ _ _ _ hg2, hr, hcm, by rw [List.size_toArray]; exact hl2, ht2⟩⟩,
    ⟨by rw [← hw2, ← hw1]; rfl, by rw [← hw2, ← hw1]; rfl, by rw [← hw2, ← hw1]; rfl, by rw [← hw2, ← hw1]; simp, fun k hk hne => by
      have hkg : k ≠ g := fun e => hne (by rw [e]; rfl)
      rw [setRow_other w2 g k _ hkg, ← hw2, setRow_other w1.drew g k _ hkg, ← hw1]
      exact heap_alloc_old w _ k hk⟩, .inl rfl⟩)
  rw [hw2] at hcp1
  have hin : (i : Int) < (n : Int) := by omega
  have hnc : (n : Int) + 1 ≤ (c : Int) := by omega
  have hnb : (n : Int) ≤ 100000 := by omega
  have hcb : (c : Int) ≤ 9223372036854775807 := by unfold maxLen at hcm; omega
  have hwr : IntKind.i64.wrap ((i : Int) + 1) = (i : Int) + 1 := by rw [IntKind.wrap_i64]; omega
  have hb1 : (0 : Int) ≤ (i : Int) + 1 := by omega
  have hb5 : (i : Int) + 1 ≤ (n : Int) + 1 := by omega
  have htn : ((i : Int) + 1).toNat = i + 1 := by omega
  have hb2 : ¬ (c = i + 1) := by omega
  have hb3 : (i : Int) ≤ (n : Int) + 1 := by omega
  have hb4 : ¬ (c = i) := by omega
  have hbn : n + 1 - (i + 1) = n - i := by omega
  clear hg hv1 hg1 hs1 hc1 hc2 hl1 hl2 ht2 hdl hcell hg2 hv2 hxl h1 h hw2
  go_enter Try.func24, Try.ntmps24
  rw [hw1]
  go_wp2_with (simp only [hov])
  go_region_law (refine step_copy rfl _ _ rfl (by simp [Act.eval, Act.put]) (by simp [Act.eval, Act.put]) (hcp1 _ _ _) ?_)
  go_wp2_with (at_builtin; refine list_copy (by rfl) _ _ rfl rfl rfl (hcp2 _ _) ?_)
  go_ret
  exact HF.out

/-- The cells behind the two copies, in a new row. -/
theorem take_new {α : Type} {cur xs us : List α} {i n k c : Nat} (hc : cur.length = c * k) (hxl : xs.length = n * k) (hx : cur.take (i * k) = xs.take (i * k)) (hu : us.length = k) (hi : i < n) (hn : n + 1 ≤ c) :
    ∃ c1 c2, c1 = cur.take (i * k) ++ us ++ cur.drop (i * k + us.length) ∧ c2 = c1.take ((i + 1) * k) ++ xs.drop (i * k) ++ c1.drop ((i + 1) * k + (xs.drop (i * k)).length) ∧
    c1.length = c * k ∧ c2.length = c * k ∧ c2.take ((n + 1) * k) = xs.take (i * k) ++ us ++ xs.drop (i * k) := by
  have e1 : (i + 1) * k = i * k + k := by rw [Nat.add_mul, Nat.one_mul]
  have e2 : (n + 1) * k = n * k + k := by rw [Nat.add_mul, Nat.one_mul]
  have l1 : i * k + k ≤ n * k := by rw [← e1]; exact Nat.mul_le_mul_right k hi
  have l2 : n * k + k ≤ c * k := by rw [← e2]; exact Nat.mul_le_mul_right k hn
  rw [e1, e2]
  generalize i * k = A at *
  generalize n * k = N at *
  generalize c * k = C at *
  have hdl : (xs.drop A).length = N - A := by rw [List.length_drop, hxl]
  refine ⟨_, _, rfl, rfl, ?_, ?_, ?_⟩
  · simp only [List.length_append, List.length_take, List.length_drop, hc, hu]; omega
  · simp only [List.length_append, List.length_take, List.length_drop, hxl, hc, hu]; omega
  · have d1 : (cur.take A ++ us ++ cur.drop (A + us.length)).take (A + k) = xs.take A ++ us := by
      rw [hx]
      have hl : A + k = (xs.take A ++ us).length := by rw [List.length_append, List.length_take, hxl, hu]; omega
      rw [hl]
      exact take_two _ _
    rw [d1]
    have hl : N + k = (xs.take A ++ us ++ xs.drop A).length := by simp only [List.length_append, List.length_take, hdl, hxl, hu]; omega
    rw [hl]
    exact take_two _ _

set_option maxRecDepth 100000 in
set_option maxHeartbeats 2000000 in
/-- In a new row. -/
theorem ins_grow {base n i g c : Nat} {xs : List Value} (p : PosR) (w : World) (h : w.ownsRow base 32 5 (.slice (some ⟨g, 0, none⟩) n c) n xs) (hi : i < n) (hr : c < n + 1) (hn : n ≤ 100000) (h1 : ∀ u ∈ xs, u.oneCell' = true) :
    Calls Try.prog 24 #[.slice (some ⟨g, 0, none⟩) n c, .int .i64 i, .slice (some ⟨w.heap.size, 0, none⟩) 1 1] (w.alloc (.cells #[.int .u64 p.key, .int .i64 p.off, .int .i64 p.len, .int .u32 p.ck, .bool p.gone] 32)) (InsP w base (.slice (some ⟨g, 0, none⟩) n c) n (xs.take (i * 5) ++ p.cells ++ xs.drop (i * 5))) := by
  rcases h.2 with ⟨e1, _⟩ | ⟨g', cap, cur, e1, hbg, hg, hnc0, hcm, hcs, htake⟩
  · cases e1
  cases e1
  obtain rfl : n = c := by omega
  have hxl := h.1
  obtain ⟨w1, hw1⟩ : ∃ X, w.alloc (.cells #[.int .u64 p.key, .int .i64 p.off, .int .i64 p.len, .int .u32 p.ck, .bool p.gone] 32) = X := ⟨_, rfl⟩
  have hgl : g < w.heap.size := (Array.getElem?_eq_some_iff.1 hg).1
  have hv1 : w1.heap[w.heap.size]? = some (.cells p.cells.toArray 32 (0, 0)) := by rw [← hw1]; exact heap_alloc_new w _
  have hg1 : w1.heap[g]? = some (.cells cur 32 (0, 0)) := by rw [← hw1, heap_alloc_old w _ g hgl]; exact hg
  have hs1 : w1.heap.size = w.heap.size + 1 := by rw [← hw1]; simp
  have hcell : ∀ j v, xs[j]? = some v → w1.cell? ⟨g, j, none⟩ = some v := fun j v hj => by
    rw [cell_of_row w1 g j cur _ (0, 0) hg1]
    rw [← htake, List.getElem?_take] at hj
    split at hj
    · simpa using hj
    · cases hj
  obtain ⟨cap2, cu, hr0, hc1, hc2, hc3, hc4⟩ := append_zeros5 (W := w1) (g := g) (i := i) (cap := n) (xs := xs.take (i * 5)) (by rw [List.length_take, hxl]; omega) (fun j v hj => hcell j v (by
    rw [List.getElem?_take] at hj
    split at hj
    · exact hj
    · cases hj)) (n + 1 - i) (by omega) (by omega) (by omega) (by omega)
  rw [show i + (n + 1 - i) = n + 1 from by omega] at hr0 hc1
  have hr0 : (Builtin.append_ #[26, 3] 26 #[.slice (some ⟨g, 0, none⟩) i n, .int .i64 ((n : Int) + 1 - (i : Int))]).run Try.prog w1 = .ok (.slice (some ⟨w1.heap.size, 0, none⟩) (n + 1) cap2) (w1.drew.alloc (.cells cu 32)) := by
    rw [show ((n : Int) + 1 - (i : Int)) = ((n + 1 - i : Nat) : Int) from by omega]; exact hr0
  obtain ⟨w2, hw2⟩ : ∃ X, w1.drew.alloc (.cells cu 32) = X := ⟨_, rfl⟩
  rw [hw2] at hr0
  obtain ⟨G, hG⟩ : ∃ G, w1.heap.size = G := ⟨_, rfl⟩
  rw [hG] at hr0
  have hG2 : w2.heap[G]? = some (.cells cu 32 (0, 0)) := by rw [← hw2, ← hG]; exact heap_alloc_new w1.drew _
  have hold : ∀ k, k < G → w2.heap[k]? = w1.heap[k]? := fun k hk => by rw [← hw2]; exact heap_alloc_old w1.drew _ k (by rw [← hG] at hk; exact hk)
  obtain ⟨c1, c2, hd1, hd2, hl1, hl2, ht2⟩ := take_new (us := p.cells) (i := i) (k := 5) (c := cap2) (by rw [Array.length_toList]; exact hc3) hxl hc4 p.cells_length hi (by omega)
  have hdl : (xs.drop (i * 5)).length = (n - i) * 5 := by rw [List.length_drop, hxl]; omega
  have hcp1 : ∀ ty dc, (Builtin.copy_ #[26, 26] ty #[.slice (some ⟨G, i * 5, none⟩) (n + 1 - i) dc, .slice (some ⟨w.heap.size, 0, none⟩) 1 1]).run Try.prog w2 = .ok (goInt ((1 : Nat) : Int)) (w2.setRow G c1.toArray) := fun ty dc => by
    have e := run_copy_rowG (P := Try.prog) w2 26 26 ty 32 G (i * 5) (n + 1 - i) dc ⟨w.heap.size, 0, none⟩ 1 1 cu 32 p.cells 5 Try.underlying26 pos_size hG2 (by rw [p.cells_length, nmin_l (c := 1) (by omega) rfl])
      (fun j v hj => by
        rw [Addr.add_lit, Nat.zero_add, cell_of_row w2 _ j _ _ (0, 0) ((hold _ (by omega)).trans hv1)]; simpa using hj) (by rw [p.cells_length, hc3]; omega) p.cells_one
    rw [e, hd1, show Nat.min 1 (n + 1 - i) = 1 from nmin_l (by omega) rfl]
  obtain ⟨w3, hw3⟩ : ∃ X, w2.setRow G c1.toArray = X := ⟨_, rfl⟩
  have hG3 : w3.heap[G]? = some (.cells c1.toArray 32 (0, 0)) := by rw [← hw3]; exact setRow_heap w2 G cu _ _ _ hG2
  have hg3 : w3.heap[g]? = some (.cells cur 32 (0, 0)) := by rw [← hw3, setRow_other w2 G g _ (by omega), hold g (by omega)]; exact hg1
  have hcp2 : ∀ ty dc sc, (Builtin.copy_ #[26, 26] ty #[.slice (some ⟨G, (i + 1) * 5, none⟩) (n - i) dc, .slice (some ⟨g, i * 5, none⟩) (n - i) sc]).run Try.prog w3.drew = .ok (goInt ((n - i : Nat) : Int)) (w3.drew.setRow G c2.toArray) := fun ty dc sc => by
    have e := run_copy_rowG (P := Try.prog) w3.drew 26 26 ty 32 G ((i + 1) * 5) (n - i) dc ⟨g, i * 5, none⟩ (n - i) sc c1.toArray 32 (xs.drop (i * 5)) 5 Try.underlying26 pos_size hG3 (by rw [hdl, nmin_r (c := n - i) (by omega) rfl])
      (fun j v hj => by
        rw [Addr.add_lit]; rw [List.getElem?_drop] at hj
        rw [cell_of_row w3.drew g _ cur _ (0, 0) hg3, ← cell_of_row w1 g _ cur _ (0, 0) hg1]; exact hcell _ v hj) (by rw [hdl, List.size_toArray, hl1]; omega) (fun u hu => h1 u (List.mem_of_mem_drop hu))
    rw [e, hd2, show Nat.min (n - i) (n - i) = n - i from nmin_r (by omega) rfl]
  have HF := Lib.hid (show InsP w base (.slice (some ⟨g, 0, none⟩) n n) n (xs.take (i * 5) ++ p.cells ++ xs.drop (i * 5)) (.returned (.slice (some ⟨G, 0, none⟩) (n + 1) cap2)) (w3.drew.setRow G c2.toArray) from ⟨_, rfl, ⟨by rw [← ht2, List.length_take, hl2]; omega, .inr ⟨G, cap2, c2.toArray, rfl, by omega, setRow_heap w3.drew G _ _ _ _ hG3, by omega, hc2, by rw [List.size_toArray]; exact hl2, ht2⟩⟩,
    ⟨by rw [← hw3, ← hw2, ← hw1]; rfl, by rw [← hw3, ← hw2, ← hw1]; rfl, by rw [← hw3, ← hw2, ← hw1]; rfl, by rw [← hw3, ← hw2, ← hw1]; simp; omega, fun k hk hne => by
      rw [setRow_other w3.drew G k _ (by omega)]
      show w3.heap[k]? = _
      rw [← hw3, setRow_other w2 G k _ (by omega), hold k (by omega), ← hw1]
      exact heap_alloc_old w _ k hk⟩, .inr fun k hk => by
        have hk : G = k := by simpa [Value.ownBlock] using hk
        omega⟩)
  rw [hw3] at hcp1
  have hin : (i : Int) < (n : Int) := by omega
  have hnb : (n : Int) ≤ 100000 := by omega
  have hwr : IntKind.i64.wrap ((i : Int) + 1) = (i : Int) + 1 := by rw [IntKind.wrap_i64]; omega
  have hb1 : (0 : Int) ≤ (i : Int) + 1 := by omega
  have hb5 : (i : Int) + 1 ≤ (n : Int) + 1 := by omega
  have htn : ((i : Int) + 1).toNat = i + 1 := by omega
  have hb2 : ¬ (cap2 = i + 1) := by omega
  have hb3 : (i : Int) ≤ (n : Int) + 1 := by omega
  have hb4 : ¬ (cap2 = i) := by omega
  have hb6 : ¬ (n = i) := by omega
  have hb9 : i ≤ n := by omega
  have hbn : n + 1 - (i + 1) = n - i := by omega
  have hb7 : (n : Int) + 1 ≤ (cap2 : Int) := by omega
  have hb8 : (cap2 : Int) ≤ 9223372036854775807 := by unfold maxLen at hc2; omega
  clear hg hv1 hg1 hs1 hc1 hc2 hc3 hc4 hd1 hd2 hl1 hl2 ht2 hdl hcell hG2 hG3 hg3 hxl h1 h hw2 hw3 hold hG hnc0 hr hcm hcs htake
  go_enter Try.func24, Try.ntmps24
  rw [hw1]
  go_upto_region 9 with fail
  go_wp2_with (at_builtin; refine list_run2 (by rfl) _ _ rfl rfl rfl hr0 ?_; clear hr0)
  go_region_law (refine step_copy rfl _ _ rfl (by simp [Act.eval, Act.put]) (by simp [Act.eval, Act.put]) (hcp2 _ _ _) ?_)
  go_wp2_with fail
  go_ret
  exact HF.out
end Go.Proofs.Ytmmmakfmpopniaa
