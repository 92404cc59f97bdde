/-
  The map of a table: what its block holds, and the runs of a look-up, a store, its length, its clearing.
-/
import Derived.Test.YtboadalojimdlaaMsg
import Derived.MapKept
import Derived.WideKeyRuns
import Derived.Maps.OwnSet
import Derived.Laws.StructEq
namespace Go.Proofs.Ytboadalojimdlaa
open Go.RowKit

/-- A key. -/
def mkKey (t : Int) (i : Nat) : Value := .agg #[.int .i64 t, .int .u64 i]
/-- Block b is a map whose entries are just these messages, in the order in which they came. -/
def MBlk (w : World) (b : Nat) (l : List MsgR) : Prop :=
  ∃ es clock, w.heap[b]? = some (.map es clock) ∧ es.toList.map (fun e => (e.key, e.val)) = l.map (fun m => (mkKey m.tt m.id, m.vals))
section
variable {w w' : World} {b : Nat} {l : List MsgR}
theorem MBlk.lt (h : MBlk w b l) : b < w.heap.size := by
  obtain ⟨es, c, hb, _⟩ := h
  exact (Array.getElem?_eq_some_iff.1 hb).1
theorem MBlk.grown {row : Option Nat} (h : MBlk w b l) (hb : w.grownBy w' row) (hg : some b ≠ row) : MBlk w' b l := by
  have hl := h.lt
  obtain ⟨es, c, h1, h2⟩ := h
  exact ⟨es, c, (hb.block b hl hg).trans h1, h2⟩
theorem MBlk.below {B : Nat} (h : MBlk w b l) (hb : Below B w w') (hg : b < B) : MBlk w' b l := by
  obtain ⟨es, c, h1, h2⟩ := h
  exact ⟨es, c, (hb.block b hg).trans h1, h2⟩
theorem MBlk.on (h : MBlk w b l) (hb : Below w.heap.size w w') : MBlk w' b l := h.below hb h.lt
theorem MBlk.made (w : World) : MBlk (w.alloc (.map #[] 0)) w.heap.size [] := ⟨#[], 0, heap_alloc_new w _, rfl⟩
end

/-- The message that a look-up finds. -/
def mFind (l : List MsgR) (t : Int) (i : Nat) : Option MsgR := l.find? (fun m => decide (m.tt = t ∧ m.id = i))

theorem run_keyeq (t t' : Int) (i i' : Nat) (w : World) : (Op.equal 106 (mkKey t i) (mkKey t' i')).run Try.prog w = .ok (decide (t' = t ∧ i' = i)) w := by
  show (Op.equalIn (9999 + 1) 106 (.agg #[.int .i64 t, .int .u64 i]) (.agg #[.int .i64 t', .int .u64 i'])).run Try.prog w = _
  rw [run_equalIn_struct w 9999 106 _ _ (by rw [Try.underlying106]; unfold Program.fieldsOf; rw [Try.underlying106]) (by kernel_rfl)]
  simp [Program.fieldsOf, Try.underlying106, Op.eqFields, go_sem, run_equalIn_int, Try.underlying3, Try.underlying49]
  by_cases h : t = t'
  · by_cases hi : i = i'
    · subst h hi; simp
    · have : ¬ ((i : Int) = (i' : Int)) := by omega
      have h2 : ¬ i' = i := fun e => hi e.symm
      simp [h, this, h2]
  · have h2 : ¬ t' = t := fun e => h e.symm
    simp [h, h2]
theorem run_keycheck_n (n : Nat) (em : Bool) (t : Int) (i : Nat) (w : World) : (Instr.checkKey em (n + 1 + 1) 106 (mkKey t i)).run Try.prog w = .ok () w := by
  unfold mkKey
  rw [Instr.checkKey]
  simp only [Sem.run_bind, run_underlying Try.underlying106, Result.andThen_ok]
  rw [← Array.forIn_toList]
  simp [go_sem, Instr.checkKey, run_underlying Try.underlying3, run_underlying Try.underlying49]
theorem run_keycheck (em : Bool) (t : Int) (i : Nat) (w : World) : (Instr.checkKey em 10000 106 (mkKey t i)).run Try.prog w = .ok () w := run_keycheck_n 9998 em t i w
theorem run_zero (w : World) : (zeroValue 53).run Try.prog w = .ok mNone.vals w := by
  kernel_rfl

theorem run_asking (t : Int) (i : Nat) (w : World) : ∀ (es : List MapEntry) (l : List MsgR) (j : Nat), es.map (fun e => (e.key, e.val)) = l.map (fun m => (mkKey m.tt m.id, m.vals)) →
    ∃ r, (Instr.findAsking 106 (mkKey t i) es j).run Try.prog w = .ok r w ∧ r.map (·.2) = (mFind l t i).map MsgR.vals
  | [], [], j, _ => ⟨none, by simp [Instr.findAsking], rfl⟩
  | [], m :: l, j, h => by simp at h
  | e :: es, [], j, h => by simp at h
  | e :: es, m :: l, j, h => by
    simp only [List.map_cons, List.cons.injEq, Prod.mk.injEq] at h
    obtain ⟨⟨hk, hv⟩, ht⟩ := h
    by_cases hm : m.tt = t ∧ m.id = i
    · refine ⟨some (j, e.val), ?_, ?_⟩
      · simp [Instr.findAsking, hk, run_keyeq, hm, Result.andThen]
      · simp [mFind, hm, hv]
    · obtain ⟨r, h1, h2⟩ := run_asking t i w es l (j + 1) ht
      refine ⟨r, ?_, ?_⟩
      · simp only [Instr.findAsking, Sem.run_bind, hk, run_keyeq, decide_eq_false hm, Result.andThen_ok, Bool.false_eq_true, if_false]
        exact h1
      · rw [h2]
        simp [mFind, hm]
theorem run_findkey (t : Int) (i : Nat) (w : World) (es : List MapEntry) (l : List MsgR) (h : es.map (fun e => (e.key, e.val)) = l.map (fun m => (mkKey m.tt m.id, m.vals))) :
    ∃ r, (Instr.findKey 106 (mkKey t i) es).run Try.prog w = .ok r w ∧ r.map (·.2) = (mFind l t i).map MsgR.vals := by
  rw [run_findKey_eq w (by rw [Try.underlying106])]
  exact run_asking t i w es l 0 h
theorem run_lookup {w : World} {b : Nat} {l : List MsgR} (t : Int) (i : Nat) (h : MBlk w b l) :
    (Instr.lookup 101 (.map (some b)) (mkKey t i) true).run Try.prog w = .ok (.tuple #[((mFind l t i).getD mNone).vals, .bool (mFind l t i).isSome]) w := by
  obtain ⟨es, c, hb, he⟩ := h
  obtain ⟨r, h1, h2⟩ := run_findkey t i w es.toList l he
  simp only [Instr.lookup, Sem.run_bind, run_underlying Try.underlying101, Result.andThen_ok, MapKept.run_getObj_map hb, Sem.run_pure, run_keycheck, h1]
  cases hf : mFind l t i with
  | none =>
    rw [hf] at h2
    cases r with
    | none => simp [Result.andThen]; rfl
    | some p => simp at h2
  | some m =>
    rw [hf] at h2
    cases r with
    | none => simp at h2
    | some p => simp at h2; simp [h2]
theorem run_store {w : World} {b : Nat} {l : List MsgR} (m : MsgR) (h : MBlk w b l) (hn : mFind l m.tt m.id = none) :
    ∃ w', (Instr.mapUpdate 101 (.map (some b)) (mkKey m.tt m.id) m.vals).run Try.prog w = .ok () w' ∧ MBlk w' b (l ++ [m]) ∧ w.grownBy w' (some b) := by
  obtain ⟨es, c, hb, he⟩ := h
  obtain ⟨r, h1, h2⟩ := run_findkey m.tt m.id w es.toList l he
  rw [hn] at h2
  cases r with
  | some p => simp at h2
  | none =>
    have hrun : (Instr.mapUpdate 101 (.map (some b)) (mkKey m.tt m.id) m.vals).run Try.prog w = .ok () (Go.ChangeMaps.setBlock w b (.map (es.push ⟨mkKey m.tt m.id, m.vals, c⟩) (c + 1))) := by
      simp [Instr.mapUpdate, run_underlying Try.underlying101, MapKept.run_getObj_map hb, run_keycheck, h1, MapKept.run_setObj_map _ hb, Result.andThen, Go.ChangeMaps.setBlock]
    refine ⟨_, hrun, ⟨_, _, Go.ChangeMaps.heap_setBlock_same hb _, ?_⟩, ⟨rfl, rfl, rfl, by simp [Go.ChangeMaps.setBlock], fun i _ hi => Go.ChangeMaps.heap_setBlock_other hb _ (fun e => hi (by rw [e]))⟩⟩
    simp [he]
theorem run_len {w : World} {b : Nat} {l : List MsgR} (T : TypeId) (h : MBlk w b l) :
    (Builtin.len_ #[101] T #[.map (some b)]).run Try.prog w = .ok (.int .i64 (l.length : Nat)) w := by
  obtain ⟨es, c, hb, he⟩ := h
  have hl : es.size = l.length := by have := congrArg List.length he; simpa using this
  simp [Builtin.len_, goInt, run_underlying Try.underlying101, MapKept.run_getObj_map hb, hl, Result.andThen]
theorem run_clear {w : World} {b : Nat} {l : List MsgR} (T : TypeId) (h : MBlk w b l) :
    ∃ w', (Builtin.clear_ #[101] T #[.map (some b)]).run Try.prog w = .ok (.tuple #[]) w' ∧ MBlk w' b [] ∧ w.grownBy w' (some b) := by
  obtain ⟨es, c, hb, he⟩ := h
  have hrun : (Builtin.clear_ #[101] T #[.map (some b)]).run Try.prog w = .ok (.tuple #[]) (Go.ChangeMaps.setBlock w b (.map #[] c)) := by
    simp [Builtin.clear_, run_underlying Try.underlying101, MapKept.run_getObj_map hb, MapKept.run_setObj_map _ hb, Result.andThen, Go.ChangeMaps.setBlock]
  exact ⟨_, hrun, ⟨_, _, Go.ChangeMaps.heap_setBlock_same hb _, rfl⟩, ⟨rfl, rfl, rfl, by simp [Go.ChangeMaps.setBlock], fun i _ hi => Go.ChangeMaps.heap_setBlock_other hb _ (fun e => hi (by rw [e]))⟩⟩

section
variable {w : World} {ops : Array Oper} {rest : List Oper} {o : Oper} {a : Act} {Q : Exit → Act → World → Prop}
theorem at_look (hg : o.guard = none) (m x : Operand) (hop : o.op = Op.lookup 101 m x true) {b : Nat} {l : List MsgR} (t : Int) (i : Nat) (h : MBlk w b l)
    (hm : a.eval m = .map (some b)) (hx : a.eval x = mkKey t i) (hK : wpList Try.prog ops Q rest (a.put o.dst (.tuple #[((mFind l t i).getD mNone).vals, .bool (mFind l t i).isSome])) w) : wpList Try.prog ops Q (o :: rest) a w := by
  refine wpList_plain hg fun K' hK' => ?_
  unfold Oper.wp
  simp [execOp, hop, hm, hx, run_lookup t i h, Result.andThen]
  exact hK' _ _ hK
theorem at_store (hg : o.guard = none) (m x v : Operand) (hop : o.op = Op.mapUpdate 101 m x v) {b : Nat} {l : List MsgR} (e : MsgR) (h : MBlk w b l) (hn : mFind l e.tt e.id = none)
    (hm : a.eval m = .map (some b)) (hx : a.eval x = mkKey e.tt e.id) (hv : a.eval v = e.vals) (hK : ∀ w', MBlk w' b (l ++ [e]) → w.grownBy w' (some b) → wpList Try.prog ops Q rest (a.put o.dst undef) w') : wpList Try.prog ops Q (o :: rest) a w := by
  refine wpList_plain hg fun K' hK' => ?_
  obtain ⟨w', hrun, r1, r2⟩ := run_store e h hn
  unfold Oper.wp
  simp [execOp, hop, hm, hx, hv, hrun, Result.andThen]
  exact hK' _ _ (hK w' r1 r2)
theorem at_size (hg : o.guard = none) (m : Operand) (hop : o.op = Op.call { callee := Callee.builtin Builtin.len, args := #[m], argTypes := #[101] }) {b : Nat} {l : List MsgR} (h : MBlk w b l)
    (hm : a.eval m = .map (some b)) (hK : wpList Try.prog ops Q rest (a.put o.dst (.int .i64 (l.length : Nat))) w) : wpList Try.prog ops Q (o :: rest) a w := by
  refine wpList_plain hg fun K' hK' => ?_
  unfold Oper.wp
  simp [execOp, hop, resolve, invoke, builtin, hm, run_len o.type h, Result.andThen]
  exact hK' _ _ hK
theorem at_clear (hg : o.guard = none) (m : Operand) (hop : o.op = Op.call { callee := Callee.builtin Builtin.clear, args := #[m], argTypes := #[101] }) {b : Nat} {l : List MsgR} (h : MBlk w b l)
    (hm : a.eval m = .map (some b)) (hK : ∀ w', MBlk w' b [] → w.grownBy w' (some b) → wpList Try.prog ops Q rest (a.put o.dst (.tuple #[])) w') : wpList Try.prog ops Q (o :: rest) a w := by
  refine wpList_plain hg fun K' hK' => ?_
  obtain ⟨w', hrun, r1, r2⟩ := run_clear o.type h
  unfold Oper.wp
  simp [execOp, hop, resolve, invoke, builtin, hm, hrun, Result.andThen]
  exact hK' _ _ (hK w' r1 r2)
end
end Go.Proofs.Ytboadalojimdlaa
