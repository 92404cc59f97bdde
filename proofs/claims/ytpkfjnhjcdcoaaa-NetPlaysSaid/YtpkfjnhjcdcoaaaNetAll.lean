/-
  Rows of the call's own, cut and cleared; what a net's calls leave; a net in memory; net.order, New, Len, at.
  slices.Delete at packets; a net's Send, Lose, Twice, Peek.
  Rows of pairs: slices.Index, Contains, IndexFunc, DeleteFunc; the closure of a net's Cut; Apart.
  The closure of a net's Cut; slices.IndexFunc, DeleteFunc at pairs.
  A net's Cut and Take; what no net answers.
  A net's Take.
-/
import Derived.Test.YtpkfjnhjcdcoaaaWirLaw
import Derived.Test.YtpkfjnhjcdcoaaaWirRead
import Derived.Test.YtpkfjnhjcdcoaaaElem
import Derived.Laws.OwnMore
import Derived.Lib.SliceRun
import Derived.Laws.StructEq
namespace Go.Proofs.Ytpkfjnhjcdcoaaa
open Go.RowKit
set_option linter.unusedVariables false

theorem row_cut {W : World} {base size : Nat} {e : TypeId} {g k c : Nat} {xs : List Value} (h : W.ownsRow base e size (.slice (some ⟨g, 0, none⟩) k c) k xs) (i : Nat) (hi : i ≤ k) : W.ownsRow base e size (.slice (some ⟨g, 0, none⟩) i c) i (xs.take (i * size)) := by
  rcases h.2 with ⟨h', _⟩ | ⟨g', cap', cur, h', hb, hg, hnc, hcm, hcs, htake⟩
  · cases h'
  · cases h'
    refine ⟨?_, .inr ⟨g, c, cur, rfl, hb, hg, by omega, hcm, hcs, ?_⟩⟩
    · rw [List.length_take, h.1]
      exact Nat.min_eq_left (Nat.mul_le_mul_right _ hi)
    · rw [← htake, List.take_take]
      congr 1
      exact (Nat.min_eq_left (Nat.mul_le_mul_right _ hi)).symm
theorem row_setCells {base size : Nat} {e : TypeId} {g k c : Nat} {xs : List Value} : ∀ (vs : List Value) (o : Nat) (W : World), W.ownsRow base e size (.slice (some ⟨g, 0, none⟩) k c) k xs → k * size ≤ o → (W.setCells g o vs).ownsRow base e size (.slice (some ⟨g, 0, none⟩) k c) k xs ∧ W.grownBy (W.setCells g o vs) (some g)
  | [], _, _, h, _ => ⟨h, grown_refl _ _⟩
  | v :: r, o, W, h, ho => by
    obtain ⟨h1, h2⟩ := h.stored o v
    rw [List.set_eq_of_length_le (by rw [h.1]; exact ho)] at h1
    obtain ⟨h3, h4⟩ := row_setCells r (o + 1) _ h1 (by omega)
    exact ⟨h3, grown_trans h2 h4⟩

/-- What a net's calls leave as it is: all but nets, rows of packets and rows of pairs. -/
structure NKeep (w w' : World) : Prop where
  os : w'.os = w.os
  tape : w'.tape = w.tape
  output : w'.output = w.output
  size : w.heap.size ≤ w'.heap.size
  keep : ∀ (k : Nat) (cs : Array Value) (t : TypeId), w.heap[k]? = some (Obj.cells cs t (0, 0)) → t ≠ 99 → t ≠ 22 → t ≠ 102 → w'.heap[k]? = some (Obj.cells cs t (0, 0))
theorem NKeep.refl (w : World) : NKeep w w := ⟨rfl, rfl, rfl, Nat.le_refl _, fun _ _ _ h _ _ _ => h⟩
theorem NKeep.trans {a b c : World} (h : NKeep a b) (k : NKeep b c) : NKeep a c :=
  ⟨k.os.trans h.os, k.tape.trans h.tape, k.output.trans h.output, Nat.le_trans h.size k.size, fun i cs t h0 h1 h2 h3 => k.keep i cs t (h.keep i cs t h0 h1 h2 h3) h1 h2 h3⟩
theorem NKeep.of {w w' : World} (h : Below w.heap.size w w') : NKeep w w' :=
  ⟨h.os, h.tape, h.output, h.size, fun k cs t h0 _ _ _ => (h.block k (Array.getElem?_eq_some_iff.1 h0).1).trans h0⟩
theorem NKeep.row {w w' : World} {g : Nat} {cs : Array Value} {t : TypeId} (h : w.grownBy w' (some g)) (hg : w.heap[g]? = some (.cells cs t (0, 0))) (ht : t = 99 ∨ t = 22 ∨ t = 102) : NKeep w w' :=
  ⟨h.os, h.tape, h.output, h.size, fun k cs' t' h0 h1 h2 h3 => by
    by_cases e : k = g
    · subst e
      rw [hg] at h0
      injection h0 with h0
      injection h0 with _ h0
      subst h0
      rcases ht with rfl | rfl | rfl
      · exact absurd rfl h1
      · exact absurd rfl h2
      · exact absurd rfl h3
    · exact (h.block k (Array.getElem?_eq_some_iff.1 h0).1 (by intro q; injection q with q; exact e q)).trans h0⟩
theorem Blk.nkeep {w w' : World} {b : Nat} {t : TypeId} {cs : Array Value} (h : Blk w b t cs) (k : NKeep w w') (h1 : t ≠ 99) (h2 : t ≠ 22) (h3 : t ≠ 102) : Blk w' b t cs := k.keep b cs t h h1 h2 h3
theorem row_nkeep {w w' : World} {base size n : Nat} {t : TypeId} {v : Value} {xs : List Value} (h : w.ownsRow base t size v n xs) (k : NKeep w w') (h1 : t ≠ 99) (h2 : t ≠ 22) (h3 : t ≠ 102) : w'.ownsRow base t size v n xs := by
  refine ⟨h.1, ?_⟩
  rcases h.2 with hn | ⟨g, cap, cur, e1, hb, hg, rest⟩
  · exact .inl hn
  · exact .inr ⟨g, cap, cur, e1, hb, k.keep g cur t hg h1 h2 h3, rest⟩
theorem row_block {w : World} {base size n : Nat} {t : TypeId} {g k c : Nat} {xs : List Value} (h : w.ownsRow base t size (.slice (some ⟨g, 0, none⟩) k c) n xs) : ∃ cur, w.heap[g]? = some (.cells cur t (0, 0)) := by
  rcases h.2 with ⟨hn, _⟩ | ⟨g', cap, cur, e1, hb, hg, rest⟩
  · cases hn
  · cases e1
    exact ⟨cur, hg⟩
/-- Blocks of unlike types are unlike. -/
theorem blk_ne {w : World} {a b : Nat} {t u : TypeId} {cs ds : Array Value} (h : w.heap[a]? = some (.cells cs t (0, 0))) (k : w.heap[b]? = some (.cells ds u (0, 0))) (hne : t ≠ u) : a ≠ b := by
  intro e
  subst e
  rw [h] at k
  injection k with k
  injection k with _ k
  exact hne k
theorem row_keep {w w' : World} {base size n : Nat} {t u : TypeId} {v : Value} {xs : List Value} {g : Nat} {cs : Array Value} (h : w.ownsRow base t size v n xs) (hg : w.grownBy w' (some g)) (hb : w.heap[g]? = some (.cells cs u (0, 0))) (hne : t ≠ u) : w'.ownsRow base t size v n xs := by
  refine ⟨h.1, ?_⟩
  rcases h.2 with hn | ⟨g', cap, cur, e1, hbb, hgg, rest⟩
  · exact .inl hn
  · exact .inr ⟨g', cap, cur, e1, hbb, (hg.block g' (Array.getElem?_eq_some_iff.1 hgg).1 (by intro q; injection q with q; exact blk_ne hgg hb hne q)).trans hgg, rest⟩

/-- A message that a net may carry. -/
structure MV (m : MsgR) : Prop where
  hl : m.l.length = m.n
  hi : m.id < 18446744073709551616
  hk : m.key < 18446744073709551616
  hc : m.ck < 4294967296
  hq : mchk m = 0
  hn : m.n ≤ 4096
/-- A packet: where its bytes stand, and of what message. -/
structure Pk where
  g : Nat
  cap : Nat
  m : MsgR
def Pk.val (p : Pk) : Value := .slice (some ⟨p.g, 0, none⟩) (msLen p.m + 4) p.cap
def PkOk (W : World) (p : Pk) : Prop := MV p.m ∧ msLen p.m + 4 ≤ p.cap ∧ ∃ base, W.ownsRow base 5 1 p.val (msLen p.m + 4) ((msBytes p.m).map bv)
theorem PkOk.nkeep {w w' : World} {p : Pk} (h : PkOk w p) (k : NKeep w w') : PkOk w' p := by
  obtain ⟨h1, h2, b, h3⟩ := h
  exact ⟨h1, h2, b, row_nkeep h3 k (by decide) (by decide) (by decide)⟩
def flatC : List (Int × Int) → List Value
  | [] => []
  | q :: r => .int .i64 q.1 :: .int .i64 q.2 :: flatC r
theorem flatC_length : ∀ C : List (Int × Int), (flatC C).length = C.length * 2
  | [] => rfl
  | q :: r => by rw [flatC, List.length_cons, List.length_cons, flatC_length r, List.length_cons]; omega
theorem flatC_append : ∀ C E : List (Int × Int), flatC (C ++ E) = flatC C ++ flatC E
  | [], _ => rfl
  | q :: r, E => by rw [List.cons_append, flatC, flatC, flatC_append r E]; rfl
theorem flatC_take : ∀ (C : List (Int × Int)) (i : Nat), flatC (C.take i) = (flatC C).take (i * 2)
  | [], i => by simp [flatC]
  | q :: r, 0 => rfl
  | q :: r, i + 1 => by rw [List.take_succ_cons, flatC, flatC, flatC_take r i, show (i + 1) * 2 = i * 2 + 1 + 1 from by omega, List.take_succ_cons, List.take_succ_cons]
theorem flatC_at : ∀ (C : List (Int × Int)) (i : Nat), i < C.length → (flatC C)[i * 2]? = some (.int .i64 (C.getD i (0, 0)).1) ∧ (flatC C)[i * 2 + 1]? = some (.int .i64 (C.getD i (0, 0)).2)
  | [], i, h => absurd h (Nat.not_lt_zero _)
  | q :: r, 0, h => ⟨rfl, rfl⟩
  | q :: r, i + 1, h => by
    rw [show (i + 1) * 2 = i * 2 + 1 + 1 from by omega]
    exact flatC_at r i (by simpa using h)
theorem flatC_set : ∀ (C : List (Int × Int)) (i : Nat) (q : Int × Int), ((flatC C).set (i * 2) (.int .i64 q.1)).set (i * 2 + 1) (.int .i64 q.2) = flatC (C.set i q)
  | [], i, q => by simp [flatC]
  | p :: r, 0, q => rfl
  | p :: r, i + 1, q => by
    rw [show (i + 1) * 2 = i * 2 + 1 + 1 from by omega, flatC, List.set_cons_succ, List.set_cons_succ, List.set_cons_succ, List.set_cons_succ, List.set_cons_succ, flatC_set r i q, flatC]
/-- A net in memory: its packets, its pairs; base: where its own blocks begin. -/
def NetR (W : World) (N base : Nat) (P : List Pk) (C : List (Int × Int)) : Prop :=
  ∃ la lc ca cc, Blk W N 99 #[.slice la P.length lc, .slice ca C.length cc] ∧ W.ownsRow base 22 1 (.slice la P.length lc) P.length (P.map Pk.val) ∧ W.ownsRow base 102 2 (.slice ca C.length cc) C.length (flatC C) ∧ base ≤ N ∧ (∀ p ∈ P, PkOk W p) ∧ P.length ≤ 4096
theorem row_below {w w' : World} {B base size : Nat} {e : TypeId} {v : Value} {k : Nat} {xs : List Value} (h : w.ownsRow base e size v k xs) (hb : Below B w w') (hB : w.heap.size ≤ B) : w'.ownsRow base e size v k xs := by
  refine ⟨h.1, ?_⟩
  rcases h.2 with h2 | ⟨g, cap, cur, e1, e2, e3, e4⟩
  · exact .inl h2
  · exact .inr ⟨g, cap, cur, e1, e2, (hb.block g (Nat.lt_of_lt_of_le (Array.getElem?_eq_some_iff.1 e3).1 hB)).trans e3, e4⟩
theorem NetR.below {W W' : World} {N base : Nat} {P : List Pk} {C : List (Int × Int)} (h : NetR W N base P C) (B : Below W.heap.size W W') : NetR W' N base P C := by
  obtain ⟨la, lc, ca, cc, h1, h2, h3, h4, h5, h6⟩ := h
  exact ⟨la, lc, ca, cc, h1.below B h1.lt, row_below h2 B (Nat.le_refl _), row_below h3 B (Nat.le_refl _), h4, fun p hp => (h5 p hp).nkeep (.of B), h6⟩
def netAt (P : List Pk) (i : Int) : MsgR × Nat := if 0 ≤ i ∧ i < P.length then ((P.getD i.toNat ⟨0, 0, mNone⟩).m.bare, 0) else (mNone, 6)
/-- A message handed back, with its own row. -/
def NGot (q : MsgR × Nat) (w : World) (e : Ending) (w' : World) : Prop :=
  Below w.heap.size w w' ∧ ∃ a c, e = .returned (.tuple #[MsgR.vals { q.1 with a := a, c := c }, errc q.2]) ∧ q.1.n = q.1.l.length ∧ q.1.n ≤ c ∧ w'.ownsRow w.heap.size 5 1 (.slice a q.1.n c) q.1.n (q.1.l.map bv)
theorem ngot_none {w w' : World} (cf : Nat) (B : Below w.heap.size w w') : NGot (mNone, cf) w (.returned (.tuple #[.agg #[.int .i64 0, .int .i64 0, .int .i64 0, .int .i64 0, .int .i64 0, .int .u64 0, .int .i64 0, .bool false, .int .u64 0, .int .u32 0, .bool false, .slice none 0 0], errc cf])) w' := ⟨B, none, 0, rfl, rfl, Nat.le_refl _, rfl, .inl ⟨rfl, rfl⟩⟩

theorem new_any (w : World) : Calls Try.prog 25 #[] w fun e w' => e = .returned (.pointer (some ⟨w.heap.size, 0, none⟩)) ∧ w' = w.alloc (.cells #[.slice none 0 0, .slice none 0 0] 99) := by
  go_enter Try.func25, Try.ntmps25
  go_wp2_with fail
  go_ret
  exact ⟨rfl, rfl⟩
theorem new_net (w : World) : NetR (w.alloc (.cells #[.slice none 0 0, .slice none 0 0] 99)) w.heap.size w.heap.size [] [] :=
  ⟨none, 0, none, 0, Blk.made w _ _, ⟨rfl, .inl ⟨rfl, rfl⟩⟩, ⟨rfl, .inl ⟨rfl, rfl⟩⟩, Nat.le_refl _, (fun _ h => nomatch h), Nat.zero_le _⟩
theorem len_any {w : World} {N base : Nat} {P : List Pk} {C : List (Int × Int)} (h : NetR w N base P C) : Calls Try.prog 32 #[.pointer (some ⟨N, 0, none⟩)] w fun e w' => e = .returned (.int .i64 (P.length : Int)) ∧ w = w' := by
  obtain ⟨la, lc, ca, cc, h1, -⟩ := h
  have c0 := h1.cell 0
  clear h1
  go_enter Try.func32, Try.ntmps32
  go_wp2_with fail
  go_ret
  exact ⟨rfl, rfl⟩
def pMin (a b : Int) : Int := if a ≤ b then a else b
def pMax (a b : Int) : Int := if a ≤ b then b else a
theorem order_results {W : World} {B : Nat} {v0 v1 : Value} {a : Act} (h : Blk W B 102 #[v0, v1]) (h2 : a.tmps[4]?.getD undef = .pointer (some ⟨B, 0, none⟩)) :
    (results Try.f53 a.tmps).run Try.prog W = .ok (.agg #[v0, v1]) W := by
  have k0 := h.cell 0
  have k1 := h.cell 1
  simp [results, Try.results53, go_sem, h2, k0, k1]
theorem order_any (a b : Int) (w : World) : Calls Try.prog 53 #[.int .i64 a, .int .i64 b] w fun e w' => e = .returned (.agg #[.int .i64 (pMin a b), .int .i64 (pMax a b)]) ∧ Below w.heap.size w w' := by
  rcases Int.lt_trichotomy a b with h | h | h
  · rw [show pMin a b = a from if_pos (by omega), show pMax a b = b from if_pos (by omega)]
    have h1 : a ≤ b := by omega
    have h2 : ¬ b ≤ a := by omega
    have B := Lib.hid ((Below.refl w.heap.size w).alloc (Nat.le_refl _) (.cells #[.int .i64 a, .int .i64 b] 102))
    go_enter Try.func53, Try.ntmps53
    go_wp2_with fail
    exact bodyPost_ret (order_results (Blk.made w _ _) rfl) rfl ⟨rfl, B.out⟩
  · subst h
    rw [show pMin a a = a from if_pos (by omega), show pMax a a = a from if_pos (by omega)]
    have B := Lib.hid ((Below.refl w.heap.size w).alloc (Nat.le_refl _) (.cells #[.int .i64 a, .int .i64 a] 102))
    go_enter Try.func53, Try.ntmps53
    go_wp2_with fail
    exact bodyPost_ret (order_results (Blk.made w _ _) rfl) rfl ⟨rfl, B.out⟩
  · rw [show pMin a b = b from if_neg (by omega), show pMax a b = a from if_neg (by omega)]
    have h1 : ¬ a ≤ b := by omega
    have h2 : b ≤ a := by omega
    have B := Lib.hid ((Below.refl w.heap.size w).alloc (Nat.le_refl _) (.cells #[.int .i64 b, .int .i64 a] 102))
    go_enter Try.func53, Try.ntmps53
    go_wp2_with fail
    exact bodyPost_ret (order_results (Blk.made w _ _) rfl) rfl ⟨rfl, B.out⟩
theorem at_results {W : World} {B : Nat} {v0 v1 v2 v3 v4 v5 v6 v7 v8 v9 v10 v11 : Value} {a : Act} {e : Value} (h : Blk W B 29 #[v0, v1, v2, v3, v4, v5, v6, v7, v8, v9, v10, v11]) (h2 : a.tmps[4]?.getD undef = .pointer (some ⟨B, 0, none⟩)) (h3 : a.tmps[5]?.getD undef = e) :
    (results Try.f54 a.tmps).run Try.prog W = .ok (.tuple #[.agg #[v0, v1, v2, v3, v4, v5, v6, v7, v8, v9, v10, v11], e]) W := by
  obtain ⟨k0, k1, k2, k3, k4, k5, k6, k7, k8, k9, k10, k11⟩ := h.twelve
  simp [results, Try.results54, go_sem, h2, h3, k0, k1, k2, k3, k4, k5, k6, k7, k8, k9, k10, k11]
set_option maxRecDepth 100000 in
set_option maxHeartbeats 1000000 in
theorem at_nil (i : Int) (w : World) : Calls Try.prog 54 #[.pointer none, .int .i64 i] w (NGot (mNone, 15) w) := by
  have HK := Lib.hid (Blk.made w 29 #[.int .i64 0, .int .i64 0, .int .i64 0, .int .i64 0, .int .i64 0, .int .u64 0, .int .i64 0, .bool false, .int .u64 0, .int .u32 0, .bool false, .slice none 0 0])
  have HB := Lib.hid ((Below.refl w.heap.size w).alloc (Nat.le_refl _) (.cells #[.int .i64 0, .int .i64 0, .int .i64 0, .int .i64 0, .int .i64 0, .int .u64 0, .int .i64 0, .bool false, .int .u64 0, .int .u32 0, .bool false, .slice none 0 0] 29))
  go_enter Try.func54, Try.ntmps54
  go_upto_region 1 with fail
  generalize (w.alloc (.cells #[.int .i64 0, .int .i64 0, .int .i64 0, .int .i64 0, .int .i64 0, .int .u64 0, .int .i64 0, .bool false, .int .u64 0, .int .u32 0, .bool false, .slice none 0 0] 29)) = W1 at *
  obtain ⟨k0, k1, k2, k3, k4, k5, k6, k7, k8, k9, k10, k11⟩ := HK.out.twelve
  obtain ⟨f0, f1, f2, f3, f4, f5, f6, f7, f8, f9, f10, f11⟩ := HK.out.twelve_frozen
  go_wp2_with fail
  exact bodyPost_ret (at_results (HK.out.put12 _ _ _ _ _ _ _ _ _ _ _ _) rfl rfl) rfl (ngot_none 15 (below_put12 HB.out (Nat.le_refl _) _ _ _ _ _ _ _ _ _ _ _ _))
set_option maxRecDepth 100000 in
set_option maxHeartbeats 4000000 in
theorem at_any {N base : Nat} {P : List Pk} {C : List (Int × Int)} (i : Int) (w : World) (h : NetR w N base P C) : Calls Try.prog 54 #[.pointer (some ⟨N, 0, none⟩), .int .i64 i] w (NGot (netAt P i) w) := by
  have HK := Lib.hid (Blk.made w 29 #[.int .i64 0, .int .i64 0, .int .i64 0, .int .i64 0, .int .i64 0, .int .u64 0, .int .i64 0, .bool false, .int .u64 0, .int .u32 0, .bool false, .slice none 0 0])
  have BA := (Below.refl w.heap.size w).alloc (Nat.le_refl _) (.cells #[.int .i64 0, .int .i64 0, .int .i64 0, .int .i64 0, .int .i64 0, .int .u64 0, .int .i64 0, .bool false, .int .u64 0, .int .u32 0, .bool false, .slice none 0 0] 29)
  have HR := Lib.hid (h.below BA)
  have HB := Lib.hid BA
  clear BA
  by_cases h0 : i < 0
  · have HN := Lib.hid (show netAt P i = (mNone, 6) from if_neg (by omega))
    rw [HN.out]
    go_enter Try.func54, Try.ntmps54
    go_upto_region 1 with fail
    generalize (w.alloc (.cells #[.int .i64 0, .int .i64 0, .int .i64 0, .int .i64 0, .int .i64 0, .int .u64 0, .int .i64 0, .bool false, .int .u64 0, .int .u32 0, .bool false, .slice none 0 0] 29)) = W1 at *
    obtain ⟨k0, k1, k2, k3, k4, k5, k6, k7, k8, k9, k10, k11⟩ := HK.out.twelve
    obtain ⟨f0, f1, f2, f3, f4, f5, f6, f7, f8, f9, f10, f11⟩ := HK.out.twelve_frozen
    go_wp2_with fail
    exact bodyPost_ret (at_results (HK.out.put12 _ _ _ _ _ _ _ _ _ _ _ _) rfl rfl) rfl (ngot_none 6 (below_put12 HB.out (Nat.le_refl _) _ _ _ _ _ _ _ _ _ _ _ _))
  by_cases h1 : (P.length : Int) ≤ i
  · have HN := Lib.hid (show netAt P i = (mNone, 6) from if_neg (by omega))
    rw [HN.out]
    go_enter Try.func54, Try.ntmps54
    go_upto_region 1 with fail
    generalize (w.alloc (.cells #[.int .i64 0, .int .i64 0, .int .i64 0, .int .i64 0, .int .i64 0, .int .u64 0, .int .i64 0, .bool false, .int .u64 0, .int .u32 0, .bool false, .slice none 0 0] 29)) = W1 at *
    obtain ⟨la, lc, ca, cc, hN, -⟩ := HR.out
    have c0 := hN.cell 0
    clear hN
    obtain ⟨k0, k1, k2, k3, k4, k5, k6, k7, k8, k9, k10, k11⟩ := HK.out.twelve
    obtain ⟨f0, f1, f2, f3, f4, f5, f6, f7, f8, f9, f10, f11⟩ := HK.out.twelve_frozen
    go_wp2_with fail
    exact bodyPost_ret (at_results (HK.out.put12 _ _ _ _ _ _ _ _ _ _ _ _) rfl rfl) rfl (ngot_none 6 (below_put12 HB.out (Nat.le_refl _) _ _ _ _ _ _ _ _ _ _ _ _))
  obtain ⟨j, rfl⟩ := Int.eq_ofNat_of_zero_le (show 0 ≤ i by omega)
  have hj : j < P.length := by omega
  obtain ⟨p, hp⟩ : ∃ p, P.getD j ⟨0, 0, mNone⟩ = p := ⟨_, rfl⟩
  have HN := Lib.hid (show netAt P j = (p.m.bare, 0) from by unfold netAt; rw [if_pos (by omega), ← hp]; rfl)
  rw [HN.out]
  have hpg : P[j]? = some p := by
    rw [List.getElem?_eq_getElem hj]
    simp only [List.getD, List.getElem?_eq_getElem hj, Option.getD_some] at hp
    rw [hp]
  obtain ⟨hv, hcap, bp, hro⟩ := (show PkOk w p from by
    obtain ⟨_, _, _, _, -, -, -, -, h5, -⟩ := h
    exact h5 p (List.mem_of_getElem? hpg))
  have hlk : msLen p.m + 4 ≤ 10000 := by unfold msLen padn; have := hv.hn; split <;> omega
  have HRO := Lib.hid (own_below hro ((Below.refl w.heap.size w).alloc (Nat.le_refl _) (.cells #[.int .i64 0, .int .i64 0, .int .i64 0, .int .i64 0, .int .i64 0, .int .u64 0, .int .i64 0, .bool false, .int .u64 0, .int .u32 0, .bool false, .slice none 0 0] 29)) (Nat.le_refl _))
  have HG := Lib.hid (msGet_bytes p.m hv.hl hv.hi hv.hk hv.hc hv.hq)
  have HLN := Lib.hid (show p.m.n = p.m.l.length from hv.hl.symm)
  clear hro hp h hv
  go_enter Try.func54, Try.ntmps54
  go_upto_region 1 with fail
  generalize (w.alloc (.cells #[.int .i64 0, .int .i64 0, .int .i64 0, .int .i64 0, .int .i64 0, .int .u64 0, .int .i64 0, .bool false, .int .u64 0, .int .u32 0, .bool false, .slice none 0 0] 29)) = W1 at *
  obtain ⟨la, lc, ca, cc, hN, hL, -, -, -, -⟩ := HR.out
  have c0 := hN.cell 0
  obtain ⟨lg, rfl, hcl, hnl⟩ : ∃ lg, la = some ⟨lg, 0, none⟩ ∧ W1.cell? ⟨lg, j, none⟩ = some p.val ∧ P.length ≤ lc := by
    rcases hL.2 with ⟨e1, e2⟩ | ⟨g, cap, cur, e1, e2, e3, e4, e5, e6, e7⟩
    · omega
    · cases e1
      refine ⟨g, rfl, ?_, e4⟩
      rw [cell_of_row W1 g j cur _ (0, 0) e3]
      have h8 : (cur.toList.take (P.length * 1))[j]? = some p.val := by rw [e7, List.getElem?_map, hpg]; rfl
      rw [List.getElem?_take, if_pos (by omega), Array.getElem?_toList] at h8
      exact h8
  unfold Pk.val at hcl HRO
  have ER := Lib.hid (wread_any (some ⟨p.g, 0, none⟩) (msLen p.m + 4) p.cap (msBytes p.m) W1 (bsl_own HRO.out) hcap (by omega))
  generalize msLen p.m + 4 = k at *
  clear hN hL hpg HRO
  have hd0 : decide ((j : Int) < 0) = false := decide_eq_false (by omega)
  have hd1 : decide ((P.length : Int) ≤ (j : Int)) = false := decide_eq_false (by omega)
  go_wp2_with fail
  refine ER.out.mono ?_
  intro e w5 hms
  obtain ⟨B5, a1, c1, rfl, -, hc1, ho5⟩ := hms.is HG.out
  rw [show MsgR.vals { p.m.bare with a := a1, c := c1 } = .agg #[.int .i64 p.m.fr, .int .i64 p.m.tt, .int .i64 p.m.kd, .int .i64 p.m.vol, .int .i64 p.m.life, .int .u64 p.m.id, .int .i64 p.m.cd, .bool p.m.has, .int .u64 p.m.key, .int .u32 p.m.ck, .bool p.m.g, .slice a1 p.m.n c1] from rfl]
  have HK5 := Lib.hid (HK.out.below B5 HK.out.lt)
  have HB5 := Lib.hid (HB.out.trans (B5.mono HB.out.size))
  have HO5 := Lib.hid ho5
  have HZ := Lib.hid (show w.heap.size < W1.heap.size from HK.out.lt)
  have HC1 := Lib.hid hc1
  clear hms B5 ho5 hc1
  obtain ⟨k0, k1, k2, k3, k4, k5, k6, k7, k8, k9, k10, k11⟩ := HK5.out.twelve
  obtain ⟨f0, f1, f2, f3, f4, f5, f6, f7, f8, f9, f10, f11⟩ := HK5.out.twelve_frozen
  go_wp2_with fail
  exact bodyPost_ret (at_results (HK5.out.put12 _ _ _ _ _ _ _ _ _ _ _ _) rfl rfl) rfl ⟨below_put12 HB5.out (Nat.le_refl _) _ _ _ _ _ _ _ _ _ _ _ _, a1, c1, rfl, HLN.out, HC1.out, row_base (row_far HO5.out (grown_put12 (grown_refl _ _) _ _ _ _ _ _ _ _ _ _ _ _) HZ.out) (Nat.le_of_lt HZ.out)⟩
theorem info_bt : (Try.prog.info? 22).map (fun i => (i.zero, i.size, i.bytes)) = some (some (.slice none 0 0), 1, 24) := by kernel_rfl
theorem info_bt_parts : ∃ i, Try.prog.info? 22 = some i ∧ i.zero = some (.slice none 0 0) ∧ i.size = 1 ∧ i.bytes = 24 := info_parts info_bt
theorem cut_row {W : World} {base g k c : Nat} {xs : List Value} (h : W.ownsRow base 22 1 (.slice (some ⟨g, 0, none⟩) k c) k xs) (p : Nat) (hp : p ≤ k) :
    ∃ a', (∀ (x : Int) (W' : World), x = p → (Instr.slice 96 (.slice (some ⟨g, 0, none⟩) k c) (some (.int .i64 x)) none none).run Try.prog W' = .ok (.slice (some a') (k - p) (c - p)) W') ∧
      ∀ j u, (xs.drop p)[j]? = some u → W.cell? (a'.add j) = some u := by
  have hs : ∀ W, (sizeOf (Try.prog.elem 96)).run Try.prog W = .ok 1 W := fun W => by kernel_rfl
  have hu : Try.prog.underlying 96 = some (.slice (Try.prog.elem 96)) := by kernel_rfl
  rcases h.2 with ⟨h', _⟩ | ⟨g', cap', cur, h', hb, hg, hnc, hcm, hcs, htake⟩
  · cases h'
  · cases h'
    by_cases hcp : c = p
    · refine ⟨⟨g, 0, none⟩, fun x W' hx => ?_, fun j u hj => ?_⟩
      · subst hx
        rw [run_slice_l _ _ _ _ _ hu _ _ (by omega) (by omega)]
        simp only [hs, sliced, Result.andThen_ok, Nat.mul_one, Int.toNat_natCast]
        rw [if_pos hcp]
      · rw [List.getElem?_eq_none (by rw [List.length_drop, h.1]; omega)] at hj
        cases hj
    · refine ⟨⟨g, p, none⟩, fun x W' hx => ?_, fun j u hj => ?_⟩
      · subst hx
        rw [run_slice_l _ _ _ _ _ hu _ _ (by omega) (by omega)]
        simp only [hs, sliced, Result.andThen_ok, Nat.mul_one, Int.toNat_natCast]
        rw [if_neg hcp]
        simp [Addr.add_lit]
      · rw [Addr.add_lit, cell_of_row W g (p + j) cur _ (0, 0) hg]
        rw [List.getElem?_drop, ← htake, List.getElem?_take] at hj
        split at hj
        · rwa [Array.getElem?_toList] at hj
        · cases hj
set_option maxRecDepth 100000 in
set_option maxHeartbeats 1000000 in
theorem del_any {base g r c : Nat} {xs : List Value} (i : Nat) (w : World) (ho : w.ownsRow base 22 1 (.slice (some ⟨g, 0, none⟩) (r + 1) c) (r + 1) xs) (hi : i ≤ r) (hr : r ≤ 5000) (h1 : ∀ u ∈ xs, u.oneCell' = true) :
    Calls Try.prog 55 #[.slice (some ⟨g, 0, none⟩) (r + 1) c, .int .i64 i, .int .i64 ((i : Int) + 1)] w fun e w' => e = .returned (.slice (some ⟨g, 0, none⟩) r c) ∧ w'.ownsRow base 22 1 (.slice (some ⟨g, 0, none⟩) r c) r (xs.eraseIdx i) ∧ w.grownBy w' (some g) := by
  have hc : r + 1 ≤ c := by
    rcases ho.2 with ⟨h', _⟩ | ⟨g', cap', cur, h', hb, hg, hnc, hcm, hcs, htake⟩
    · cases h'
    · cases h'; exact hnc
  have hcm : c ≤ 9223372036854775807 := by
    rcases ho.2 with ⟨h', _⟩ | ⟨g', cap', cur, h', hb, hg, hnc, hcm, hcs, htake⟩
    · cases h'
    · cases h'; exact hcm
  have hlen := ho.1
  obtain ⟨i0, hi0, hz0, hz1, hz2⟩ := info_bt_parts
  obtain ⟨a', hs25', hcell⟩ := cut_row ho (i + 1) (by omega)
  have hs25 := fun W => hs25' ((i : Int) + 1) W (by omega)
  rw [show r + 1 - (i + 1) = r - i from by omega] at hs25
  obtain ⟨W2, hrun, ho2, hg2⟩ := run_append_fits (P := Try.prog) w.drew base 96 96 22 i0 1 Try.underlying96 hi0 hz1 g i c (xs.take i) (by have := row_cut ho i (by omega); rw [Nat.mul_one] at this; exact this) a' (r - i) (c - (i + 1)) (xs.drop (i + 1)) (by rw [List.length_drop, hlen]; omega) hcell (fun u hu => h1 u (List.mem_of_mem_drop hu)) (by omega)
  rw [show i + (r - i) = r from by omega, ← List.eraseIdx_eq_take_drop_succ] at ho2
  rw [show i + (r - i) = r from by omega] at hrun
  obtain ⟨h3, h4⟩ := row_setCells [.slice none 0 0] r W2 ho2 (by omega)
  have hg3 : w.grownBy W2 (some g) := ⟨hg2.os, hg2.tape, hg2.output, hg2.size, hg2.block⟩
  have H3 := Lib.hid h3
  have H4 := Lib.hid (grown_trans hg3 h4)
  have hs31 : ∀ W : World, (Instr.slice 96 (.slice (some ⟨g, 0, none⟩) r c) (some (.int .i64 (r : Int))) (some (.int .i64 ((r : Int) + 1))) none).run Try.prog W = .ok (.slice (some ⟨g, r, none⟩) 1 (c - r)) W := fun W => by
    have hs : ∀ W, (sizeOf (Try.prog.elem 96)).run Try.prog W = .ok 1 W := fun W => by kernel_rfl
    have hu : Try.prog.underlying 96 = some (.slice (Try.prog.elem 96)) := by kernel_rfl
    rw [run_slice_lh _ _ _ _ _ hu _ _ _ _ (by omega) (by omega) (by omega)]
    simp only [hs, sliced, Result.andThen_ok, Nat.mul_one, Int.toNat_natCast]
    rw [if_neg (by omega), show ((r : Int) + 1).toNat - r = 1 from by omega]
    simp [Addr.add_lit]
  have hcell2 : ∀ j, j < 1 → (W2.cell? ⟨g, r + j, none⟩).isSome = true := by
    intro j hj
    obtain rfl : j = 0 := by omega
    rcases ho2.2 with ⟨h', _⟩ | ⟨g', cap', cur, h', hb, hg, hnc, hcm, hcs, htake⟩
    · cases h'
    · cases h'
      rw [cell_of_row W2 g (r + 0) cur _ (0, 0) hg, Array.getElem?_eq_getElem (by omega)]
      rfl
  have hfr2 : ∀ j, j < 1 → W2.frozen? ⟨g, r + j, none⟩ = false := fun j hj => ho2.frozenAt _
  have hclr : ∀ ty, (Builtin.clear_ #[96] ty #[.slice (some ⟨g, r, none⟩) 1 (c - r)]).run Try.prog W2 = .ok (.tuple #[]) (W2.setCells g r [.slice none 0 0]) := fun ty =>
    Lib.run_clear_slice W2 96 22 ty (.slice none 0 0) Try.underlying96 (fun W => by kernel_rfl) rfl rfl g r 1 (c - r) (by decide) hcell2 hfr2
  clear ho2 hg2 hg3 h3 h4 hcell2 hfr2 hi0 hz0 hz1 hz2 hcell hs25' ho h1 hlen
  have hic : i ≤ c := by omega
  have hne : ((i : Int) == (i : Int) + 1) = false := by rw [beq_eq_false_iff_ne]; omega
  go_enter Try.func55, Try.ntmps55
  go_upto_region 5 with fail
  refine wp_region_any (by kernel_rfl) ?_
  change wpAny _ _ _ _ _ _ _ (World.drew _)
  refine wpAny_take (i := 0) (v := ?_) rfl (by kernel_rfl) (by kernel_rfl) (by kernel_rfl) (fun _ _ _ h => h) (Or.inl ⟨by kernel_rfl, ?_⟩) ?_
  rotate_left
  · intro w; go_simp; try with_reducible rfl
  refine wpAny_take (i := 1) (v := ?_) rfl (by kernel_rfl) (by kernel_rfl) (by kernel_rfl) (fun _ _ _ h => h) (Or.inl ⟨by kernel_rfl, ?_⟩) ?_
  rotate_left
  · intro w; go_simp; try with_reducible rfl
  refine wpAny_take (i := 2) (v := ?_) rfl (by kernel_rfl) (by kernel_rfl) (by kernel_rfl) (fun _ _ _ h => h) (Or.inl ⟨by kernel_rfl, ?_⟩) ?_
  rotate_left
  · intro w; go_simp; try with_reducible rfl
  refine wpAny_take (i := 3) (v := ?_) rfl (by kernel_rfl) (by kernel_rfl) (by kernel_rfl) (fun _ _ _ h => h) (Or.inl ⟨by kernel_rfl, ?_⟩) ?_
  rotate_left
  · intro w; go_simp; try with_reducible rfl
  refine wpAny_take (i := 4) (v := ?_) rfl (by kernel_rfl) (by kernel_rfl) (by kernel_rfl) (fun _ _ _ h => h) (Or.inl ⟨by kernel_rfl, ?_⟩) ?_
  rotate_left
  · intro w; go_simp; try with_reducible rfl
  refine wpAny_take (i := 5) (v := ?_) rfl (by kernel_rfl) (by kernel_rfl) (by kernel_rfl) (fun _ _ _ h => h) (Or.inl ⟨by kernel_rfl, ?_⟩) ?_
  rotate_left
  · intro w; go_simp; try with_reducible rfl
  refine wpAny_ready (rs := [6]) (by kernel_rfl) (by simp) ?_
  refine AllReady.cons (i := 6) rfl ?_ AllReady.nil
  intro K hK
  refine step_run_g (by kernel_rfl) _ _ (by rfl) (by rfl) (by rfl) hrun ?_
  refine hK _ _ ?_
  clear hK K
  refine wpAny_take (i := 7) (v := ?_) rfl (by kernel_rfl) (by kernel_rfl) (by kernel_rfl) (fun _ _ _ h => h) (Or.inl ⟨by kernel_rfl, ?_⟩) ?_
  rotate_left
  · intro w; go_simp; try with_reducible rfl
  refine wpAny_done (by kernel_rfl) ?_ _
  go_simp
  clear hrun hs25
  go_wp2_with fail
  go_ret
  exact ⟨rfl, H3.out, H4.out⟩
theorem own_nkeep {W W2 : World} {base size n : Nat} {t : TypeId} {v : Value} {xs : List Value} (h : W.ownsRow base t size v n xs) (hg : W.grownBy W2 v.ownBlock) (ht : t = 22 ∨ t = 102) : NKeep W W2 := by
  rcases h.2 with ⟨rfl, _⟩ | ⟨g, cap, cur, rfl, hb, hgg, rest⟩
  · exact ⟨hg.os, hg.tape, hg.output, hg.size, fun k cs t h0 _ _ _ => (hg.block k (Array.getElem?_eq_some_iff.1 h0).1 (fun e => by cases e)).trans h0⟩
  · exact NKeep.row hg hgg (.inr ht)
theorem own_below' {W W2 : World} {base size n : Nat} {t : TypeId} {v : Value} {xs : List Value} (h : W.ownsRow base t size v n xs) (hg : W.grownBy W2 v.ownBlock) (hb : base ≤ W.heap.size) : Below base W W2 :=
  (Below.refl base W).grown hg hb (fun k e => (h.lt k e).1)
theorem own_blk {W W2 : World} {base size n : Nat} {t u : TypeId} {v : Value} {xs : List Value} {b : Nat} {cs : Array Value} (h : W.ownsRow base t size v n xs) (hg : W.grownBy W2 v.ownBlock) (k : Blk W b u cs) (hne : u ≠ t) : Blk W2 b u cs := by
  rcases h.2 with ⟨rfl, _⟩ | ⟨g, cap, cur, rfl, hb, hgg, rest⟩
  · exact (hg.block b k.lt (fun e => by cases e)).trans k
  · exact (hg.block b k.lt (fun e => by injection e with e; exact blk_ne k hgg hne e)).trans k
theorem own_row {W W2 : World} {base size n base' size' n' : Nat} {t u : TypeId} {v v' : Value} {xs xs' : List Value} (h : W.ownsRow base t size v n xs) (hg : W.grownBy W2 v.ownBlock) (k : W.ownsRow base' u size' v' n' xs') (hne : u ≠ t) : W2.ownsRow base' u size' v' n' xs' := by
  rcases h.2 with ⟨rfl, _⟩ | ⟨g, cap, cur, rfl, hb, hgg, rest⟩
  · refine k.kept hg ?_
    cases hv : v'.ownBlock with
    | none => exact .inl rfl
    | some q => exact .inr (fun e => by cases e)
  · exact row_keep k hg hgg hne
/-- What a call on a net leaves: the net, and all else but nets, rows of packets and of pairs; nothing below base. -/
def NDid (w : World) (N base : Nat) (P : List Pk) (C : List (Int × Int)) (w' : World) : Prop := NetR w' N base P C ∧ NKeep w w' ∧ Below base w w'
theorem NetR.low {W : World} {N base : Nat} {P : List Pk} {C : List (Int × Int)} (h : NetR W N base P C) : base ≤ W.heap.size := by
  obtain ⟨la, lc, ca, cc, h1, -, -, h4, -⟩ := h
  have := h1.lt
  omega
theorem NetR.did {w w' : World} {N base : Nat} {P : List Pk} {C : List (Int × Int)} (h : NetR w N base P C) (B : Below w.heap.size w w') : NDid w N base P C w' := ⟨h.below B, .of B, B.mono h.low⟩
theorem NDid.on {w w1 w2 : World} {N base : Nat} {P P1 : List Pk} {C C1 : List (Int × Int)} (h : NetR w1 N base P C) (hk : NKeep w w1) (hb : Below base w w1) (h2 : NDid w1 N base P1 C1 w2) : NDid w N base P1 C1 w2 :=
  ⟨h2.1, hk.trans h2.2.1, hb.trans h2.2.2⟩
/-- A row of packets put into the net's cell. -/
theorem net_setL {w W2 : World} {N base : Nat} {P P' : List Pk} {C : List (Int × Int)} (h : NetR w N base P C) {la' : Option Addr} {lc' : Nat} (hk : NKeep w W2) (hb : Below base w W2)
    (hN : ∃ u ca cc, Blk W2 N 99 #[u, .slice ca C.length cc] ∧ W2.ownsRow base 102 2 (.slice ca C.length cc) C.length (flatC C)) (hr : W2.ownsRow base 22 1 (.slice la' P'.length lc') P'.length (P'.map Pk.val)) (hp : ∀ p ∈ P', PkOk w p) (h4 : P'.length ≤ 4096) :
    NDid w N base P' C (W2.setCell ⟨N, 0, none⟩ (.slice la' P'.length lc')) := by
  obtain ⟨u, ca, cc, hB, hC⟩ := hN
  have hg : W2.grownBy (W2.setCell ⟨N, 0, none⟩ (.slice la' P'.length lc')) (some N) := grown_put (grown_refl _ _) 0 _
  have hbn : base ≤ N := by obtain ⟨_, _, _, _, -, -, -, h4, -⟩ := h; exact h4
  have hk2 : NKeep w (W2.setCell ⟨N, 0, none⟩ (.slice la' P'.length lc')) := hk.trans (NKeep.row hg hB (.inl rfl))
  exact ⟨⟨la', lc', ca, cc, hB.put 0 _, row_keep hr hg hB (by decide), row_keep hC hg hB (by decide), hbn, fun p hp' => (hp p hp').nkeep hk2, h4⟩, hk2, hb.setCell (p := ⟨N, 0, none⟩) hbn _⟩

theorem MV.of {m : MsgR} (hl : m.l.length = m.n) (hi : m.id < 18446744073709551616) (hk : m.key < 18446744073709551616) (hc : m.ck < 4294967296) (hq : mchk m = 0) : MV m := by
  refine ⟨hl, hi, hk, hc, hq, ?_⟩
  obtain ⟨-, -, -, -, -, -, -, h8, h9⟩ := mchk_ok hq
  cases hh : m.has
  · obtain ⟨-, -, -, e⟩ := h9 hh
    rw [← hl, e]
    decide
  · exact (chk_ok (h8 hh)).1
/-- What Send makes of the packets. -/
def SentAs (P : List Pk) (m : MsgR) (P' : List Pk) (cf : Nat) : Prop :=
  (mchk m ≠ 0 ∧ cf = mchk m ∧ P' = P) ∨ (mchk m = 0 ∧ 4096 ≤ P.length ∧ cf = 11 ∧ P' = P) ∨ (mchk m = 0 ∧ P.length < 4096 ∧ cf = 0 ∧ ∃ p : Pk, P' = P ++ [p] ∧ p.m = m)
set_option maxRecDepth 100000 in
set_option maxHeartbeats 4000000 in
theorem send_any {N base : Nat} {P : List Pk} {C : List (Int × Int)} (m : MsgR) (w : World) (h : NetR w N base P C) (hm : BSl w w.heap.size m.a m.n m.l) (hn : m.n ≤ 1099511627776) (hi : m.id < 18446744073709551616) (hk : m.key < 18446744073709551616) (hck : m.ck < 4294967296) :
    Calls Try.prog 26 #[.pointer (some ⟨N, 0, none⟩), .agg #[.int .i64 m.fr, .int .i64 m.tt, .int .i64 m.kd, .int .i64 m.vol, .int .i64 m.life, .int .u64 m.id, .int .i64 m.cd, .bool m.has, .int .u64 m.key, .int .u32 m.ck, .bool m.g, .slice m.a m.n m.c]] w fun e w' => ∃ P' cf, e = .returned (errc cf) ∧ NDid w N base P' C w' ∧ SentAs P m P' cf := by
  have HV := Lib.hid (show m.vals = .agg #[.int .i64 m.fr, .int .i64 m.tt, .int .i64 m.kd, .int .i64 m.vol, .int .i64 m.life, .int .u64 m.id, .int .i64 m.cd, .bool m.has, .int .u64 m.key, .int .u32 m.ck, .bool m.g, .slice m.a m.n m.c] from rfl)
  have BA := (Below.refl w.heap.size w).alloc (Nat.le_refl _) (.cells #[.int .i64 m.fr, .int .i64 m.tt, .int .i64 m.kd, .int .i64 m.vol, .int .i64 m.life, .int .u64 m.id, .int .i64 m.cd, .bool m.has, .int .u64 m.key, .int .u32 m.ck, .bool m.g, .slice m.a m.n m.c] 29)
  have HK := Lib.hid (Blk.made w 29 #[.int .i64 m.fr, .int .i64 m.tt, .int .i64 m.kd, .int .i64 m.vol, .int .i64 m.life, .int .u64 m.id, .int .i64 m.cd, .bool m.has, .int .u64 m.key, .int .u32 m.ck, .bool m.g, .slice m.a m.n m.c])
  have HR0 := Lib.hid (h.below BA)
  have HR := Lib.hid h
  have HB := Lib.hid BA
  have hml := hm.1
  by_cases hq : mchk m ≠ 0
  · have EP := Lib.hid (wbytes_bad m _ ((hm.below BA).more BA.size) hn hq)
    have he : errc (mchk m) = er (mchk m) := by unfold errc; rw [if_neg hq]
    have HE := Lib.hid he
    rw [HV.out, he] at EP
    have HQ := Lib.hid hq
    clear hm h BA he hml hq
    go_enter Try.func26, Try.ntmps26
    go_upto_region 1 with fail
    generalize (w.alloc (.cells #[.int .i64 m.fr, .int .i64 m.tt, .int .i64 m.kd, .int .i64 m.vol, .int .i64 m.life, .int .u64 m.id, .int .i64 m.cd, .bool m.has, .int .u64 m.key, .int .u32 m.ck, .bool m.g, .slice m.a m.n m.c] 29)) = W0 at *
    obtain ⟨k0, k1, k2, k3, k4, k5, k6, k7, k8, k9, k10, k11⟩ := HK.out.twelve
    go_wp2_with fail
    refine EP.out.mono ?_
    rintro e w1 ⟨rfl, B1⟩
    have HB1 := Lib.hid (HB.out.trans (B1.mono HB.out.size))
    clear B1 k0 k1 k2 k3 k4 k5 k6 k7 k8 k9 k10 k11
    go_wp2_with fail
    go_ret
    exact ⟨P, mchk m, by rw [HE.out]; rfl, HR.out.did HB1.out, .inl ⟨HQ.out, rfl, rfl⟩⟩
  have hq0 : mchk m = 0 := Decidable.not_not.1 hq
  have hMV := MV.of hml hi hk hck hq0
  have hlk : msLen m + 4 ≤ 10000 := by unfold msLen padn; have := hMV.hn; split <;> omega
  have EP := Lib.hid (wbytes_ok m _ ((hm.below BA).more BA.size) hn hi hk hck hq0)
  rw [HV.out] at EP
  have HMV := Lib.hid hMV
  have HQ := Lib.hid hq0
  clear hm h BA hml hq hq0 hMV
  obtain ⟨k, hk⟩ : ∃ k, msLen m + 4 = k := ⟨_, rfl⟩
  rw [hk] at EP
  have HKK := Lib.hid hk
  clear hk hlk
  go_enter Try.func26, Try.ntmps26
  go_upto_region 1 with fail
  generalize (w.alloc (.cells #[.int .i64 m.fr, .int .i64 m.tt, .int .i64 m.kd, .int .i64 m.vol, .int .i64 m.life, .int .u64 m.id, .int .i64 m.cd, .bool m.has, .int .u64 m.key, .int .u32 m.ck, .bool m.g, .slice m.a m.n m.c] 29)) = W0 at *
  obtain ⟨k0, k1, k2, k3, k4, k5, k6, k7, k8, k9, k10, k11⟩ := HK.out.twelve
  go_wp2_with fail
  refine EP.out.mono ?_
  rintro e w1 ⟨bg, cap, rfl, hcap, ho1, B1⟩
  have HB1 := Lib.hid (HB.out.trans (B1.mono HB.out.size))
  have HR1 := Lib.hid (HR.out.below HB1.out)
  have HO1 := Lib.hid ho1
  have HC1 := Lib.hid hcap
  clear B1 k0 k1 k2 k3 k4 k5 k6 k7 k8 k9 k10 k11 ho1 hcap EP
  obtain ⟨la, lc, ca, cc, hN, hL, hC, hbn, hP, h4⟩ := HR1.out
  by_cases hfull : 4096 ≤ P.length
  · have z : decide ((4096 : Int) ≤ (P.length : Int)) = true := decide_eq_true (by omega)
    have c0 := hN.cell 0
    have HF := Lib.hid hfull
    clear hN hL hC hP h4 hfull
    go_wp2_with fail
    go_ret
    exact ⟨P, 11, rfl, HR.out.did HB1.out, .inr (.inl ⟨HQ.out, HF.out, rfl, rfl⟩)⟩
  have z : decide ((4096 : Int) ≤ (P.length : Int)) = false := decide_eq_false (by omega)
  have HF := Lib.hid (show P.length < 4096 from by omega)
  obtain ⟨i0, hi0, hz0, hz1, hz2⟩ := info_bt_parts
  obtain ⟨g2, cap2, W2, hrun, ho2, hg2, -, -⟩ := append_elem (P := Try.prog) (T := 96) Try.underlying96 hi0 hz0 hz1 hz2 rfl (by decide) hL [.slice (some ⟨bg, 0, none⟩) k cap] rfl (by intro u hu; rw [List.mem_singleton] at hu; subst hu; rfl) (by omega) (by unfold maxLen; omega) HR1.out.low
  have hN2 := own_blk hL hg2 hN (by decide)
  have HC2 := Lib.hid (own_row hL hg2 hC (by decide))
  have HK2 := Lib.hid (own_nkeep hL hg2 (.inl rfl))
  have HB2 := Lib.hid (own_below' hL hg2 HR1.out.low)
  have HN2 := Lib.hid hN2
  have HO2 := Lib.hid ho2
  have c0 := hN.cell 0
  have d0 := hN2.cell 0
  have f0 := hN2.frozen 0
  have HP := Lib.hid hP
  clear hN hL hC hP h4 hfull hN2 ho2 hg2 hi0 hz0 hz1 hz2
  go_wp2_with (at_builtin; refine list_run (by rfl) _ _ rfl rfl rfl hrun ?_; clear hrun)
  go_ret
  have hpk : PkOk w1 ⟨bg, cap, m⟩ := ⟨HMV.out, by show msLen m + 4 ≤ cap; rw [HKK.out]; exact HC1.out, _, by show w1.ownsRow _ 5 1 (.slice (some ⟨bg, 0, none⟩) (msLen m + 4) cap) (msLen m + 4) _; rw [HKK.out]; exact HO1.out⟩
  refine ⟨P ++ [⟨bg, cap, m⟩], 0, rfl, NDid.on HR1.out (.of HB1.out) (HB1.out.mono HR.out.low) ?_, .inr (.inr ⟨HQ.out, HF.out, rfl, ⟨bg, cap, m⟩, rfl, rfl⟩)⟩
  have hln : (P ++ [(⟨bg, cap, m⟩ : Pk)]).length = P.length + 1 := by rw [List.length_append]; rfl
  have := net_setL (P' := P ++ [⟨bg, cap, m⟩]) HR1.out (la' := some ⟨g2, 0, none⟩) (lc' := cap2) HK2.out HB2.out ⟨_, _, _, HN2.out, HC2.out⟩ (by
    rw [hln, List.map_append]
    have h2 := HO2.out
    rw [← HKK.out] at h2
    exact h2) (fun p hp => by
      rcases List.mem_append.1 hp with hp | hp
      · exact HP.out p hp
      · rw [List.mem_singleton] at hp
        subst hp
        exact hpk) (by rw [hln]; exact HF.out)
  rw [hln] at this
  exact this
theorem row_pkt {W : World} {base : Nat} {la : Option Addr} {lc : Nat} {P : List Pk} (h : W.ownsRow base 22 1 (.slice la P.length lc) P.length (P.map Pk.val)) {j : Nat} (hj : j < P.length) :
    ∃ lg, la = some ⟨lg, 0, none⟩ ∧ W.cell? ⟨lg, j, none⟩ = some (P.getD j ⟨0, 0, mNone⟩).val ∧ P.length ≤ lc := by
  rcases h.2 with ⟨e1, e2⟩ | ⟨g, cap, cur, e1, e2, e3, e4, e5, e6, e7⟩
  · omega
  · cases e1
    refine ⟨g, rfl, ?_, e4⟩
    rw [cell_of_row W g j cur _ (0, 0) e3]
    have h8 : (cur.toList.take (P.length * 1))[j]? = some (P.getD j ⟨0, 0, mNone⟩).val := by
      rw [e7, List.getElem?_map, List.getElem?_eq_getElem hj]
      simp [List.getD, hj]
    rw [List.getElem?_take, if_pos (by omega), Array.getElem?_toList] at h8
    exact h8
def netLose (P : List Pk) (i : Int) : List Pk × Nat := if 0 ≤ i ∧ i < P.length then (P.eraseIdx i.toNat, 0) else (P, 6)
theorem errc_er {c : Nat} (h : c ≠ 0) : errc c = er c := by unfold errc; rw [if_neg h]
set_option maxRecDepth 100000 in
set_option maxHeartbeats 4000000 in
theorem lose_any {N base : Nat} {P : List Pk} {C : List (Int × Int)} (i : Int) (w : World) (h : NetR w N base P C) :
    Calls Try.prog 30 #[.pointer (some ⟨N, 0, none⟩), .int .i64 i] w fun e w' => e = .returned (errc (netLose P i).2) ∧ NDid w N base (netLose P i).1 C w' := by
  have E := Lib.hid (at_any i w h)
  have HR := Lib.hid h
  by_cases hr : 0 ≤ i ∧ i < P.length
  rotate_left
  · have HQ : netAt P i = (mNone, 6) := if_neg hr
    have HL := Lib.hid (show netLose P i = (P, 6) from if_neg hr)
    rw [HQ] at E
    rw [HL.out]
    clear h hr HQ
    go_enter Try.func30, Try.ntmps30
    go_wp2_with fail
    refine E.out.mono ?_
    rintro e w1 ⟨B1, a1, c1, rfl, -, -, -⟩
    rw [show MsgR.vals { (mNone, 6).1 with a := a1, c := c1 } = .agg #[.int .i64 0, .int .i64 0, .int .i64 0, .int .i64 0, .int .i64 0, .int .u64 0, .int .i64 0, .bool false, .int .u64 0, .int .u32 0, .bool false, .slice a1 0 c1] from rfl, show errc (mNone, 6).2 = er 6 from rfl]
    have HB1 := Lib.hid (B1.trans (((Below.refl w1.heap.size w1).alloc (Nat.le_refl _) (.cells #[.int .i64 0, .int .i64 0, .int .i64 0, .int .i64 0, .int .i64 0, .int .u64 0, .int .i64 0, .bool false, .int .u64 0, .int .u32 0, .bool false, .slice a1 0 c1] 29)).mono B1.size))
    clear B1
    go_upto_region 2 with fail
    generalize (w1.alloc (.cells #[.int .i64 0, .int .i64 0, .int .i64 0, .int .i64 0, .int .i64 0, .int .u64 0, .int .i64 0, .bool false, .int .u64 0, .int .u32 0, .bool false, .slice a1 0 c1] 29)) = W2 at *
    go_wp2_with fail
    go_ret
    exact ⟨rfl, HR.out.did HB1.out⟩
  have HQ : netAt P i = ((P.getD i.toNat ⟨0, 0, mNone⟩).m.bare, 0) := if_pos hr
  have HL := Lib.hid (show netLose P i = (P.eraseIdx i.toNat, 0) from if_pos hr)
  rw [HQ] at E
  rw [HL.out]
  obtain ⟨j, rfl⟩ := Int.eq_ofNat_of_zero_le hr.1
  have hj : j < P.length := by omega
  obtain ⟨r, hrr⟩ : ∃ r, P.length = r + 1 := ⟨P.length - 1, by omega⟩
  obtain ⟨q, hq⟩ : ∃ q, (P.getD (j : Int).toNat ⟨0, 0, mNone⟩).m.bare = q := ⟨_, rfl⟩
  rw [hq] at E
  clear h hr HQ hq HL
  rw [show (j : Int).toNat = j from rfl]
  go_enter Try.func30, Try.ntmps30
  go_wp2_with fail
  refine E.out.mono ?_
  rintro e w1 ⟨B1, a1, c1, rfl, -, -, -⟩
  rw [show MsgR.vals { (q, 0).1 with a := a1, c := c1 } = .agg #[.int .i64 q.fr, .int .i64 q.tt, .int .i64 q.kd, .int .i64 q.vol, .int .i64 q.life, .int .u64 q.id, .int .i64 q.cd, .bool q.has, .int .u64 q.key, .int .u32 q.ck, .bool q.g, .slice a1 q.n c1] from rfl, show errc (q, 0).2 = Value.nilIface from rfl]
  have HB1 := Lib.hid (B1.trans (((Below.refl w1.heap.size w1).alloc (Nat.le_refl _) (.cells #[.int .i64 q.fr, .int .i64 q.tt, .int .i64 q.kd, .int .i64 q.vol, .int .i64 q.life, .int .u64 q.id, .int .i64 q.cd, .bool q.has, .int .u64 q.key, .int .u32 q.ck, .bool q.g, .slice a1 q.n c1] 29)).mono B1.size))
  clear B1
  go_upto_region 2 with fail
  generalize (w1.alloc (.cells #[.int .i64 q.fr, .int .i64 q.tt, .int .i64 q.kd, .int .i64 q.vol, .int .i64 q.life, .int .u64 q.id, .int .i64 q.cd, .bool q.has, .int .u64 q.key, .int .u32 q.ck, .bool q.g, .slice a1 q.n c1] 29)) = W2 at *
  have HR2 := Lib.hid (HR.out.below HB1.out)
  obtain ⟨la, lc, ca, cc, hN, hL, hC, hbn, hP, h4⟩ := HR2.out
  obtain ⟨lg, rfl, -, -⟩ := row_pkt hL hj
  have HP := Lib.hid hP
  have HJ := Lib.hid hj
  have H4 := Lib.hid h4
  have HRR := Lib.hid hrr
  have ED := Lib.hid (show Calls Try.prog 55 #[.slice (some ⟨lg, 0, none⟩) P.length lc, .int .i64 (j : Int), .int .i64 ((j : Int) + 1)] W2 fun e w' => e = .returned (.slice (some ⟨lg, 0, none⟩) r lc) ∧ w'.ownsRow base 22 1 (.slice (some ⟨lg, 0, none⟩) r lc) r ((P.map Pk.val).eraseIdx j) ∧ W2.grownBy w' (some lg) from by
    have hL' := hL
    rw [hrr] at hL'
    have := del_any j W2 hL' (by omega) (by omega) (by
      intro u hu
      obtain ⟨p, -, rfl⟩ := List.mem_map.1 hu
      rfl)
    rw [← hrr] at this
    exact this)
  have hlr := Lib.hid (show (P.eraseIdx j).length = r from by rw [List.length_eraseIdx, if_pos hj]; omega)
  have c0 := hN.cell 0
  have HN := Lib.hid hN
  have HL := Lib.hid hL
  have HC := Lib.hid hC
  have hj2 : (j : Int) + 1 ≤ 4096 := by omega
  clear hN hL hC hP hrr hj hbn h4 E
  go_wp2_with fail
  refine ED.out.mono ?_
  rintro e w3 ⟨rfl, ho3, hg3⟩
  have HO3 := Lib.hid ho3
  have HN3 := Lib.hid (own_blk HL.out hg3 HN.out (by decide))
  have HC3 := Lib.hid (own_row HL.out hg3 HC.out (by decide))
  have HK3 := Lib.hid (own_nkeep HL.out hg3 (.inl rfl))
  have HB3 := Lib.hid (own_below' HL.out hg3 HR2.out.low)
  have d0 := HN3.out.cell 0
  have f0 := HN3.out.frozen 0
  clear ho3 hg3 c0 ED
  go_wp2_with fail
  go_ret
  refine ⟨rfl, NDid.on HR2.out (.of HB1.out) (HB1.out.mono HR.out.low) ?_⟩
  have hm : (P.eraseIdx j).map Pk.val = (P.map Pk.val).eraseIdx j := by simp [List.eraseIdx_eq_take_drop_succ]
  have := net_setL (P' := P.eraseIdx j) HR2.out (la' := some ⟨lg, 0, none⟩) (lc' := lc) HK3.out HB3.out ⟨_, _, _, HN3.out, HC3.out⟩ (by
    rw [hlr.out, hm]
    exact HO3.out) (fun p hp => HP.out p (List.mem_of_mem_eraseIdx hp)) (by have := H4.out; have := HRR.out; rw [hlr.out]; omega)
  rw [hlr.out] at this
  exact this
def netTwice (P : List Pk) (i : Int) : List Pk × Nat := if 0 ≤ i ∧ i < P.length then (if 4096 ≤ P.length then (P, 11) else (P ++ [P.getD i.toNat ⟨0, 0, mNone⟩], 0)) else (P, 6)
set_option maxRecDepth 100000 in
set_option maxHeartbeats 4000000 in
theorem twice_any {N base : Nat} {P : List Pk} {C : List (Int × Int)} (i : Int) (w : World) (h : NetR w N base P C) :
    Calls Try.prog 31 #[.pointer (some ⟨N, 0, none⟩), .int .i64 i] w fun e w' => e = .returned (errc (netTwice P i).2) ∧ NDid w N base (netTwice P i).1 C w' := by
  have E := Lib.hid (at_any i w h)
  have HR := Lib.hid h
  by_cases hr : 0 ≤ i ∧ i < P.length
  rotate_left
  · have HQ : netAt P i = (mNone, 6) := if_neg hr
    have HL := Lib.hid (show netTwice P i = (P, 6) from if_neg hr)
    rw [HQ] at E
    rw [HL.out]
    clear h hr HQ
    go_enter Try.func31, Try.ntmps31
    go_wp2_with fail
    refine E.out.mono ?_
    rintro e w1 ⟨B1, a1, c1, rfl, -, -, -⟩
    rw [show MsgR.vals { (mNone, 6).1 with a := a1, c := c1 } = .agg #[.int .i64 0, .int .i64 0, .int .i64 0, .int .i64 0, .int .i64 0, .int .u64 0, .int .i64 0, .bool false, .int .u64 0, .int .u32 0, .bool false, .slice a1 0 c1] from rfl, show errc (mNone, 6).2 = er 6 from rfl]
    have HB1 := Lib.hid (B1.trans (((Below.refl w1.heap.size w1).alloc (Nat.le_refl _) (.cells #[.int .i64 0, .int .i64 0, .int .i64 0, .int .i64 0, .int .i64 0, .int .u64 0, .int .i64 0, .bool false, .int .u64 0, .int .u32 0, .bool false, .slice a1 0 c1] 29)).mono B1.size))
    clear B1
    go_upto_region 2 with fail
    generalize (w1.alloc (.cells #[.int .i64 0, .int .i64 0, .int .i64 0, .int .i64 0, .int .i64 0, .int .u64 0, .int .i64 0, .bool false, .int .u64 0, .int .u32 0, .bool false, .slice a1 0 c1] 29)) = W2 at *
    go_wp2_with fail
    go_ret
    exact ⟨rfl, HR.out.did HB1.out⟩
  have HQ : netAt P i = ((P.getD i.toNat ⟨0, 0, mNone⟩).m.bare, 0) := if_pos hr
  have HL : netTwice P i = (if 4096 ≤ P.length then (P, 11) else (P ++ [P.getD i.toNat ⟨0, 0, mNone⟩], 0)) := if_pos hr
  rw [HQ] at E
  rw [HL]
  obtain ⟨j, rfl⟩ := Int.eq_ofNat_of_zero_le hr.1
  have hj : j < P.length := by omega
  rw [show (j : Int).toNat = j from rfl] at *
  obtain ⟨pk, hpk⟩ : ∃ pk, P.getD j ⟨0, 0, mNone⟩ = pk := ⟨_, rfl⟩
  rw [hpk] at E ⊢
  obtain ⟨q, hq⟩ : ∃ q, pk.m.bare = q := ⟨_, rfl⟩
  rw [hq] at E
  clear h hr HQ hq HL
  have HJ := Lib.hid hj
  have HPK := Lib.hid hpk
  clear hpk
  by_cases hfull : 4096 ≤ P.length
  · rw [if_pos hfull]
    have z : decide ((4096 : Int) ≤ (P.length : Int)) = true := decide_eq_true (by omega)
    clear hfull hj
    go_enter Try.func31, Try.ntmps31
    go_wp2_with fail
    refine E.out.mono ?_
    rintro e w1 ⟨B1, a1, c1, rfl, -, -, -⟩
    rw [show MsgR.vals { (q, 0).1 with a := a1, c := c1 } = .agg #[.int .i64 q.fr, .int .i64 q.tt, .int .i64 q.kd, .int .i64 q.vol, .int .i64 q.life, .int .u64 q.id, .int .i64 q.cd, .bool q.has, .int .u64 q.key, .int .u32 q.ck, .bool q.g, .slice a1 q.n c1] from rfl, show errc (q, 0).2 = Value.nilIface from rfl]
    have HB1 := Lib.hid (B1.trans (((Below.refl w1.heap.size w1).alloc (Nat.le_refl _) (.cells #[.int .i64 q.fr, .int .i64 q.tt, .int .i64 q.kd, .int .i64 q.vol, .int .i64 q.life, .int .u64 q.id, .int .i64 q.cd, .bool q.has, .int .u64 q.key, .int .u32 q.ck, .bool q.g, .slice a1 q.n c1] 29)).mono B1.size))
    clear B1
    go_upto_region 2 with fail
    generalize (w1.alloc (.cells #[.int .i64 q.fr, .int .i64 q.tt, .int .i64 q.kd, .int .i64 q.vol, .int .i64 q.life, .int .u64 q.id, .int .i64 q.cd, .bool q.has, .int .u64 q.key, .int .u32 q.ck, .bool q.g, .slice a1 q.n c1] 29)) = W2 at *
    obtain ⟨la, lc, ca, cc, hN, -⟩ := HR.out.below HB1.out
    have c0 := hN.cell 0
    clear hN
    go_wp2_with fail
    go_ret
    exact ⟨rfl, HR.out.did HB1.out⟩
  rw [if_neg hfull]
  have z : decide ((4096 : Int) ≤ (P.length : Int)) = false := decide_eq_false (by omega)
  have HF := Lib.hid (show P.length < 4096 from by omega)
  go_enter Try.func31, Try.ntmps31
  go_wp2_with fail
  refine E.out.mono ?_
  rintro e w1 ⟨B1, a1, c1, rfl, -, -, -⟩
  rw [show MsgR.vals { (q, 0).1 with a := a1, c := c1 } = .agg #[.int .i64 q.fr, .int .i64 q.tt, .int .i64 q.kd, .int .i64 q.vol, .int .i64 q.life, .int .u64 q.id, .int .i64 q.cd, .bool q.has, .int .u64 q.key, .int .u32 q.ck, .bool q.g, .slice a1 q.n c1] from rfl, show errc (q, 0).2 = Value.nilIface from rfl]
  have HB1 := Lib.hid (B1.trans (((Below.refl w1.heap.size w1).alloc (Nat.le_refl _) (.cells #[.int .i64 q.fr, .int .i64 q.tt, .int .i64 q.kd, .int .i64 q.vol, .int .i64 q.life, .int .u64 q.id, .int .i64 q.cd, .bool q.has, .int .u64 q.key, .int .u32 q.ck, .bool q.g, .slice a1 q.n c1] 29)).mono B1.size))
  clear B1
  go_upto_region 2 with fail
  generalize (w1.alloc (.cells #[.int .i64 q.fr, .int .i64 q.tt, .int .i64 q.kd, .int .i64 q.vol, .int .i64 q.life, .int .u64 q.id, .int .i64 q.cd, .bool q.has, .int .u64 q.key, .int .u32 q.ck, .bool q.g, .slice a1 q.n c1] 29)) = W2 at *
  have HR2 := Lib.hid (HR.out.below HB1.out)
  obtain ⟨la, lc, ca, cc, hN, hL, hC, hbn, hP, h4⟩ := HR2.out
  obtain ⟨lg, rfl, hcl, -⟩ := row_pkt hL hj
  rw [HPK.out] at hcl
  obtain ⟨i0, hi0, hz0, hz1, hz2⟩ := info_bt_parts
  obtain ⟨g2, cap2, W3, hrun, ho2, hg2, -, -⟩ := append_elem (P := Try.prog) (W := W2.drew) (T := 96) Try.underlying96 hi0 hz0 hz1 hz2 rfl (by decide) (show W2.drew.ownsRow base 22 1 (.slice (some ⟨lg, 0, none⟩) P.length lc) P.length (P.map Pk.val) from hL) [pk.val] rfl (by intro u hu; rw [List.mem_singleton] at hu; subst hu; rfl) (by omega) (by unfold maxLen; omega) HR2.out.low
  have hg3 : W2.grownBy W3 (Value.slice (some ⟨lg, 0, none⟩) P.length lc).ownBlock := ⟨hg2.os, hg2.tape, hg2.output, hg2.size, hg2.block⟩
  have HN3 := Lib.hid (own_blk hL hg3 hN (by decide))
  have HC3 := Lib.hid (own_row hL hg3 hC (by decide))
  have HK3 := Lib.hid (own_nkeep hL hg3 (.inl rfl))
  have HB3 := Lib.hid (own_below' hL hg3 HR2.out.low)
  have HO3 := Lib.hid ho2
  have hln : (P ++ [pk]).length = P.length + 1 := by rw [List.length_append]; rfl
  have HO3' := Lib.hid (show W3.ownsRow base 22 1 (.slice (some ⟨g2, 0, none⟩) (P ++ [pk]).length cap2) (P ++ [pk]).length ((P ++ [pk]).map Pk.val) from by
    rw [hln, List.map_append]
    exact ho2)
  have HPL := Lib.hid (show (P ++ [pk]).length ≤ 4096 from by rw [hln]; exact HF.out)
  have HPP := Lib.hid (show ∀ p ∈ P ++ [pk], PkOk W2 p from fun p hp => by
    rcases List.mem_append.1 hp with hp | hp
    · exact hP p hp
    · rw [List.mem_singleton] at hp
      subst hp
      refine hP _ ?_
      rw [← HPK.out]
      simp only [List.getD, List.getElem?_eq_getElem HJ.out, Option.getD_some]
      exact List.getElem_mem _)
  have HLN := Lib.hid hln
  clear hln
  have c0 := hN.cell 0
  have c0' : W2.drew.cell? ⟨N, 0, none⟩ = some (.slice (some ⟨lg, 0, none⟩) P.length lc) := hN.cell 0
  have c0a : (W2.drew.alloc (.cells #[pk.val] 22)).cell? ⟨N, 0, none⟩ = some (.slice (some ⟨lg, 0, none⟩) P.length lc) := (hN.drew.alloc (.cells #[pk.val] 22)).cell 0
  have c0b : (W2.alloc (.cells #[pk.val] 22)).drew.cell? ⟨N, 0, none⟩ = some (.slice (some ⟨lg, 0, none⟩) P.length lc) := (hN.alloc (.cells #[pk.val] 22)).cell 0
  have c0c : (W2.alloc (.cells #[pk.val] 22)).cell? ⟨N, 0, none⟩ = some (.slice (some ⟨lg, 0, none⟩) P.length lc) := (hN.alloc (.cells #[pk.val] 22)).cell 0
  have hcl' : W2.drew.cell? ⟨lg, j, none⟩ = some pk.val := hcl
  have d0 := HN3.out.cell 0
  have f0 := HN3.out.frozen 0
  have hji : (j : Int) < (P.length : Int) := by omega
  clear hN hL hC hP h4 hfull ho2 hg2 hg3 hi0 hz0 hz1 hz2 E hbn hcl
  unfold Pk.val at hcl' c0a c0b c0c hrun
  go_upto_region 6 with fail
  refine wp_region_any (by kernel_rfl) ?_
  change wpAny _ _ _ _ _ _ _ (World.drew _)
  refine wpAny_take (i := 0) (v := ?_) rfl (by kernel_rfl) (by kernel_rfl) (by kernel_rfl) (fun _ _ _ h => h) (Or.inl ⟨by kernel_rfl, ?_⟩) ?_
  rotate_left
  · intro w; go_simp; try with_reducible rfl
  refine wpAny_take (i := 1) (v := ?_) rfl (by kernel_rfl) (by kernel_rfl) (by kernel_rfl) (fun _ _ _ h => h) (Or.inl ⟨by kernel_rfl, ?_⟩) ?_
  rotate_left
  · intro w; go_simp; try with_reducible rfl
  refine wpAny_take (i := 2) (v := ?_) rfl (by kernel_rfl) (by kernel_rfl) (by kernel_rfl) (fun _ _ _ h => h) (Or.inl ⟨by kernel_rfl, ?_⟩) ?_
  rotate_left
  · intro w; go_simp; try with_reducible rfl
  refine wpAny_take (i := 3) (v := ?_) rfl (by kernel_rfl) (by kernel_rfl) (by kernel_rfl) (fun _ _ _ h => h) (Or.inl ⟨by kernel_rfl, ?_⟩) ?_
  rotate_left
  · intro w; go_simp; try with_reducible rfl
  refine wpAny_take (i := 5) (v := ?_) rfl (by kernel_rfl) (by kernel_rfl) (by kernel_rfl) (fun _ _ _ h => h) (Or.inl ⟨by kernel_rfl, ?_⟩) ?_
  rotate_left
  · intro w; go_simp; try with_reducible rfl
  refine wpAny_take (i := 6) (v := ?_) rfl (by kernel_rfl) (by kernel_rfl) (by kernel_rfl) (fun _ _ _ h => h) (Or.inl ⟨by kernel_rfl, ?_⟩) ?_
  rotate_left
  · intro w; go_simp; try with_reducible rfl
  refine wpAny_take (i := 7) (v := ?_) rfl (by kernel_rfl) (by kernel_rfl) (by kernel_rfl) (fun _ _ _ h => h) (Or.inl ⟨by kernel_rfl, ?_⟩) ?_
  rotate_left
  · intro w; go_simp; try with_reducible rfl
  refine wpAny_take (i := 9) (v := ?_) rfl (by kernel_rfl) (by kernel_rfl) (by kernel_rfl) (fun _ _ _ h => h) (Or.inl ⟨by kernel_rfl, ?_⟩) ?_
  rotate_left
  · intro w; go_simp; try with_reducible rfl
  refine wpAny_ready (rs := [4, 8]) (by kernel_rfl) (by simp) ?_
  refine AllReady.cons (i := 4) rfl ?_ ?_
  · intro K hK
    go_simp
    refine hK _ _ ?_
    clear hK K
    refine wpAny_ready (rs := [8]) (by kernel_rfl) (by simp) ?_
    refine AllReady.cons (i := 8) rfl ?_ AllReady.nil
    intro K hK
    go_simp
    refine hK _ _ ?_
    clear hK K
    refine wpAny_take (i := 10) (v := ?_) rfl (by kernel_rfl) (by kernel_rfl) (by kernel_rfl) (fun _ _ _ h => h) (Or.inl ⟨by kernel_rfl, ?_⟩) ?_
    rotate_left
    · intro w; go_simp; try with_reducible rfl
    refine wpAny_ready (rs := [11]) (by kernel_rfl) (by simp) ?_
    refine AllReady.cons (i := 11) rfl ?_ AllReady.nil
    intro K hK
    go_simp
    refine hK _ _ ?_
    clear hK K
    refine wpAny_ready (rs := [12]) (by kernel_rfl) (by simp) ?_
    refine AllReady.cons (i := 12) rfl ?_ AllReady.nil
    intro K hK
    go_simp
    refine hK _ _ ?_
    clear hK K
    refine wpAny_ready (rs := [13]) (by kernel_rfl) (by simp) ?_
    refine AllReady.cons (i := 13) rfl ?_ AllReady.nil
    intro K hK
    refine step_run_g (by kernel_rfl) _ _ (by rfl) (by rfl) (by rfl) hrun ?_
    refine hK _ _ ?_
    clear hK K
    refine wpAny_take (i := 14) (v := ?_) rfl (by kernel_rfl) (by kernel_rfl) (by kernel_rfl) (fun _ _ _ h => h) (Or.inl ⟨by kernel_rfl, ?_⟩) ?_
    rotate_left
    · intro w; go_simp; try with_reducible rfl
    refine wpAny_take (i := 15) (v := ?_) rfl (by kernel_rfl) (by kernel_rfl) (by kernel_rfl) (fun _ _ _ h => h) (Or.inl ⟨by kernel_rfl, ?_⟩) ?_
    rotate_left
    · intro w; go_simp; try with_reducible rfl
    refine wpAny_ready (rs := [16]) (by kernel_rfl) (by simp) ?_
    refine AllReady.cons (i := 16) rfl ?_ AllReady.nil
    intro K hK
    go_simp
    refine hK _ _ ?_
    clear hK K
    refine wpAny_done (by kernel_rfl) ?_ _
    go_simp
    go_wp2_with fail
    go_ret
    refine ⟨rfl, NDid.on HR2.out (.of HB1.out) (HB1.out.mono HR.out.low) ?_⟩
    have := net_setL (P' := P ++ [pk]) HR2.out (la' := some ⟨g2, 0, none⟩) (lc' := cap2) HK3.out HB3.out ⟨_, _, _, HN3.out, HC3.out⟩ HO3'.out HPP.out HPL.out
    rw [HLN.out] at this
    exact this
  refine AllReady.cons (i := 8) rfl ?_ AllReady.nil
  intro K hK
  go_simp
  refine hK _ _ ?_
  clear hK K
  refine wpAny_take (i := 10) (v := ?_) rfl (by kernel_rfl) (by kernel_rfl) (by kernel_rfl) (fun _ _ _ h => h) (Or.inl ⟨by kernel_rfl, ?_⟩) ?_
  rotate_left
  · intro w; go_simp; try with_reducible rfl
  refine wpAny_ready (rs := [4, 11]) (by kernel_rfl) (by simp) ?_
  refine AllReady.cons (i := 4) rfl ?_ ?_
  · intro K hK
    go_simp
    refine hK _ _ ?_
    clear hK K
    refine wpAny_ready (rs := [11]) (by kernel_rfl) (by simp) ?_
    refine AllReady.cons (i := 11) rfl ?_ AllReady.nil
    intro K hK
    go_simp
    refine hK _ _ ?_
    clear hK K
    refine wpAny_ready (rs := [12]) (by kernel_rfl) (by simp) ?_
    refine AllReady.cons (i := 12) rfl ?_ AllReady.nil
    intro K hK
    go_simp
    refine hK _ _ ?_
    clear hK K
    refine wpAny_ready (rs := [13]) (by kernel_rfl) (by simp) ?_
    refine AllReady.cons (i := 13) rfl ?_ AllReady.nil
    intro K hK
    refine step_run_g (by kernel_rfl) _ _ (by rfl) (by rfl) (by rfl) hrun ?_
    refine hK _ _ ?_
    clear hK K
    refine wpAny_take (i := 14) (v := ?_) rfl (by kernel_rfl) (by kernel_rfl) (by kernel_rfl) (fun _ _ _ h => h) (Or.inl ⟨by kernel_rfl, ?_⟩) ?_
    rotate_left
    · intro w; go_simp; try with_reducible rfl
    refine wpAny_take (i := 15) (v := ?_) rfl (by kernel_rfl) (by kernel_rfl) (by kernel_rfl) (fun _ _ _ h => h) (Or.inl ⟨by kernel_rfl, ?_⟩) ?_
    rotate_left
    · intro w; go_simp; try with_reducible rfl
    refine wpAny_ready (rs := [16]) (by kernel_rfl) (by simp) ?_
    refine AllReady.cons (i := 16) rfl ?_ AllReady.nil
    intro K hK
    go_simp
    refine hK _ _ ?_
    clear hK K
    refine wpAny_done (by kernel_rfl) ?_ _
    go_simp
    go_wp2_with fail
    go_ret
    refine ⟨rfl, NDid.on HR2.out (.of HB1.out) (HB1.out.mono HR.out.low) ?_⟩
    have := net_setL (P' := P ++ [pk]) HR2.out (la' := some ⟨g2, 0, none⟩) (lc' := cap2) HK3.out HB3.out ⟨_, _, _, HN3.out, HC3.out⟩ HO3'.out HPP.out HPL.out
    rw [HLN.out] at this
    exact this
  refine AllReady.cons (i := 11) rfl ?_ AllReady.nil
  intro K hK
  go_simp
  refine hK _ _ ?_
  clear hK K
  refine wpAny_ready (rs := [4, 12]) (by kernel_rfl) (by simp) ?_
  refine AllReady.cons (i := 4) rfl ?_ ?_
  · intro K hK
    go_simp
    refine hK _ _ ?_
    clear hK K
    refine wpAny_ready (rs := [12]) (by kernel_rfl) (by simp) ?_
    refine AllReady.cons (i := 12) rfl ?_ AllReady.nil
    intro K hK
    go_simp
    refine hK _ _ ?_
    clear hK K
    refine wpAny_ready (rs := [13]) (by kernel_rfl) (by simp) ?_
    refine AllReady.cons (i := 13) rfl ?_ AllReady.nil
    intro K hK
    refine step_run_g (by kernel_rfl) _ _ (by rfl) (by rfl) (by rfl) hrun ?_
    refine hK _ _ ?_
    clear hK K
    refine wpAny_take (i := 14) (v := ?_) rfl (by kernel_rfl) (by kernel_rfl) (by kernel_rfl) (fun _ _ _ h => h) (Or.inl ⟨by kernel_rfl, ?_⟩) ?_
    rotate_left
    · intro w; go_simp; try with_reducible rfl
    refine wpAny_take (i := 15) (v := ?_) rfl (by kernel_rfl) (by kernel_rfl) (by kernel_rfl) (fun _ _ _ h => h) (Or.inl ⟨by kernel_rfl, ?_⟩) ?_
    rotate_left
    · intro w; go_simp; try with_reducible rfl
    refine wpAny_ready (rs := [16]) (by kernel_rfl) (by simp) ?_
    refine AllReady.cons (i := 16) rfl ?_ AllReady.nil
    intro K hK
    go_simp
    refine hK _ _ ?_
    clear hK K
    refine wpAny_done (by kernel_rfl) ?_ _
    go_simp
    go_wp2_with fail
    go_ret
    refine ⟨rfl, NDid.on HR2.out (.of HB1.out) (HB1.out.mono HR.out.low) ?_⟩
    have := net_setL (P' := P ++ [pk]) HR2.out (la' := some ⟨g2, 0, none⟩) (lc' := cap2) HK3.out HB3.out ⟨_, _, _, HN3.out, HC3.out⟩ HO3'.out HPP.out HPL.out
    rw [HLN.out] at this
    exact this
  refine AllReady.cons (i := 12) rfl ?_ AllReady.nil
  intro K hK
  go_simp
  refine hK _ _ ?_
  clear hK K
  refine wpAny_ready (rs := [4]) (by kernel_rfl) (by simp) ?_
  refine AllReady.cons (i := 4) rfl ?_ AllReady.nil
  intro K hK
  go_simp
  refine hK _ _ ?_
  clear hK K
  refine wpAny_ready (rs := [13]) (by kernel_rfl) (by simp) ?_
  refine AllReady.cons (i := 13) rfl ?_ AllReady.nil
  intro K hK
  refine step_run_g (by kernel_rfl) _ _ (by rfl) (by rfl) (by rfl) hrun ?_
  refine hK _ _ ?_
  clear hK K
  refine wpAny_take (i := 14) (v := ?_) rfl (by kernel_rfl) (by kernel_rfl) (by kernel_rfl) (fun _ _ _ h => h) (Or.inl ⟨by kernel_rfl, ?_⟩) ?_
  rotate_left
  · intro w; go_simp; try with_reducible rfl
  refine wpAny_take (i := 15) (v := ?_) rfl (by kernel_rfl) (by kernel_rfl) (by kernel_rfl) (fun _ _ _ h => h) (Or.inl ⟨by kernel_rfl, ?_⟩) ?_
  rotate_left
  · intro w; go_simp; try with_reducible rfl
  refine wpAny_ready (rs := [16]) (by kernel_rfl) (by simp) ?_
  refine AllReady.cons (i := 16) rfl ?_ AllReady.nil
  intro K hK
  go_simp
  refine hK _ _ ?_
  clear hK K
  refine wpAny_done (by kernel_rfl) ?_ _
  go_simp
  go_wp2_with fail
  go_ret
  refine ⟨rfl, NDid.on HR2.out (.of HB1.out) (HB1.out.mono HR.out.low) ?_⟩
  have := net_setL (P' := P ++ [pk]) HR2.out (la' := some ⟨g2, 0, none⟩) (lc' := cap2) HK3.out HB3.out ⟨_, _, _, HN3.out, HC3.out⟩ HO3'.out HPP.out HPL.out
  rw [HLN.out] at this
  exact this
theorem peek_results {W : World} {B : Nat} {v0 v1 v2 v3 v4 v5 v6 v7 v8 v9 v10 v11 : Value} {a : Act} {e : Value} (h : Blk W B 29 #[v0, v1, v2, v3, v4, v5, v6, v7, v8, v9, v10, v11]) (h2 : a.tmps[4]?.getD undef = .pointer (some ⟨B, 0, none⟩)) (h3 : a.tmps[5]?.getD undef = e) :
    (results Try.f35 a.tmps).run Try.prog W = .ok (.tuple #[.agg #[v0, v1, v2, v3, v4, v5, v6, v7, v8, v9, v10, v11], e]) W := by
  obtain ⟨k0, k1, k2, k3, k4, k5, k6, k7, k8, k9, k10, k11⟩ := h.twelve
  simp [results, Try.results35, go_sem, h2, h3, k0, k1, k2, k3, k4, k5, k6, k7, k8, k9, k10, k11]
/-- Peek hands on what 'at' hands back. -/
theorem peek_of {pv : Value} {i : Int} {q : MsgR × Nat} (w : World) (E : ∀ W, Below w.heap.size w W → Calls Try.prog 54 #[pv, .int .i64 i] W (NGot q W)) : Calls Try.prog 35 #[pv, .int .i64 i] w (NGot q w) := by
  have HK := Lib.hid (Blk.made w 29 #[.int .i64 0, .int .i64 0, .int .i64 0, .int .i64 0, .int .i64 0, .int .u64 0, .int .i64 0, .bool false, .int .u64 0, .int .u32 0, .bool false, .slice none 0 0])
  have BA := (Below.refl w.heap.size w).alloc (Nat.le_refl _) (.cells #[.int .i64 0, .int .i64 0, .int .i64 0, .int .i64 0, .int .i64 0, .int .u64 0, .int .i64 0, .bool false, .int .u64 0, .int .u32 0, .bool false, .slice none 0 0] 29)
  have E1 := Lib.hid (E _ BA)
  have HB := Lib.hid BA
  clear BA E
  go_enter Try.func35, Try.ntmps35
  go_upto_region 1 with fail
  generalize (w.alloc (.cells #[.int .i64 0, .int .i64 0, .int .i64 0, .int .i64 0, .int .i64 0, .int .u64 0, .int .i64 0, .bool false, .int .u64 0, .int .u32 0, .bool false, .slice none 0 0] 29)) = W1 at *
  go_wp2_with fail
  refine E1.out.mono ?_
  rintro e w2 ⟨B2, a1, c1, rfl, h1, h2, h3⟩
  obtain ⟨q, cf⟩ := q
  dsimp only at *
  rw [show MsgR.vals { q with a := a1, c := c1 } = .agg #[.int .i64 q.fr, .int .i64 q.tt, .int .i64 q.kd, .int .i64 q.vol, .int .i64 q.life, .int .u64 q.id, .int .i64 q.cd, .bool q.has, .int .u64 q.key, .int .u32 q.ck, .bool q.g, .slice a1 q.n c1] from rfl]
  have HK2 := Lib.hid (HK.out.below B2 HK.out.lt)
  have HB2 := Lib.hid (HB.out.trans (B2.mono HB.out.size))
  have H1 := Lib.hid h1
  have H2 := Lib.hid h2
  have H3 := Lib.hid h3
  have HZ := Lib.hid (show w.heap.size < W1.heap.size from HK.out.lt)
  clear B2 h1 h2 h3
  obtain ⟨k0, k1, k2, k3, k4, k5, k6, k7, k8, k9, k10, k11⟩ := HK2.out.twelve
  obtain ⟨f0, f1, f2, f3, f4, f5, f6, f7, f8, f9, f10, f11⟩ := HK2.out.twelve_frozen
  go_wp2_with fail
  exact bodyPost_ret (peek_results (HK2.out.put12 _ _ _ _ _ _ _ _ _ _ _ _) rfl rfl) rfl ⟨below_put12 HB2.out (Nat.le_refl _) _ _ _ _ _ _ _ _ _ _ _ _, a1, c1, rfl, H1.out, H2.out, row_base (row_far H3.out (grown_put12 (grown_refl _ _) _ _ _ _ _ _ _ _ _ _ _ _) HZ.out) (Nat.le_of_lt HZ.out)⟩
theorem peek_any {N base : Nat} {P : List Pk} {C : List (Int × Int)} (i : Int) (w : World) (h : NetR w N base P C) : Calls Try.prog 35 #[.pointer (some ⟨N, 0, none⟩), .int .i64 i] w (NGot (netAt P i) w) :=
  peek_of w fun W B => at_any i W (h.below B)
theorem peek_nil (i : Int) (w : World) : Calls Try.prog 35 #[.pointer none, .int .i64 i] w (NGot (mNone, 15) w) := peek_of w fun W _ => at_nil i W
def pEq (a b c d : Int) : Bool := decide (a = c ∧ b = d)
theorem pair_eq (a b c d : Int) (w : World) : (binOp .eql 102 (.agg #[.int .i64 a, .int .i64 b]) (.agg #[.int .i64 c, .int .i64 d])).run Try.prog w = .ok (.bool (pEq a b c d)) w := by
  have hS : Try.prog.underlying 102 = some (.struct (Try.prog.fieldsOf 102)) := by kernel_rfl
  have hp : Try.prog.stoodInHeld 102 = false := by kernel_rfl
  rw [run_eql_struct, show (10000 : Nat) = 9999 + 1 from rfl, run_equalIn_agg w 9999 102 _ _ hS hp]
  simp only [Program.fieldsOf, Try.underlying102]
  go_simp
  unfold pEq
  by_cases h1 : a = c <;> by_cases h2 : b = d <;> simp [h1, h2]
theorem own_pair {W : World} {base g n c : Nat} {C : List (Int × Int)} (h : W.ownsRow base 102 2 (.slice (some ⟨g, 0, none⟩) n c) n (flatC C)) (j : Nat) (hj : j < n) (hl : C.length = n) :
    W.cell? ⟨g, j * 2, none⟩ = some (.int .i64 (C.getD j (0, 0)).1) ∧ W.cell? ⟨g, j * 2 + 1, none⟩ = some (.int .i64 (C.getD j (0, 0)).2) := by
  obtain ⟨h1, h2⟩ := flatC_at C j (by omega)
  exact ⟨(h.cellAt (j * 2) (by omega)).trans h1, (h.cellAt (j * 2 + 1) (by omega)).trans h2⟩
theorem own_pairs {W : World} {base n c : Nat} {ca : Option Addr} {xs : List Value} (h : W.ownsRow base 102 2 (.slice ca n c) n xs) (hn : 0 < n) : ∃ g, ca = some ⟨g, 0, none⟩ := by
  rcases h.2 with ⟨_, e2⟩ | ⟨b, cap, cur, e1, -⟩
  · omega
  · cases e1
    exact ⟨b, rfl⟩
set_option maxRecDepth 100000 in
set_option maxHeartbeats 1000000 in
theorem pidx_any {base : Nat} {C : List (Int × Int)} {ca : Option Addr} {cc : Nat} (a b : Int) (w : World) (h : w.ownsRow base 102 2 (.slice ca C.length cc) C.length (flatC C)) (hn : C.length ≤ 1000000) :
    Calls Try.prog 79 #[.slice ca C.length cc, .agg #[.int .i64 a, .int .i64 b]] w fun e w' => (∃ r : Int, e = .returned (.int .i64 r) ∧ (0 ≤ r ↔ (a, b) ∈ C)) ∧ Below w.heap.size w w' := by
  have HK := Lib.hid (Blk.made w 102 #[.int .i64 a, .int .i64 b])
  have HB := Lib.hid ((Below.refl w.heap.size w).alloc (Nat.le_refl _) (.cells #[.int .i64 a, .int .i64 b] 102))
  have HH := Lib.hid h
  have heq : ∀ (a b c d : Int) (w : World), Sem.run Try.prog (binOp .eql 102 (.agg #[.int .i64 a, .int .i64 b]) (.agg #[.int .i64 c, .int .i64 d])) w = .ok (.bool (pEq a b c d)) w := pair_eq
  have HEQ := Lib.hid heq
  clear h heq
  go_enter Try.func79, Try.ntmps79
  go_upto_region 1 with fail
  generalize (w.alloc (.cells #[.int .i64 a, .int .i64 b] 102)) = W1 at *
  go_wp2_with fail
  go_loopw [8] (fun iv wr => ∃ i : Nat, i ≤ C.length ∧ iv = .int .i64 i ∧ (∀ j, j < i → C.getD j (0, 0) ≠ (a, b)) ∧ Below W1.heap.size W1 wr) (fun iv _ => C.length - (intOf iv).toNat)
  case atStart => exact ⟨0, Nat.zero_le _, rfl, fun j hj => absurd hj (Nat.not_lt_zero _), Below.refl _ _⟩
  case round =>
    obtain ⟨i, hi, rfl, hne, B⟩ := hrel
    have HNE := Lib.hid hne
    have HBR := Lib.hid B
    clear hne
    by_cases hlt : i < C.length
    · have z : decide ((i : Int) < (C.length : Int)) = true := decide_eq_true (by omega)
      have HHr := Lib.hid (row_below HH.out (HB.out.trans (B.mono HB.out.size)) (Nat.le_refl _))
      obtain ⟨g, rfl⟩ := own_pairs HHr.out (by omega)
      obtain ⟨c, d, hcd⟩ : ∃ c d, C.getD i (0, 0) = (c, d) := ⟨_, _, rfl⟩
      have HCD := Lib.hid hcd
      have HC := Lib.hid fun (W : World) (B2 : Below wr.heap.size wr W) => And.intro ((HK.out.below (HBR.out.trans (B2.mono HBR.out.size)) HK.out.lt).cell 0) (And.intro ((HK.out.below (HBR.out.trans (B2.mono HBR.out.size)) HK.out.lt).cell 1) (show W.cell? ⟨g, i * 2, none⟩ = some (.int .i64 c) ∧ W.cell? ⟨g, i * 2 + 1, none⟩ = some (.int .i64 d) from by
        have := own_pair (row_below HHr.out B2 (Nat.le_refl _)) i hlt rfl
        rw [hcd] at this
        exact this))
      have hij : (i : Int) < (C.length : Int) := by omega
      clear B hcd
      have heq := HEQ.out
      by_cases hx : (c, d) = (a, b)
      · have z2 : pEq a b c d = true := decide_eq_true (by injection hx with h1 h2; exact ⟨h1.symm, h2.symm⟩)
        have HM := Lib.hid (show (a, b) ∈ C from by
          rw [← hx, ← HCD.out]
          simp only [List.getD, List.getElem?_eq_getElem hlt, Option.getD_some]
          exact List.getElem_mem _)
        clear hx hlt
        go_upto_region 4 with fail
        refine wp_region_held_drew (S := fun W => Below wr.heap.size wr W) (by kernel_rfl) ((Below.refl _ _).drew) (fun hS => ?_)
        refine wpAnyH_take (i := 0) (v := ?_) rfl (by kernel_rfl) (by kernel_rfl) (by kernel_rfl) (fun _ _ _ h => h) (Or.inl ⟨by kernel_rfl, ?_⟩) hS ?_
        rotate_left
        · intro W hW; obtain ⟨k0, k1, q0, q1⟩ := HC.out W hW; go_simp; try with_reducible rfl
        refine wpAnyH_take (i := 1) (v := ?_) rfl (by kernel_rfl) (by kernel_rfl) (by kernel_rfl) (fun _ _ _ h => h) (Or.inl ⟨by kernel_rfl, ?_⟩) hS ?_
        rotate_left
        · intro W hW; go_simp; try with_reducible rfl
        refine wpAnyH_take (i := 2) (v := ?_) rfl (by kernel_rfl) (by kernel_rfl) (by kernel_rfl) (fun _ _ _ h => h) (Or.inl ⟨by kernel_rfl, ?_⟩) hS ?_
        rotate_left
        · intro W hW; go_simp; try with_reducible rfl
        refine wpAnyH_take (i := 3) (v := ?_) rfl (by kernel_rfl) (by kernel_rfl) (by kernel_rfl) (fun _ _ _ h => h) (Or.inl ⟨by kernel_rfl, ?_⟩) hS ?_
        rotate_left
        · intro W hW; go_simp; try with_reducible rfl
        refine wpAnyH_take (i := 4) (v := ?_) rfl (by kernel_rfl) (by kernel_rfl) (by kernel_rfl) (fun _ _ _ h => h) (Or.inl ⟨by kernel_rfl, ?_⟩) hS ?_
        rotate_left
        · intro W hW; obtain ⟨k0, k1, q0, q1⟩ := HC.out W hW; go_simp; try with_reducible rfl
        refine wpAnyH_take (i := 5) (v := ?_) rfl (by kernel_rfl) (by kernel_rfl) (by kernel_rfl) (fun _ _ _ h => h) (Or.inl ⟨by kernel_rfl, ?_⟩) hS ?_
        rotate_left
        · intro W hW; go_simp; try with_reducible rfl
        refine wpAnyH_done (by kernel_rfl) ?_ _
        go_simp
        have HF := Lib.hid (HB.out.trans ((HBR.out.trans (hS.mono HBR.out.size)).mono HB.out.size))
        clear hS heq
        go_wp2_with fail
        go_ret
        exact ⟨⟨_, rfl, fun _ => HM.out, fun _ => by omega⟩, HF.out⟩
      · have z2 : pEq a b c d = false := decide_eq_false (fun e => hx (by rw [e.1, e.2]))
        have HX := Lib.hid hx
        clear hx hlt
        go_upto_region 4 with fail
        refine wp_region_held_drew (S := fun W => Below wr.heap.size wr W) (by kernel_rfl) ((Below.refl _ _).drew) (fun hS => ?_)
        refine wpAnyH_take (i := 0) (v := ?_) rfl (by kernel_rfl) (by kernel_rfl) (by kernel_rfl) (fun _ _ _ h => h) (Or.inl ⟨by kernel_rfl, ?_⟩) hS ?_
        rotate_left
        · intro W hW; obtain ⟨k0, k1, q0, q1⟩ := HC.out W hW; go_simp; try with_reducible rfl
        refine wpAnyH_take (i := 1) (v := ?_) rfl (by kernel_rfl) (by kernel_rfl) (by kernel_rfl) (fun _ _ _ h => h) (Or.inl ⟨by kernel_rfl, ?_⟩) hS ?_
        rotate_left
        · intro W hW; go_simp; try with_reducible rfl
        refine wpAnyH_take (i := 2) (v := ?_) rfl (by kernel_rfl) (by kernel_rfl) (by kernel_rfl) (fun _ _ _ h => h) (Or.inl ⟨by kernel_rfl, ?_⟩) hS ?_
        rotate_left
        · intro W hW; go_simp; try with_reducible rfl
        refine wpAnyH_take (i := 3) (v := ?_) rfl (by kernel_rfl) (by kernel_rfl) (by kernel_rfl) (fun _ _ _ h => h) (Or.inl ⟨by kernel_rfl, ?_⟩) hS ?_
        rotate_left
        · intro W hW; go_simp; try with_reducible rfl
        refine wpAnyH_take (i := 4) (v := ?_) rfl (by kernel_rfl) (by kernel_rfl) (by kernel_rfl) (fun _ _ _ h => h) (Or.inl ⟨by kernel_rfl, ?_⟩) hS ?_
        rotate_left
        · intro W hW; obtain ⟨k0, k1, q0, q1⟩ := HC.out W hW; go_simp; try with_reducible rfl
        refine wpAnyH_take (i := 5) (v := ?_) rfl (by kernel_rfl) (by kernel_rfl) (by kernel_rfl) (fun _ _ _ h => h) (Or.inl ⟨by kernel_rfl, ?_⟩) hS ?_
        rotate_left
        · intro W hW; go_simp; try with_reducible rfl
        refine wpAnyH_done (by kernel_rfl) ?_ _
        go_simp
        have HF := Lib.hid (HBR.out.trans (hS.mono HBR.out.size))
        clear hS heq
        go_wp2_with fail
        go_roundw
        case rel =>
          refine ⟨i + 1, by omega, by go_num, fun j hj => ?_, HF.out⟩
          by_cases e : j = i
          · rw [e, HCD.out]
            exact HX.out
          · exact HNE.out j (by omega)
        case measure => simp [intOf]; omega
    · obtain rfl : i = C.length := by omega
      have HF := Lib.hid (HB.out.trans (B.mono HB.out.size))
      clear hlt B
      go_wp2_with fail
      go_ret
      refine ⟨⟨-1, rfl, fun h => absurd h (by decide), fun h => ?_⟩, HF.out⟩
      obtain ⟨j, hj, e⟩ := List.getElem_of_mem h
      exact absurd (by simp only [List.getD, List.getElem?_eq_getElem hj, Option.getD_some]; exact e) (HNE.out j hj)
theorem pcon_any {base : Nat} {C : List (Int × Int)} {ca : Option Addr} {cc : Nat} (a b : Int) (w : World) (h : w.ownsRow base 102 2 (.slice ca C.length cc) C.length (flatC C)) (hn : C.length ≤ 1000000) :
    Calls Try.prog 56 #[.slice ca C.length cc, .agg #[.int .i64 a, .int .i64 b]] w fun e w' => e = .returned (.bool (decide ((a, b) ∈ C))) ∧ Below w.heap.size w w' := by
  have BA := (Below.refl w.heap.size w).alloc (Nat.le_refl _) (.cells #[.int .i64 a, .int .i64 b] 102)
  have HK := Lib.hid (Blk.made w 102 #[.int .i64 a, .int .i64 b])
  have E := Lib.hid (pidx_any a b _ (row_below h BA (Nat.le_refl _)) hn)
  have HB := Lib.hid BA
  clear BA h
  go_enter Try.func56, Try.ntmps56
  go_upto_region 1 with fail
  generalize (w.alloc (.cells #[.int .i64 a, .int .i64 b] 102)) = W1 at *
  have k0 := HK.out.cell 0
  have k1 := HK.out.cell 1
  go_wp2_with fail
  refine E.out.mono ?_
  rintro e w2 ⟨⟨r, rfl, hr⟩, B2⟩
  have HB2 := Lib.hid (HB.out.trans (B2.mono HB.out.size))
  have HR := Lib.hid (show decide (0 ≤ r) = decide ((a, b) ∈ C) from by
    by_cases h0 : 0 ≤ r
    · rw [decide_eq_true h0, decide_eq_true (hr.1 h0)]
    · rw [decide_eq_false h0, decide_eq_false (fun e => h0 (hr.2 e))])
  clear hr B2 k0 k1
  go_wp2_with fail
  go_ret
  exact ⟨by rw [← HR.out]; rfl, HB2.out⟩
/-- Are two places cut from each other? -/
def apC (C : List (Int × Int)) (a b : Int) : Bool := decide ((pMin a b, pMax a b) ∈ C)
set_option maxRecDepth 100000 in
theorem apart_any {N base : Nat} {P : List Pk} {C : List (Int × Int)} (a b : Int) (w : World) (h : NetR w N base P C) (hn : C.length ≤ 1000000) :
    Calls Try.prog 29 #[.pointer (some ⟨N, 0, none⟩), .int .i64 a, .int .i64 b] w fun e w' => e = .returned (.bool (apC C a b)) ∧ Below w.heap.size w w' := by
  obtain ⟨la, lc, ca, cc, hN, -, hC, -, -, -⟩ := h
  have HC := Lib.hid fun (W : World) (B : Below w.heap.size w W) => (hN.below B hN.lt).cell 1
  have EO := Lib.hid fun (W : World) => order_any a b W
  have EC := Lib.hid fun (W : World) (B : Below w.heap.size w W) => pcon_any (pMin a b) (pMax a b) W (row_below hC B (Nat.le_refl _)) hn
  have B0 := Below.refl w.heap.size w
  clear hN hC
  go_enter Try.func29, Try.ntmps29
  go_upto_region 1 with fail
  refine wp_region_held_drew (S := fun W => Below w.heap.size w W) (by kernel_rfl) ((Below.refl _ _).drew) (fun hS => ?_)
  refine wpAnyH_take (i := 0) (v := ?_) rfl (by kernel_rfl) (by kernel_rfl) (by kernel_rfl) (fun _ _ _ h => h) (Or.inl ⟨by kernel_rfl, ?_⟩) hS ?_
  rotate_left
  · intro W hW; go_simp; try with_reducible rfl
  refine wpAnyH_take (i := 1) (v := ?_) rfl (by kernel_rfl) (by kernel_rfl) (by kernel_rfl) (fun _ _ _ h => h) (Or.inl ⟨by kernel_rfl, ?_⟩) hS ?_
  rotate_left
  · intro W hW; go_simp; try with_reducible rfl
  refine wpAnyH_take (i := 2) (v := ?_) rfl (by kernel_rfl) (by kernel_rfl) (by kernel_rfl) (fun _ _ _ h => h) (Or.inl ⟨by kernel_rfl, ?_⟩) hS ?_
  rotate_left
  · intro W hW; go_simp; try with_reducible rfl
  refine wpAnyH_take (i := 3) (v := ?_) rfl (by kernel_rfl) (by kernel_rfl) (by kernel_rfl) (fun _ _ _ h => h) (Or.inl ⟨by kernel_rfl, ?_⟩) hS ?_
  rotate_left
  · intro W hW; go_simp; try with_reducible rfl
  refine wpAnyH_take (i := 4) (v := ?_) rfl (by kernel_rfl) (by kernel_rfl) (by kernel_rfl) (fun _ _ _ h => h) (Or.inl ⟨by kernel_rfl, ?_⟩) hS ?_
  rotate_left
  · intro W hW; go_simp; try with_reducible rfl
  refine wpAnyH_take (i := 5) (v := ?_) rfl (by kernel_rfl) (by kernel_rfl) (by kernel_rfl) (fun _ _ _ h => h) (Or.inl ⟨by kernel_rfl, ?_⟩) hS ?_
  rotate_left
  · intro W hW; go_simp; try with_reducible rfl
  refine wpAnyH_take (i := 6) (v := ?_) rfl (by kernel_rfl) (by kernel_rfl) (by kernel_rfl) (fun _ _ _ h => h) (Or.inl ⟨by kernel_rfl, ?_⟩) hS ?_
  rotate_left
  · intro W hW; have k1 := HC.out W hW; go_simp; try with_reducible rfl
  refine wpAnyH_take (i := 7) (v := ?_) rfl (by kernel_rfl) (by kernel_rfl) (by kernel_rfl) (fun _ _ _ h => h) (Or.inl ⟨by kernel_rfl, ?_⟩) hS ?_
  rotate_left
  · intro W hW; go_simp; try with_reducible rfl
  refine wpAnyH_take (i := 8) (v := ?_) rfl (by kernel_rfl) (by kernel_rfl) (by kernel_rfl) (fun _ _ _ h => h) (Or.inl ⟨by kernel_rfl, ?_⟩) hS ?_
  rotate_left
  · intro W hW; go_simp; try with_reducible rfl
  refine wpAnyH_ready (rs := [9]) (by kernel_rfl) (by simp) ?_
  refine AllReadyH.cons (i := 9) rfl ?_ AllReadyH.nil
  intro K hK
  go_simp
  refine (EO.out _).mono ?_
  rintro e w2 ⟨rfl, B2⟩
  have hT := hS.trans (B2.mono hS.size)
  go_simp
  refine hK.out _ _ ?_ (fun hN => ?_)
  · first | exact hT | exact hS | exact hS.alloc hS.size _ | exact hS.drew
  clear hK K
  try clear hT
  clear hS
  have hS := hN
  clear hN
  refine wpAnyH_ready (rs := [10]) (by kernel_rfl) (by simp) ?_
  refine AllReadyH.cons (i := 10) rfl ?_ AllReadyH.nil
  intro K hK
  go_simp
  refine (EC.out _ hS).mono ?_
  rintro e w3 ⟨rfl, B3⟩
  have hT := hS.trans (B3.mono hS.size)
  go_simp
  refine hK.out _ _ ?_ (fun hN => ?_)
  · first | exact hT | exact hS | exact hS.alloc hS.size _ | exact hS.drew
  clear hK K
  try clear hT
  clear hS
  have hS := hN
  clear hN
  refine wpAnyH_take (i := 11) (v := ?_) rfl (by kernel_rfl) (by kernel_rfl) (by kernel_rfl) (fun _ _ _ h => h) (Or.inl ⟨by kernel_rfl, ?_⟩) hS ?_
  rotate_left
  · intro W hW; go_simp; try with_reducible rfl
  refine wpAnyH_take (i := 12) (v := ?_) rfl (by kernel_rfl) (by kernel_rfl) (by kernel_rfl) (fun _ _ _ h => h) (Or.inl ⟨by kernel_rfl, ?_⟩) hS ?_
  rotate_left
  · intro W hW; go_simp; try with_reducible rfl
  refine wpAnyH_done (by kernel_rfl) ?_ _
  go_simp
  have HF := Lib.hid hS
  clear hS
  go_wp2_with fail
  go_ret
  exact ⟨rfl, HF.out⟩
theorem apart_nil (a b : Int) (w : World) : Calls Try.prog 29 #[.pointer none, .int .i64 a, .int .i64 b] w fun e w' => e = .returned (.bool false) ∧ Below w.heap.size w w' := by
  go_enter Try.func29, Try.ntmps29
  go_upto_region 1 with fail
  have B0 := Below.refl w.heap.size w
  refine wp_region_held_drew (S := fun W => Below w.heap.size w W) (by kernel_rfl) ((Below.refl _ _).drew) (fun hS => ?_)
  refine wpAnyH_take (i := 0) (v := ?_) rfl (by kernel_rfl) (by kernel_rfl) (by kernel_rfl) (fun _ _ _ h => h) (Or.inl ⟨by kernel_rfl, ?_⟩) hS ?_
  rotate_left
  · intro W hW; go_simp; try with_reducible rfl
  refine wpAnyH_take (i := 1) (v := ?_) rfl (by kernel_rfl) (by kernel_rfl) (by kernel_rfl) (fun _ _ _ h => h) (Or.inl ⟨by kernel_rfl, ?_⟩) hS ?_
  rotate_left
  · intro W hW; go_simp; try with_reducible rfl
  refine wpAnyH_take (i := 2) (v := ?_) rfl (by kernel_rfl) (by kernel_rfl) (by kernel_rfl) (fun _ _ _ h => h) (Or.inl ⟨by kernel_rfl, ?_⟩) hS ?_
  rotate_left
  · intro W hW; go_simp; try with_reducible rfl
  refine wpAnyH_take (i := 3) (v := undef) rfl (by kernel_rfl) (by kernel_rfl) (by kernel_rfl) (fun _ _ _ h => h) (Or.inr ⟨by kernel_rfl, rfl⟩) hS ?_
  refine wpAnyH_take (i := 4) (v := undef) rfl (by kernel_rfl) (by kernel_rfl) (by kernel_rfl) (fun _ _ _ h => h) (Or.inr ⟨by kernel_rfl, rfl⟩) hS ?_
  refine wpAnyH_take (i := 5) (v := undef) rfl (by kernel_rfl) (by kernel_rfl) (by kernel_rfl) (fun _ _ _ h => h) (Or.inr ⟨by kernel_rfl, rfl⟩) hS ?_
  refine wpAnyH_take (i := 6) (v := undef) rfl (by kernel_rfl) (by kernel_rfl) (by kernel_rfl) (fun _ _ _ h => h) (Or.inr ⟨by kernel_rfl, rfl⟩) hS ?_
  refine wpAnyH_take (i := 7) (v := undef) rfl (by kernel_rfl) (by kernel_rfl) (by kernel_rfl) (fun _ _ _ h => h) (Or.inr ⟨by kernel_rfl, rfl⟩) hS ?_
  refine wpAnyH_take (i := 8) (v := undef) rfl (by kernel_rfl) (by kernel_rfl) (by kernel_rfl) (fun _ _ _ h => h) (Or.inr ⟨by kernel_rfl, rfl⟩) hS ?_
  refine wpAnyH_take (i := 9) (v := undef) rfl (by kernel_rfl) (by kernel_rfl) (by kernel_rfl) (fun _ _ _ h => h) (Or.inr ⟨by kernel_rfl, rfl⟩) hS ?_
  refine wpAnyH_take (i := 10) (v := undef) rfl (by kernel_rfl) (by kernel_rfl) (by kernel_rfl) (fun _ _ _ h => h) (Or.inr ⟨by kernel_rfl, rfl⟩) hS ?_
  refine wpAnyH_take (i := 11) (v := ?_) rfl (by kernel_rfl) (by kernel_rfl) (by kernel_rfl) (fun _ _ _ h => h) (Or.inl ⟨by kernel_rfl, ?_⟩) hS ?_
  rotate_left
  · intro W hW; go_simp; try with_reducible rfl
  refine wpAnyH_take (i := 12) (v := ?_) rfl (by kernel_rfl) (by kernel_rfl) (by kernel_rfl) (fun _ _ _ h => h) (Or.inl ⟨by kernel_rfl, ?_⟩) hS ?_
  rotate_left
  · intro W hW; go_simp; try with_reducible rfl
  refine wpAnyH_done (by kernel_rfl) ?_ _
  go_simp
  have HF := Lib.hid hS
  clear hS
  go_wp2_with fail
  go_ret
  exact ⟨rfl, HF.out⟩
/-- Two boxes hold two places. -/
def Two (W : World) (A B : Nat) (x y : Int) : Prop := Blk W A 3 #[.int .i64 x] ∧ Blk W B 3 #[.int .i64 y]
theorem Two.below {W W' : World} {A B : Nat} {x y : Int} (h : Two W A B x y) (b : Below W.heap.size W W') : Two W' A B x y := ⟨h.1.below b h.1.lt, h.2.below b h.2.lt⟩
theorem Two.nkeep {W W' : World} {A B : Nat} {x y : Int} (h : Two W A B x y) (k : NKeep W W') : Two W' A B x y := ⟨h.1.nkeep k (by decide) (by decide) (by decide), h.2.nkeep k (by decide) (by decide) (by decide)⟩
set_option maxRecDepth 100000 in
theorem clo_any {A B : Nat} {x y : Int} (c d : Int) (w : World) (h : Two w A B x y) :
    Calls Try.prog 52 #[.agg #[.int .i64 c, .int .i64 d], .pointer (some ⟨A, 0, none⟩), .pointer (some ⟨B, 0, none⟩)] w fun e w' => e = .returned (.bool (pEq c d (pMin x y) (pMax x y))) ∧ Below w.heap.size w w' := by
  have BA := (Below.refl w.heap.size w).alloc (Nat.le_refl _) (.cells #[.int .i64 c, .int .i64 d] 102)
  have HK := Lib.hid (Blk.made w 102 #[.int .i64 c, .int .i64 d])
  have HT := Lib.hid (h.below BA)
  have HB := Lib.hid BA
  have HEQ := Lib.hid (show ∀ (a b c d : Int) (w : World), Sem.run Try.prog (binOp .eql 102 (.agg #[.int .i64 a, .int .i64 b]) (.agg #[.int .i64 c, .int .i64 d])) w = .ok (.bool (pEq a b c d)) w from pair_eq)
  have EO := Lib.hid fun (W : World) => order_any x y W
  clear BA h
  go_enter Try.func52, Try.ntmps52
  go_upto_region 1 with fail
  generalize (w.alloc (.cells #[.int .i64 c, .int .i64 d] 102)) = W1 at *
  have HC := Lib.hid fun (W : World) (B2 : Below W1.heap.size W1 W) => And.intro ((HK.out.below B2 HK.out.lt).cell 0) (And.intro ((HK.out.below B2 HK.out.lt).cell 1) (And.intro ((HT.out.below B2).1.cell 0) ((HT.out.below B2).2.cell 0)))
  have heq := HEQ.out
  refine wp_region_held_drew (S := fun W => Below W1.heap.size W1 W) (by kernel_rfl) ((Below.refl _ _).drew) (fun hS => ?_)
  refine wpAnyH_take (i := 0) (v := ?_) rfl (by kernel_rfl) (by kernel_rfl) (by kernel_rfl) (fun _ _ _ h => h) (Or.inl ⟨by kernel_rfl, ?_⟩) hS ?_
  rotate_left
  · intro W hW; obtain ⟨k0, k1, q0, q1⟩ := HC.out W hW; go_simp; try with_reducible rfl
  refine wpAnyH_take (i := 1) (v := ?_) rfl (by kernel_rfl) (by kernel_rfl) (by kernel_rfl) (fun _ _ _ h => h) (Or.inl ⟨by kernel_rfl, ?_⟩) hS ?_
  rotate_left
  · intro W hW; obtain ⟨k0, k1, q0, q1⟩ := HC.out W hW; go_simp; try with_reducible rfl
  refine wpAnyH_take (i := 2) (v := ?_) rfl (by kernel_rfl) (by kernel_rfl) (by kernel_rfl) (fun _ _ _ h => h) (Or.inl ⟨by kernel_rfl, ?_⟩) hS ?_
  rotate_left
  · intro W hW; obtain ⟨k0, k1, q0, q1⟩ := HC.out W hW; go_simp; try with_reducible rfl
  refine wpAnyH_ready (rs := [3]) (by kernel_rfl) (by simp) ?_
  refine AllReadyH.cons (i := 3) rfl ?_ AllReadyH.nil
  intro K hK
  go_simp
  refine (EO.out _).mono ?_
  rintro e w2 ⟨rfl, B2⟩
  have hT := hS.trans (B2.mono hS.size)
  go_simp
  refine hK.out _ _ ?_ (fun hN => ?_)
  · first | exact hT | exact hS | exact hS.alloc hS.size _ | exact hS.drew
  clear hK K
  try clear hT
  clear hS
  have hS := hN
  clear hN
  refine wpAnyH_take (i := 4) (v := ?_) rfl (by kernel_rfl) (by kernel_rfl) (by kernel_rfl) (fun _ _ _ h => h) (Or.inl ⟨by kernel_rfl, ?_⟩) hS ?_
  rotate_left
  · intro W hW; go_simp; try with_reducible rfl
  refine wpAnyH_take (i := 5) (v := ?_) rfl (by kernel_rfl) (by kernel_rfl) (by kernel_rfl) (fun _ _ _ h => h) (Or.inl ⟨by kernel_rfl, ?_⟩) hS ?_
  rotate_left
  · intro W hW; go_simp; try with_reducible rfl
  refine wpAnyH_done (by kernel_rfl) ?_ _
  go_simp
  have HF := Lib.hid (HB.out.trans (hS.mono HB.out.size))
  clear hS heq
  go_wp2_with fail
  go_ret
  exact ⟨rfl, HF.out⟩
set_option maxRecDepth 100000 in
set_option maxHeartbeats 1000000 in
theorem pidf_any {base A B : Nat} {x y : Int} {C : List (Int × Int)} {ca : Option Addr} {cc : Nat} (w : World) (h : w.ownsRow base 102 2 (.slice ca C.length cc) C.length (flatC C)) (ht : Two w A B x y) (hn : C.length ≤ 1000000) :
    Calls Try.prog 78 #[.slice ca C.length cc, .func (.func 52) #[] #[.pointer (some ⟨A, 0, none⟩), .pointer (some ⟨B, 0, none⟩)]] w fun e w' => (∃ r : Int, e = .returned (.int .i64 r) ∧ ((r = -1 ∧ ∀ j, j < C.length → C.getD j (0, 0) ≠ (pMin x y, pMax x y)) ∨ (∃ k : Nat, r = k ∧ k < C.length ∧ C.getD k (0, 0) = (pMin x y, pMax x y) ∧ ∀ j, j < k → C.getD j (0, 0) ≠ (pMin x y, pMax x y)))) ∧ Below w.heap.size w w' := by
  have HH := Lib.hid h
  have HT := Lib.hid ht
  clear h ht
  go_enter Try.func78, Try.ntmps78
  go_wp2_with fail
  go_loopw [8] (fun iv wr => ∃ i : Nat, i ≤ C.length ∧ iv = .int .i64 i ∧ (∀ j, j < i → C.getD j (0, 0) ≠ (pMin x y, pMax x y)) ∧ Below w.heap.size w wr) (fun iv _ => C.length - (intOf iv).toNat)
  case atStart => exact ⟨0, Nat.zero_le _, rfl, fun j hj => absurd hj (Nat.not_lt_zero _), Below.refl _ _⟩
  case round =>
    obtain ⟨i, hi, rfl, hne, B1⟩ := hrel
    have HNE := Lib.hid hne
    have HBR := Lib.hid B1
    clear hne
    by_cases hlt : i < C.length
    · have HHr := Lib.hid (row_below HH.out B1 (Nat.le_refl _))
      obtain ⟨g, rfl⟩ := own_pairs HHr.out (by omega)
      obtain ⟨c, d, hcd⟩ : ∃ c d, C.getD i (0, 0) = (c, d) := ⟨_, _, rfl⟩
      have HCD := Lib.hid hcd
      obtain ⟨q0, q1⟩ := own_pair HHr.out i hlt rfl
      rw [hcd] at q0 q1
      dsimp only at q0 q1
      have hij : (i : Int) < (C.length : Int) := by omega
      have EC := Lib.hid (clo_any c d wr (HT.out.below B1))
      have HL := Lib.hid hlt
      clear B1 hcd
      by_cases hx : (c, d) = (pMin x y, pMax x y)
      · have z2 : pEq c d (pMin x y) (pMax x y) = true := decide_eq_true (by injection hx with h1 h2; exact ⟨h1, h2⟩)
        rw [z2] at EC
        have HX := Lib.hid hx
        clear hx hlt z2
        go_wp2_with fail
        refine EC.out.mono ?_
        rintro e w2 ⟨rfl, B2⟩
        have HF := Lib.hid (HBR.out.trans (B2.mono HBR.out.size))
        clear q0 q1 B2
        go_wp2_with fail
        go_ret
        exact ⟨⟨_, rfl, .inr ⟨i, rfl, HL.out, HCD.out.trans HX.out, HNE.out⟩⟩, HF.out⟩
      · have z2 : pEq c d (pMin x y) (pMax x y) = false := decide_eq_false (fun e => hx (by rw [e.1, e.2]))
        rw [z2] at EC
        have HX := Lib.hid hx
        clear hx hlt z2
        go_wp2_with fail
        refine EC.out.mono ?_
        rintro e w2 ⟨rfl, B2⟩
        have HF := Lib.hid (HBR.out.trans (B2.mono HBR.out.size))
        clear q0 q1 B2
        go_wp2_with fail
        go_roundw
        case rel =>
          refine ⟨i + 1, HL.out, by go_num, fun j hj => ?_, HF.out⟩
          by_cases e : j = i
          · rw [e, HCD.out]
            exact HX.out
          · exact HNE.out j (by omega)
        case measure => have := HL.out; simp [intOf]; omega
    · obtain rfl : i = C.length := by omega
      have HF := Lib.hid B1
      clear hlt B1
      go_wp2_with fail
      go_ret
      exact ⟨⟨-1, rfl, .inl ⟨rfl, HNE.out⟩⟩, HF.out⟩
/-- The pairs without one. -/
def cutF (q : Int × Int) (C : List (Int × Int)) : List (Int × Int) := C.filter (fun p => !decide (p = q))
theorem run_clear_cells {P : Program} (w : World) (t e ty : TypeId) (z : Value) (ht : P.underlying t = some (.slice e)) (hv : ∀ w, (zeroValue e).run P w = .ok z w) (b o n c : Nat) (hn : 0 < n) (h1 : ∀ v ∈ (Builtin.zeroCells z.cells n).toList, v.oneCell' = true)
    (hc : ∀ j, j < (Builtin.zeroCells z.cells n).toList.length → (w.cell? ⟨b, o + j, none⟩).isSome = true) (hf : ∀ j, j < (Builtin.zeroCells z.cells n).toList.length → w.frozen? ⟨b, o + j, none⟩ = false) :
    (Builtin.clear_ #[t] ty #[.slice (some ⟨b, o, none⟩) n c]).run P w = .ok (.tuple #[]) (w.setCells b o (Builtin.zeroCells z.cells n).toList) := by
  have hst := run_storeCells_cells (P := P) b o (Builtin.zeroCells z.cells n).toList 0 w (by simpa using hc) (by simpa using hf) h1
  simp only [Nat.add_zero] at hst
  obtain ⟨m, rfl⟩ : ∃ m, n = m + 1 := ⟨n - 1, by omega⟩
  simp [Builtin.clear_, run_underlying ht, hv, hst]
theorem zero_pairs (n : Nat) : ∀ v ∈ (Builtin.zeroCells (Value.agg #[.int .i64 0, .int .i64 0]).cells n).toList, v.oneCell' = true := by
  intro v hv
  simp only [Builtin.zeroCells, Array.toList_map, List.mem_map] at hv
  obtain ⟨i, -, rfl⟩ := hv
  have h : i % 2 = 0 ∨ i % 2 = 1 := by omega
  show ((#[Value.int .i64 0, Value.int .i64 0] : Array Value)[i % 2]!).oneCell' = true
  rcases h with h | h <;> rw [h] <;> rfl
theorem zero_pairs_len (n : Nat) : (Builtin.zeroCells (Value.agg #[.int .i64 0, .int .i64 0]).cells n).toList.length = n * 2 := by
  simp [Builtin.zeroCells, Value.cells]
/-- s[i:], cleared. -/
theorem clear_tail {W : World} {base g n c i : Nat} {xs : List Value} (h : W.ownsRow base 102 2 (.slice (some ⟨g, 0, none⟩) n c) n xs) (hi : i < n) :
    ∃ W', (∀ ty, (Builtin.clear_ #[97] ty #[.slice (some ⟨g, i * 2, none⟩) (n - i) (c - i)]).run Try.prog W = .ok (.tuple #[]) W') ∧ W'.ownsRow base 102 2 (.slice (some ⟨g, 0, none⟩) i c) i (xs.take (i * 2)) ∧ W.grownBy W' (some g) := by
  obtain ⟨h1, h2⟩ := row_setCells (Builtin.zeroCells (Value.agg #[.int .i64 0, .int .i64 0]).cells (n - i)).toList (i * 2) W (row_cut h i (by omega)) (Nat.le_refl _)
  refine ⟨_, fun ty => run_clear_cells W 97 102 ty (.agg #[.int .i64 0, .int .i64 0]) Try.underlying97 (fun W => by kernel_rfl) g (i * 2) (n - i) (c - i) (by omega) (zero_pairs _) (fun j hj => ?_) (fun j hj => h.frozenAt _), h1, h2⟩
  rw [zero_pairs_len] at hj
  rw [h.cellAt (i * 2 + j) (by omega), List.getElem?_eq_getElem (by rw [h.1]; omega)]
  rfl
theorem slice_tail {g n c i : Nat} (hi : i < n) (hc : n ≤ c) (W : World) : (Instr.slice 97 (.slice (some ⟨g, 0, none⟩) n c) (some (.int .i64 (i : Int))) none none).run Try.prog W = .ok (.slice (some ⟨g, i * 2, none⟩) (n - i) (c - i)) W := by
  have hs : ∀ W, (sizeOf (Try.prog.elem 97)).run Try.prog W = .ok 2 W := fun W => by kernel_rfl
  have hu : Try.prog.underlying 97 = some (.slice (Try.prog.elem 97)) := by kernel_rfl
  rw [run_slice_l _ _ _ _ _ hu _ _ (by omega) (by omega)]
  simp only [hs, sliced, Result.andThen_ok, Int.toNat_natCast]
  rw [if_neg (by omega)]
  simp [Addr.add_lit]

theorem cutF_snoc (q : Int × Int) (C : List (Int × Int)) (j : Nat) (hj : j < C.length) (c : Int × Int) (hc : C.getD j (0, 0) = c) : cutF q (C.take (j + 1)) = cutF q (C.take j) ++ (if c = q then [] else [c]) := by
  have e : C[j] = c := by rw [← hc]; simp [List.getD, hj]
  unfold cutF
  rw [List.take_succ_eq_append_getElem hj, List.filter_append, e]
  by_cases h : c = q <;> simp [h]
theorem cutF_none (q : Int × Int) (C : List (Int × Int)) (h : ∀ j, j < C.length → C.getD j (0, 0) ≠ q) : cutF q C = C := by
  unfold cutF
  rw [List.filter_eq_self]
  intro p hp
  obtain ⟨j, hj, e⟩ := List.getElem_of_mem hp
  have := h j hj
  simp only [List.getD, List.getElem?_eq_getElem hj, Option.getD_some, e] at this
  simp [this]
theorem cutF_len (q : Int × Int) (C : List (Int × Int)) : (cutF q C).length ≤ C.length := List.length_filter_le _ _
theorem getD_mid {F D : List (Int × Int)} {i j : Nat} (hF : F.length = i) (hij : i ≤ j) (C : List (Int × Int)) (hD : D = C.drop i) : (F ++ D).getD j (0, 0) = C.getD j (0, 0) := by
  subst hD
  simp only [List.getD]
  rw [List.getElem?_append_right (by omega), hF, List.getElem?_drop, show i + (j - i) = j from by omega]
set_option maxRecDepth 100000 in
set_option maxHeartbeats 2000000 in
theorem dlf_any {base A B : Nat} {x y : Int} {C : List (Int × Int)} {ca : Option Addr} {cc : Nat} (w : World) (h : w.ownsRow base 102 2 (.slice ca C.length cc) C.length (flatC C)) (ht : Two w A B x y) (hn : C.length ≤ 1000000) :
    Calls Try.prog 51 #[.slice ca C.length cc, .func (.func 52) #[] #[.pointer (some ⟨A, 0, none⟩), .pointer (some ⟨B, 0, none⟩)]] w fun e w' => ∃ ca' cc', e = .returned (.slice ca' (cutF (pMin x y, pMax x y) C).length cc') ∧
      w'.ownsRow base 102 2 (.slice ca' (cutF (pMin x y, pMax x y) C).length cc') (cutF (pMin x y, pMax x y) C).length (flatC (cutF (pMin x y, pMax x y) C)) ∧ w.grownBy w' (Value.slice ca C.length cc).ownBlock := by
  have EI := Lib.hid (pidf_any w h ht hn)
  have HH := Lib.hid h
  have HT := Lib.hid ht
  clear h ht
  obtain ⟨n, hcn⟩ : ∃ n, C.length = n := ⟨_, rfl⟩
  rw [hcn] at EI HH hn ⊢
  have HCN := Lib.hid hcn
  clear hcn
  obtain ⟨q, hq⟩ : ∃ q, (pMin x y, pMax x y) = q := ⟨_, rfl⟩
  rw [hq] at EI ⊢
  have HQ := Lib.hid hq
  clear hq
  go_enter Try.func51, Try.ntmps51
  go_wp2_with fail
  refine EI.out.mono ?_
  rintro e w2 ⟨⟨r, rfl, hr⟩, B2⟩
  have HH2 := Lib.hid (row_below HH.out B2 (Nat.le_refl _))
  have HG2 := Lib.hid (show w.grownBy w2 (Value.slice ca n cc).ownBlock from wgrown_of B2)
  clear B2
  rcases hr with ⟨rfl, hall⟩ | ⟨k, rfl, hk, hkq, hall⟩
  · have HE := Lib.hid (cutF_none _ C (by rw [HCN.out]; exact hall))
    clear hall
    go_wp2_with fail
    go_ret
    rw [HE.out, HCN.out]
    exact ⟨ca, cc, rfl, HH2.out, HG2.out⟩
  obtain ⟨g, rfl⟩ := own_pairs HH2.out (by omega)
  have hnc : n ≤ cc := by
    rcases HH2.out.2 with ⟨h', _⟩ | ⟨g', cap', cur, h', hb, hg, hnc, hcm, hcs, htake⟩
    · cases h'
    · cases h'; exact hnc
  have HNC := Lib.hid hnc
  clear hnc
  have HG2' := Lib.hid (show w.grownBy w2 (some g) from HG2.out)
  have HBW := Lib.hid (row_block HH.out)
  have hk1 : ((k : Int) == -1) = false := by rw [beq_eq_false_iff_ne]; omega
  have HSt := Lib.hid (show cutF q (C.take (k + 1)) = C.take k from by
    rw [cutF_snoc _ C k (by rw [HCN.out]; exact hk) _ hkq, if_pos rfl, List.append_nil]
    refine cutF_none _ _ (fun j hj => ?_)
    rw [List.length_take] at hj
    have := hall j (by omega)
    simp only [List.getD, List.getElem?_take, if_pos (show j < k by omega)] at this ⊢
    exact this)
  have HK := Lib.hid hk
  clear hall hkq
  go_upto_region 4 with fail
  clear hk1
  go_wp2_with fail
  go_loopw [5, 6] (fun iv jv wr => ∃ i j : Nat, iv = .int .i64 i ∧ jv = .int .i64 j ∧ i < j ∧ j ≤ n ∧ (cutF q (C.take j)).length = i ∧
    wr.ownsRow base 102 2 (.slice (some ⟨g, 0, none⟩) n cc) n (flatC (cutF q (C.take j) ++ C.drop i)) ∧ w.grownBy wr (some g)) (fun _ jv _ => n - (intOf jv).toNat)
  case atStart =>
    refine ⟨k, k + 1, rfl, rfl, Nat.lt_succ_self _, HK.out, ?_, ?_, HG2'.out⟩
    · rw [HSt.out, List.length_take, HCN.out]
      have := HK.out
      omega
    · rw [HSt.out, List.take_append_drop]
      exact HH2.out
  case round =>
    clear hk
    obtain ⟨i, j, rfl, rfl, hij, hjn, hfl, hro, hgr⟩ := hrel
    have HRO := Lib.hid hro
    have HGR := Lib.hid hgr
    have HFL := Lib.hid hfl
    clear hro hgr hfl
    by_cases hlt : j < n
    · obtain ⟨c, d, hcd⟩ : ∃ c d, C.getD j (0, 0) = (c, d) := ⟨_, _, rfl⟩
      have HCD := Lib.hid hcd
      have hRl : (cutF q (C.take j) ++ C.drop i).length = n := by rw [List.length_append, HFL.out, List.length_drop, HCN.out]; omega
      have HRL := Lib.hid hRl
      obtain ⟨q0, q1⟩ := own_pair HRO.out j hlt hRl
      rw [getD_mid HFL.out (Nat.le_of_lt hij) C rfl, hcd] at q0 q1
      dsimp only at q0 q1
      have hji : (j : Int) < (n : Int) := by omega
      have hii : (i : Int) < (n : Int) := by omega
      have BA := (Below.refl wr.heap.size wr).alloc (Nat.le_refl _) (.cells #[.int .i64 c, .int .i64 d] 102)
      have HBX := Lib.hid (Blk.made wr 102 #[.int .i64 c, .int .i64 d])
      have HTr := Lib.hid (show Two wr A B x y from by
        obtain ⟨cur, hb⟩ := HBW.out
        exact ⟨(HGR.out.block A HT.out.1.lt (by intro e; injection e with e; exact blk_ne HT.out.1 hb (by decide) e)).trans HT.out.1, (HGR.out.block B HT.out.2.lt (by intro e; injection e with e; exact blk_ne HT.out.2 hb (by decide) e)).trans HT.out.2⟩)
      have EC := Lib.hid (clo_any c d _ (HTr.out.below BA))
      have HBA := Lib.hid BA
      clear BA hcd hRl
      have HIJ := Lib.hid (And.intro hij hlt)
      by_cases hx : (c, d) = q
      · have z2 : pEq c d (pMin x y) (pMax x y) = true := decide_eq_true (by rw [← HQ.out] at hx; injection hx with h1 h2; exact ⟨h1, h2⟩)
        rw [z2] at EC
        have HX := Lib.hid hx
        clear hx z2 hij hjn hlt
        go_wp2_with fail
        refine EC.out.mono ?_
        rintro e w3 ⟨rfl, B3⟩
        have HB3 := Lib.hid (HBA.out.trans (B3.mono HBA.out.size))
        clear q0 q1 B3
        go_wp2_with fail
        go_roundw
        case rel =>
          refine ⟨i, j + 1, rfl, by go_num, by have := HIJ.out.1; omega, HIJ.out.2, ?_, ?_, grown_trans HGR.out (wgrown_of HB3.out)⟩
          · rw [cutF_snoc q C j (by rw [HCN.out]; exact HIJ.out.2) _ HCD.out, if_pos HX.out, List.append_nil]
            exact HFL.out
          · rw [cutF_snoc q C j (by rw [HCN.out]; exact HIJ.out.2) _ HCD.out, if_pos HX.out, List.append_nil]
            exact row_below HRO.out HB3.out (Nat.le_refl _)
        case measure => have := HIJ.out; simp [intOf]; omega
      · have z2 : pEq c d (pMin x y) (pMax x y) = false := decide_eq_false (fun e => hx (by rw [← HQ.out, e.1, e.2]))
        rw [z2] at EC
        have HX := Lib.hid hx
        clear hx z2 hij hjn hlt
        go_wp2_with fail
        refine EC.out.mono ?_
        rintro e w3 ⟨rfl, B3⟩
        have HB3 := Lib.hid (HBA.out.trans (B3.mono HBA.out.size))
        have HRO3 := Lib.hid (row_below HRO.out HB3.out (Nat.le_refl _))
        have HBX3 := Lib.hid (HBX.out.below B3 HBX.out.lt)
        clear q0 q1 B3
        have k0 := HBX3.out.cell 0
        have k1 := HBX3.out.cell 1
        obtain ⟨e0, e1⟩ := own_pair HRO3.out i (by have := HIJ.out; omega) HRL.out
        have f0 := HRO3.out.frozenAt (i * 2)
        have f1 := HRO3.out.frozenAt (i * 2 + 1)
        go_wp2_with fail
        obtain ⟨s1, s2⟩ := HRO3.out.stored (i * 2) (.int .i64 c)
        obtain ⟨s3, s4⟩ := s1.stored (i * 2 + 1) (.int .i64 d)
        have hset : ((flatC (cutF q (C.take j) ++ C.drop i)).set (i * 2) (.int .i64 c)).set (i * 2 + 1) (.int .i64 d) = flatC (cutF q (C.take (j + 1)) ++ C.drop (i + 1)) := by
          rw [flatC_set _ i (c, d), cutF_snoc q C j (by rw [HCN.out]; exact HIJ.out.2) _ HCD.out, if_neg HX.out]
          congr 1
          have hi : i < C.length := by rw [HCN.out]; have := HIJ.out; omega
          rw [List.set_append_right _ _ (by rw [HFL.out]; exact Nat.le_refl _), HFL.out, Nat.sub_self, List.drop_eq_getElem_cons hi, List.set_cons_zero, List.append_assoc]
          rfl
        rw [hset] at s3
        have HS3 := Lib.hid s3
        have HS4 := Lib.hid (grown_trans s2 s4)
        clear s1 s2 s3 s4 hset k0 k1 e0 e1 f0 f1
        go_roundw
        case rel =>
          refine ⟨i + 1, j + 1, by go_num, by go_num, by have := HIJ.out.1; omega, HIJ.out.2, ?_, HS3.out, grown_trans (grown_trans HGR.out (wgrown_of HB3.out)) HS4.out⟩
          rw [cutF_snoc q C j (by rw [HCN.out]; exact HIJ.out.2) _ HCD.out, if_neg HX.out, List.length_append, HFL.out]
          rfl
        case measure => have := HIJ.out; simp [intOf]; omega
    · obtain rfl : j = n := by omega
      have hfin : cutF q (C.take j) = cutF q C := by rw [← HCN.out, List.take_length]
      obtain ⟨W', hclr, hro, hgr⟩ := clear_tail HRO.out hij
      have hsl := slice_tail (g := g) hij HNC.out
      rw [← flatC_take, List.take_left' HFL.out, hfin] at hro
      have HRF := Lib.hid hro
      have HGF := Lib.hid (grown_trans HGR.out hgr)
      have HLF := Lib.hid (show (cutF q C).length = i from by rw [← hfin]; exact HFL.out)
      have hic : i ≤ cc := by have := HNC.out; omega
      clear hro hgr hfin hlt hjn
      go_wp2_with fail
      go_ret
      refine ⟨some ⟨g, 0, none⟩, cc, ?_, ?_, HGF.out⟩
      · rw [HLF.out]
        rfl
      · rw [HLF.out]
        exact HRF.out
theorem info_pair : (Try.prog.info? 102).map (fun i => (i.zero, i.size, i.bytes)) = some (some (.agg #[.int .i64 0, .int .i64 0]), 2, 16) := by kernel_rfl
theorem info_pair_parts : ∃ i, Try.prog.info? 102 = some i ∧ i.zero = some (.agg #[.int .i64 0, .int .i64 0]) ∧ i.size = 2 ∧ i.bytes = 16 := info_parts info_pair
/-- A row of pairs put into the net's cell. -/
theorem net_setC {w W2 : World} {N base : Nat} {P : List Pk} {C C' : List (Int × Int)} (h : NetR w N base P C) {ca' : Option Addr} {cc' : Nat} (hk : NKeep w W2) (hb : Below base w W2)
    (hN : ∃ u la lc, Blk W2 N 99 #[.slice la P.length lc, u] ∧ W2.ownsRow base 22 1 (.slice la P.length lc) P.length (P.map Pk.val)) (hr : W2.ownsRow base 102 2 (.slice ca' C'.length cc') C'.length (flatC C')) :
    NDid w N base P C' (W2.setCell ⟨N, 1, none⟩ (.slice ca' C'.length cc')) := by
  obtain ⟨u, la, lc, hB, hL⟩ := hN
  have hg : W2.grownBy (W2.setCell ⟨N, 1, none⟩ (.slice ca' C'.length cc')) (some N) := grown_put (grown_refl _ _) 1 _
  obtain ⟨_, _, _, _, -, -, -, hbn, hP, h4⟩ := h
  have hk2 : NKeep w (W2.setCell ⟨N, 1, none⟩ (.slice ca' C'.length cc')) := hk.trans (NKeep.row hg hB (.inl rfl))
  exact ⟨⟨la, lc, ca', cc', hB.put 1 _, row_keep hL hg hB (by decide), row_keep hr hg hB (by decide), hbn, fun p hp' => (hP p hp').nkeep hk2, h4⟩, hk2, hb.setCell (p := ⟨N, 1, none⟩) hbn _⟩
theorem NetR.boxed {W W' : World} {N base : Nat} {P : List Pk} {C : List (Int × Int)} (h : NetR W N base P C) {b : Nat} {cs : Array Value} (hb : Blk W b 29 cs) (hg : W.grownBy W' (some b)) : NetR W' N base P C := by
  obtain ⟨la, lc, ca, cc, h1, h2, h3, h4, h5, h6⟩ := h
  refine ⟨la, lc, ca, cc, ?_, row_keep h2 hg hb (by decide), row_keep h3 hg hb (by decide), h4, fun p hp => ?_, h6⟩
  · exact (hg.block N h1.lt (by intro e; injection e with e; exact blk_ne h1 hb (by decide) e)).trans h1
  · obtain ⟨g1, g2, bp, g3⟩ := h5 p hp
    exact ⟨g1, g2, bp, row_keep g3 hg hb (by decide)⟩
theorem NDid.boxed {w W W' : World} {N base : Nat} {P : List Pk} {C : List (Int × Int)} {b : Nat} {cs : Array Value} (h : NDid w N base P C W) (hb : Blk W b 29 cs) (hg : W.grownBy W' (some b)) (hw : w.heap.size ≤ b) (hl : base ≤ b) : NDid w N base P C W' :=
  ⟨h.1.boxed hb hg, ⟨hg.os.trans h.2.1.os, hg.tape.trans h.2.1.tape, hg.output.trans h.2.1.output, Nat.le_trans h.2.1.size hg.size, fun k cs t h0 h1 h2 h3 => (hg.block k (Array.getElem?_eq_some_iff.1 (h.2.1.keep k cs t h0 h1 h2 h3)).1 (by intro e; injection e with e; have := (Array.getElem?_eq_some_iff.1 h0).1; omega)).trans (h.2.1.keep k cs t h0 h1 h2 h3)⟩,
   h.2.2.grown hg (by have := hb.lt; omega) (fun k e => by injection e with e; omega)⟩
def netCut (C : List (Int × Int)) (a b : Int) (cut : Bool) : List (Int × Int) × Nat :=
  if 0 ≤ a ∧ a ≤ 255 ∧ 0 ≤ b ∧ b ≤ 255 ∧ a ≠ b then (cutF (pMin a b, pMax a b) C ++ (if cut = true then [(pMin a b, pMax a b)] else []), 0) else (C, 1)
set_option maxRecDepth 100000 in
set_option maxHeartbeats 4000000 in
theorem cut_bad {N base : Nat} {P : List Pk} {C : List (Int × Int)} (a b : Int) (cut : Bool) (w : World) (h : NetR w N base P C) (hb : ¬ (0 ≤ a ∧ a ≤ 255 ∧ 0 ≤ b ∧ b ≤ 255 ∧ a ≠ b)) :
    Calls Try.prog 27 #[.pointer (some ⟨N, 0, none⟩), .int .i64 a, .int .i64 b, .bool cut] w fun e w' => e = .returned (errc 1) ∧ NDid w N base P C w' := by
  have HR := Lib.hid h
  obtain ⟨hA, hB⟩ := made_two w 3 3 #[.int .i64 a] #[.int .i64 b]
  have HB := Lib.hid (((Below.refl w.heap.size w).alloc (Nat.le_refl _) (.cells #[.int .i64 a] 3)).alloc (by simp) (.cells #[.int .i64 b] 3))
  have k0 := hA.cell 0
  have k1 := hB.cell 0
  clear h hA hB
  by_cases h0 : a < 0
  · have z0 : decide (a < 0) = true := decide_eq_true h0
    clear hb
    go_enter Try.func27, Try.ntmps27
    go_upto_region 1 with fail
    generalize ((w.alloc (.cells #[.int .i64 a] 3)).alloc (.cells #[.int .i64 b] 3)) = W0 at *
    go_wp2_with fail
    go_ret
    exact ⟨rfl, HR.out.did HB.out⟩
  have z0 : decide (a < 0) = false := decide_eq_false h0
  by_cases h1 : b < 0
  · have z1 : decide (b < 0) = true := decide_eq_true h1
    clear hb
    go_enter Try.func27, Try.ntmps27
    go_upto_region 1 with fail
    generalize ((w.alloc (.cells #[.int .i64 a] 3)).alloc (.cells #[.int .i64 b] 3)) = W0 at *
    go_wp2_with fail
    go_ret
    exact ⟨rfl, HR.out.did HB.out⟩
  have z1 : decide (b < 0) = false := decide_eq_false h1
  by_cases h2 : 256 ≤ a
  · have z2 : decide (256 ≤ a) = true := decide_eq_true h2
    clear hb
    go_enter Try.func27, Try.ntmps27
    go_upto_region 1 with fail
    generalize ((w.alloc (.cells #[.int .i64 a] 3)).alloc (.cells #[.int .i64 b] 3)) = W0 at *
    go_wp2_with fail
    go_ret
    exact ⟨rfl, HR.out.did HB.out⟩
  have z2 : decide (256 ≤ a) = false := decide_eq_false h2
  by_cases h3 : 256 ≤ b
  · have z3 : decide (256 ≤ b) = true := decide_eq_true h3
    clear hb
    go_enter Try.func27, Try.ntmps27
    go_upto_region 1 with fail
    generalize ((w.alloc (.cells #[.int .i64 a] 3)).alloc (.cells #[.int .i64 b] 3)) = W0 at *
    go_wp2_with fail
    go_ret
    exact ⟨rfl, HR.out.did HB.out⟩
  have z3 : decide (256 ≤ b) = false := decide_eq_false h3
  have hab : a = b := by
    by_cases e : a = b
    · exact e
    · exact absurd ⟨by omega, by omega, by omega, by omega, e⟩ hb
  subst hab
  have z4 : (a == a) = true := beq_self_eq_true a
  clear hb
  go_enter Try.func27, Try.ntmps27
  go_upto_region 1 with fail
  generalize ((w.alloc (.cells #[.int .i64 a] 3)).alloc (.cells #[.int .i64 a] 3)) = W0 at *
  go_wp2_with fail
  go_ret
  exact ⟨rfl, HR.out.did HB.out⟩
set_option maxRecDepth 100000 in
set_option maxHeartbeats 8000000 in
theorem cut_ok {N base : Nat} {P : List Pk} {C : List (Int × Int)} (a b : Int) (cut : Bool) (w : World) (h : NetR w N base P C) (hb : 0 ≤ a ∧ a ≤ 255 ∧ 0 ≤ b ∧ b ≤ 255 ∧ a ≠ b) (hn : C.length ≤ 100000) :
    Calls Try.prog 27 #[.pointer (some ⟨N, 0, none⟩), .int .i64 a, .int .i64 b, .bool cut] w fun e w' => e = .returned (errc 0) ∧ NDid w N base P (cutF (pMin a b, pMax a b) C ++ (if cut = true then [(pMin a b, pMax a b)] else [])) w' := by
  have HR := Lib.hid h
  obtain ⟨hA, hB⟩ := made_two w 3 3 #[.int .i64 a] #[.int .i64 b]
  have BA := ((Below.refl w.heap.size w).alloc (Nat.le_refl _) (.cells #[.int .i64 a] 3)).alloc (by simp) (.cells #[.int .i64 b] 3)
  have HTw := Lib.hid (show Two _ _ _ a b from ⟨hA, hB⟩)
  have HR0 := Lib.hid (h.below BA)
  have HB := Lib.hid BA
  have k0 := hA.cell 0
  have k1 := hB.cell 0
  have z0 : decide (a < 0) = false := decide_eq_false (by omega)
  have z1 : decide (b < 0) = false := decide_eq_false (by omega)
  have z2 : decide (256 ≤ a) = false := decide_eq_false (by omega)
  have z3 : decide (256 ≤ b) = false := decide_eq_false (by omega)
  have z4 : (a == b) = false := by rw [beq_eq_false_iff_ne]; exact hb.2.2.2.2
  clear h hA hB BA hb
  go_enter Try.func27, Try.ntmps27
  go_upto_region 1 with fail
  generalize ((w.alloc (.cells #[.int .i64 a] 3)).alloc (.cells #[.int .i64 b] 3)) = W0 at *
  obtain ⟨la, lc, ca, cc, hN, hL, hC, hbn, hP, h4⟩ := HR0.out
  have c1 := hN.cell 1
  have HN := Lib.hid hN
  have HL := Lib.hid hL
  have HC := Lib.hid hC
  have ED := Lib.hid (dlf_any W0 hC HTw.out (by omega))
  clear hN hL hC hbn hP h4
  go_upto_region 5 with fail
  clear z0 z1 z2 z3 z4 k0 k1
  go_wp2_with fail
  refine ED.out.mono ?_
  rintro e w2 ⟨ca2, cc2, rfl, ho2, hg2⟩
  have HN2 := Lib.hid (own_blk HC.out hg2 HN.out (by decide))
  have HL2 := Lib.hid (own_row HC.out hg2 HL.out (by decide))
  have HK2 := Lib.hid (own_nkeep HC.out hg2 (.inr rfl))
  have HB2 := Lib.hid (own_below' HC.out hg2 HR0.out.low)
  have HO2 := Lib.hid ho2
  have d1 := HN2.out.cell 1
  have f1 := HN2.out.frozen 1
  have hd3 := net_setC HR0.out HK2.out HB2.out ⟨_, _, _, HN2.out, HL2.out⟩ HO2.out
  have HD3 := Lib.hid hd3
  clear ho2 hg2 c1 ED hd3
  go_upto_region 6 with fail
  generalize (w2.setCell ⟨N, 1, none⟩ (.slice ca2 (cutF (pMin a b, pMax a b) C).length cc2)) = W3 at *
  clear d1 f1 HO2 HB2 HK2 HL2 HN2 HC HL HN
  cases cut
  · go_wp2_with fail
    go_ret
    refine ⟨rfl, NDid.on HR0.out (.of HB.out) (HB.out.mono HR.out.low) ?_⟩
    first | exact HD3.out | (rw [if_neg (by decide), List.append_nil]; exact HD3.out)
  have HT3 := Lib.hid (HTw.out.nkeep HD3.out.2.1)
  have HR3 := Lib.hid HD3.out.1
  have HCN := Lib.hid (show (cutF (pMin a b, pMax a b) C).length ≤ 100000 from Nat.le_trans (cutF_len _ _) hn)
  have EO := Lib.hid fun (W : World) => order_any a b W
  obtain ⟨la, lc, ca, cc, hN, hL, hC, hbn, hP, h4⟩ := HR3.out
  have HALL := Lib.hid fun (W : World) (B : Below W3.heap.size W3 W) => And.intro ((hN.below B hN.lt).cell 1) (And.intro ((HT3.out.below B).1.cell 0) ((HT3.out.below B).2.cell 0))
  have HROW := Lib.hid fun (W : World) (B : Below W3.heap.size W3 W) => row_below hC B (Nat.le_refl _)
  have HNB := Lib.hid fun (W : World) (B : Below W3.heap.size W3 W) => hN.below B hN.lt
  have HLB := Lib.hid fun (W : World) (B : Below W3.heap.size W3 W) => row_below hL B (Nat.le_refl _)
  have HBN := Lib.hid hbn
  clear hN hL hC hbn hP h4 hn
  generalize hcf : cutF (pMin a b, pMax a b) C = CF at *
  obtain ⟨i0, hi0, hz0, hz1, hz2⟩ := info_pair_parts
  have HAP := Lib.hid fun (W : World) (B : Below W3.heap.size W3 W) => append_elem (P := Try.prog) (T := 97) Try.underlying97 hi0 hz0 hz1 hz2 rfl (by decide) (HROW.out W B) [.int .i64 (pMin a b), .int .i64 (pMax a b)] rfl (by intro u hu; simp only [List.mem_cons, List.not_mem_nil, or_false] at hu; rcases hu with rfl | rfl <;> rfl) (by have := HCN.out; omega) (by have := HCN.out; unfold maxLen; omega) (Nat.le_trans HR3.out.low B.size)
  clear hi0 hz0 hz1 hz2
  have hB := (Below.refl W3.heap.size W3).drew
  go_upto_region 7 with fail
  refine wp_region_any (by kernel_rfl) ?_
  change wpAny _ _ _ _ _ _ _ (World.drew _)
  refine wpAny_take (i := 0) (v := ?_) rfl (by kernel_rfl) (by kernel_rfl) (by kernel_rfl) (fun _ _ _ h => h) (Or.inl ⟨by kernel_rfl, ?_⟩) ?_
  rotate_left
  · intro w; go_simp; try with_reducible rfl
  refine wpAny_take (i := 1) (v := ?_) rfl (by kernel_rfl) (by kernel_rfl) (by kernel_rfl) (fun _ _ _ h => h) (Or.inl ⟨by kernel_rfl, ?_⟩) ?_
  rotate_left
  · intro w; go_simp; try with_reducible rfl
  refine wpAny_take (i := 2) (v := ?_) rfl (by kernel_rfl) (by kernel_rfl) (by kernel_rfl) (fun _ _ _ h => h) (Or.inl ⟨by kernel_rfl, ?_⟩) ?_
  rotate_left
  · intro w; go_simp; try with_reducible rfl
  refine wpAny_take (i := 3) (v := ?_) rfl (by kernel_rfl) (by kernel_rfl) (by kernel_rfl) (fun _ _ _ h => h) (Or.inl ⟨by kernel_rfl, ?_⟩) ?_
  rotate_left
  · intro w; go_simp; try with_reducible rfl
  refine wpAny_ready (rs := [4, 5, 6]) (by kernel_rfl) (by simp) ?_
  refine AllReady.cons (i := 4) rfl ?_ ?_
  · intro K hK
    obtain ⟨c1, -, -⟩ := HALL.out _ hB
    go_simp
    clear c1
    refine hK _ _ ?_
    clear hK K
    refine wpAny_ready (rs := [5, 6]) (by kernel_rfl) (by simp) ?_
    refine AllReady.cons (i := 5) rfl ?_ ?_
    · intro K hK
      obtain ⟨-, k0, -⟩ := HALL.out _ hB
      go_simp
      clear k0
      refine hK _ _ ?_
      clear hK K
      refine wpAny_ready (rs := [6]) (by kernel_rfl) (by simp) ?_
      refine AllReady.cons (i := 6) rfl ?_ AllReady.nil
      intro K hK
      obtain ⟨-, -, k1⟩ := HALL.out _ hB
      go_simp
      clear k1
      refine hK _ _ ?_
      clear hK K
      refine wpAny_ready (rs := [7]) (by kernel_rfl) (by simp) ?_
      refine AllReady.cons (i := 7) rfl ?_ AllReady.nil
      intro K hK
      go_simp
      refine (EO.out _).mono ?_
      rintro e w5 ⟨rfl, B5⟩
      replace hB := hB.trans (B5.mono hB.size)
      clear B5
      go_simp
      refine hK _ _ ?_
      clear hK K
      refine wpAny_ready (rs := [8]) (by kernel_rfl) (by simp) ?_
      refine AllReady.cons (i := 8) rfl ?_ AllReady.nil
      intro K hK
      go_simp
      have hBo := hB
      replace hB := hB.alloc hB.size (.cells #[.int .i64 (pMin a b), .int .i64 (pMax a b)] 102)
      go_simp
      refine hK _ _ ?_
      clear hK K
      refine wpAny_ready (rs := [9]) (by kernel_rfl) (by simp) ?_
      refine AllReady.cons (i := 9) rfl ?_ AllReady.nil
      intro K hK
      obtain ⟨g9, cap9, W9, hr9, ho9, hg9, -, -⟩ := HAP.out _ hBo
      have hN9 := own_blk (HROW.out _ hBo) hg9 (HNB.out _ hBo) (by decide)
      have hd9 := (net_setC (C' := CF ++ [(pMin a b, pMax a b)]) (HR3.out.below hBo) (own_nkeep (HROW.out _ hBo) hg9 (.inr rfl)) (own_below' (HROW.out _ hBo) hg9 (Nat.le_trans HR3.out.low hBo.size)) ⟨_, _, _, hN9, own_row (HROW.out _ hBo) hg9 (HLB.out _ hBo) (by decide)⟩ (by rw [List.length_append, flatC_append]; exact ho9))
      simp only [List.length_append, List.length_singleton] at hd9
      have HD9 := Lib.hid hd9
      clear hd9
      have HK9 := Lib.hid (NKeep.of hBo)
      have HR9 := Lib.hid (HR3.out.below hBo)
      have HB9 := Lib.hid (hBo.mono HR3.out.low)
      have d1 := hN9.cell 1
      have f1 := hN9.frozen 1
      refine step_run_g (by kernel_rfl) _ _ (by rfl) (by rfl) (by rfl) hr9 ?_
      clear hr9 hg9 ho9 hN9 hB hBo
      refine hK _ _ ?_
      clear hK K
      refine wpAny_take (i := 10) (v := ?_) rfl (by kernel_rfl) (by kernel_rfl) (by kernel_rfl) (fun _ _ _ h => h) (Or.inl ⟨by kernel_rfl, ?_⟩) ?_
      rotate_left
      · intro w; go_simp; try with_reducible rfl
      refine wpAny_take (i := 11) (v := ?_) rfl (by kernel_rfl) (by kernel_rfl) (by kernel_rfl) (fun _ _ _ h => h) (Or.inl ⟨by kernel_rfl, ?_⟩) ?_
      rotate_left
      · intro w; go_simp; try with_reducible rfl
      refine wpAny_ready (rs := [12]) (by kernel_rfl) (by simp) ?_
      refine AllReady.cons (i := 12) rfl ?_ AllReady.nil
      intro K hK
      go_simp
      refine hK _ _ ?_
      clear hK K
      refine wpAny_done (by kernel_rfl) ?_ _
      go_simp
      go_wp2_with fail
      go_ret
      refine ⟨rfl, NDid.on HR0.out (.of HB.out) (HB.out.mono HR.out.low) (NDid.on HR3.out HD3.out.2.1 HD3.out.2.2 (NDid.on HR9.out HK9.out HB9.out ?_))⟩
      first | exact HD9.out | (rw [if_pos rfl]; exact HD9.out)
    refine AllReady.cons (i := 6) rfl ?_ AllReady.nil
    intro K hK
    obtain ⟨-, -, k1⟩ := HALL.out _ hB
    go_simp
    clear k1
    refine hK _ _ ?_
    clear hK K
    refine wpAny_ready (rs := [5]) (by kernel_rfl) (by simp) ?_
    refine AllReady.cons (i := 5) rfl ?_ AllReady.nil
    intro K hK
    obtain ⟨-, k0, -⟩ := HALL.out _ hB
    go_simp
    clear k0
    refine hK _ _ ?_
    clear hK K
    refine wpAny_ready (rs := [7]) (by kernel_rfl) (by simp) ?_
    refine AllReady.cons (i := 7) rfl ?_ AllReady.nil
    intro K hK
    go_simp
    refine (EO.out _).mono ?_
    rintro e w5 ⟨rfl, B5⟩
    replace hB := hB.trans (B5.mono hB.size)
    clear B5
    go_simp
    refine hK _ _ ?_
    clear hK K
    refine wpAny_ready (rs := [8]) (by kernel_rfl) (by simp) ?_
    refine AllReady.cons (i := 8) rfl ?_ AllReady.nil
    intro K hK
    go_simp
    have hBo := hB
    replace hB := hB.alloc hB.size (.cells #[.int .i64 (pMin a b), .int .i64 (pMax a b)] 102)
    go_simp
    refine hK _ _ ?_
    clear hK K
    refine wpAny_ready (rs := [9]) (by kernel_rfl) (by simp) ?_
    refine AllReady.cons (i := 9) rfl ?_ AllReady.nil
    intro K hK
    obtain ⟨g9, cap9, W9, hr9, ho9, hg9, -, -⟩ := HAP.out _ hBo
    have hN9 := own_blk (HROW.out _ hBo) hg9 (HNB.out _ hBo) (by decide)
    have hd9 := (net_setC (C' := CF ++ [(pMin a b, pMax a b)]) (HR3.out.below hBo) (own_nkeep (HROW.out _ hBo) hg9 (.inr rfl)) (own_below' (HROW.out _ hBo) hg9 (Nat.le_trans HR3.out.low hBo.size)) ⟨_, _, _, hN9, own_row (HROW.out _ hBo) hg9 (HLB.out _ hBo) (by decide)⟩ (by rw [List.length_append, flatC_append]; exact ho9))
    simp only [List.length_append, List.length_singleton] at hd9
    have HD9 := Lib.hid hd9
    clear hd9
    have HK9 := Lib.hid (NKeep.of hBo)
    have HR9 := Lib.hid (HR3.out.below hBo)
    have HB9 := Lib.hid (hBo.mono HR3.out.low)
    have d1 := hN9.cell 1
    have f1 := hN9.frozen 1
    refine step_run_g (by kernel_rfl) _ _ (by rfl) (by rfl) (by rfl) hr9 ?_
    clear hr9 hg9 ho9 hN9 hB hBo
    refine hK _ _ ?_
    clear hK K
    refine wpAny_take (i := 10) (v := ?_) rfl (by kernel_rfl) (by kernel_rfl) (by kernel_rfl) (fun _ _ _ h => h) (Or.inl ⟨by kernel_rfl, ?_⟩) ?_
    rotate_left
    · intro w; go_simp; try with_reducible rfl
    refine wpAny_take (i := 11) (v := ?_) rfl (by kernel_rfl) (by kernel_rfl) (by kernel_rfl) (fun _ _ _ h => h) (Or.inl ⟨by kernel_rfl, ?_⟩) ?_
    rotate_left
    · intro w; go_simp; try with_reducible rfl
    refine wpAny_ready (rs := [12]) (by kernel_rfl) (by simp) ?_
    refine AllReady.cons (i := 12) rfl ?_ AllReady.nil
    intro K hK
    go_simp
    refine hK _ _ ?_
    clear hK K
    refine wpAny_done (by kernel_rfl) ?_ _
    go_simp
    go_wp2_with fail
    go_ret
    refine ⟨rfl, NDid.on HR0.out (.of HB.out) (HB.out.mono HR.out.low) (NDid.on HR3.out HD3.out.2.1 HD3.out.2.2 (NDid.on HR9.out HK9.out HB9.out ?_))⟩
    first | exact HD9.out | (rw [if_pos rfl]; exact HD9.out)
  refine AllReady.cons (i := 5) rfl ?_ ?_
  · intro K hK
    obtain ⟨-, k0, -⟩ := HALL.out _ hB
    go_simp
    clear k0
    refine hK _ _ ?_
    clear hK K
    refine wpAny_ready (rs := [4, 6]) (by kernel_rfl) (by simp) ?_
    refine AllReady.cons (i := 4) rfl ?_ ?_
    · intro K hK
      obtain ⟨c1, -, -⟩ := HALL.out _ hB
      go_simp
      clear c1
      refine hK _ _ ?_
      clear hK K
      refine wpAny_ready (rs := [6]) (by kernel_rfl) (by simp) ?_
      refine AllReady.cons (i := 6) rfl ?_ AllReady.nil
      intro K hK
      obtain ⟨-, -, k1⟩ := HALL.out _ hB
      go_simp
      clear k1
      refine hK _ _ ?_
      clear hK K
      refine wpAny_ready (rs := [7]) (by kernel_rfl) (by simp) ?_
      refine AllReady.cons (i := 7) rfl ?_ AllReady.nil
      intro K hK
      go_simp
      refine (EO.out _).mono ?_
      rintro e w5 ⟨rfl, B5⟩
      replace hB := hB.trans (B5.mono hB.size)
      clear B5
      go_simp
      refine hK _ _ ?_
      clear hK K
      refine wpAny_ready (rs := [8]) (by kernel_rfl) (by simp) ?_
      refine AllReady.cons (i := 8) rfl ?_ AllReady.nil
      intro K hK
      go_simp
      have hBo := hB
      replace hB := hB.alloc hB.size (.cells #[.int .i64 (pMin a b), .int .i64 (pMax a b)] 102)
      go_simp
      refine hK _ _ ?_
      clear hK K
      refine wpAny_ready (rs := [9]) (by kernel_rfl) (by simp) ?_
      refine AllReady.cons (i := 9) rfl ?_ AllReady.nil
      intro K hK
      obtain ⟨g9, cap9, W9, hr9, ho9, hg9, -, -⟩ := HAP.out _ hBo
      have hN9 := own_blk (HROW.out _ hBo) hg9 (HNB.out _ hBo) (by decide)
      have hd9 := (net_setC (C' := CF ++ [(pMin a b, pMax a b)]) (HR3.out.below hBo) (own_nkeep (HROW.out _ hBo) hg9 (.inr rfl)) (own_below' (HROW.out _ hBo) hg9 (Nat.le_trans HR3.out.low hBo.size)) ⟨_, _, _, hN9, own_row (HROW.out _ hBo) hg9 (HLB.out _ hBo) (by decide)⟩ (by rw [List.length_append, flatC_append]; exact ho9))
      simp only [List.length_append, List.length_singleton] at hd9
      have HD9 := Lib.hid hd9
      clear hd9
      have HK9 := Lib.hid (NKeep.of hBo)
      have HR9 := Lib.hid (HR3.out.below hBo)
      have HB9 := Lib.hid (hBo.mono HR3.out.low)
      have d1 := hN9.cell 1
      have f1 := hN9.frozen 1
      refine step_run_g (by kernel_rfl) _ _ (by rfl) (by rfl) (by rfl) hr9 ?_
      clear hr9 hg9 ho9 hN9 hB hBo
      refine hK _ _ ?_
      clear hK K
      refine wpAny_take (i := 10) (v := ?_) rfl (by kernel_rfl) (by kernel_rfl) (by kernel_rfl) (fun _ _ _ h => h) (Or.inl ⟨by kernel_rfl, ?_⟩) ?_
      rotate_left
      · intro w; go_simp; try with_reducible rfl
      refine wpAny_take (i := 11) (v := ?_) rfl (by kernel_rfl) (by kernel_rfl) (by kernel_rfl) (fun _ _ _ h => h) (Or.inl ⟨by kernel_rfl, ?_⟩) ?_
      rotate_left
      · intro w; go_simp; try with_reducible rfl
      refine wpAny_ready (rs := [12]) (by kernel_rfl) (by simp) ?_
      refine AllReady.cons (i := 12) rfl ?_ AllReady.nil
      intro K hK
      go_simp
      refine hK _ _ ?_
      clear hK K
      refine wpAny_done (by kernel_rfl) ?_ _
      go_simp
      go_wp2_with fail
      go_ret
      refine ⟨rfl, NDid.on HR0.out (.of HB.out) (HB.out.mono HR.out.low) (NDid.on HR3.out HD3.out.2.1 HD3.out.2.2 (NDid.on HR9.out HK9.out HB9.out ?_))⟩
      first | exact HD9.out | (rw [if_pos rfl]; exact HD9.out)
    refine AllReady.cons (i := 6) rfl ?_ AllReady.nil
    intro K hK
    obtain ⟨-, -, k1⟩ := HALL.out _ hB
    go_simp
    clear k1
    refine hK _ _ ?_
    clear hK K
    refine wpAny_ready (rs := [4, 7]) (by kernel_rfl) (by simp) ?_
    refine AllReady.cons (i := 4) rfl ?_ ?_
    · intro K hK
      obtain ⟨c1, -, -⟩ := HALL.out _ hB
      go_simp
      clear c1
      refine hK _ _ ?_
      clear hK K
      refine wpAny_ready (rs := [7]) (by kernel_rfl) (by simp) ?_
      refine AllReady.cons (i := 7) rfl ?_ AllReady.nil
      intro K hK
      go_simp
      refine (EO.out _).mono ?_
      rintro e w5 ⟨rfl, B5⟩
      replace hB := hB.trans (B5.mono hB.size)
      clear B5
      go_simp
      refine hK _ _ ?_
      clear hK K
      refine wpAny_ready (rs := [8]) (by kernel_rfl) (by simp) ?_
      refine AllReady.cons (i := 8) rfl ?_ AllReady.nil
      intro K hK
      go_simp
      have hBo := hB
      replace hB := hB.alloc hB.size (.cells #[.int .i64 (pMin a b), .int .i64 (pMax a b)] 102)
      go_simp
      refine hK _ _ ?_
      clear hK K
      refine wpAny_ready (rs := [9]) (by kernel_rfl) (by simp) ?_
      refine AllReady.cons (i := 9) rfl ?_ AllReady.nil
      intro K hK
      obtain ⟨g9, cap9, W9, hr9, ho9, hg9, -, -⟩ := HAP.out _ hBo
      have hN9 := own_blk (HROW.out _ hBo) hg9 (HNB.out _ hBo) (by decide)
      have hd9 := (net_setC (C' := CF ++ [(pMin a b, pMax a b)]) (HR3.out.below hBo) (own_nkeep (HROW.out _ hBo) hg9 (.inr rfl)) (own_below' (HROW.out _ hBo) hg9 (Nat.le_trans HR3.out.low hBo.size)) ⟨_, _, _, hN9, own_row (HROW.out _ hBo) hg9 (HLB.out _ hBo) (by decide)⟩ (by rw [List.length_append, flatC_append]; exact ho9))
      simp only [List.length_append, List.length_singleton] at hd9
      have HD9 := Lib.hid hd9
      clear hd9
      have HK9 := Lib.hid (NKeep.of hBo)
      have HR9 := Lib.hid (HR3.out.below hBo)
      have HB9 := Lib.hid (hBo.mono HR3.out.low)
      have d1 := hN9.cell 1
      have f1 := hN9.frozen 1
      refine step_run_g (by kernel_rfl) _ _ (by rfl) (by rfl) (by rfl) hr9 ?_
      clear hr9 hg9 ho9 hN9 hB hBo
      refine hK _ _ ?_
      clear hK K
      refine wpAny_take (i := 10) (v := ?_) rfl (by kernel_rfl) (by kernel_rfl) (by kernel_rfl) (fun _ _ _ h => h) (Or.inl ⟨by kernel_rfl, ?_⟩) ?_
      rotate_left
      · intro w; go_simp; try with_reducible rfl
      refine wpAny_take (i := 11) (v := ?_) rfl (by kernel_rfl) (by kernel_rfl) (by kernel_rfl) (fun _ _ _ h => h) (Or.inl ⟨by kernel_rfl, ?_⟩) ?_
      rotate_left
      · intro w; go_simp; try with_reducible rfl
      refine wpAny_ready (rs := [12]) (by kernel_rfl) (by simp) ?_
      refine AllReady.cons (i := 12) rfl ?_ AllReady.nil
      intro K hK
      go_simp
      refine hK _ _ ?_
      clear hK K
      refine wpAny_done (by kernel_rfl) ?_ _
      go_simp
      go_wp2_with fail
      go_ret
      refine ⟨rfl, NDid.on HR0.out (.of HB.out) (HB.out.mono HR.out.low) (NDid.on HR3.out HD3.out.2.1 HD3.out.2.2 (NDid.on HR9.out HK9.out HB9.out ?_))⟩
      first | exact HD9.out | (rw [if_pos rfl]; exact HD9.out)
    refine AllReady.cons (i := 7) rfl ?_ AllReady.nil
    intro K hK
    go_simp
    refine (EO.out _).mono ?_
    rintro e w5 ⟨rfl, B5⟩
    replace hB := hB.trans (B5.mono hB.size)
    clear B5
    go_simp
    refine hK _ _ ?_
    clear hK K
    refine wpAny_ready (rs := [4, 8]) (by kernel_rfl) (by simp) ?_
    refine AllReady.cons (i := 4) rfl ?_ ?_
    · intro K hK
      obtain ⟨c1, -, -⟩ := HALL.out _ hB
      go_simp
      clear c1
      refine hK _ _ ?_
      clear hK K
      refine wpAny_ready (rs := [8]) (by kernel_rfl) (by simp) ?_
      refine AllReady.cons (i := 8) rfl ?_ AllReady.nil
      intro K hK
      go_simp
      have hBo := hB
      replace hB := hB.alloc hB.size (.cells #[.int .i64 (pMin a b), .int .i64 (pMax a b)] 102)
      go_simp
      refine hK _ _ ?_
      clear hK K
      refine wpAny_ready (rs := [9]) (by kernel_rfl) (by simp) ?_
      refine AllReady.cons (i := 9) rfl ?_ AllReady.nil
      intro K hK
      obtain ⟨g9, cap9, W9, hr9, ho9, hg9, -, -⟩ := HAP.out _ hBo
      have hN9 := own_blk (HROW.out _ hBo) hg9 (HNB.out _ hBo) (by decide)
      have hd9 := (net_setC (C' := CF ++ [(pMin a b, pMax a b)]) (HR3.out.below hBo) (own_nkeep (HROW.out _ hBo) hg9 (.inr rfl)) (own_below' (HROW.out _ hBo) hg9 (Nat.le_trans HR3.out.low hBo.size)) ⟨_, _, _, hN9, own_row (HROW.out _ hBo) hg9 (HLB.out _ hBo) (by decide)⟩ (by rw [List.length_append, flatC_append]; exact ho9))
      simp only [List.length_append, List.length_singleton] at hd9
      have HD9 := Lib.hid hd9
      clear hd9
      have HK9 := Lib.hid (NKeep.of hBo)
      have HR9 := Lib.hid (HR3.out.below hBo)
      have HB9 := Lib.hid (hBo.mono HR3.out.low)
      have d1 := hN9.cell 1
      have f1 := hN9.frozen 1
      refine step_run_g (by kernel_rfl) _ _ (by rfl) (by rfl) (by rfl) hr9 ?_
      clear hr9 hg9 ho9 hN9 hB hBo
      refine hK _ _ ?_
      clear hK K
      refine wpAny_take (i := 10) (v := ?_) rfl (by kernel_rfl) (by kernel_rfl) (by kernel_rfl) (fun _ _ _ h => h) (Or.inl ⟨by kernel_rfl, ?_⟩) ?_
      rotate_left
      · intro w; go_simp; try with_reducible rfl
      refine wpAny_take (i := 11) (v := ?_) rfl (by kernel_rfl) (by kernel_rfl) (by kernel_rfl) (fun _ _ _ h => h) (Or.inl ⟨by kernel_rfl, ?_⟩) ?_
      rotate_left
      · intro w; go_simp; try with_reducible rfl
      refine wpAny_ready (rs := [12]) (by kernel_rfl) (by simp) ?_
      refine AllReady.cons (i := 12) rfl ?_ AllReady.nil
      intro K hK
      go_simp
      refine hK _ _ ?_
      clear hK K
      refine wpAny_done (by kernel_rfl) ?_ _
      go_simp
      go_wp2_with fail
      go_ret
      refine ⟨rfl, NDid.on HR0.out (.of HB.out) (HB.out.mono HR.out.low) (NDid.on HR3.out HD3.out.2.1 HD3.out.2.2 (NDid.on HR9.out HK9.out HB9.out ?_))⟩
      first | exact HD9.out | (rw [if_pos rfl]; exact HD9.out)
    refine AllReady.cons (i := 8) rfl ?_ AllReady.nil
    intro K hK
    go_simp
    have hBo := hB
    replace hB := hB.alloc hB.size (.cells #[.int .i64 (pMin a b), .int .i64 (pMax a b)] 102)
    go_simp
    refine hK _ _ ?_
    clear hK K
    refine wpAny_ready (rs := [4]) (by kernel_rfl) (by simp) ?_
    refine AllReady.cons (i := 4) rfl ?_ AllReady.nil
    intro K hK
    obtain ⟨c1, -, -⟩ := HALL.out _ hB
    go_simp
    clear c1
    refine hK _ _ ?_
    clear hK K
    refine wpAny_ready (rs := [9]) (by kernel_rfl) (by simp) ?_
    refine AllReady.cons (i := 9) rfl ?_ AllReady.nil
    intro K hK
    obtain ⟨g9, cap9, W9, hr9, ho9, hg9, -, -⟩ := HAP.out _ hBo
    have hN9 := own_blk (HROW.out _ hBo) hg9 (HNB.out _ hBo) (by decide)
    have hd9 := (net_setC (C' := CF ++ [(pMin a b, pMax a b)]) (HR3.out.below hBo) (own_nkeep (HROW.out _ hBo) hg9 (.inr rfl)) (own_below' (HROW.out _ hBo) hg9 (Nat.le_trans HR3.out.low hBo.size)) ⟨_, _, _, hN9, own_row (HROW.out _ hBo) hg9 (HLB.out _ hBo) (by decide)⟩ (by rw [List.length_append, flatC_append]; exact ho9))
    simp only [List.length_append, List.length_singleton] at hd9
    have HD9 := Lib.hid hd9
    clear hd9
    have HK9 := Lib.hid (NKeep.of hBo)
    have HR9 := Lib.hid (HR3.out.below hBo)
    have HB9 := Lib.hid (hBo.mono HR3.out.low)
    have d1 := hN9.cell 1
    have f1 := hN9.frozen 1
    refine step_run_g (by kernel_rfl) _ _ (by rfl) (by rfl) (by rfl) hr9 ?_
    clear hr9 hg9 ho9 hN9 hB hBo
    refine hK _ _ ?_
    clear hK K
    refine wpAny_take (i := 10) (v := ?_) rfl (by kernel_rfl) (by kernel_rfl) (by kernel_rfl) (fun _ _ _ h => h) (Or.inl ⟨by kernel_rfl, ?_⟩) ?_
    rotate_left
    · intro w; go_simp; try with_reducible rfl
    refine wpAny_take (i := 11) (v := ?_) rfl (by kernel_rfl) (by kernel_rfl) (by kernel_rfl) (fun _ _ _ h => h) (Or.inl ⟨by kernel_rfl, ?_⟩) ?_
    rotate_left
    · intro w; go_simp; try with_reducible rfl
    refine wpAny_ready (rs := [12]) (by kernel_rfl) (by simp) ?_
    refine AllReady.cons (i := 12) rfl ?_ AllReady.nil
    intro K hK
    go_simp
    refine hK _ _ ?_
    clear hK K
    refine wpAny_done (by kernel_rfl) ?_ _
    go_simp
    go_wp2_with fail
    go_ret
    refine ⟨rfl, NDid.on HR0.out (.of HB.out) (HB.out.mono HR.out.low) (NDid.on HR3.out HD3.out.2.1 HD3.out.2.2 (NDid.on HR9.out HK9.out HB9.out ?_))⟩
    first | exact HD9.out | (rw [if_pos rfl]; exact HD9.out)
  refine AllReady.cons (i := 6) rfl ?_ AllReady.nil
  intro K hK
  obtain ⟨-, -, k1⟩ := HALL.out _ hB
  go_simp
  clear k1
  refine hK _ _ ?_
  clear hK K
  refine wpAny_ready (rs := [4, 5]) (by kernel_rfl) (by simp) ?_
  refine AllReady.cons (i := 4) rfl ?_ ?_
  · intro K hK
    obtain ⟨c1, -, -⟩ := HALL.out _ hB
    go_simp
    clear c1
    refine hK _ _ ?_
    clear hK K
    refine wpAny_ready (rs := [5]) (by kernel_rfl) (by simp) ?_
    refine AllReady.cons (i := 5) rfl ?_ AllReady.nil
    intro K hK
    obtain ⟨-, k0, -⟩ := HALL.out _ hB
    go_simp
    clear k0
    refine hK _ _ ?_
    clear hK K
    refine wpAny_ready (rs := [7]) (by kernel_rfl) (by simp) ?_
    refine AllReady.cons (i := 7) rfl ?_ AllReady.nil
    intro K hK
    go_simp
    refine (EO.out _).mono ?_
    rintro e w5 ⟨rfl, B5⟩
    replace hB := hB.trans (B5.mono hB.size)
    clear B5
    go_simp
    refine hK _ _ ?_
    clear hK K
    refine wpAny_ready (rs := [8]) (by kernel_rfl) (by simp) ?_
    refine AllReady.cons (i := 8) rfl ?_ AllReady.nil
    intro K hK
    go_simp
    have hBo := hB
    replace hB := hB.alloc hB.size (.cells #[.int .i64 (pMin a b), .int .i64 (pMax a b)] 102)
    go_simp
    refine hK _ _ ?_
    clear hK K
    refine wpAny_ready (rs := [9]) (by kernel_rfl) (by simp) ?_
    refine AllReady.cons (i := 9) rfl ?_ AllReady.nil
    intro K hK
    obtain ⟨g9, cap9, W9, hr9, ho9, hg9, -, -⟩ := HAP.out _ hBo
    have hN9 := own_blk (HROW.out _ hBo) hg9 (HNB.out _ hBo) (by decide)
    have hd9 := (net_setC (C' := CF ++ [(pMin a b, pMax a b)]) (HR3.out.below hBo) (own_nkeep (HROW.out _ hBo) hg9 (.inr rfl)) (own_below' (HROW.out _ hBo) hg9 (Nat.le_trans HR3.out.low hBo.size)) ⟨_, _, _, hN9, own_row (HROW.out _ hBo) hg9 (HLB.out _ hBo) (by decide)⟩ (by rw [List.length_append, flatC_append]; exact ho9))
    simp only [List.length_append, List.length_singleton] at hd9
    have HD9 := Lib.hid hd9
    clear hd9
    have HK9 := Lib.hid (NKeep.of hBo)
    have HR9 := Lib.hid (HR3.out.below hBo)
    have HB9 := Lib.hid (hBo.mono HR3.out.low)
    have d1 := hN9.cell 1
    have f1 := hN9.frozen 1
    refine step_run_g (by kernel_rfl) _ _ (by rfl) (by rfl) (by rfl) hr9 ?_
    clear hr9 hg9 ho9 hN9 hB hBo
    refine hK _ _ ?_
    clear hK K
    refine wpAny_take (i := 10) (v := ?_) rfl (by kernel_rfl) (by kernel_rfl) (by kernel_rfl) (fun _ _ _ h => h) (Or.inl ⟨by kernel_rfl, ?_⟩) ?_
    rotate_left
    · intro w; go_simp; try with_reducible rfl
    refine wpAny_take (i := 11) (v := ?_) rfl (by kernel_rfl) (by kernel_rfl) (by kernel_rfl) (fun _ _ _ h => h) (Or.inl ⟨by kernel_rfl, ?_⟩) ?_
    rotate_left
    · intro w; go_simp; try with_reducible rfl
    refine wpAny_ready (rs := [12]) (by kernel_rfl) (by simp) ?_
    refine AllReady.cons (i := 12) rfl ?_ AllReady.nil
    intro K hK
    go_simp
    refine hK _ _ ?_
    clear hK K
    refine wpAny_done (by kernel_rfl) ?_ _
    go_simp
    go_wp2_with fail
    go_ret
    refine ⟨rfl, NDid.on HR0.out (.of HB.out) (HB.out.mono HR.out.low) (NDid.on HR3.out HD3.out.2.1 HD3.out.2.2 (NDid.on HR9.out HK9.out HB9.out ?_))⟩
    first | exact HD9.out | (rw [if_pos rfl]; exact HD9.out)
  refine AllReady.cons (i := 5) rfl ?_ AllReady.nil
  intro K hK
  obtain ⟨-, k0, -⟩ := HALL.out _ hB
  go_simp
  clear k0
  refine hK _ _ ?_
  clear hK K
  refine wpAny_ready (rs := [4, 7]) (by kernel_rfl) (by simp) ?_
  refine AllReady.cons (i := 4) rfl ?_ ?_
  · intro K hK
    obtain ⟨c1, -, -⟩ := HALL.out _ hB
    go_simp
    clear c1
    refine hK _ _ ?_
    clear hK K
    refine wpAny_ready (rs := [7]) (by kernel_rfl) (by simp) ?_
    refine AllReady.cons (i := 7) rfl ?_ AllReady.nil
    intro K hK
    go_simp
    refine (EO.out _).mono ?_
    rintro e w5 ⟨rfl, B5⟩
    replace hB := hB.trans (B5.mono hB.size)
    clear B5
    go_simp
    refine hK _ _ ?_
    clear hK K
    refine wpAny_ready (rs := [8]) (by kernel_rfl) (by simp) ?_
    refine AllReady.cons (i := 8) rfl ?_ AllReady.nil
    intro K hK
    go_simp
    have hBo := hB
    replace hB := hB.alloc hB.size (.cells #[.int .i64 (pMin a b), .int .i64 (pMax a b)] 102)
    go_simp
    refine hK _ _ ?_
    clear hK K
    refine wpAny_ready (rs := [9]) (by kernel_rfl) (by simp) ?_
    refine AllReady.cons (i := 9) rfl ?_ AllReady.nil
    intro K hK
    obtain ⟨g9, cap9, W9, hr9, ho9, hg9, -, -⟩ := HAP.out _ hBo
    have hN9 := own_blk (HROW.out _ hBo) hg9 (HNB.out _ hBo) (by decide)
    have hd9 := (net_setC (C' := CF ++ [(pMin a b, pMax a b)]) (HR3.out.below hBo) (own_nkeep (HROW.out _ hBo) hg9 (.inr rfl)) (own_below' (HROW.out _ hBo) hg9 (Nat.le_trans HR3.out.low hBo.size)) ⟨_, _, _, hN9, own_row (HROW.out _ hBo) hg9 (HLB.out _ hBo) (by decide)⟩ (by rw [List.length_append, flatC_append]; exact ho9))
    simp only [List.length_append, List.length_singleton] at hd9
    have HD9 := Lib.hid hd9
    clear hd9
    have HK9 := Lib.hid (NKeep.of hBo)
    have HR9 := Lib.hid (HR3.out.below hBo)
    have HB9 := Lib.hid (hBo.mono HR3.out.low)
    have d1 := hN9.cell 1
    have f1 := hN9.frozen 1
    refine step_run_g (by kernel_rfl) _ _ (by rfl) (by rfl) (by rfl) hr9 ?_
    clear hr9 hg9 ho9 hN9 hB hBo
    refine hK _ _ ?_
    clear hK K
    refine wpAny_take (i := 10) (v := ?_) rfl (by kernel_rfl) (by kernel_rfl) (by kernel_rfl) (fun _ _ _ h => h) (Or.inl ⟨by kernel_rfl, ?_⟩) ?_
    rotate_left
    · intro w; go_simp; try with_reducible rfl
    refine wpAny_take (i := 11) (v := ?_) rfl (by kernel_rfl) (by kernel_rfl) (by kernel_rfl) (fun _ _ _ h => h) (Or.inl ⟨by kernel_rfl, ?_⟩) ?_
    rotate_left
    · intro w; go_simp; try with_reducible rfl
    refine wpAny_ready (rs := [12]) (by kernel_rfl) (by simp) ?_
    refine AllReady.cons (i := 12) rfl ?_ AllReady.nil
    intro K hK
    go_simp
    refine hK _ _ ?_
    clear hK K
    refine wpAny_done (by kernel_rfl) ?_ _
    go_simp
    go_wp2_with fail
    go_ret
    refine ⟨rfl, NDid.on HR0.out (.of HB.out) (HB.out.mono HR.out.low) (NDid.on HR3.out HD3.out.2.1 HD3.out.2.2 (NDid.on HR9.out HK9.out HB9.out ?_))⟩
    first | exact HD9.out | (rw [if_pos rfl]; exact HD9.out)
  refine AllReady.cons (i := 7) rfl ?_ AllReady.nil
  intro K hK
  go_simp
  refine (EO.out _).mono ?_
  rintro e w5 ⟨rfl, B5⟩
  replace hB := hB.trans (B5.mono hB.size)
  clear B5
  go_simp
  refine hK _ _ ?_
  clear hK K
  refine wpAny_ready (rs := [4, 8]) (by kernel_rfl) (by simp) ?_
  refine AllReady.cons (i := 4) rfl ?_ ?_
  · intro K hK
    obtain ⟨c1, -, -⟩ := HALL.out _ hB
    go_simp
    clear c1
    refine hK _ _ ?_
    clear hK K
    refine wpAny_ready (rs := [8]) (by kernel_rfl) (by simp) ?_
    refine AllReady.cons (i := 8) rfl ?_ AllReady.nil
    intro K hK
    go_simp
    have hBo := hB
    replace hB := hB.alloc hB.size (.cells #[.int .i64 (pMin a b), .int .i64 (pMax a b)] 102)
    go_simp
    refine hK _ _ ?_
    clear hK K
    refine wpAny_ready (rs := [9]) (by kernel_rfl) (by simp) ?_
    refine AllReady.cons (i := 9) rfl ?_ AllReady.nil
    intro K hK
    obtain ⟨g9, cap9, W9, hr9, ho9, hg9, -, -⟩ := HAP.out _ hBo
    have hN9 := own_blk (HROW.out _ hBo) hg9 (HNB.out _ hBo) (by decide)
    have hd9 := (net_setC (C' := CF ++ [(pMin a b, pMax a b)]) (HR3.out.below hBo) (own_nkeep (HROW.out _ hBo) hg9 (.inr rfl)) (own_below' (HROW.out _ hBo) hg9 (Nat.le_trans HR3.out.low hBo.size)) ⟨_, _, _, hN9, own_row (HROW.out _ hBo) hg9 (HLB.out _ hBo) (by decide)⟩ (by rw [List.length_append, flatC_append]; exact ho9))
    simp only [List.length_append, List.length_singleton] at hd9
    have HD9 := Lib.hid hd9
    clear hd9
    have HK9 := Lib.hid (NKeep.of hBo)
    have HR9 := Lib.hid (HR3.out.below hBo)
    have HB9 := Lib.hid (hBo.mono HR3.out.low)
    have d1 := hN9.cell 1
    have f1 := hN9.frozen 1
    refine step_run_g (by kernel_rfl) _ _ (by rfl) (by rfl) (by rfl) hr9 ?_
    clear hr9 hg9 ho9 hN9 hB hBo
    refine hK _ _ ?_
    clear hK K
    refine wpAny_take (i := 10) (v := ?_) rfl (by kernel_rfl) (by kernel_rfl) (by kernel_rfl) (fun _ _ _ h => h) (Or.inl ⟨by kernel_rfl, ?_⟩) ?_
    rotate_left
    · intro w; go_simp; try with_reducible rfl
    refine wpAny_take (i := 11) (v := ?_) rfl (by kernel_rfl) (by kernel_rfl) (by kernel_rfl) (fun _ _ _ h => h) (Or.inl ⟨by kernel_rfl, ?_⟩) ?_
    rotate_left
    · intro w; go_simp; try with_reducible rfl
    refine wpAny_ready (rs := [12]) (by kernel_rfl) (by simp) ?_
    refine AllReady.cons (i := 12) rfl ?_ AllReady.nil
    intro K hK
    go_simp
    refine hK _ _ ?_
    clear hK K
    refine wpAny_done (by kernel_rfl) ?_ _
    go_simp
    go_wp2_with fail
    go_ret
    refine ⟨rfl, NDid.on HR0.out (.of HB.out) (HB.out.mono HR.out.low) (NDid.on HR3.out HD3.out.2.1 HD3.out.2.2 (NDid.on HR9.out HK9.out HB9.out ?_))⟩
    first | exact HD9.out | (rw [if_pos rfl]; exact HD9.out)
  refine AllReady.cons (i := 8) rfl ?_ AllReady.nil
  intro K hK
  go_simp
  have hBo := hB
  replace hB := hB.alloc hB.size (.cells #[.int .i64 (pMin a b), .int .i64 (pMax a b)] 102)
  go_simp
  refine hK _ _ ?_
  clear hK K
  refine wpAny_ready (rs := [4]) (by kernel_rfl) (by simp) ?_
  refine AllReady.cons (i := 4) rfl ?_ AllReady.nil
  intro K hK
  obtain ⟨c1, -, -⟩ := HALL.out _ hB
  go_simp
  clear c1
  refine hK _ _ ?_
  clear hK K
  refine wpAny_ready (rs := [9]) (by kernel_rfl) (by simp) ?_
  refine AllReady.cons (i := 9) rfl ?_ AllReady.nil
  intro K hK
  obtain ⟨g9, cap9, W9, hr9, ho9, hg9, -, -⟩ := HAP.out _ hBo
  have hN9 := own_blk (HROW.out _ hBo) hg9 (HNB.out _ hBo) (by decide)
  have hd9 := (net_setC (C' := CF ++ [(pMin a b, pMax a b)]) (HR3.out.below hBo) (own_nkeep (HROW.out _ hBo) hg9 (.inr rfl)) (own_below' (HROW.out _ hBo) hg9 (Nat.le_trans HR3.out.low hBo.size)) ⟨_, _, _, hN9, own_row (HROW.out _ hBo) hg9 (HLB.out _ hBo) (by decide)⟩ (by rw [List.length_append, flatC_append]; exact ho9))
  simp only [List.length_append, List.length_singleton] at hd9
  have HD9 := Lib.hid hd9
  clear hd9
  have HK9 := Lib.hid (NKeep.of hBo)
  have HR9 := Lib.hid (HR3.out.below hBo)
  have HB9 := Lib.hid (hBo.mono HR3.out.low)
  have d1 := hN9.cell 1
  have f1 := hN9.frozen 1
  refine step_run_g (by kernel_rfl) _ _ (by rfl) (by rfl) (by rfl) hr9 ?_
  clear hr9 hg9 ho9 hN9 hB hBo
  refine hK _ _ ?_
  clear hK K
  refine wpAny_take (i := 10) (v := ?_) rfl (by kernel_rfl) (by kernel_rfl) (by kernel_rfl) (fun _ _ _ h => h) (Or.inl ⟨by kernel_rfl, ?_⟩) ?_
  rotate_left
  · intro w; go_simp; try with_reducible rfl
  refine wpAny_take (i := 11) (v := ?_) rfl (by kernel_rfl) (by kernel_rfl) (by kernel_rfl) (fun _ _ _ h => h) (Or.inl ⟨by kernel_rfl, ?_⟩) ?_
  rotate_left
  · intro w; go_simp; try with_reducible rfl
  refine wpAny_ready (rs := [12]) (by kernel_rfl) (by simp) ?_
  refine AllReady.cons (i := 12) rfl ?_ AllReady.nil
  intro K hK
  go_simp
  refine hK _ _ ?_
  clear hK K
  refine wpAny_done (by kernel_rfl) ?_ _
  go_simp
  go_wp2_with fail
  go_ret
  refine ⟨rfl, NDid.on HR0.out (.of HB.out) (HB.out.mono HR.out.low) (NDid.on HR3.out HD3.out.2.1 HD3.out.2.2 (NDid.on HR9.out HK9.out HB9.out ?_))⟩
  first | exact HD9.out | (rw [if_pos rfl]; exact HD9.out)
theorem cut_any {N base : Nat} {P : List Pk} {C : List (Int × Int)} (a b : Int) (cut : Bool) (w : World) (h : NetR w N base P C) (hn : C.length ≤ 100000) :
    Calls Try.prog 27 #[.pointer (some ⟨N, 0, none⟩), .int .i64 a, .int .i64 b, .bool cut] w fun e w' => e = .returned (errc (netCut C a b cut).2) ∧ NDid w N base P (netCut C a b cut).1 w' := by
  unfold netCut
  by_cases hb : 0 ≤ a ∧ a ≤ 255 ∧ 0 ≤ b ∧ b ≤ 255 ∧ a ≠ b
  · rw [if_pos hb]
    exact cut_ok a b cut w h hb hn
  · rw [if_neg hb]
    exact cut_bad a b cut w h hb
theorem take_results {W : World} {B : Nat} {v0 v1 v2 v3 v4 v5 v6 v7 v8 v9 v10 v11 : Value} {a : Act} {e : Value} (h : Blk W B 29 #[v0, v1, v2, v3, v4, v5, v6, v7, v8, v9, v10, v11]) (h2 : a.tmps[4]?.getD undef = .pointer (some ⟨B, 0, none⟩)) (h3 : a.tmps[5]?.getD undef = e) :
    (results Try.f28 a.tmps).run Try.prog W = .ok (.tuple #[.agg #[v0, v1, v2, v3, v4, v5, v6, v7, v8, v9, v10, v11], e]) W := by
  obtain ⟨k0, k1, k2, k3, k4, k5, k6, k7, k8, k9, k10, k11⟩ := h.twelve
  simp [results, Try.results28, go_sem, h2, h3, k0, k1, k2, k3, k4, k5, k6, k7, k8, k9, k10, k11]
/-- What Take hands back, and what it leaves of the packets. -/
def netTake (P : List Pk) (C : List (Int × Int)) (i : Int) : (MsgR × Nat) × List Pk :=
  if (netAt P i).2 ≠ 0 then ((mNone, (netAt P i).2), P) else if apC C (netAt P i).1.fr (netAt P i).1.tt = true then ((mNone, 17), P) else (((netAt P i).1, 0), P.eraseIdx i.toNat)
/-- A message handed back with its own row, the net left so. -/
def NTook (q : MsgR × Nat) (P' : List Pk) (N base : Nat) (C : List (Int × Int)) (w : World) (e : Ending) (w' : World) : Prop :=
  NDid w N base P' C w' ∧ ∃ a c, e = .returned (.tuple #[MsgR.vals { q.1 with a := a, c := c }, errc q.2]) ∧ q.1.n = q.1.l.length ∧ q.1.n ≤ c ∧ w'.ownsRow w.heap.size 5 1 (.slice a q.1.n c) q.1.n (q.1.l.map bv)
theorem take_none {w w' : World} {N base : Nat} {P : List Pk} {C : List (Int × Int)} (cf : Nat) (h : NDid w N base P C w') : NTook (mNone, cf) P N base C w (.returned (.tuple #[.agg #[.int .i64 0, .int .i64 0, .int .i64 0, .int .i64 0, .int .i64 0, .int .u64 0, .int .i64 0, .bool false, .int .u64 0, .int .u32 0, .bool false, .slice none 0 0], errc cf])) w' := ⟨h, none, 0, rfl, rfl, Nat.le_refl _, rfl, .inl ⟨rfl, rfl⟩⟩
set_option maxRecDepth 100000 in
set_option maxHeartbeats 4000000 in
theorem take_any {N base : Nat} {P : List Pk} {C : List (Int × Int)} (i : Int) (w : World) (h : NetR w N base P C) (hn : C.length ≤ 100000) :
    Calls Try.prog 28 #[.pointer (some ⟨N, 0, none⟩), .int .i64 i] w (NTook (netTake P C i).1 (netTake P C i).2 N base C w) := by
  have HK := Lib.hid (Blk.made w 29 #[.int .i64 0, .int .i64 0, .int .i64 0, .int .i64 0, .int .i64 0, .int .u64 0, .int .i64 0, .bool false, .int .u64 0, .int .u32 0, .bool false, .slice none 0 0])
  have BA := (Below.refl w.heap.size w).alloc (Nat.le_refl _) (.cells #[.int .i64 0, .int .i64 0, .int .i64 0, .int .i64 0, .int .i64 0, .int .u64 0, .int .i64 0, .bool false, .int .u64 0, .int .u32 0, .bool false, .slice none 0 0] 29)
  have HR := Lib.hid h
  have HR0 := Lib.hid (h.below BA)
  have HB := Lib.hid BA
  have E := Lib.hid (at_any i _ (h.below BA))
  clear BA h
  by_cases hr : 0 ≤ i ∧ i < P.length
  rotate_left
  · have HQ : netAt P i = (mNone, 6) := if_neg hr
    have HL := Lib.hid (show netTake P C i = ((mNone, 6), P) from by unfold netTake; rw [HQ]; rfl)
    rw [HQ] at E
    rw [HL.out]
    clear hr HQ
    go_enter Try.func28, Try.ntmps28
    go_upto_region 1 with fail
    generalize (w.alloc (.cells #[.int .i64 0, .int .i64 0, .int .i64 0, .int .i64 0, .int .i64 0, .int .u64 0, .int .i64 0, .bool false, .int .u64 0, .int .u32 0, .bool false, .slice none 0 0] 29)) = W0 at *
    go_wp2_with fail
    refine E.out.mono ?_
    rintro e w1 ⟨B1, a1, c1, rfl, -, -, -⟩
    rw [show MsgR.vals { (mNone, 6).1 with a := a1, c := c1 } = .agg #[.int .i64 0, .int .i64 0, .int .i64 0, .int .i64 0, .int .i64 0, .int .u64 0, .int .i64 0, .bool false, .int .u64 0, .int .u32 0, .bool false, .slice a1 0 c1] from rfl, show errc (mNone, 6).2 = er 6 from rfl]
    have BB := B1.trans (((Below.refl w1.heap.size w1).alloc (Nat.le_refl _) (.cells #[.int .i64 0, .int .i64 0, .int .i64 0, .int .i64 0, .int .i64 0, .int .u64 0, .int .i64 0, .bool false, .int .u64 0, .int .u32 0, .bool false, .slice a1 0 c1] 29)).mono B1.size)
    have HB1 := Lib.hid (HB.out.trans (BB.mono HB.out.size))
    have HK1 := Lib.hid (HK.out.below BB HK.out.lt)
    clear B1 BB
    go_upto_region 2 with fail
    generalize (w1.alloc (.cells #[.int .i64 0, .int .i64 0, .int .i64 0, .int .i64 0, .int .i64 0, .int .u64 0, .int .i64 0, .bool false, .int .u64 0, .int .u32 0, .bool false, .slice a1 0 c1] 29)) = W2 at *
    obtain ⟨k0, k1, k2, k3, k4, k5, k6, k7, k8, k9, k10, k11⟩ := HK1.out.twelve
    obtain ⟨f0, f1, f2, f3, f4, f5, f6, f7, f8, f9, f10, f11⟩ := HK1.out.twelve_frozen
    go_wp2_with fail
    exact bodyPost_ret (take_results (HK1.out.put12 _ _ _ _ _ _ _ _ _ _ _ _) rfl rfl) rfl (take_none 6 (HR.out.did (below_put12 HB1.out (Nat.le_refl _) _ _ _ _ _ _ _ _ _ _ _ _)))
  have HQ : netAt P i = ((P.getD i.toNat ⟨0, 0, mNone⟩).m.bare, 0) := if_pos hr
  obtain ⟨j, rfl⟩ := Int.eq_ofNat_of_zero_le hr.1
  have hj : j < P.length := by omega
  obtain ⟨r, hrr⟩ : ∃ r, P.length = r + 1 := ⟨P.length - 1, by omega⟩
  obtain ⟨q, hq⟩ : ∃ q, (P.getD (j : Int).toNat ⟨0, 0, mNone⟩).m.bare = q := ⟨_, rfl⟩
  rw [hq] at HQ
  have HL : netTake P C j = if apC C q.fr q.tt = true then ((mNone, 17), P) else ((q, 0), P.eraseIdx j) := by
    unfold netTake
    rw [HQ]
    rfl
  rw [HQ] at E
  rw [HL]
  obtain ⟨ap, hap⟩ : ∃ ap, apC C q.fr q.tt = ap := ⟨_, rfl⟩
  rw [hap]
  have EA := Lib.hid fun (W : World) (hW : NetR W N base P C) => apart_any q.fr q.tt W hW (by omega)
  rw [hap] at EA
  clear hr HQ hq HL hap
  cases ap
  rotate_left
  · rw [if_pos rfl]
    go_enter Try.func28, Try.ntmps28
    go_upto_region 1 with fail
    generalize (w.alloc (.cells #[.int .i64 0, .int .i64 0, .int .i64 0, .int .i64 0, .int .i64 0, .int .u64 0, .int .i64 0, .bool false, .int .u64 0, .int .u32 0, .bool false, .slice none 0 0] 29)) = W0 at *
    go_wp2_with fail
    refine E.out.mono ?_
    rintro e w1 ⟨B1, a1, c1, rfl, g1, g2, g3⟩
    rw [show MsgR.vals { (q, 0).1 with a := a1, c := c1 } = .agg #[.int .i64 q.fr, .int .i64 q.tt, .int .i64 q.kd, .int .i64 q.vol, .int .i64 q.life, .int .u64 q.id, .int .i64 q.cd, .bool q.has, .int .u64 q.key, .int .u32 q.ck, .bool q.g, .slice a1 q.n c1] from rfl, show errc (q, 0).2 = Value.nilIface from rfl]
    dsimp only at g1 g2 g3
    have BA := (Below.refl w1.heap.size w1).alloc (Nat.le_refl _) (.cells #[.int .i64 q.fr, .int .i64 q.tt, .int .i64 q.kd, .int .i64 q.vol, .int .i64 q.life, .int .u64 q.id, .int .i64 q.cd, .bool q.has, .int .u64 q.key, .int .u32 q.ck, .bool q.g, .slice a1 q.n c1] 29)
    have BB := B1.trans (BA.mono B1.size)
    have HB1 := Lib.hid (HB.out.trans (BB.mono HB.out.size))
    have HK1 := Lib.hid (HK.out.below BB HK.out.lt)
    have HM1 := Lib.hid (Blk.made w1 29 #[.int .i64 q.fr, .int .i64 q.tt, .int .i64 q.kd, .int .i64 q.vol, .int .i64 q.life, .int .u64 q.id, .int .i64 q.cd, .bool q.has, .int .u64 q.key, .int .u32 q.ck, .bool q.g, .slice a1 q.n c1])
    have HG1 := Lib.hid g1
    have HG2 := Lib.hid g2
    have HG3 := Lib.hid (row_below g3 BA (Nat.le_refl _))
    have HZ := Lib.hid (show w.heap.size < W0.heap.size from HK.out.lt)
    clear B1 BA BB g1 g2 g3 E
    go_upto_region 2 with fail
    generalize (w1.alloc (.cells #[.int .i64 q.fr, .int .i64 q.tt, .int .i64 q.kd, .int .i64 q.vol, .int .i64 q.life, .int .u64 q.id, .int .i64 q.cd, .bool q.has, .int .u64 q.key, .int .u32 q.ck, .bool q.g, .slice a1 q.n c1] 29)) = W2 at *
    have HR2 := Lib.hid (HR.out.below HB1.out)
    obtain ⟨m0, m1, m2, m3, m4, m5, m6, m7, m8, m9, m10, m11⟩ := HM1.out.twelve
    go_wp2_with fail
    refine (EA.out W2 HR2.out).mono ?_
    rintro e w3 ⟨rfl, B3⟩
    have HB3 := Lib.hid (HB1.out.trans (B3.mono HB1.out.size))
    have HK3 := Lib.hid (HK1.out.below B3 HK1.out.lt)
    have HM3 := Lib.hid (HM1.out.below B3 HM1.out.lt)
    have HR3 := Lib.hid (HR.out.below HB3.out)
    have HG33 := Lib.hid (row_below HG3.out B3 (Nat.le_refl _))
    clear B3 m0 m1 m2 m3 m4 m5 m6 m7 m8 m9 m10 m11 EA HG3
    obtain ⟨k0, k1, k2, k3, k4, k5, k6, k7, k8, k9, k10, k11⟩ := HK3.out.twelve
    obtain ⟨f0, f1, f2, f3, f4, f5, f6, f7, f8, f9, f10, f11⟩ := HK3.out.twelve_frozen
    go_wp2_with fail
    exact bodyPost_ret (take_results (HK3.out.put12 _ _ _ _ _ _ _ _ _ _ _ _) rfl rfl) rfl (take_none 17 (HR.out.did (below_put12 HB3.out (Nat.le_refl _) _ _ _ _ _ _ _ _ _ _ _ _)))
  rw [if_neg (by decide)]
  go_enter Try.func28, Try.ntmps28
  go_upto_region 1 with fail
  generalize (w.alloc (.cells #[.int .i64 0, .int .i64 0, .int .i64 0, .int .i64 0, .int .i64 0, .int .u64 0, .int .i64 0, .bool false, .int .u64 0, .int .u32 0, .bool false, .slice none 0 0] 29)) = W0 at *
  go_wp2_with fail
  refine E.out.mono ?_
  rintro e w1 ⟨B1, a1, c1, rfl, g1, g2, g3⟩
  rw [show MsgR.vals { (q, 0).1 with a := a1, c := c1 } = .agg #[.int .i64 q.fr, .int .i64 q.tt, .int .i64 q.kd, .int .i64 q.vol, .int .i64 q.life, .int .u64 q.id, .int .i64 q.cd, .bool q.has, .int .u64 q.key, .int .u32 q.ck, .bool q.g, .slice a1 q.n c1] from rfl, show errc (q, 0).2 = Value.nilIface from rfl]
  dsimp only at g1 g2 g3
  have BA := (Below.refl w1.heap.size w1).alloc (Nat.le_refl _) (.cells #[.int .i64 q.fr, .int .i64 q.tt, .int .i64 q.kd, .int .i64 q.vol, .int .i64 q.life, .int .u64 q.id, .int .i64 q.cd, .bool q.has, .int .u64 q.key, .int .u32 q.ck, .bool q.g, .slice a1 q.n c1] 29)
  have BB := B1.trans (BA.mono B1.size)
  have HB1 := Lib.hid (HB.out.trans (BB.mono HB.out.size))
  have HK1 := Lib.hid (HK.out.below BB HK.out.lt)
  have HM1 := Lib.hid (Blk.made w1 29 #[.int .i64 q.fr, .int .i64 q.tt, .int .i64 q.kd, .int .i64 q.vol, .int .i64 q.life, .int .u64 q.id, .int .i64 q.cd, .bool q.has, .int .u64 q.key, .int .u32 q.ck, .bool q.g, .slice a1 q.n c1])
  have HG1 := Lib.hid g1
  have HG2 := Lib.hid g2
  have HG3 := Lib.hid (row_below g3 BA (Nat.le_refl _))
  have HZ := Lib.hid (show w.heap.size < W0.heap.size from HK.out.lt)
  clear B1 BA BB g1 g2 g3 E
  go_upto_region 2 with fail
  generalize (w1.alloc (.cells #[.int .i64 q.fr, .int .i64 q.tt, .int .i64 q.kd, .int .i64 q.vol, .int .i64 q.life, .int .u64 q.id, .int .i64 q.cd, .bool q.has, .int .u64 q.key, .int .u32 q.ck, .bool q.g, .slice a1 q.n c1] 29)) = W2 at *
  have HR2 := Lib.hid (HR.out.below HB1.out)
  obtain ⟨m0, m1, m2, m3, m4, m5, m6, m7, m8, m9, m10, m11⟩ := HM1.out.twelve
  go_wp2_with fail
  refine (EA.out W2 HR2.out).mono ?_
  rintro e w3 ⟨rfl, B3⟩
  have HB3 := Lib.hid (HB1.out.trans (B3.mono HB1.out.size))
  have HK3 := Lib.hid (HK1.out.below B3 HK1.out.lt)
  have HM3 := Lib.hid (HM1.out.below B3 HM1.out.lt)
  have HR3 := Lib.hid (HR.out.below HB3.out)
  have HG33 := Lib.hid (row_below HG3.out B3 (Nat.le_refl _))
  clear B3 m0 m1 m2 m3 m4 m5 m6 m7 m8 m9 m10 m11 EA HG3
  obtain ⟨la, lc, ca, cc, hN, hL, hC, hbn, hP, h4⟩ := HR3.out
  obtain ⟨lg, rfl, -, -⟩ := row_pkt hL hj
  have HP := Lib.hid hP
  have H4 := Lib.hid h4
  have HRR := Lib.hid hrr
  have ED := Lib.hid (show Calls Try.prog 55 #[.slice (some ⟨lg, 0, none⟩) P.length lc, .int .i64 (j : Int), .int .i64 ((j : Int) + 1)] w3 fun e w' => e = .returned (.slice (some ⟨lg, 0, none⟩) r lc) ∧ w'.ownsRow base 22 1 (.slice (some ⟨lg, 0, none⟩) r lc) r ((P.map Pk.val).eraseIdx j) ∧ w3.grownBy w' (some lg) from by
    have hL' := hL
    rw [hrr] at hL'
    have := del_any j w3 hL' (by omega) (by omega) (by
      intro u hu
      obtain ⟨p, -, rfl⟩ := List.mem_map.1 hu
      rfl)
    rw [← hrr] at this
    exact this)
  have hlr := Lib.hid (show (P.eraseIdx j).length = r from by rw [List.length_eraseIdx, if_pos hj]; omega)
  have c0 := hN.cell 0
  have HN := Lib.hid hN
  have HLr := Lib.hid hL
  have HC := Lib.hid hC
  have hj2 : (j : Int) + 1 ≤ 4096 := by omega
  clear hN hL hC hP hrr hj hbn h4
  go_wp2_with fail
  refine ED.out.mono ?_
  rintro e w4 ⟨rfl, ho4, hg4⟩
  have HO4 := Lib.hid ho4
  have HN4 := Lib.hid (own_blk HLr.out hg4 HN.out (by decide))
  have HC4 := Lib.hid (own_row HLr.out hg4 HC.out (by decide))
  have HKp := Lib.hid (own_nkeep HLr.out hg4 (.inl rfl))
  have HB4 := Lib.hid (own_below' HLr.out hg4 HR3.out.low)
  have d0 := HN4.out.cell 0
  have f0 := HN4.out.frozen 0
  have hm : (P.eraseIdx j).map Pk.val = (P.map Pk.val).eraseIdx j := by simp [List.eraseIdx_eq_take_drop_succ]
  have hd := net_setL (P' := P.eraseIdx j) HR3.out (la' := some ⟨lg, 0, none⟩) (lc' := lc) HKp.out HB4.out ⟨_, _, _, HN4.out, HC4.out⟩ (by
    rw [hlr.out, hm]
    exact HO4.out) (fun p hp => HP.out p (List.mem_of_mem_eraseIdx hp)) (by have := H4.out; have := HRR.out; rw [hlr.out]; omega)
  rw [hlr.out] at hd
  have HD := Lib.hid hd
  clear ho4 hg4 c0 ED hm hd
  go_upto_region 7 with fail
  generalize (w4.setCell ⟨N, 0, none⟩ (.slice (some ⟨lg, 0, none⟩) r lc)) = W5 at *
  clear d0 f0
  have HK5 := Lib.hid (HK3.out.nkeep HD.out.2.1 (by decide) (by decide) (by decide))
  have HM5 := Lib.hid (HM3.out.nkeep HD.out.2.1 (by decide) (by decide) (by decide))
  have HG5 := Lib.hid (row_nkeep HG33.out HD.out.2.1 (by decide) (by decide) (by decide))
  obtain ⟨m0, m1, m2, m3, m4, m5, m6, m7, m8, m9, m10, m11⟩ := HM5.out.twelve
  obtain ⟨k0, k1, k2, k3, k4, k5, k6, k7, k8, k9, k10, k11⟩ := HK5.out.twelve
  obtain ⟨f0, f1, f2, f3, f4, f5, f6, f7, f8, f9, f10, f11⟩ := HK5.out.twelve_frozen
  go_wp2_with fail
  have hgr : W5.grownBy _ (some w.heap.size) := grown_put12 (grown_refl W5 (some w.heap.size)) (.int .i64 q.fr) (.int .i64 q.tt) (.int .i64 q.kd) (.int .i64 q.vol) (.int .i64 q.life) (.int .u64 q.id) (.int .i64 q.cd) (.bool q.has) (.int .u64 q.key) (.int .u32 q.ck) (.bool q.g) (.slice a1 q.n c1)
  exact bodyPost_ret (take_results (HK5.out.put12 _ _ _ _ _ _ _ _ _ _ _ _) rfl rfl) rfl ⟨NDid.boxed (NDid.on HR3.out (.of HB3.out) (HB3.out.mono HR.out.low) HD.out) HK5.out hgr (Nat.le_refl _) HR.out.low, a1, c1, rfl, HG1.out, HG2.out, row_base (row_far HG5.out hgr HZ.out) (Nat.le_of_lt HZ.out)⟩
end Go.Proofs.Ytpkfjnhjcdcoaaa
