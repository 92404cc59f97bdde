/-
  index.Index: place, Put, Find, All, From, Len, Clone, New.
-/
import Derived.Test.YtmmmakfmpopniaaIdx
namespace Go.Proofs.Ytmmmakfmpopniaa
open Go.RowKit
set_option linter.unusedVariables false

theorem flatP_set (ps : List PosR) (k : Nat) (q : PosR) (hk : k < ps.length) :
    flatP (ps.set k q) = (((((flatP ps).set (k * 5) (.int .u64 q.key)).set (k * 5 + 1) (.int .i64 q.off)).set (k * 5 + 2) (.int .i64 q.len)).set (k * 5 + 3) (.int .u32 q.ck)).set (k * 5 + 4) (.bool q.gone) := by
  induction ps generalizing k with
  | nil => simp at hk
  | cons p ps ih =>
    cases k with
    | zero => simp [flatP, PosR.cells]
    | succ k =>
      have hs : ∀ (j : Nat) (u : Value) (L : List Value), (p.cells ++ L).set ((k + 1) * 5 + j) u = p.cells ++ L.set (k * 5 + j) u := fun j u L => by
        rw [List.set_append_right _ _ (by rw [PosR.cells_length]; omega), PosR.cells_length, show (k + 1) * 5 + j - 5 = k * 5 + j from by omega]
      show p.cells ++ flatP (ps.set k q) = _
      rw [ih k (by simpa using hk)]
      show _ = (((((p.cells ++ flatP ps).set ((k + 1) * 5 + 0) (.int .u64 q.key)).set ((k + 1) * 5 + 1) (.int .i64 q.off)).set ((k + 1) * 5 + 2) (.int .i64 q.len)).set ((k + 1) * 5 + 3) (.int .u32 q.ck)).set ((k + 1) * 5 + 4) (.bool q.gone)
      rw [hs, hs, hs, hs, hs]
      rfl

theorem flatP_setkey (ps : List PosR) (k key : Nat) (hk : k < ps.length) :
    flatP (ps.set k ⟨key, (ps.getD k dP).off, (ps.getD k dP).len, (ps.getD k dP).ck, (ps.getD k dP).gone⟩) = (flatP ps).set (k * 5) (.int .u64 key) := by
  induction ps generalizing k with
  | nil => simp at hk
  | cons p ps ih =>
    cases k with
    | zero => simp [flatP, PosR.cells]
    | succ k =>
      show p.cells ++ flatP (ps.set k ⟨key, (ps.getD k dP).off, (ps.getD k dP).len, (ps.getD k dP).ck, (ps.getD k dP).gone⟩) = (p.cells ++ flatP ps).set ((k + 1) * 5) (.int .u64 key)
      rw [ih k (by simpa using hk), List.set_append_right _ _ (by rw [PosR.cells_length]; omega), PosR.cells_length, show (k + 1) * 5 - 5 = k * 5 from by omega]

theorem own_set5 {W : World} {base b n cap k : Nat} {T : TypeId} {ps : List PosR} (h : W.ownsRow base T 5 (.slice (some ⟨b, 0, none⟩) n cap) n (flatP ps)) (hk : k < ps.length) (q : PosR) :
    (((((W.setCell ⟨b, k * 5, none⟩ (.int .u64 q.key)).setCell ⟨b, k * 5 + 1, none⟩ (.int .i64 q.off)).setCell ⟨b, k * 5 + 2, none⟩ (.int .i64 q.len)).setCell ⟨b, k * 5 + 3, none⟩ (.int .u32 q.ck)).setCell ⟨b, k * 5 + 4, none⟩ (.bool q.gone)).ownsRow base T 5 (.slice (some ⟨b, 0, none⟩) n cap) n (flatP (ps.set k q)) ∧
    W.grownBy (((((W.setCell ⟨b, k * 5, none⟩ (.int .u64 q.key)).setCell ⟨b, k * 5 + 1, none⟩ (.int .i64 q.off)).setCell ⟨b, k * 5 + 2, none⟩ (.int .i64 q.len)).setCell ⟨b, k * 5 + 3, none⟩ (.int .u32 q.ck)).setCell ⟨b, k * 5 + 4, none⟩ (.bool q.gone)) (some b) := by
  obtain ⟨h1, g1⟩ := h.stored (k * 5) (.int .u64 q.key)
  obtain ⟨h2, g2⟩ := h1.stored (k * 5 + 1) (.int .i64 q.off)
  obtain ⟨h3, g3⟩ := h2.stored (k * 5 + 2) (.int .i64 q.len)
  obtain ⟨h4, g4⟩ := h3.stored (k * 5 + 3) (.int .u32 q.ck)
  obtain ⟨h5, g5⟩ := h4.stored (k * 5 + 4) (.bool q.gone)
  rw [flatP_set ps k q hk]
  exact ⟨h5, grown_trans g1 (grown_trans g2 (grown_trans g3 (grown_trans g4 g5)))⟩

theorem own_some {W : World} {base k c size : Nat} {T : TypeId} {a : Option Addr} {xs : List Value} (h : W.ownsRow base T size (.slice a k c) k xs) (hk : 0 < k) : ∃ b, a = some ⟨b, 0, none⟩ ∧ base ≤ b := by
  rcases h.2 with ⟨_, e2⟩ | ⟨b, cap, cur, e1, e2, -⟩
  · omega
  · cases e1
    exact ⟨b, rfl, e2⟩
/-- The cells of the i-th position of a row of one's own. -/
theorem own_cells {W : World} {base n c b : Nat} {T : TypeId} {ps : List PosR} (h : W.ownsRow base T 5 (.slice (some ⟨b, 0, none⟩) n c) n (flatP ps)) (i : Nat) (hi : i < n) (hl : ps.length = n) :
    W.cell? ⟨b, i * 5, none⟩ = some (.int .u64 (ps.getD i dP).key) ∧ W.cell? ⟨b, i * 5 + 1, none⟩ = some (.int .i64 (ps.getD i dP).off) ∧ W.cell? ⟨b, i * 5 + 2, none⟩ = some (.int .i64 (ps.getD i dP).len) ∧ W.cell? ⟨b, i * 5 + 3, none⟩ = some (.int .u32 (ps.getD i dP).ck) ∧ W.cell? ⟨b, i * 5 + 4, none⟩ = some (.bool (ps.getD i dP).gone) := by
  have hil : i < ps.length := by omega
  have e : ps.getD i dP = ps[i] := by simp [List.getD, hil]
  have hc : ∀ j, j < 5 → W.cell? ⟨b, i * 5 + j, none⟩ = (ps[i]).cells[j]? := fun j hj => by
    rw [← flatP_at ps i j hj hil]
    exact h.cellAt (i * 5 + j) (by omega)
  rw [e]
  exact ⟨hc 0 (by omega), hc 1 (by omega), hc 2 (by omega), hc 3 (by omega), hc 4 (by omega)⟩


theorem own_belowI {w w' : World} {B base size : Nat} {e : TypeId} {v : Value} {k : Nat} {xs : List Value} (h : w.ownsRow base e size v k xs) (hb : Below B w w') (hB : w.heap.size ≤ B) : w'.ownsRow base e size v k xs := by
  refine ⟨h.1, ?_⟩
  rcases h.2 with h2 | ⟨g, cap, cur, e1, e2, e3, e4⟩
  · exact .inl h2
  · exact .inr ⟨g, cap, cur, e1, e2, (hb.block g (Nat.lt_of_lt_of_le (Array.getElem?_eq_some_iff.1 e3).1 hB)).trans e3, e4⟩
/-- What a position's fields may be. -/
def PosB (p : PosR) : Prop := p.key < 18446744073709551616 ∧ p.ck < 4294967296 ∧ -9223372036854775808 ≤ p.off ∧ p.off ≤ 9223372036854775807 ∧ -9223372036854775808 ≤ p.len ∧ p.len ≤ 9223372036854775807
/-- An index in memory: its cell holds v, whose row stands for L. -/
structure IdR (w : World) (base B : Nat) (v : Value) (L : List PosR) : Prop where
  k : Blk w B 52 #[v]
  bb : base ≤ B
  row : w.ownsRow base 32 5 v L.length (flatP L)
  srt : Srt PosR.key L
  inn : ∀ p ∈ L, PosB p
  len : L.length ≤ 4096
theorem IdR.psl {w : World} {base B : Nat} {v : Value} {L : List PosR} (h : IdR w base B v L) : ∃ a c, v = .slice a L.length c ∧ L.length ≤ c ∧ PSl w w.heap.size a L.length L := by
  obtain ⟨a, c, rfl, hc⟩ := own_form_any h.row
  exact ⟨a, c, rfl, hc, psl_own_same h.row h.inn⟩
/-- Two blocks may turn: the index's and its row's. -/
structure Tw (w w' : World) (B : Nat) (r : Option Nat) : Prop where
  os : w'.os = w.os
  tape : w'.tape = w.tape
  output : w'.output = w.output
  size : w.heap.size ≤ w'.heap.size
  block : ∀ k, k < w.heap.size → k ≠ B → some k ≠ r → w'.heap[k]? = w.heap[k]?
theorem Tw.below {w w' : World} {B base : Nat} {r : Option Nat} (h : Tw w w' B r) (h1 : base ≤ B) (h2 : ∀ k, r = some k → base ≤ k) (h3 : base ≤ w.heap.size) : Below base w w' :=
  ⟨h.os, h.tape, h.output, h.size, fun k hk => h.block k (by omega) (by omega) (fun e => by have := h2 k e.symm; omega)⟩
theorem IdR.on {w w' : World} {base B : Nat} {v : Value} {L : List PosR} (h : IdR w base B v L) (hb : Below w.heap.size w w') : IdR w' base B v L :=
  ⟨h.k.below hb h.k.lt, h.bb, own_belowI h.row hb (Nat.le_refl _), h.srt, h.inn, h.len⟩
theorem IdR.tw {w w' : World} {base B B' : Nat} {v : Value} {r : Option Nat} {L : List PosR} (h : IdR w base B v L) (ht : Tw w w' B' r) (h1 : B ≠ B') (h2 : some B ≠ r) (h3 : ∀ k, v.ownBlock = some k → k ≠ B' ∧ some k ≠ r) : IdR w' base B v L := by
  refine ⟨(ht.block B h.k.lt h1 h2).trans h.k, h.bb, ⟨h.row.1, ?_⟩, h.srt, h.inn, h.len⟩
  rcases h.row.2 with e | ⟨g, cap, cur, e1, hb, hg, rest⟩
  · exact .inl e
  · refine .inr ⟨g, cap, cur, e1, hb, ?_, rest⟩
    have hk := h3 g (by rw [e1]; rfl)
    rw [ht.block g (Array.getElem?_eq_some_iff.1 hg).1 hk.1 hk.2]
    exact hg
theorem blk_types {w : World} {g : Nat} {t t' : TypeId} {cs cs' : Array Value} (h : Blk w g t cs) (h' : Blk w g t' cs') : t = t' := by
  unfold Blk at h h'
  rw [h] at h'
  injection h' with h'
  injection h'
theorem own_blk {w : World} {base n k size : Nat} {v : Value} {e : TypeId} {xs : List Value} (h : w.ownsRow base e size v n xs) (hk : v.ownBlock = some k) : ∃ cs, Blk w k e cs := by
  rcases h.2 with ⟨e1, _⟩ | ⟨g, cap, cur, e1, hb, hg, _⟩
  · rw [e1] at hk; cases hk
  · rw [e1] at hk
    have : g = k := by simpa [Value.ownBlock] using hk
    subst this
    exact ⟨cur, hg⟩

/-- Is a key there? -/
def thr (k : Nat) (L : List PosR) : Bool := decide (lo PosR.key k L < L.length ∧ (L.getD (lo PosR.key k L) dP).key = k)
theorem thr_yes {k : Nat} {L : List PosR} (h : thr k L = true) : lo PosR.key k L < L.length ∧ (L.getD (lo PosR.key k L) dP).key = k := of_decide_eq_true h
theorem thr_no {k : Nat} {L : List PosR} (h : thr k L = false) : ¬ (lo PosR.key k L < L.length ∧ (L.getD (lo PosR.key k L) dP).key = k) := of_decide_eq_false h
theorem place_any {w : World} {base B : Nat} {v : Value} {L : List PosR} (h : IdR w base B v L) (k : Nat) :
    Calls Try.prog 22 #[.pointer (some ⟨B, 0, none⟩), .int .u64 k] w fun e w' => e = .returned (.tuple #[.int .i64 (lo PosR.key k L : Nat), .bool (thr k L)]) ∧ Below w.heap.size w w' := by
  obtain ⟨a, c, rfl, hc, hp⟩ := h.psl
  have E := Lib.hid (show Calls Try.prog 25 #[.slice a L.length c, .int .u64 k, .func (.func 26) #[] #[]] w fun e w' => e = .returned (.tuple #[.int .i64 (lo PosR.key k L : Nat), .bool (thr k L)]) ∧ Below w.heap.size w w' from search_any a L.length c L k w hp h.srt (by have := h.len; omega))
  have k0 : w.cell? ⟨B, 0, none⟩ = some (.slice a L.length c) := h.k.cell 0
  clear h hp
  go_enter Try.func22, Try.ntmps22
  go_wp2_with fail
  refine E.out.mono ?_
  rintro e w1 ⟨rfl, B1⟩
  have HB := Lib.hid B1
  clear B1 E
  go_wp2_with fail
  go_ret2
  exact ⟨rfl, HB.out⟩

theorem find_results {W : World} {B : Nat} {v0 v1 v2 v3 v4 : Value} {a : Act} {e : Value} (h : Blk W B 32 #[v0, v1, v2, v3, v4]) (h2 : a.tmps[4]?.getD undef = .pointer (some ⟨B, 0, none⟩)) (h3 : a.tmps[5]?.getD undef = e) :
    (results Try.f11 a.tmps).run Try.prog W = .ok (.tuple #[.agg #[v0, v1, v2, v3, v4], e]) W := by
  have k0 : W.cell? ⟨B, 0, none⟩ = some v0 := h.cell 0
  have k1 : W.cell? ⟨B, 1, none⟩ = some v1 := h.cell 1
  have k2 : W.cell? ⟨B, 2, none⟩ = some v2 := h.cell 2
  have k3 : W.cell? ⟨B, 3, none⟩ = some v3 := h.cell 3
  have k4 : W.cell? ⟨B, 4, none⟩ = some v4 := h.cell 4
  simp [results, Try.results11, go_sem, h2, h3, k0, k1, k2, k3, k4]
/-- The position of a key, if it is there. -/
def fnd (k : Nat) (L : List PosR) : Option PosR := if thr k L = true then some (L.getD (lo PosR.key k L) dP) else none
def FindP (w : World) (o : Option PosR) (e : Ending) (w' : World) : Prop :=
  ∃ p : PosR, ∃ cd : Nat, e = .returned (.tuple #[.agg #[.int .u64 p.key, .int .i64 p.off, .int .i64 p.len, .int .u32 p.ck, .bool p.gone], errc cd]) ∧ ((o = some p ∧ cd = 0) ∨ (o = none ∧ p = dP ∧ cd = 6)) ∧ Below w.heap.size w w'
theorem blk_fives {w : World} {g : Nat} {t : TypeId} {v0 v1 v2 v3 v4 : Value} (k : Blk w g t #[v0, v1, v2, v3, v4]) :
    w.cell? ⟨g, 0, none⟩ = some v0 ∧ w.cell? ⟨g, 1, none⟩ = some v1 ∧ w.cell? ⟨g, 2, none⟩ = some v2 ∧ w.cell? ⟨g, 3, none⟩ = some v3 ∧ w.cell? ⟨g, 4, none⟩ = some v4 := ⟨k.cell 0, k.cell 1, k.cell 2, k.cell 3, k.cell 4⟩
theorem blk_frozens {w : World} {g : Nat} {t : TypeId} {cs : Array Value} (k : Blk w g t cs) :
    w.frozen? ⟨g, 0, none⟩ = false ∧ w.frozen? ⟨g, 1, none⟩ = false ∧ w.frozen? ⟨g, 2, none⟩ = false ∧ w.frozen? ⟨g, 3, none⟩ = false ∧ w.frozen? ⟨g, 4, none⟩ = false := ⟨k.frozen 0, k.frozen 1, k.frozen 2, k.frozen 3, k.frozen 4⟩
theorem blk_put5 {w : World} {B : Nat} {T : TypeId} {v0 v1 v2 v3 v4 : Value} (h : Blk w B T #[v0, v1, v2, v3, v4]) (u0 u1 u2 u3 u4 : Value) :
    Blk (((((w.setCell ⟨B, 0, none⟩ u0).setCell ⟨B, 1, none⟩ u1).setCell ⟨B, 2, none⟩ u2).setCell ⟨B, 3, none⟩ u3).setCell ⟨B, 4, none⟩ u4) B T #[u0, u1, u2, u3, u4] := ((((h.put 0 u0).put 1 u1).put 2 u2).put 3 u3).put 4 u4
theorem below_five {w X : World} {B0 B : Nat} (h : Below B0 X w) (hB : B0 ≤ B) (u0 u1 u2 u3 u4 : Value) :
    Below B0 X (((((w.setCell ⟨B, 0, none⟩ u0).setCell ⟨B, 1, none⟩ u1).setCell ⟨B, 2, none⟩ u2).setCell ⟨B, 3, none⟩ u3).setCell ⟨B, 4, none⟩ u4) :=
  ((((h.setCell (p := ⟨B, 0, none⟩) hB u0).setCell (p := ⟨B, 1, none⟩) hB u1).setCell (p := ⟨B, 2, none⟩) hB u2).setCell (p := ⟨B, 3, none⟩) hB u3).setCell (p := ⟨B, 4, none⟩) hB u4
set_option maxRecDepth 100000 in
theorem find_nil (k : Nat) (w : World) : Calls Try.prog 11 #[.pointer none, .int .u64 k] w (FindP w none) := by
  obtain ⟨w1, hw1, hM1, hB1⟩ : ∃ X, w.alloc (.cells #[.int .u64 0, .int .i64 0, .int .i64 0, .int .u32 0, .bool false] 32) = X ∧ Blk X w.heap.size 32 #[.int .u64 0, .int .i64 0, .int .i64 0, .int .u32 0, .bool false] ∧ Below w.heap.size w X := ⟨_, rfl, Blk.made _ _ _, (Below.refl _ _).alloc (Nat.le_refl _) _⟩
  have HM := Lib.hid hM1
  have HB := Lib.hid hB1
  obtain ⟨c0, c1, c2, c3, c4⟩ := blk_fives hM1
  obtain ⟨f0, f1, f2, f3, f4⟩ := blk_frozens hM1
  clear hM1 hB1
  go_enter Try.func11, Try.ntmps11
  go_upto_region 1 with fail
  try rw [hw1]
  clear hw1
  go_wp2_with fail
  exact bodyPost_ret (v := .tuple #[.agg #[.int .u64 0, .int .i64 0, .int .i64 0, .int .u32 0, .bool false], errc 6]) (find_results (blk_put5 HM.out _ _ _ _ _) rfl rfl) rfl ⟨dP, 6, rfl, .inr ⟨rfl, rfl, rfl⟩, below_five HB.out (Nat.le_refl _) _ _ _ _ _⟩
set_option maxRecDepth 100000 in
set_option maxHeartbeats 1000000 in
theorem find_any {w : World} {base B : Nat} {v : Value} {L : List PosR} (h : IdR w base B v L) (k : Nat) :
    Calls Try.prog 11 #[.pointer (some ⟨B, 0, none⟩), .int .u64 k] w (FindP w (fnd k L)) := by
  obtain ⟨w1, hw1, hM1, hB1⟩ : ∃ X, w.alloc (.cells #[.int .u64 0, .int .i64 0, .int .i64 0, .int .u32 0, .bool false] 32) = X ∧ Blk X w.heap.size 32 #[.int .u64 0, .int .i64 0, .int .i64 0, .int .u32 0, .bool false] ∧ Below w.heap.size w X := ⟨_, rfl, Blk.made _ _ _, (Below.refl _ _).alloc (Nat.le_refl _) _⟩
  have h1 := h.on hB1
  have E := Lib.hid (place_any h1 k)
  have HI := Lib.hid h1
  have HM := Lib.hid hM1
  have HB := Lib.hid hB1
  have HL := Lib.hid h.len
  clear h h1 hM1 hB1
  obtain ⟨r, hr⟩ : ∃ r, lo PosR.key k L = r := ⟨_, rfl⟩
  obtain ⟨b, hb⟩ : ∃ b, thr k L = b := ⟨_, rfl⟩
  rw [hr, hb] at E
  have HR := Lib.hid hr
  have HT := Lib.hid hb
  clear hr hb
  go_enter Try.func11, Try.ntmps11
  go_upto_region 1 with fail
  try rw [hw1]
  clear hw1
  go_wp2_with fail
  refine E.out.mono ?_
  rintro e w2 ⟨rfl, B2⟩
  have hM2 := HM.out.below B2 HM.out.lt
  have HM2 := Lib.hid hM2
  have HI2 := Lib.hid (HI.out.on B2)
  have HB2 := Lib.hid (HB.out.trans (B2.mono HB.out.size))
  obtain ⟨c0, c1, c2, c3, c4⟩ := blk_fives hM2
  obtain ⟨f0, f1, f2, f3, f4⟩ := blk_frozens hM2
  clear B2 hM2 E HM HI HB
  cases b with
  | false =>
    have HF := Lib.hid (show fnd k L = none from if_neg (by rw [HT.out]; decide))
    go_wp2_with fail
    exact bodyPost_ret (v := .tuple #[.agg #[.int .u64 0, .int .i64 0, .int .i64 0, .int .u32 0, .bool false], errc 6]) (find_results (blk_put5 HM2.out _ _ _ _ _) rfl rfl) rfl ⟨dP, 6, rfl, .inr ⟨HF.out, rfl, rfl⟩, below_five HB2.out (Nat.le_refl _) _ _ _ _ _⟩
  | true =>
    have hth := thr_yes HT.out
    rw [HR.out] at hth
    have HF := Lib.hid (show fnd k L = some (L.getD r dP) from by rw [← HR.out]; exact if_pos HT.out)
    obtain ⟨a, c, rfl, hc, hp⟩ := HI2.out.psl
    obtain ⟨bb, off, ha, hbb, hcell⟩ := hp.2.2 (by omega)
    subst ha
    obtain ⟨q0, q1, q2, q3, q4⟩ := psl_cells (w := w2) (B := 0) hp.1 hcell r hth.1 rfl
    have k0 : w2.cell? ⟨B, 0, none⟩ = some (.slice (some ⟨bb, off, none⟩) L.length c) := HI2.out.k.cell 0
    have hri : (r : Int) < (L.length : Int) := by have := hth.1; omega
    have hli : (L.length : Int) ≤ 4096 := by have := HL.out; omega
    clear hp hcell hth hbb
    generalize L.getD r dP = q at *
    go_wp2_with fail
    exact bodyPost_ret (v := .tuple #[.agg #[.int .u64 q.key, .int .i64 q.off, .int .i64 q.len, .int .u32 q.ck, .bool q.gone], errc 0]) (find_results (blk_put5 HM2.out _ _ _ _ _) rfl rfl) rfl ⟨q, 0, rfl, .inl ⟨HF.out, rfl⟩, below_five HB2.out (Nat.le_refl _) _ _ _ _ _⟩

theorem append_pos {W : World} {base g k cap : Nat} {xs : List Value} (hown : W.ownsRow base 32 5 (.slice (some ⟨g, 0, none⟩) k cap) k xs) {B : Nat} {ad : Addr} {n : Nat} {ps : List PosR} (c : Nat) (h : PSl W B (some ad) n ps) (hs : k + n ≤ 4398046510976) (hbase : base ≤ W.heap.size) :
    ∃ v' W', (Builtin.append_ #[26, 26] 26 #[.slice (some ⟨g, 0, none⟩) k cap, .slice (some ad) n c]).run Try.prog W = .ok v' W' ∧ W'.ownsRow base 32 5 v' (k + n) (xs ++ flatP ps) ∧ W.grownBy W' (some g) := by
  obtain ⟨i0, hi, hz0, hz1, hz2⟩ := info_parts info_pos
  have hnews : ∀ j u, (flatP ps)[j]? = some u → W.cell? (ad.add j) = some u := by
    intro j u hj
    have hjl : j < n * 5 := by
      have := (List.getElem?_eq_some_iff.1 hj).1
      rw [flatP_length, h.1] at this
      exact this
    obtain ⟨b, off, e, -, hc⟩ := h.2.2 (by omega)
    cases e
    have := hc (j / 5) (j % 5) (by omega) (by omega)
    rw [show j / 5 * 5 + j % 5 = j from by omega, hj] at this
    rw [Addr.add_lit, ← this]
    congr 2
    omega
  have h1 : ∀ u ∈ flatP ps, u.oneCell' = true := by
    intro u hu
    obtain ⟨p, _, hp⟩ := List.mem_flatMap.1 hu
    exact p.cells_one u hp
  obtain ⟨v', w', hr, h2, h3, _, _⟩ := run_append_own_at (P := Try.prog) W base 26 26 32 i0 _ 5 32 Try.underlying26 hi hz0 hz1 hz2 rfl (by decide) _ k xs hown ad n c (flatP ps) (by rw [flatP_length, h.1]) hnews h1 (by unfold maxLen; omega) (by omega) hbase
  exact ⟨v', w', hr, h2, h3⟩
set_option maxRecDepth 100000 in
set_option maxHeartbeats 1000000 in
theorem pclone_any (a : Option Addr) (n c : Nat) (ps : List PosR) (w : World) (h : PSl w w.heap.size a n ps) (h0 : a = none → n = 0) (hn : n ≤ 1000000) :
    Calls Try.prog 21 #[.slice a n c] w fun e w' => ∃ v, e = .returned v ∧ w'.ownsRow w.heap.size 32 5 v n (flatP ps) ∧ Below w.heap.size w w' := by
  have qT : ∀ (w : World) (a : Option Addr) (n c n' c' : Nat), (binOp .eql 26 (.slice a n c) (.slice none n' c')).run Try.prog w = .ok (.bool a.isNone) w := fun w a n c n' c' => Lib.run_eql_slice_nil w _ _ a n c n' c' Try.underlying26
  cases a with
  | none =>
    obtain rfl := h0 rfl
    have hp : ps = [] := List.eq_nil_of_length_eq_zero h.1
    subst hp
    clear h h0
    go_enter Try.func21, Try.ntmps21
    go_wp2_with fail
    go_ret
    exact ⟨_, rfl, World.ownsRow_nil _ _ _ _, Below.refl _ _⟩
  | some ad =>
    have hb0 : Below w.heap.size w (w.alloc (.cells #[] 32)) := (Below.refl _ w).alloc (Nat.le_refl _) _
    obtain ⟨v', w', hr, h2, h3⟩ := append_pos (World.ownsRow_made (base := w.heap.size) w #[] 0 (Nat.le_refl _) (Nat.zero_le _) rfl) c (h.below hb0) (by omega) hb0.size
    simp only [Nat.zero_add, List.nil_append] at h2
    have HB := Lib.hid (hb0.grown h3 hb0.size (fun k e => by injection e with e; omega))
    have HO := Lib.hid h2
    obtain ⟨ab, ao, asp⟩ := ad
    clear h h0 h2 h3 hb0
    go_enter Try.func21, Try.ntmps21
    go_wp2_with (at_builtin; refine list_run (by rfl) _ _ rfl rfl rfl hr ?_; clear hr)
    go_ret
    exact ⟨_, rfl, HO.out, HB.out⟩

theorem IdR.nil0 {w : World} {base B : Nat} {a : Option Addr} {n c : Nat} {L : List PosR} (h : IdR w base B (.slice a n c) L) (e : a = none) : L.length = 0 := by
  rcases h.row.2 with ⟨_, e2⟩ | ⟨g, cap, cur, e1, _⟩
  · exact e2
  · subst e; cases e1
theorem IdR.n_eq {w : World} {base B : Nat} {a : Option Addr} {n c : Nat} {L : List PosR} (h : IdR w base B (.slice a n c) L) : n = L.length := by
  rcases h.row.2 with ⟨e1, e2⟩ | ⟨g, cap, cur, e1, _⟩
  · injection e1 with _ e _; omega
  · injection e1 with _ e _
theorem all_nil (w : World) : Calls Try.prog 10 #[.pointer none] w fun e w' => e = .returned (.slice none 0 0) ∧ w' = w := by
  go_enter Try.func10, Try.ntmps10
  go_wp2_with fail
  go_ret
  exact ⟨rfl, rfl⟩
/-- All of an index: a row of its own. -/
theorem all_any {w : World} {base B : Nat} {v : Value} {L : List PosR} (h : IdR w base B v L) :
    Calls Try.prog 10 #[.pointer (some ⟨B, 0, none⟩)] w fun e w' => ∃ v', e = .returned v' ∧ w'.ownsRow w.heap.size 32 5 v' L.length (flatP L) ∧ Below w.heap.size w w' := by
  obtain ⟨a, c, rfl, hc, hp⟩ := h.psl
  have E := Lib.hid (pclone_any a L.length c L w hp (fun e => h.nil0 e) (by have := h.len; omega))
  have k0 : w.cell? ⟨B, 0, none⟩ = some (.slice a L.length c) := h.k.cell 0
  clear h hp
  go_enter Try.func10, Try.ntmps10
  go_wp2_with fail
  refine E.out.mono ?_
  rintro e w1 ⟨v', rfl, ho, B1⟩
  have HO := Lib.hid ho
  have HB := Lib.hid B1
  clear B1 E ho
  go_wp2_with fail
  go_ret
  exact ⟨_, rfl, HO.out, HB.out⟩
theorem iclone_nil (w : World) : Calls Try.prog 20 #[.pointer none] w fun e w' => ∃ B, e = .returned (.pointer (some ⟨B, 0, none⟩)) ∧ IdR w' w.heap.size B (.slice none 0 0) [] ∧ Below w.heap.size w w' := by
  go_enter Try.func20, Try.ntmps20
  go_wp2_with fail
  refine (all_nil w).mono ?_
  rintro e w1 ⟨rfl, rfl⟩
  go_wp2_with fail
  go_ret
  exact ⟨_, rfl, ⟨Blk.made _ _ _, Nat.le_refl _, World.ownsRow_nil _ _ _ _, List.Pairwise.nil, fun p hp => absurd hp (by simp), by simp⟩, (Below.refl _ _).alloc (Nat.le_refl _) _⟩
theorem iclone_any {w : World} {base B : Nat} {v : Value} {L : List PosR} (h : IdR w base B v L) :
    Calls Try.prog 20 #[.pointer (some ⟨B, 0, none⟩)] w fun e w' => ∃ B' v', e = .returned (.pointer (some ⟨B', 0, none⟩)) ∧ IdR w' w.heap.size B' v' L ∧ Below w.heap.size w w' := by
  have E := Lib.hid (all_any h)
  have HI := Lib.hid h
  clear h
  go_enter Try.func20, Try.ntmps20
  go_wp2_with fail
  refine E.out.mono ?_
  rintro e w1 ⟨v', rfl, ho, B1⟩
  obtain ⟨a', c', rfl, -⟩ := own_form_any ho
  have HO := Lib.hid ho
  have HB := Lib.hid B1
  clear B1 E ho
  go_wp2_with fail
  go_ret
  exact ⟨_, _, rfl, ⟨Blk.made _ _ _, HB.out.size, HO.out.alloc _, HI.out.srt, HI.out.inn, HI.out.len⟩, HB.out.alloc HB.out.size _⟩
theorem len_nil (w : World) : Calls Try.prog 18 #[.pointer none] w fun e w' => e = .returned (.tuple #[.int .i64 0, .int .i64 0]) ∧ w' = w := by
  go_enter Try.func18, Try.ntmps18
  go_wp2_with fail
  go_ret2
  exact ⟨rfl, rfl⟩
theorem from_nil (k : Nat) (m : Int) (w : World) : Calls Try.prog 19 #[.pointer none, .int .u64 k, .int .i64 m] w fun e w' => e = .returned (.slice none 0 0) ∧ w' = w := by
  go_enter Try.func19, Try.ntmps19
  go_wp2_with fail
  go_ret
  exact ⟨rfl, rfl⟩
set_option maxRecDepth 100000 in
theorem put_nil (p : PosR) (w : World) : Calls Try.prog 13 #[.pointer none, .agg #[.int .u64 p.key, .int .i64 p.off, .int .i64 p.len, .int .u32 p.ck, .bool p.gone]] w fun e w' => e = .returned (errc 11) ∧ Below w.heap.size w w' := by
  have HB := Lib.hid ((Below.refl w.heap.size w).alloc (Nat.le_refl _) (.cells #[.int .u64 p.key, .int .i64 p.off, .int .i64 p.len, .int .u32 p.ck, .bool p.gone] 32))
  go_enter Try.func13, Try.ntmps13
  go_wp2_with fail
  go_ret
  exact ⟨rfl, HB.out⟩
end Go.Proofs.Ytmmmakfmpopniaa
