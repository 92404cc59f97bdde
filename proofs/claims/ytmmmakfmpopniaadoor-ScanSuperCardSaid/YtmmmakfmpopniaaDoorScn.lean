/-
  Lists of needles that were found, in memory; the number of an error with its place; scan.Torn; where.
-/
import Derived.Test.YtmmmakfmpopniaaDoorScnLaw
import Derived.Test.YtmmmakfmpopniaaDoorAs
import Derived.Test.YtmmmakfmpopniaaDoorElem
import Derived.Test.YtmmmakfmpopniaaDoorNdlRefGet
import Derived.Deep.CutBlock
import Derived.Deep.DeepCutAuto
import Derived.Deep.QuietTactic
import Derived.BigQuiet
namespace Go.Proofs.YtmmmakfmpopniaaDoor
open Go.RowKit
set_option linter.unusedVariables false

theorem own_belowF {w w' : World} {B base size : Nat} {e : TypeId} {v : Value} {k : Nat} {xs : List Value} (h : w.ownsRow base e size v k xs) (hb : Below B w w') (hB : w.heap.size ≤ B) : w'.ownsRow base e size v k xs := by
  refine ⟨h.1, ?_⟩
  rcases h.2 with h2 | ⟨g, cap, cur, e1, e2, e3, e4⟩
  · exact .inl h2
  · exact .inr ⟨g, cap, cur, e1, e2, (hb.block g (Nat.lt_of_lt_of_le (Array.getElem?_eq_some_iff.1 e3).1 hB)).trans e3, e4⟩
theorem own_moreF {W : World} {base base' size : Nat} {e : TypeId} {v : Value} {k : Nat} {xs : List Value} (h : W.ownsRow base e size v k xs) (hb : base' ≤ base) : W.ownsRow base' e size v k xs := by
  refine ⟨h.1, ?_⟩
  rcases h.2 with h2 | ⟨g, cap, cur, e1, e2, e3⟩
  · exact .inl h2
  · exact .inr ⟨g, cap, cur, e1, by omega, e3⟩
theorem blk_typesF {w : World} {g : Nat} {t t' : TypeId} {cs cs' : Array Value} (h : Blk w g t cs) (h' : Blk w g t' cs') : t = t' := by
  unfold Blk at h h'
  rw [h] at h'
  injection h' with h'
  injection h'
theorem own_blkF {w : World} {base n k size : Nat} {v : Value} {e : TypeId} {xs : List Value} (h : w.ownsRow base e size v n xs) (hk : v.ownBlock = some k) : ∃ cs, Blk w k e cs := by
  rcases h.2 with ⟨e1, _⟩ | ⟨g, cap, cur, e1, hb, hg, _⟩
  · rw [e1] at hk; cases hk
  · rw [e1] at hk
    have : g = k := by simpa [Value.ownBlock] using hk
    subst this
    exact ⟨cur, hg⟩

/-- One that was found, and where its data lies. -/
abbrev FdL := Fd × Option Addr × Nat
def fcells (x : FdL) : List Value := [.int .i64 x.1.off, .int .i64 x.1.sz, .int .u64 x.1.key, .int .u32 x.1.ck, .bool x.1.g, .slice x.2.1 x.1.l.length x.2.2]
def flatF (xs : List FdL) : List Value := (xs.map fcells).flatten
def dF : FdL := (⟨0, 0, 0, 0, false, []⟩, none, 0)
theorem flatF_snoc (xs : List FdL) (x : FdL) : flatF (xs ++ [x]) = flatF xs ++ fcells x := by simp [flatF]
theorem flatF_length (l : List FdL) : (flatF l).length = l.length * 6 := by
  induction l with
  | nil => rfl
  | cons m l ih =>
    have : flatF (m :: l) = fcells m ++ flatF l := by simp [flatF]
    rw [this, List.length_append, ih]
    simp [fcells]
    omega
theorem flatF_at (l : List FdL) (i j : Nat) (hj : j < 6) (hi : i < l.length) : (flatF l)[i * 6 + j]? = (fcells (l.getD i dF))[j]? := by
  induction l generalizing i with
  | nil => simp at hi
  | cons m l ih =>
    have hf : flatF (m :: l) = fcells m ++ flatF l := by simp [flatF]
    have hl : (fcells m).length = 6 := rfl
    rw [hf]
    cases i with
    | zero => rw [List.getElem?_append_left (by omega)]; simp
    | succ i =>
      rw [List.getElem?_append_right (by omega), hl, show (i + 1) * 6 + j - 6 = i * 6 + j from by omega, ih i (by simpa using hi)]
      simp
theorem fcells_one (m : FdL) : ∀ u ∈ fcells m, u.oneCell' = true := by
  intro u hu
  simp only [fcells, List.mem_cons, List.not_mem_nil, or_false] at hu
  rcases hu with rfl | rfl | rfl | rfl | rfl | rfl <;> rfl
/-- The data of one that was found. -/
def FIn (w : World) (base : Nat) (x : FdL) : Prop := x.1.l.length ≤ x.2.2 ∧ w.ownsRow base 5 1 (.slice x.2.1 x.1.l.length x.2.2) x.1.l.length (x.1.l.map bv)
/-- A row of the call's own, of found needles. -/
def FRow (w : World) (base : Nat) (T : TypeId) (v : Value) (fs : List Fd) : Prop :=
  ∃ xs : List FdL, xs.map (·.1) = fs ∧ w.ownsRow base T 6 v fs.length (flatF xs) ∧ ∀ x ∈ xs, FIn w base x
theorem FRow.nil (w : World) (base : Nat) (T : TypeId) : FRow w base T (.slice none 0 0) [] := ⟨[], rfl, World.ownsRow_nil _ _ _ _, fun x h => by cases h⟩
theorem FRow.below {w w' : World} {B base : Nat} {T : TypeId} {v : Value} {fs : List Fd} (h : FRow w base T v fs) (hb : Below B w w') (hB : w.heap.size ≤ B) : FRow w' base T v fs := by
  obtain ⟨xs, h1, h2, h3⟩ := h
  exact ⟨xs, h1, own_belowF h2 hb hB, fun x hx => ⟨(h3 x hx).1, own_belowF (h3 x hx).2 hb hB⟩⟩
theorem FRow.more {w : World} {base base' : Nat} {T : TypeId} {v : Value} {fs : List Fd} (h : FRow w base T v fs) (hb : base' ≤ base) : FRow w base' T v fs := by
  obtain ⟨xs, h1, h2, h3⟩ := h
  exact ⟨xs, h1, own_moreF h2 hb, fun x hx => ⟨(h3 x hx).1, own_moreF (h3 x hx).2 hb⟩⟩
/-- One more is put behind: the run, and what is there then. -/
theorem FRow.append {W : World} {base : Nat} {T S : TypeId} {v : Value} {fs : List Fd} (h : FRow W base T v fs) {i : TypeInfo} {z : Value} (hT : Tryd.prog.underlying S = some (.slice T)) (hi : Tryd.prog.info? T = some i) (hz0 : i.zero = some z) (hz1 : i.size = 6) (hz2 : i.bytes = 56) (hzs : z.cells.size = 6) (hne : T ≠ 5)
    (x : FdL) (hx : FIn W base x) (hk : fs.length ≤ 1099511627776) (hbase : base ≤ W.heap.size) :
    ∃ g cap W2, (Builtin.append_ #[S, S] S #[v, .slice (some ⟨W.heap.size, 0, none⟩) 1 1]).run Tryd.prog (W.alloc (.cells (fcells x).toArray T)) = .ok (.slice (some ⟨g, 0, none⟩) (fs.length + 1) cap) W2 ∧
      FRow W2 base T (.slice (some ⟨g, 0, none⟩) (fs.length + 1) cap) (fs ++ [x.1]) ∧ Below base W W2 ∧ fs.length + 1 ≤ cap := by
  obtain ⟨xs, h1, h2, h3⟩ := h
  obtain ⟨g, cap, W2, hr, ho, hg, -, hc⟩ := append_elem (P := Tryd.prog) hT hi hz0 hz1 hz2 hzs (by decide) h2 (fcells x) rfl (fcells_one x) (by omega) (by unfold maxLen; omega) hbase
  refine ⟨g, cap, W2, hr, ⟨xs ++ [x], by rw [List.map_append, h1]; rfl, by rw [flatF_snoc, List.length_append]; exact ho, fun y hy => ?_⟩, (Below.refl base W).grown hg hbase (fun k e => (h2.lt k e).1), hc⟩
  have hy' : FIn W base y := by
    rcases List.mem_append.1 hy with h | h
    · exact h3 y h
    · rw [List.mem_singleton.1 h]; exact hx
  refine ⟨hy'.1, hy'.2.kept hg ?_⟩
  cases hb : (Value.slice y.2.1 y.1.l.length y.2.2).ownBlock with
  | none => exact .inl rfl
  | some q =>
    right
    intro e
    obtain ⟨c1, k1⟩ := own_blkF hy'.2 hb
    obtain ⟨c2, k2⟩ := own_blkF h2 e.symm
    exact hne (blk_typesF k2 k1)
/-- What stands in a row. -/
theorem FRow.at_ {w : World} {base n c : Nat} {T : TypeId} {a : Option Addr} {fs : List Fd} (h : FRow w base T (.slice a n c) fs) (i : Nat) (hi : i < fs.length) (f : Fd) (hf : fs[i]? = some f) :
    ∃ b av cv, a = some ⟨b, 0, none⟩ ∧ b < w.heap.size ∧ w.cell? ⟨b, i * 6, none⟩ = some (.int .i64 f.off) ∧ w.cell? ⟨b, i * 6 + 1, none⟩ = some (.int .i64 f.sz) ∧ w.cell? ⟨b, i * 6 + 2, none⟩ = some (.int .u64 f.key) ∧ w.cell? ⟨b, i * 6 + 3, none⟩ = some (.int .u32 f.ck) ∧ w.cell? ⟨b, i * 6 + 4, none⟩ = some (.bool f.g) ∧ w.cell? ⟨b, i * 6 + 5, none⟩ = some (.slice av f.l.length cv) ∧ f.l.length ≤ cv ∧ BSl w w.heap.size av f.l.length f.l := by
  obtain ⟨xs, h1, h2, h3⟩ := h
  have hl : xs.length = fs.length := by rw [← h1, List.length_map]
  have hix : i < xs.length := by omega
  obtain ⟨x, hx⟩ : ∃ x, xs[i]? = some x := ⟨xs[i], List.getElem?_eq_getElem hix⟩
  have hfx : x.1 = f := by
    have h4 : (xs.map (·.1))[i]? = some x.1 := by rw [List.getElem?_map, hx]; rfl
    rw [h1, hf] at h4
    injection h4 with h4
    exact h4.symm
  subst hfx
  have hgd : xs.getD i dF = x := by rw [List.getD, hx]; rfl
  obtain ⟨hc, ho⟩ := h3 x (List.mem_of_getElem? hx)
  rcases h2.2 with ⟨e1, e2⟩ | ⟨g, cap, cur, e1, e2, e3, _⟩
  · omega
  · injection e1 with e1 _ _
    have hcell : ∀ j, j < 6 → w.cell? ⟨g, i * 6 + j, none⟩ = (fcells x)[j]? := fun j hj => by
      have hxl : i * 6 + j < (flatF xs).length := by rw [flatF_length]; omega
      have := h2.cells (g := g) (by rw [e1]; rfl) (i * 6 + j) ((flatF xs)[i * 6 + j]) (List.getElem?_eq_getElem hxl)
      rw [← hgd, ← flatF_at xs i j hj hix, List.getElem?_eq_getElem hxl]
      simpa [Addr.add_lit] using this
    exact ⟨g, x.2.1, x.2.2, e1, (Array.getElem?_eq_some_iff.1 e3).1, hcell 0 (by decide), hcell 1 (by decide), hcell 2 (by decide), hcell 3 (by decide), hcell 4 (by decide), hcell 5 (by decide), hc, bsl_own ho⟩
theorem FRow.form {w : World} {base : Nat} {T : TypeId} {v : Value} {fs : List Fd} (h : FRow w base T v fs) : ∃ a c, v = .slice a fs.length c ∧ fs.length ≤ c := by
  obtain ⟨xs, h1, h2, h3⟩ := h
  rcases h2.2 with ⟨e1, e2⟩ | ⟨g, cap, cur, e1, e2, e3, e4, e5, e6, e7⟩
  · rw [e2]
    exact ⟨none, 0, e1, Nat.le_refl _⟩
  · exact ⟨_, cap, e1, by omega⟩

/-! ### The number of an error with its place -/
theorem code_at (p a : Nat) (w : World) (h1 : 1 ≤ a) (h2 : a ≤ 17) (hp : w.cell? ⟨p, 2, none⟩ = some (er a)) : Calls Tryd.prog 9 #[atv p] w fun e w' => e = .returned (.int .i64 a) ∧ w = w' := by
  have HP := Lib.hid hp
  clear hp
  go_enter Tryd.func9, Tryd.ntmps9
  go_wp2
  go_loop [3] (fun c => ∃ k : Int, 1 ≤ k ∧ k ≤ a ∧ c = .int .i64 k) (fun c => (17 - intOf c).toNat)
  case atStart => exact ⟨1, by omega, by omega, rfl⟩
  case round =>
    obtain ⟨k, hk1, hk2, rfl⟩ := hrel
    by_cases hlt : k < a
    · have hne := Lib.hid (show (a : Int) ≠ k from by omega)
      go_wp2_with (go_at_call 19; refine (is_at_ne _ _ _ _ hne.out HP.out).mono ?_; rintro e w' ⟨rfl, rfl⟩)
      go_round
      case rel => exact ⟨k + 1, by omega, by omega, rfl⟩
      case measure => simp [intOf]; omega
    · obtain rfl : k = a := by omega
      go_wp2_with (go_at_call 19; refine (is_at_eq _ _ _ _ rfl HP.out).mono ?_; rintro e w' ⟨rfl, rfl⟩)
      go_ret
      exact ⟨rfl, rfl⟩

/-- The listed variable's cell. -/
def Laid (w : World) : Prop := w.cell? ⟨0, 0, none⟩ = some (.iface 110 (.agg #[.pointer (some ⟨1, 26, none⟩)]))
theorem Laid.pos {w : World} (h : Laid w) : 0 < w.heap.size := by
  rcases Nat.eq_zero_or_pos w.heap.size with h0 | h1
  · simp [Laid, World.cell?, h0] at h
  · exact h1
theorem Laid.below {w w' : World} {B : Nat} (h : Laid w) (hb : Below B w w') (hB : 0 < B) : Laid w' := (hb.cell (p := ⟨0, 0, none⟩) hB).trans h
theorem Laid.on {w w' : World} (h : Laid w) (hb : Below w.heap.size w w') : Laid w' := h.below hb h.pos

theorem torn_nil (w : World) : Calls Tryd.prog 10 #[.nilIface] w fun e w' => e = .returned (.bool false) ∧ Below w.heap.size w w' := by
  go_enter Tryd.func10, Tryd.ntmps10
  go_wp2_with fail
  refine (as_nil _ _).mono ?_
  rintro e w' ⟨rfl, rfl⟩
  go_wp2_with fail
  go_ret
  exact ⟨rfl, (Below.refl _ _).alloc (Nat.le_refl _) _⟩
theorem torn_code (c : Int) (w : World) (hg : Laid w) : Calls Tryd.prog 10 #[er c] w fun e w' => e = .returned (.bool false) ∧ Below w.heap.size w w' := by
  have B0 : Below w.heap.size w (w.alloc (.cells #[.pointer none] 59)) := (Below.refl _ _).alloc (Nat.le_refl _) _
  have E := Lib.hid (as_code c ⟨w.heap.size, 0, none⟩ (w.alloc (.cells #[.pointer none] 59)) (hg.on B0) ((Blk.made w _ _).cell 0))
  have HB := Lib.hid B0
  clear hg B0
  go_enter Tryd.func10, Tryd.ntmps10
  go_wp2_with fail
  refine E.out.mono ?_
  rintro e w' ⟨rfl, B⟩
  go_wp2_with fail
  go_ret
  exact ⟨rfl, HB.out.trans (B.mono HB.out.size)⟩
/-- An error with its place, once or twice, about a number. -/
def AtC (w : World) (p : Nat) (a : Int) : Prop := w.cell? ⟨p, 2, none⟩ = some (er a) ∨ ∃ q, w.cell? ⟨p, 2, none⟩ = some (atv q) ∧ w.cell? ⟨q, 2, none⟩ = some (er a)
theorem AtC.below {w w' : World} {p : Nat} {a : Int} {B : Nat} (h : AtC w p a) (hb : Below B w w') (hB : w.heap.size ≤ B) : AtC w' p a := by
  rcases h with h | ⟨q, h1, h2⟩
  · exact .inl ((hb.cell (p := ⟨p, 2, none⟩) (Nat.lt_of_lt_of_le (World.block_lt_of_cell? _ _ h) hB)).trans h)
  · exact .inr ⟨q, (hb.cell (p := ⟨p, 2, none⟩) (Nat.lt_of_lt_of_le (World.block_lt_of_cell? _ _ h1) hB)).trans h1, (hb.cell (p := ⟨q, 2, none⟩) (Nat.lt_of_lt_of_le (World.block_lt_of_cell? _ _ h2) hB)).trans h2⟩
theorem is_atc_eq (p : Nat) (a b : Int) (w : World) (hab : a = b) (h : AtC w p a) : Calls Tryd.prog 19 #[atv p, er b] w fun e w' => e = .returned (.bool true) ∧ w = w' := by
  rcases h with h | ⟨q, h1, h2⟩
  · exact is_at_eq p a b w hab h
  · exact is_at2_eq p q a b w hab h1 h2
theorem is_atc_ne (p : Nat) (a b : Int) (w : World) (hab : a ≠ b) (h : AtC w p a) : Calls Tryd.prog 19 #[atv p, er b] w fun e w' => e = .returned (.bool false) ∧ w = w' := by
  rcases h with h | ⟨q, h1, h2⟩
  · exact is_at_ne p a b w hab h
  · exact is_at2_ne p q a b w hab h1 h2
/-- errors.As in a box of one's own. -/
theorem as_box (p : Nat) (w : World) (hg : Laid w) : Calls Tryd.prog 20 #[atv p, .iface 67 (.pointer (some ⟨w.heap.size, 0, none⟩))] (w.alloc (.cells #[.pointer none] 59)) fun e w' => e = .returned (.bool true) ∧ Below w.heap.size w w' ∧ Blk w' w.heap.size 59 #[.pointer (some ⟨p, 0, none⟩)] := by
  have B0 : Below w.heap.size w (w.alloc (.cells #[.pointer none] 59)) := (Below.refl _ _).alloc (Nat.le_refl _) _
  have K := Blk.made w 59 #[.pointer none]
  refine (as_at ⟨p, 0, none⟩ ⟨w.heap.size, 0, none⟩ (.pointer none) _ (hg.on B0) (K.cell 0) (K.frozen 0)).mono ?_
  rintro e w' ⟨rfl, rfl⟩
  refine ⟨rfl, ?_, ?_⟩
  · exact Below.setCell (p := ⟨w.heap.size, 0, none⟩) (((((B0.alloc B0.size _).alloc (by simp; omega) _).alloc (by simp; omega) _).alloc (by simp; omega) _)) (Nat.le_refl _) _
  · exact ((((K.alloc _).alloc _).alloc _).alloc _).put 0 _
/-- Is the number one of the torn? -/
def tornB (a : Nat) : Bool := decide (3 ≤ a ∧ a ≤ 5)
set_option maxHeartbeats 2000000 in
theorem torn_at (p a : Nat) (w : World) (hg : Laid w) (hp : AtC w p a) : Calls Tryd.prog 10 #[atv p] w fun e w' => e = .returned (.bool (tornB a)) ∧ Below w.heap.size w w' := by
  have E := Lib.hid (as_box p w hg)
  have HP := Lib.hid hp
  clear hg hp
  go_enter Tryd.func10, Tryd.ntmps10
  go_wp2_with fail
  refine E.out.mono ?_
  rintro e W1 ⟨rfl, B1, K1⟩
  obtain ⟨W2, hW2⟩ : ∃ W2, W1.alloc (.cells #[.int .i64 3, .int .i64 4, .int .i64 5] 58) = W2 := ⟨_, rfl⟩
  have K2 : Blk W2 W1.heap.size 58 #[.int .i64 3, .int .i64 4, .int .i64 5] := by rw [← hW2]; exact Blk.made _ _ _
  have KK : Blk W2 w.heap.size 59 #[.pointer (some ⟨p, 0, none⟩)] := by rw [← hW2]; exact K1.alloc _
  have B2 : Below w.heap.size w W2 := by rw [← hW2]; exact B1.alloc B1.size _
  have t0 := KK.cell 0
  have c0 := K2.cell 0
  have c1 := K2.cell 1
  have c2 := K2.cell 2
  simp at t0 c0 c1 c2
  have HP2 := Lib.hid (HP.out.below B2 (Nat.le_refl _))
  have HB := Lib.hid B2
  clear K1 B1 K2 KK B2 E HP
  go_upto_block 0 with fail
  clear hW2
  generalize W1.heap.size = Q at *
  have hcell : ∀ k : Nat, k < 3 → W2.cell? ⟨Q, k, none⟩ = some (.int .i64 (3 + k : Nat)) := by
    intro k hk
    match k, hk with
    | 0, _ => exact c0
    | 1, _ => exact c1
    | 2, _ => exact c2
  have HC := Lib.hid hcell
  clear c0 c1 c2 hcell
  go_wp2_with fail
  go_loop [12] (fun iv => ∃ k : Nat, k ≤ 3 ∧ iv = .int .i64 k ∧ ¬ (3 ≤ a ∧ a < 3 + k)) (fun iv => (3 - intOf iv).toNat)
  case atStart => exact ⟨0, by omega, rfl, by omega⟩
  case round =>
    obtain ⟨k, hk, rfl, hno⟩ := hrel
    by_cases hlt : k < 3
    · have c := HC.out k hlt
      have hlz : (k : Int) < 3 := by omega
      by_cases ha : a = 3 + k
      · have HE := Lib.hid (show (a : Int) = ((3 + k : Nat) : Int) from by omega)
        have HD := Lib.hid (show tornB a = true from decide_eq_true (by omega))
        clear ha hno
        go_wp2_with fail
        refine (is_atc_eq _ _ _ _ HE.out HP2.out).mono ?_
        rintro e w' ⟨rfl, rfl⟩
        go_wp2_with fail
        go_ret
        exact ⟨ret_bool HD.out.symm, HB.out⟩
      · have HE := Lib.hid (show (a : Int) ≠ ((3 + k : Nat) : Int) from by omega)
        have HN := Lib.hid (show ¬ (3 ≤ a ∧ a < 3 + (k + 1)) from by omega)
        clear ha hno
        go_wp2_with fail
        refine (is_atc_ne _ _ _ _ HE.out HP2.out).mono ?_
        rintro e w' ⟨rfl, rfl⟩
        go_wp2_with fail
        go_round
        case rel => exact ⟨k + 1, by omega, by go_num, HN.out⟩
        case measure => simp [intOf]; omega
    · obtain rfl : k = 3 := by omega
      have HD := Lib.hid (show tornB a = false from decide_eq_false (by omega))
      clear hno
      go_wp2_with fail
      go_ret
      exact ⟨ret_bool HD.out.symm, HB.out⟩

theorem where_nil (w : World) : Calls Tryd.prog 12 #[.nilIface] w fun e w' => e = .returned (.tuple #[.string ⟨#[]⟩, .int .i64 0, .bool false]) ∧ Below w.heap.size w w' := by
  go_enter Tryd.func12, Tryd.ntmps12
  go_wp2_with fail
  refine (as_nil _ _).mono ?_
  rintro e w' ⟨rfl, rfl⟩
  go_wp2_with fail
  go_ret3
  exact ⟨rfl, (Below.refl _ _).alloc (Nat.le_refl _) _⟩
theorem where_at (p : Nat) (nm : ByteArray) (o : Int) (v : Value) (w : World) (hg : Laid w) (hp : Blk w p 61 #[.string nm, .int .i64 o, v]) : Calls Tryd.prog 12 #[atv p] w fun e w' => e = .returned (.tuple #[.string nm, .int .i64 o, .bool true]) ∧ Below w.heap.size w w' := by
  have E := Lib.hid (as_box p w hg)
  have HP := Lib.hid hp
  clear hg hp
  go_enter Tryd.func12, Tryd.ntmps12
  go_wp2_with fail
  refine E.out.mono ?_
  rintro e W1 ⟨rfl, B1, K1⟩
  have KP := HP.out.below B1 HP.out.lt
  have t0 := K1.cell 0
  have p0 := KP.cell 0
  have p1 := KP.cell 1
  simp at t0 p0 p1
  have HB := Lib.hid B1
  clear K1 KP B1
  go_upto_region 3 with fail
  go_quiet (fail)
  go_wp2_with fail
  go_ret3
  exact ⟨rfl, below_drewN HB.out _⟩
end Go.Proofs.YtmmmakfmpopniaaDoor
