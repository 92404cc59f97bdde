/-
  The walk of corncriblaw23.HistMore.
-/
import Derived.Test.YtboadalojimdlaaHstAlive
import Derived.Test.YtboadalojimdlaaHistStepsWalk
import Derived.Test.YtboadalojimdlaaOpen
import Derived.Deep.RegionHeld3
namespace Go.Proofs.Ytboadalojimdlaa
open Go.RowKit

theorem own_base {W : World} {base base' size k : Nat} {e : TypeId} {v : Value} {xs : List Value} (h : W.ownsRow base e size v k xs) (hb : base' ≤ base) : W.ownsRow base' e size v k xs :=
  ⟨h.1, h.2.imp id fun ⟨g, cap, cur, e1, e2, e3⟩ => ⟨g, cap, cur, e1, Nat.le_trans hb e2, e3⟩⟩
theorem made_of {B : Nat} {a W : World} (_ : Below B a W) (t : TypeId) (cs : Array Value) : Blk (W.alloc (.cells cs t)) W.heap.size t cs := Blk.made W t cs
/-- append of one element that lies in a block. -/
theorem append_blk {P : Program} {W : World} {base gb : Nat} {T e : TypeId} {i : TypeInfo} {z : Value} {size bytes : Nat} (hT : P.underlying T = some (.slice e)) (hi : P.info? e = some i) (hz0 : i.zero = some z) (hz1 : i.size = size) (hz2 : i.bytes = bytes)
    (hzs : z.cells.size = size) (hs0 : 0 < size) {v : Value} {k : Nat} {xs : List Value} (hown : W.ownsRow base e size v k xs) (us : List Value) (hb : Blk W gb e us.toArray) (hus : us.length = size) (h1 : ∀ u ∈ us, u.oneCell' = true)
    (hk : (k + 1) * bytes ≤ 140737488355328) (hk2 : k + 1 ≤ maxLen) (hbase : base ≤ W.heap.size) :
    ∃ g cap W2, (Builtin.append_ #[T, T] T #[v, .slice (some ⟨gb, 0, none⟩) 1 1]).run P W = .ok (.slice (some ⟨g, 0, none⟩) (k + 1) cap) W2 ∧
      W2.ownsRow base e size (.slice (some ⟨g, 0, none⟩) (k + 1) cap) (k + 1) (xs ++ us) ∧ W.grownBy W2 v.ownBlock := by
  obtain ⟨g, cap, W2, hrun, hown2, hgrow, -, -⟩ := run_append_lies (P := P) W T T base e i z size bytes hT hi hz0 hz1 hz2 hzs hs0
    _ k xs hown ⟨gb, 0, none⟩ 1 1 us (by omega) (by simpa using World.news_of_block hb) h1 (by decide) hk2 hk hbase W.heap.size rfl
  exact ⟨g, cap, W2, hrun, hown2, hgrow⟩

theorem own_set7 {W : World} {base b n cap k : Nat} {T : TypeId} {l : List CallR} (h : W.ownsRow base T 7 (.slice (some ⟨b, 0, none⟩) n cap) n (flatC l)) (hk : k < l.length) (q : CallR) :
    (((((((W.setCell ⟨b, k * 7, none⟩ (.int .i64 q.op)).setCell ⟨b, k * 7 + 1, none⟩ (.int .u32 q.ck)).setCell ⟨b, k * 7 + 2, none⟩ (.slice q.da q.dn q.dc)).setCell ⟨b, k * 7 + 3, none⟩ (.int .i64 q.bg)).setCell ⟨b, k * 7 + 4, none⟩ (.int .i64 q.en)).setCell ⟨b, k * 7 + 5, none⟩ (.int .i64 q.cd)).setCell ⟨b, k * 7 + 6, none⟩ (.slice q.ga q.gn q.gc)).ownsRow base T 7 (.slice (some ⟨b, 0, none⟩) n cap) n (flatC (l.set k q)) := by
  have h0 := own_set (k := k * 7 + 0) h (.int .i64 q.op)
  have h1 := own_set (k := k * 7 + 1) h0 (.int .u32 q.ck)
  have h2 := own_set (k := k * 7 + 2) h1 (.slice q.da q.dn q.dc)
  have h3 := own_set (k := k * 7 + 3) h2 (.int .i64 q.bg)
  have h4 := own_set (k := k * 7 + 4) h3 (.int .i64 q.en)
  have h5 := own_set (k := k * 7 + 5) h4 (.int .i64 q.cd)
  have h6 := own_set (k := k * 7 + 6) h5 (.slice q.ga q.gn q.gc)
  have e : ((((((((flatC l).set (k * 7 + 0) (.int .i64 q.op)).set (k * 7 + 1) (.int .u32 q.ck)).set (k * 7 + 2) (.slice q.da q.dn q.dc)).set (k * 7 + 3) (.int .i64 q.bg)).set (k * 7 + 4) (.int .i64 q.en)).set (k * 7 + 5) (.int .i64 q.cd)).set (k * 7 + 6) (.slice q.ga q.gn q.gc)) = flatC (l.set k q) := by
    have hs : ∀ c : CallR, (l.set k c).getD k dC = c := fun c => by rw [getD_set, if_pos ⟨rfl, hk⟩]
    rw [flatC_set l k 0 { l.getD k dC with op := q.op } _ hk (by omega) rfl]
    rw [flatC_set _ k 1 { l.getD k dC with op := q.op, ck := q.ck } _ (by simpa using hk) (by omega) (by rw [hs]; rfl), List.set_set]
    rw [flatC_set _ k 2 { l.getD k dC with op := q.op, ck := q.ck, da := q.da, dn := q.dn, dc := q.dc } _ (by simpa using hk) (by omega) (by rw [hs]; rfl), List.set_set]
    rw [flatC_set _ k 3 { l.getD k dC with op := q.op, ck := q.ck, da := q.da, dn := q.dn, dc := q.dc, bg := q.bg } _ (by simpa using hk) (by omega) (by rw [hs]; rfl), List.set_set]
    rw [flatC_set _ k 4 { l.getD k dC with op := q.op, ck := q.ck, da := q.da, dn := q.dn, dc := q.dc, bg := q.bg, en := q.en } _ (by simpa using hk) (by omega) (by rw [hs]; rfl), List.set_set]
    rw [flatC_set _ k 5 { l.getD k dC with op := q.op, ck := q.ck, da := q.da, dn := q.dn, dc := q.dc, bg := q.bg, en := q.en, cd := q.cd } _ (by simpa using hk) (by omega) (by rw [hs]; rfl), List.set_set]
    rw [flatC_set _ k 6 q _ (by simpa using hk) (by omega) (by rw [hs]; rfl), List.set_set]
  rw [← e]
  simpa only [Nat.add_zero] using h6
theorem below_set7 {B g k : Nat} {a W : World} (h : Below B a W) (hg : B ≤ g) (q : CallR) : Below B a (((((((W.setCell ⟨g, k * 7, none⟩ (.int .i64 q.op)).setCell ⟨g, k * 7 + 1, none⟩ (.int .u32 q.ck)).setCell ⟨g, k * 7 + 2, none⟩ (.slice q.da q.dn q.dc)).setCell ⟨g, k * 7 + 3, none⟩ (.int .i64 q.bg)).setCell ⟨g, k * 7 + 4, none⟩ (.int .i64 q.en)).setCell ⟨g, k * 7 + 5, none⟩ (.int .i64 q.cd)).setCell ⟨g, k * 7 + 6, none⟩ (.slice q.ga q.gn q.gc)) :=
  ((((((h.setCell hg _).setCell hg _).setCell hg _).setCell hg _).setCell hg _).setCell hg _).setCell hg _
theorem own_cells7 {W : World} {base g n cap i : Nat} {T : TypeId} {l : List CallR} (h : W.ownsRow base T 7 (.slice (some ⟨g, 0, none⟩) n cap) n (flatC l)) (hi : i < l.length) {c : CallR} (hc : l.getD i dC = c) :
    W.cell? ⟨g, i * 7, none⟩ = some (.int .i64 c.op) ∧ W.cell? ⟨g, i * 7 + 1, none⟩ = some (.int .u32 c.ck) ∧ W.cell? ⟨g, i * 7 + 2, none⟩ = some (.slice c.da c.dn c.dc) ∧
     W.cell? ⟨g, i * 7 + 3, none⟩ = some (.int .i64 c.bg) ∧ W.cell? ⟨g, i * 7 + 4, none⟩ = some (.int .i64 c.en) ∧ W.cell? ⟨g, i * 7 + 5, none⟩ = some (.int .i64 c.cd) ∧
     W.cell? ⟨g, i * 7 + 6, none⟩ = some (.slice c.ga c.gn c.gc) := by
  have hcell : ∀ j, j < 7 → W.cell? ⟨g, i * 7 + j, none⟩ = c.cells[j]? := fun j hj => by
    have hx : i * 7 + j < (flatC l).length := by rw [flatC_length]; omega
    have h1 := h.cells (g := g) rfl (i * 7 + j) ((flatC l)[i * 7 + j]) (List.getElem?_eq_getElem hx)
    rw [← hc, ← flatC_at l i j hj hi, List.getElem?_eq_getElem hx]
    simpa [Addr.add_lit] using h1
  exact ⟨hcell 0 (by omega), hcell 1 (by omega), hcell 2 (by omega), hcell 3 (by omega), hcell 4 (by omega), hcell 5 (by omega), hcell 6 (by omega)⟩

namespace Hst
theorem getD_set' {l : List CallR} {i j : Nat} {c : CallR} : (l.set i c).getD j dC = if i = j ∧ i < l.length then c else l.getD j dC := getD_set
/-- A call that comes later; the first i of a list. -/
def lateC (b : Nat) (c : CallR) : CallR := { c with bg := c.bg + b, en := if 0 < c.en then c.en + b else c.en }
def lateI (l : List CallR) (b : Nat) : Nat → List CallR
  | 0 => l
  | i + 1 => (lateI l b i).set i (lateC b (l.getD i dC))
theorem lateI_len (l : List CallR) (b i : Nat) : (lateI l b i).length = l.length := by
  induction i with
  | zero => rfl
  | succ i ih => rw [lateI, List.length_set, ih]
theorem lateI_get (l : List CallR) (b i j : Nat) (hi : i ≤ l.length) : (lateI l b i).getD j dC = if j < i then lateC b (l.getD j dC) else l.getD j dC := by
  induction i with
  | zero => rw [if_neg (by omega)]; rfl
  | succ i ih =>
    rw [lateI, getD_set, lateI_len]
    by_cases e : i = j
    · rw [if_pos ⟨e, by omega⟩, if_pos (by omega), e]
    · rw [if_neg (fun h => e h.1), ih (by omega)]
      by_cases h : j < i
      · rw [if_pos h, if_pos (by omega)]
      · rw [if_neg h, if_neg (by omega)]
/-- A list turned, as far as i. -/
def rotI (l : List CallR) (b : Nat) : Nat → List CallR
  | 0 => l
  | i + 1 => (rotI l b i).set i (l.getD ((i + b) % l.length) dC)
theorem rotI_len (l : List CallR) (b i : Nat) : (rotI l b i).length = l.length := by
  induction i with
  | zero => rfl
  | succ i ih => rw [rotI, List.length_set, ih]
theorem rotI_get (l : List CallR) (b i j : Nat) (hi : i ≤ l.length) : (rotI l b i).getD j dC = if j < i then l.getD ((j + b) % l.length) dC else l.getD j dC := by
  induction i with
  | zero => rw [if_neg (by omega)]; rfl
  | succ i ih =>
    rw [rotI, getD_set, rotI_len]
    by_cases e : i = j
    · rw [if_pos ⟨e, by omega⟩, if_pos (by omega), e]
    · rw [if_neg (fun h => e h.1), ih (by omega)]
      by_cases h : j < i
      · rw [if_pos h, if_pos (by omega)]
      · rw [if_neg h, if_neg (by omega)]
theorem late_ok {w : World} {B b : Nat} {c : CallR} (h : COk w B c) (hb : b ≤ 255) (h1 : c.bg ≤ 1099511627776) (h2 : c.en ≤ 1099511627776) : COk w B (lateC b c) := by
  obtain ⟨c1, c2, c3, c4, c5, c6, c7, c8, c9, ca, cb, cc⟩ := h
  refine ⟨c1, c2, c3, c4, c5, c6, by show _ ≤ c.bg + (b : Int); omega, by show c.bg + (b : Int) ≤ _; omega, ?_, ?_, cb, cc⟩
  · show _ ≤ (if 0 < c.en then c.en + (b : Int) else c.en)
    split <;> omega
  · show (if 0 < c.en then c.en + (b : Int) else c.en) ≤ _
    split <;> omega
theorem late_lin {l : List CallR} {b : Nat} (hb : b ≤ 255) (h : ∀ i, i < l.length → 0 ≤ (l.getD i dC).bg ∧ 0 ≤ (l.getD i dC).en ∧ (l.getD i dC).bg ≤ 1099511627776 ∧ (l.getD i dC).en ≤ 1099511627776) : linear (lateI l b l.length) = linear l :=
  (linear_eq (lin_later (b := (b : Int)) (by omega) (by omega) (lateI_len l b _) (fun i hi => by
    rw [lateI_get l b _ i (Nat.le_refl _), if_pos hi]
    obtain ⟨h1, h2, h3, h4⟩ := h i hi
    exact ⟨rfl, rfl, rfl, rfl, rfl, rfl, rfl, h1, h2, h3, h4⟩))).symm
theorem rot_lin {l : List CallR} {b : Nat} : linear (rotI l b l.length) = linear l :=
  (linear_eq (lin_rot (by' := b) rfl (rotI_len l b _) (fun i hi => by rw [rotI_get l b _ i (Nat.le_refl _), if_pos hi]))).symm
/-- An end put off. -/
def offC (b : Nat) (c : CallR) : CallR := if 0 < c.en ∧ c.bg ≤ c.en then { c with en := c.en + b } else c
theorem off_less (b : Nat) (c : CallR) : Less c (offC b c) := by
  unfold offC
  split
  · next h =>
    have ho : opn { c with en := c.en + b } = opn c := by
      unfold opn
      rw [Bool.eq_iff_iff, decide_eq_true_eq, decide_eq_true_eq]
      dsimp only
      omega
    refine ⟨rfl, rfl, rfl, rfl, rfl, rfl, ho, ?_, by dsimp only; omega, ?_⟩
    · unfold told
      rw [ho]
      by_cases h1 : opn c = true
      · rw [if_pos (.inl h1), if_pos (.inl h1)]
      · rw [if_neg (fun hh => hh.elim h1 (fun q => by have q : c.en + (b : Int) < c.bg := q; omega)), if_neg (fun hh => hh.elim h1 (fun q => by omega))]
    · unfold hi
      rw [ho]
      split
      · exact Int.le_refl _
      · dsimp only; omega
  · exact Less.refl c
theorem off_lin {l : List CallR} {b k : Nat} (h : linear l = true) : linear (l.set k (offC b (l.getD k dC))) = true := by
  refine (linear_iff _).2 (lin_off (by rw [List.length_set]) (fun i hi => ?_) ((linear_iff l).1 h))
  rw [getD_set]
  by_cases e : k = i ∧ k < l.length
  · rw [if_pos e, e.1]; exact off_less b _
  · rw [if_neg e]; exact Less.refl _
theorem off_ok {w : World} {B b : Nat} {c : CallR} (h : COk w B c) (hb : b ≤ 255) (h2 : c.en ≤ 1099511627776) : COk w B (offC b c) := by
  unfold offC
  split
  · next hh =>
    obtain ⟨c1, c2, c3, c4, c5, c6, c7, c8, c9, ca, cb, cc⟩ := h
    have e0 : (0 : Int) ≤ (b : Int) := Int.natCast_nonneg b
    exact ⟨c1, c2, c3, c4, c5, c6, c7, c8, by show _ ≤ c.en + (b : Int); omega, by show c.en + (b : Int) ≤ _; omega, cb, cc⟩
  · exact h
end Hst

set_option maxRecDepth 100000 in
set_option maxHeartbeats 8000000 in
theorem more_walk (a : Option Addr) (n c : Nat) (l : List CallR) (x : CallR) (by_ at_ : Int) (w : World) (h : CSl w w.heap.size a n l) (hn : n ≤ 9223372036854775807) (hx : COk w w.heap.size x) (hb0 : 0 ≤ by_) (hb1 : by_ ≤ 255) (ha0 : 0 ≤ at_) (ha1 : at_ ≤ 255) :
    Calls Try.prog 4 #[.slice a n c, x.vals, .int .u8 by_, .int .u8 at_] w fun e w' => e = .returned (.bool true) ∧ Below w.heap.size w w' := by
  have HH := Lib.hid fun (W : World) (B : Below w.heap.size w W) => (h.below B).more B.size
  have HX := Lib.hid fun (W : World) (B : Below w.heap.size w W) => (hx.below B).more B.size
  have HL := Lib.hid h.1
  have HA := Lib.hid fun (hpos : 0 < n) => (h.at_ hpos).imp fun b h => h.imp fun off h => h.1
  have hl := h.1
  have hdn := hx.hd.1
  have hgn := hx.hg.1
  have HXB := Lib.hid (And.intro hx.bg0 hx.bg1)
  have HX0 := Lib.hid fun (W : World) (B : Below w.heap.size w W) => (show COk W W.heap.size { x with en := 0 } from let q := (hx.below B).more B.size; ⟨q.hd, q.hg, q.ck0, q.ck1, q.op0, q.op1, q.bg0, q.bg1, (show (-9223372036854775808 : Int) ≤ 0 by omega), (show (0 : Int) ≤ 9223372036854775807 by omega), q.cd0, q.cd1⟩)
  have HO := Lib.hid (show Hst.opn { x with en := 0 } = true from by unfold Hst.opn; simp)
  clear h hx
  obtain ⟨b, rfl⟩ := Int.eq_ofNat_of_zero_le hb0
  obtain ⟨t, rfl⟩ := Int.eq_ofNat_of_zero_le ha0
  obtain ⟨op, ck, da, dn, dc, dl, bg, en, cd, ga, gn, gc, gl⟩ := x
  unfold CallR.vals
  dsimp only at hdn hgn ⊢
  have HXB : Hid (-9223372036854775808 ≤ bg ∧ bg ≤ 9223372036854775807) := HXB
  obtain ⟨x0, hx0⟩ : ∃ x0 : CallR, x0 = ⟨op, ck, da, dn, dc, dl, bg, 0, cd, ga, gn, gc, gl⟩ := ⟨_, rfl⟩
  have HX0 : Hid (∀ (W : World) (B : Below w.heap.size w W), COk W W.heap.size x0) := by rw [hx0]; exact HX0
  have HO : Hid (Hst.opn x0 = true) := by rw [hx0]; exact HO
  have HX0E := Lib.hid hx0
  clear hx0
  obtain ⟨W0, hW0⟩ : ∃ W0, w.alloc (.cells #[.int .i64 op, .int .u32 ck, .slice da dn dc, .int .i64 bg, .int .i64 en, .int .i64 cd, .slice ga gn gc] 30) = W0 := ⟨_, rfl⟩
  have hK : Blk W0 w.heap.size 30 #[.int .i64 op, .int .u32 ck, .slice da dn dc, .int .i64 bg, .int .i64 en, .int .i64 cd, .slice ga gn gc] := by rw [← hW0]; exact Blk.made w _ _
  have BA : Below w.heap.size w W0 := by rw [← hW0]; exact (Below.refl _ _).alloc (Nat.le_refl _) _
  have hwlt := hK.lt
  go_enter Try.func4, Try.ntmps4
  go_wp2_with fail
  clear hW0
  generalize hgk : w.heap.size = gk at *
  have HGK := Lib.hid hgk
  have HSZ := Lib.hid fun (W : World) (B : Below gk w W) => (show gk ≤ W.heap.size from by rw [← hgk]; exact B.size)
  clear hgk
  refine (hist_alive W0).mono ?_
  rintro e w1 ⟨rfl, B1⟩
  have hK := hK.below B1 hK.lt
  have B1 := BA.trans (B1.mono (Nat.le_of_lt hwlt))
  clear BA hwlt
  have FA := far_any a n c l 40 w1 (HH.out w1 B1) (by decide) hn
  obtain ⟨c0, c1, c2, c3, c4, c5, c6⟩ := hK.seven
  cases hf : far l 40 with
  | true =>
    rw [hf] at FA
    have FA := Lib.hid FA
    clear hf hl
    go_wp2_with fail
    refine FA.out.mono ?_
    rintro e w2 ⟨rfl, rfl⟩
    go_wp2_with fail
    go_ret
    exact ⟨rfl, by rw [HGK.out]; exact B1⟩
  | false =>
    rw [hf] at FA
    have FA := Lib.hid FA
    have hn40 : n ≤ 40 := by
      unfold far at hf
      rw [Bool.or_eq_false_iff] at hf
      have := of_decide_eq_false hf.1
      omega
    have HF := Lib.hid (show ∀ i, i < n → farC (l.getD i dC) = false from fun i hi => by
      have h2 := (Bool.or_eq_false_iff.1 hf).2
      have h3 := List.any_eq_false.1 h2 l[i] (List.getElem_mem (by rw [hl]; exact hi))
      rw [List.getD, List.getElem?_eq_getElem (by rw [hl]; exact hi)]
      simpa using h3)
    clear hf hl
    by_cases x1 : (100 : Int) < dn
    · go_wp2_with fail
      refine FA.out.mono ?_
      rintro e w2 ⟨rfl, rfl⟩
      go_wp2_with fail
      go_ret
      exact ⟨rfl, by rw [HGK.out]; exact B1⟩
    by_cases x2 : (100 : Int) < gn
    · go_wp2_with fail
      refine FA.out.mono ?_
      rintro e w2 ⟨rfl, rfl⟩
      go_wp2_with fail
      go_ret
      exact ⟨rfl, by rw [HGK.out]; exact B1⟩
    by_cases x3 : bg < 0
    · go_wp2_with fail
      refine FA.out.mono ?_
      rintro e w2 ⟨rfl, rfl⟩
      go_wp2_with fail
      go_ret
      exact ⟨rfl, by rw [HGK.out]; exact B1⟩
    go_wp2_with fail
    refine FA.out.mono ?_
    rintro e w2 ⟨rfl, rfl⟩
    have OF := Lib.hid fun (W : World) (B : Below gk w W) => of23_any a n c l W (HH.out W B) (by omega)
    have HLA := Lib.hid fun (W : World) (v : Value) (base : Nat) (L : List CallR) (h : W.ownsRow base 39 7 v L.length (flatC L)) (hok : ∀ i, i < L.length → COk W W.heap.size (L.getD i dC)) (hs : L.length ≤ 1000000) =>
      (show ∃ a c, v = .slice a L.length c ∧ Calls Try.prog 16 #[.slice a L.length c] W fun e w' => e = .returned (.bool (Hst.linear L)) ∧ Below W.heap.size W w' from by
        obtain ⟨a, c, e, -, hc⟩ := csl_own h hok
        exact ⟨a, c, e, linear_any a L.length c L W hc hs⟩)
    clear FA
    have HB1 := Lib.hid B1
    have OF1 := Lib.hid (OF.out w1 B1)
    go_wp2_with fail
    refine OF1.out.mono ?_
    clear OF1 c0 c1 c2 c3 c4 c5 c6
    rintro e w2 ⟨v2, rfl, ho2, B2⟩
    have hK := hK.below B2 hK.lt
    have B2 := B1.trans (B2.mono (HSZ.out _ B1))
    rw [← HL.out] at ho2
    obtain ⟨a2, c2, rfl, L2⟩ := HLA.out w2 v2 _ l ho2 (fun i hi => (HH.out w2 B2).2.1 i (by rw [← HL.out]; exact hi)) (by rw [HL.out]; omega)
    have L2 := Lib.hid L2
    clear ho2 B1
    go_wp2_with fail
    refine L2.out.mono ?_
    rintro e w3 ⟨rfl, B3⟩
    have hK := hK.below B3 hK.lt
    have B3 := B2.trans (B3.mono (HSZ.out _ B2))
    obtain ⟨was, hwas⟩ : ∃ b, Hst.linear l = b := ⟨_, rfl⟩
    rw [hwas]
    have HWAS := Lib.hid hwas
    clear B2 L2 hwas
    have f4 := hK.frozen 4
    obtain ⟨c0, c1, c2, c3, c4, c5, c6⟩ := hK.seven
    have hK4 := hK.put 4 (.int .i64 0)
    have B4 := B3.setCell (p := ⟨gk, 4, none⟩) (Nat.le_refl _) (.int .i64 0)
    go_upto_region 7 with fail
    clear c0 c1 c2 c3 c4 c5 c6 f4 hK B3
    generalize w3.setCell ⟨gk, 4, none⟩ (.int .i64 0) = w4 at *
    obtain ⟨c0, c1, c2, c3, c4, c5, c6⟩ := hK4.seven
    have HX0E7 := Lib.hid (show x0.cells = [.int .i64 op, .int .u32 ck, .slice da dn dc, .int .i64 bg, .int .i64 0, .int .i64 cd, .slice ga gn gc] from by rw [HX0E.out]; rfl)
    have HLC := Lib.hid fun (W : World) (a : Option Addr) (k c base : Nat) (L : List CallR) (h : W.ownsRow base 39 7 (.slice a k c) k (flatC L)) (hl : L.length = k) (hok : ∀ i, i < k → COk W W.heap.size (L.getD i dC)) (hs : k ≤ 1000000) =>
      linear_any a k c L W (csl_own2 h hl hok) hs
    have C5 := csl_blk0 (Blk.made w4 30 #[.int .i64 op, .int .u32 ck, .slice da dn dc, .int .i64 bg, .int .i64 0, .int .i64 cd, .slice ga gn gc]) (l := [x0]) (by rw [show flatC [x0] = x0.cells from by simp [flatC], HX0E7.out]) (fun i hi => by
      obtain rfl : i = 0 := by simpa using hi
      exact HX0.out _ (B4.alloc (HSZ.out _ B4) _))
    have OF5 := Lib.hid (of23_any (some ⟨w4.heap.size, 0, none⟩) 1 1 [x0] _ C5 (by omega))
    have B5 := B4.alloc (HSZ.out _ B4) (.cells #[.int .i64 op, .int .u32 ck, .slice da dn dc, .int .i64 bg, .int .i64 0, .int .i64 cd, .slice ga gn gc] 30)
    have HB5 := Lib.hid B5
    clear C5 B4 B5 hK4
    go_wp2_with fail
    refine OF5.out.mono ?_
    rintro e w6 ⟨v6, rfl, ho6, B6⟩
    have B6 := HB5.out.trans (B6.mono (HSZ.out _ HB5.out))
    obtain ⟨a6, c6', rfl, -⟩ := own_form_any' ho6
    obtain ⟨g6, rfl, -, hg6⟩ := own_pos ho6 (by omega)
    have hc6 := (csl_own2 ho6 (l := [x0]) rfl (fun i hi => by
      obtain rfl : i = 0 := by omega
      exact HX0.out _ B6)).at0 (i := 0) (by omega) (c := x0) rfl
    rw [HX0E.out] at hc6
    dsimp only at hc6
    simp only [Nat.zero_mul, Nat.zero_add] at hc6
    clear c0 c1 c2 c3 c4 c5 c6 ho6 OF5
    obtain ⟨c0, c1, c2, c3, c4, c5, c6⟩ := hc6
    go_upto_region 8 with fail
    have hK7 := Blk.made w6 39 #[.int .i64 op, .int .u32 ck, .slice da dn dc, .int .i64 bg, .int .i64 0, .int .i64 cd, .slice ga gn gc]
    have B7 := B6.alloc (HSZ.out _ B6) (.cells #[.int .i64 op, .int .u32 ck, .slice da dn dc, .int .i64 bg, .int .i64 0, .int .i64 cd, .slice ga gn gc] 39)
    clear c0 c1 c2 c3 c4 c5 c6 B6 hg6
    generalize w6.alloc (.cells #[.int .i64 op, .int .u32 ck, .slice da dn dc, .int .i64 bg, .int .i64 0, .int .i64 cd, .slice ga gn gc] 39) = w7 at *
    generalize w6.heap.size = gx at *
    have HB7 := Lib.hid fun (W : World) (B : Below w7.heap.size w7 W) => B7.trans (B.mono (HSZ.out _ B7))
    have HG7 := Lib.hid fun (W : World) (B : Below w7.heap.size w7 W) => (hK7.below B hK7.lt).seven
    obtain ⟨i0, hi, hz0, hz1, hz2⟩ := info_parts info_call
    have HI := Lib.hid hi
    have HZ0 := Lib.hid hz0
    have HZ1 := Lib.hid hz1
    have HZ2 := Lib.hid hz2
    have HOK8 := Lib.hid fun (W : World) (B : Below gk w W) => (show ∀ i, i < n + 1 → COk W W.heap.size ((l ++ [x0]).getD i dC) from fun i hi => by
      by_cases e : i < l.length
      · rw [Hst.getD_append_lt e]; exact (HH.out W B).2.1 i (by rw [← HL.out]; exact e)
      · obtain rfl : i = l.length := by rw [HL.out] at e ⊢; omega
        rw [Hst.getD_append_eq]; exact HX0.out W B)
    have HL8 := Lib.hid fun (e : was = true) => (show Hst.linear (l ++ [x0]) = true from (Hst.linear_iff _).2 (Hst.lin_open (told_open HO.out) ((Hst.linear_iff l).1 (HWAS.out.trans e))))
    clear hi hz0 hz1 hz2 hK7 B7
    go_cut [56] (fun v56 wx => v56 = .bool false ∧ Below gk w wx)
    case first =>
      cases was with
      | false =>
        refine wp_region_held_drew (S := fun W => Below w7.heap.size w7 W) (by kernel_rfl) ((Below.refl _ _).drew) (fun hS => ?_)
        refine wpAnyH_take (i := 0) (v := ?_) rfl (by kernel_rfl) (by kernel_rfl) (by kernel_rfl) (fun _ _ _ h => h) (Or.inl ⟨by kernel_rfl, ?_⟩) hS ?_
        rotate_left
        · intro W hW; go_simp; try with_reducible rfl
        refine wpAnyH_take (i := 1) (v := ?_) rfl (by kernel_rfl) (by kernel_rfl) (by kernel_rfl) (fun _ _ _ h => h) (Or.inl ⟨by kernel_rfl, ?_⟩) hS ?_
        rotate_left
        · intro W hW; go_simp; try with_reducible rfl
        refine wpAnyH_take (i := 2) (v := undef) rfl (by kernel_rfl) (by kernel_rfl) (by kernel_rfl) (fun _ _ _ h => h) (Or.inr ⟨by kernel_rfl, rfl⟩) hS ?_
        refine wpAnyH_take (i := 3) (v := undef) rfl (by kernel_rfl) (by kernel_rfl) (by kernel_rfl) (fun _ _ _ h => h) (Or.inr ⟨by kernel_rfl, rfl⟩) hS ?_
        refine wpAnyH_take (i := 4) (v := undef) rfl (by kernel_rfl) (by kernel_rfl) (by kernel_rfl) (fun _ _ _ h => h) (Or.inr ⟨by kernel_rfl, rfl⟩) hS ?_
        refine wpAnyH_take (i := 5) (v := undef) rfl (by kernel_rfl) (by kernel_rfl) (by kernel_rfl) (fun _ _ _ h => h) (Or.inr ⟨by kernel_rfl, rfl⟩) hS ?_
        refine wpAnyH_take (i := 6) (v := undef) rfl (by kernel_rfl) (by kernel_rfl) (by kernel_rfl) (fun _ _ _ h => h) (Or.inr ⟨by kernel_rfl, rfl⟩) hS ?_
        refine wpAnyH_take (i := 7) (v := undef) rfl (by kernel_rfl) (by kernel_rfl) (by kernel_rfl) (fun _ _ _ h => h) (Or.inr ⟨by kernel_rfl, rfl⟩) hS ?_
        refine wpAnyH_take (i := 8) (v := undef) rfl (by kernel_rfl) (by kernel_rfl) (by kernel_rfl) (fun _ _ _ h => h) (Or.inr ⟨by kernel_rfl, rfl⟩) hS ?_
        refine wpAnyH_take (i := 9) (v := ?_) rfl (by kernel_rfl) (by kernel_rfl) (by kernel_rfl) (fun _ _ _ h => h) (Or.inl ⟨by kernel_rfl, ?_⟩) hS ?_
        rotate_left
        · intro W hW; go_simp; try with_reducible rfl
        refine wpAnyH_done (by kernel_rfl) ?_ _
        go_simp
        go_wp2_with fail
        go_meet
        exact ⟨rfl, HB7.out _ hS⟩
      | true =>
        have HL8 := Lib.hid (HL8.out rfl)
        refine wp_region_held_drew (S := fun W => Below w7.heap.size w7 W) (by kernel_rfl) ((Below.refl _ _).drew) (fun hS => ?_)
        refine wpAnyH_take (i := 0) (v := ?_) rfl (by kernel_rfl) (by kernel_rfl) (by kernel_rfl) (fun _ _ _ h => h) (Or.inl ⟨by kernel_rfl, ?_⟩) hS ?_
        rotate_left
        · intro W hW; go_simp; try with_reducible rfl
        refine wpAnyH_take (i := 1) (v := ?_) rfl (by kernel_rfl) (by kernel_rfl) (by kernel_rfl) (fun _ _ _ h => h) (Or.inl ⟨by kernel_rfl, ?_⟩) hS ?_
        rotate_left
        · intro W hW; go_simp; try with_reducible rfl
        refine wpAnyH_take (i := 2) (v := ?_) rfl (by kernel_rfl) (by kernel_rfl) (by kernel_rfl) (fun _ _ _ h => h) (Or.inl ⟨by kernel_rfl, ?_⟩) hS ?_
        rotate_left
        · intro W hW; go_simp; try with_reducible rfl
        refine wpAnyH_take (i := 4) (v := ?_) rfl (by kernel_rfl) (by kernel_rfl) (by kernel_rfl) (fun _ _ _ h => h) (Or.inl ⟨by kernel_rfl, ?_⟩) hS ?_
        rotate_left
        · intro W hW; obtain ⟨z0, z1, z2, z3, z4, z5, z6⟩ := HG7.out W hW; go_simp; try with_reducible rfl
        refine wpAnyH_ready (rs := [3, 5]) (by kernel_rfl) (by simp) ?_
        refine AllReadyH.cons rfl (fun K hK => ?_) ?_
        · go_simp
          refine (OF.out _ (HB7.out _ hS)).mono ?_
          rintro e w9 ⟨v9, rfl, ho9, B9⟩
          have ho9 := own_base ho9 hS.size
          have hT := hS.trans (B9.mono hS.size)
          try have hb := hb.below B9 hb.lt
          go_simp
          refine hK.out _ _ ?_ (fun hN => ?_)
          · first | exact hT | exact hS | exact hS.alloc hS.size _ | exact hS.drew
          clear hK K
          try clear hT
          clear hS
          have hS := hN
          clear hN
          refine wpAnyH_ready (rs := [5]) (by kernel_rfl) (by simp) ?_
          refine AllReadyH.cons rfl (fun K hK => ?_) AllReadyH.nil
          go_simp
          have hb := made_of hS 39 #[.int .i64 op, .int .u32 ck, .slice da dn dc, .int .i64 bg, .int .i64 0, .int .i64 cd, .slice ga gn gc]
          try have ho9 := ho9.alloc (.cells #[.int .i64 op, .int .u32 ck, .slice da dn dc, .int .i64 bg, .int .i64 0, .int .i64 cd, .slice ga gn gc] 39)
          go_simp
          refine hK.out _ _ ?_ (fun hN => ?_)
          · first | exact hT | exact hS | exact hS.alloc hS.size _ | exact hS.drew
          clear hK K
          try clear hT
          clear hS
          have hS := hN
          clear hN
          refine wpAnyH_ready (rs := [6]) (by kernel_rfl) (by simp) ?_
          refine AllReadyH.cons rfl (fun K hK => ?_) AllReadyH.nil
          obtain ⟨g8, cap8, W8, hr8, ho8, hg8⟩ := append_blk (P := Try.prog) Try.underlying34 HI.out HZ0.out HZ1.out HZ2.out rfl (by decide) ho9 [.int .i64 op, .int .u32 ck, .slice da dn dc, .int .i64 bg, .int .i64 0, .int .i64 cd, .slice ga gn gc] hb rfl (by rw [← HX0E7.out]; exact cells_one x0) (by omega) (by unfold maxLen; omega) (by have := hS.size; omega)
          have hT := hS.grown hg8 hS.size (fun q e => by have := (ho9.lt q e).1; omega)
          rw [← HX0E7.out, ← flatC_snoc] at ho8
          refine step_run_g (by kernel_rfl) _ _ (by rfl) (by rfl) (by rfl) hr8 ?_
          clear hr8 hg8 ho9 hb
          refine hK.out _ _ ?_ (fun hN => ?_)
          · first | exact hT | exact hS | exact hS.alloc hS.size _ | exact hS.drew
          clear hK K
          try clear hT
          clear hS
          have hS := hN
          clear hN
          refine wpAnyH_ready (rs := [7]) (by kernel_rfl) (by simp) ?_
          refine AllReadyH.cons rfl (fun K hK => ?_) AllReadyH.nil
          go_simp
          refine (HLC.out _ _ _ _ _ (l ++ [x0]) ho8 (by rw [List.length_append, HL.out]; rfl) (HOK8.out _ (HB7.out _ hS)) (by omega)).mono ?_
          rintro e w10 ⟨rfl, B10⟩
          rw [HL8.out]
          have hT := hS.trans (B10.mono hS.size)
          go_simp
          refine hK.out _ _ ?_ (fun hN => ?_)
          · first | exact hT | exact hS | exact hS.alloc hS.size _ | exact hS.drew
          clear hK K
          try clear hT
          clear hS
          have hS := hN
          clear hN
          refine wpAnyH_take (i := 8) (v := ?_) rfl (by kernel_rfl) (by kernel_rfl) (by kernel_rfl) (fun _ _ _ h => h) (Or.inl ⟨by kernel_rfl, ?_⟩) hS ?_
          rotate_left
          · intro W hW; go_simp; try with_reducible rfl
          refine wpAnyH_take (i := 9) (v := ?_) rfl (by kernel_rfl) (by kernel_rfl) (by kernel_rfl) (fun _ _ _ h => h) (Or.inl ⟨by kernel_rfl, ?_⟩) hS ?_
          rotate_left
          · intro W hW; go_simp; try with_reducible rfl
          refine wpAnyH_done (by kernel_rfl) ?_ _
          go_simp
          go_wp2_with fail
          go_meet
          exact ⟨rfl, HB7.out _ hS⟩
        refine AllReadyH.cons rfl (fun K hK => ?_) AllReadyH.nil
        go_simp
        have hb := made_of hS 39 #[.int .i64 op, .int .u32 ck, .slice da dn dc, .int .i64 bg, .int .i64 0, .int .i64 cd, .slice ga gn gc]
        try have ho9 := ho9.alloc (.cells #[.int .i64 op, .int .u32 ck, .slice da dn dc, .int .i64 bg, .int .i64 0, .int .i64 cd, .slice ga gn gc] 39)
        go_simp
        refine hK.out _ _ ?_ (fun hN => ?_)
        · first | exact hT | exact hS | exact hS.alloc hS.size _ | exact hS.drew
        clear hK K
        try clear hT
        clear hS
        have hS := hN
        clear hN
        refine wpAnyH_ready (rs := [3]) (by kernel_rfl) (by simp) ?_
        refine AllReadyH.cons rfl (fun K hK => ?_) AllReadyH.nil
        go_simp
        refine (OF.out _ (HB7.out _ hS)).mono ?_
        rintro e w9 ⟨v9, rfl, ho9, B9⟩
        have ho9 := own_base ho9 hS.size
        have hT := hS.trans (B9.mono hS.size)
        try have hb := hb.below B9 hb.lt
        go_simp
        refine hK.out _ _ ?_ (fun hN => ?_)
        · first | exact hT | exact hS | exact hS.alloc hS.size _ | exact hS.drew
        clear hK K
        try clear hT
        clear hS
        have hS := hN
        clear hN
        refine wpAnyH_ready (rs := [6]) (by kernel_rfl) (by simp) ?_
        refine AllReadyH.cons rfl (fun K hK => ?_) AllReadyH.nil
        obtain ⟨g8, cap8, W8, hr8, ho8, hg8⟩ := append_blk (P := Try.prog) Try.underlying34 HI.out HZ0.out HZ1.out HZ2.out rfl (by decide) ho9 [.int .i64 op, .int .u32 ck, .slice da dn dc, .int .i64 bg, .int .i64 0, .int .i64 cd, .slice ga gn gc] hb rfl (by rw [← HX0E7.out]; exact cells_one x0) (by omega) (by unfold maxLen; omega) (by have := hS.size; omega)
        have hT := hS.grown hg8 hS.size (fun q e => by have := (ho9.lt q e).1; omega)
        rw [← HX0E7.out, ← flatC_snoc] at ho8
        refine step_run_g (by kernel_rfl) _ _ (by rfl) (by rfl) (by rfl) hr8 ?_
        clear hr8 hg8 ho9 hb
        refine hK.out _ _ ?_ (fun hN => ?_)
        · first | exact hT | exact hS | exact hS.alloc hS.size _ | exact hS.drew
        clear hK K
        try clear hT
        clear hS
        have hS := hN
        clear hN
        refine wpAnyH_ready (rs := [7]) (by kernel_rfl) (by simp) ?_
        refine AllReadyH.cons rfl (fun K hK => ?_) AllReadyH.nil
        go_simp
        refine (HLC.out _ _ _ _ _ (l ++ [x0]) ho8 (by rw [List.length_append, HL.out]; rfl) (HOK8.out _ (HB7.out _ hS)) (by omega)).mono ?_
        rintro e w10 ⟨rfl, B10⟩
        rw [HL8.out]
        have hT := hS.trans (B10.mono hS.size)
        go_simp
        refine hK.out _ _ ?_ (fun hN => ?_)
        · first | exact hT | exact hS | exact hS.alloc hS.size _ | exact hS.drew
        clear hK K
        try clear hT
        clear hS
        have hS := hN
        clear hN
        refine wpAnyH_take (i := 8) (v := ?_) rfl (by kernel_rfl) (by kernel_rfl) (by kernel_rfl) (fun _ _ _ h => h) (Or.inl ⟨by kernel_rfl, ?_⟩) hS ?_
        rotate_left
        · intro W hW; go_simp; try with_reducible rfl
        refine wpAnyH_take (i := 9) (v := ?_) rfl (by kernel_rfl) (by kernel_rfl) (by kernel_rfl) (fun _ _ _ h => h) (Or.inl ⟨by kernel_rfl, ?_⟩) hS ?_
        rotate_left
        · intro W hW; go_simp; try with_reducible rfl
        refine wpAnyH_done (by kernel_rfl) ?_ _
        go_simp
        go_wp2_with fail
        go_meet
        exact ⟨rfl, HB7.out _ hS⟩
    case rest =>
      obtain ⟨rfl, B10⟩ := hcut
      clear HG7 HB7 HB5 HX0E7 HX0E HOK8 HL8 HI HZ0 HZ1 HZ2 hdn hgn x1 x2 x3
      have OF10 := Lib.hid (OF.out wc B10)
      have HB10 := Lib.hid B10
      clear B10
      go_wp2_with fail
      refine OF10.out.mono ?_
      rintro e w11 ⟨v11, rfl, ho11, B11⟩
      have B11 := HB10.out.trans (B11.mono (HSZ.out _ HB10.out))
      obtain ⟨a11, c11, rfl, -⟩ := own_form_any' ho11
      have ho11 := own_base ho11 (HSZ.out _ HB10.out)
      have HO11 := Lib.hid ho11
      have HB11 := Lib.hid B11
      clear ho11 B11 OF10 HB10
      go_wp2_with fail
      go_loopw [12] (fun iw wr => ∃ i : Nat, i ≤ n ∧ iw = .int .i64 i ∧ (∀ j, j < i → (l.getD j dC).bg ≤ 1099511627776 ∧ (l.getD j dC).en ≤ 1099511627776) ∧ wr.ownsRow gk 39 7 (.slice a11 n c11) n (flatC (Hst.lateI l b i)) ∧ Below gk w wr) (fun iw _ => n - (intOf iw).toNat)
      case atStart => exact ⟨0, by omega, rfl, fun j hj => by omega, HO11.out, HB11.out⟩
      case round =>
        clear HO11 HB11
        obtain ⟨i, hi, rfl, hbd, hown, B⟩ := hrel
        have HBD := Lib.hid hbd
        clear hbd
        by_cases hlt : i < n
        · obtain ⟨g, rfl, hg0, hg1⟩ := own_pos hown (by omega)
          obtain ⟨ci, hci⟩ : ∃ c, l.getD i dC = c := ⟨_, rfl⟩
          have hlen : (Hst.lateI l b i).length = n := by rw [Hst.lateI_len, HL.out]
          have hget : (Hst.lateI l b i).getD i dC = ci := by rw [Hst.lateI_get l b i i (by rw [HL.out]; omega), if_neg (by omega), hci]
          have hfar := HF.out i hlt
          rw [hci] at hfar
          have hbg0 : 0 ≤ ci.bg ∧ 0 ≤ ci.en := by
            unfold farC at hfar
            simp only [Bool.or_eq_false_iff, decide_eq_false_iff_not] at hfar
            omega
          obtain ⟨hbg0, hen0⟩ := hbg0
          have hcok := HH.out wr B
          have hcok := hcok.2.1 i hlt
          rw [hci] at hcok
          have hen1 := hcok.en1
          have hbg1 := hcok.bg1
          have hx7 : i * 7 + 7 ≤ (flatC (Hst.lateI l b i)).length := by rw [flatC_length, hlen]; omega
          have hcell : ∀ j, j < 7 → wr.cell? ⟨g, i * 7 + j, none⟩ = ci.cells[j]? := fun j hj => by
            have h1 := hown.cells (g := g) rfl (i * 7 + j) ((flatC (Hst.lateI l b i))[i * 7 + j]'(by omega)) (List.getElem?_eq_getElem (by omega))
            rw [← hget, ← flatC_at _ i j hj (by rw [hlen]; exact hlt), List.getElem?_eq_getElem (by omega)]
            simpa [Addr.add_lit] using h1
          have k3 : wr.cell? ⟨g, i * 7 + 3, none⟩ = some (.int .i64 ci.bg) := hcell 3 (by omega)
          have k4 : wr.cell? ⟨g, i * 7 + 4, none⟩ = some (.int .i64 ci.en) := hcell 4 (by omega)
          have f3 : wr.frozen? ⟨g, i * 7 + 3, none⟩ = false := own_frozen hown
          have f4 : wr.frozen? ⟨g, i * 7 + 4, none⟩ = false := own_frozen hown
          have hi0 : (0 : Int) ≤ i := by omega
          have hi1 : (i : Int) < n := by omega
          have HB := Lib.hid B
          have HCI := Lib.hid hci
          have HOWN := Lib.hid hown
          clear hci B hown hfar hcok hcell hx7
          by_cases y1 : 1099511627776 < ci.bg
          · go_wp2_with fail
            go_ret
            exact ⟨rfl, by rw [HGK.out]; exact HB.out⟩
          by_cases y2 : 1099511627776 < ci.en
          · go_wp2_with fail
            go_ret
            exact ⟨rfl, by rw [HGK.out]; exact HB.out⟩
          have hbd2 := Lib.hid (show ∀ j, j < i + 1 → (l.getD j dC).bg ≤ 1099511627776 ∧ (l.getD j dC).en ≤ 1099511627776 from fun j hj => by
            by_cases e : j = i
            · rw [e, HCI.out]; omega
            · exact HBD.out j (by omega))
          by_cases y3 : 0 < ci.en
          · have hs1 := own_set (k := i * 7 + 3) HOWN.out (.int .i64 (ci.bg + b))
            have hs2 := own_set (k := i * 7 + 4) hs1 (.int .i64 (ci.en + b))
            rw [flatC_set _ i 3 { ci with bg := ci.bg + b } _ (by rw [hlen]; exact hlt) (by omega) (by rw [hget]; rfl),
              flatC_set _ i 4 (Hst.lateC b ci) _ (by rw [List.length_set, hlen]; exact hlt) (by omega) (by rw [Hst.getD_set', if_pos ⟨rfl, by rw [hlen]; exact hlt⟩]; unfold Hst.lateC; rw [if_pos y3]; rfl), List.set_set,
              show (Hst.lateI l b i).set i (Hst.lateC b ci) = Hst.lateI l b (i + 1) from by rw [Hst.lateI, HCI.out]] at hs2
            have HS := Lib.hid hs2
            have HB2 := Lib.hid ((HB.out.setCell (p := ⟨g, i * 7 + 3, none⟩) hg0 (.int .i64 (ci.bg + b))).setCell (p := ⟨g, i * 7 + 4, none⟩) hg0 (.int .i64 (ci.en + b)))
            clear hs1 hs2 hlen hget
            go_wp2_with fail
            go_roundw
            case rel => exact ⟨i + 1, by omega, by go_num, hbd2.out, HS.out, HB2.out⟩
            case measure => simp [intOf]; omega
          · have hs1 := own_set (k := i * 7 + 3) HOWN.out (.int .i64 (ci.bg + b))
            rw [flatC_set _ i 3 (Hst.lateC b ci) _ (by rw [hlen]; exact hlt) (by omega) (by rw [hget]; unfold Hst.lateC; rw [if_neg y3]; rfl),
              show (Hst.lateI l b i).set i (Hst.lateC b ci) = Hst.lateI l b (i + 1) from by rw [Hst.lateI, HCI.out]] at hs1
            have HS := Lib.hid hs1
            have HB2 := Lib.hid (HB.out.setCell (p := ⟨g, i * 7 + 3, none⟩) hg0 (.int .i64 (ci.bg + b)))
            clear hs1 hlen hget
            go_wp2_with fail
            go_roundw
            case rel => exact ⟨i + 1, by omega, by go_num, hbd2.out, HS.out, HB2.out⟩
            case measure => simp [intOf]; omega
        · obtain rfl : i = n := by omega
          clear hlt
          have hok : ∀ j, j < i → COk wr wr.heap.size ((Hst.lateI l b i).getD j dC) := fun j hj => by
            rw [Hst.lateI_get l b i j (by rw [HL.out]; omega), if_pos hj]
            exact Hst.late_ok ((HH.out wr B).2.1 j hj) (by omega) (HBD.out j hj).1 (HBD.out j hj).2
          have hlin : Hst.linear (Hst.lateI l b i) = was := by
            have := Hst.late_lin (l := l) (b := b) (by omega) (fun j hj => by
              rw [HL.out] at hj
              have hfar := HF.out j hj
              have hbd := HBD.out j hj
              unfold farC at hfar
              simp only [Bool.or_eq_false_iff, decide_eq_false_iff_not] at hfar
              omega)
            rw [HL.out] at this
            rw [this, HWAS.out]
          have L19 := HLC.out wr a11 i c11 gk (Hst.lateI l b i) hown (by rw [Hst.lateI_len, HL.out]) hok (by omega)
          rw [hlin] at L19
          have L19 := Lib.hid L19
          have HB := Lib.hid B
          have HHL := Lib.hid fun (W : World) (B : Below wr.heap.size wr W) => HLC.out W a11 i c11 gk (Hst.lateI l b i) (own_belowH hown B (Nat.le_refl _)) (by rw [Hst.lateI_len, HL.out]) (fun j hj => ((hok j hj).below B).more B.size) (by omega)
          rw [hlin] at HHL
          have HX' := hi
          clear hown B hok hlin
          by_cases hn0 : i = 0
          · subst hn0
            go_wp2_with fail
            refine L19.out.mono ?_
            rintro e w12 ⟨rfl, B12⟩
            have HB12 := Lib.hid B12
            clear B12
            cases was with
            | true =>
              go_wp2_with fail
              refine (HHL.out _ HB12.out).mono ?_
              rintro e w13 ⟨rfl, B13⟩
              have HE := Lib.hid (HB.out.trans ((HB12.out.trans (B13.mono HB12.out.size)).mono (HSZ.out _ HB.out)))
              clear B13
              go_wp2_with fail
              go_ret
              exact ⟨rfl, by rw [HGK.out]; exact HE.out⟩
            | false =>
              go_wp2_with fail
              refine (HHL.out _ HB12.out).mono ?_
              rintro e w13 ⟨rfl, B13⟩
              have HE := Lib.hid (HB.out.trans ((HB12.out.trans (B13.mono HB12.out.size)).mono (HSZ.out _ HB.out)))
              clear B13
              go_wp2_with fail
              go_ret
              exact ⟨rfl, by rw [HGK.out]; exact HE.out⟩
          have bn0 := beq_f (show (i : Int) ≠ 0 by omega)
          have bww : (was != was) = false := by cases was <;> rfl
          have HBD := HBD
          go_wp2_with fail
          refine L19.out.mono ?_
          rintro e w12 ⟨rfl, B12⟩
          have B12 := HB.out.trans (B12.mono (HSZ.out _ HB.out))
          have OF12 := Lib.hid (OF.out w12 B12)
          have HB12 := Lib.hid B12
          clear B12 L19 HHL
          go_wp2_with fail
          refine OF12.out.mono ?_
          rintro e w13 ⟨v13, rfl, ho13, B13⟩
          have B13 := HB12.out.trans (B13.mono (HSZ.out _ HB12.out))
          obtain ⟨a13, c13, rfl, -⟩ := own_form_any' ho13
          obtain ⟨g, rfl, -⟩ := own_pos ho13 (by omega)
          have ho13 := own_base ho13 (HSZ.out _ HB12.out)
          have hgk : gk ≤ g := by obtain ⟨g', e, h1, -⟩ := own_pos ho13 (by omega); cases e; exact h1
          have HO13 := Lib.hid ho13
          have HB13 := Lib.hid B13
          clear ho13 B13 OF12 HB12
          go_wp2_with fail
          clear bn0 bww hi
          go_loopw [14] (fun kw wr2 => ∃ k : Nat, k ≤ i ∧ kw = .int .i64 k ∧ wr2.ownsRow gk 39 7 (.slice (some ⟨g, 0, none⟩) i c13) i (flatC (Hst.rotI l b k)) ∧ Below gk w wr2) (fun kw _ => i - (intOf kw).toNat)
          case atStart => exact ⟨0, by omega, rfl, HO13.out, HB13.out⟩
          case round =>
            clear HO13 HB13
            obtain ⟨k, hk, rfl, hrow, B⟩ := hrel
            by_cases hlt : k < i
            · have hrl : (Hst.rotI l b k).length = i := by rw [Hst.rotI_len, HL.out]
              obtain ⟨s, hs⟩ : ∃ s : Nat, k + b = s := ⟨_, rfl⟩
              obtain ⟨j, hj⟩ : ∃ j : Nat, s % i = j := ⟨_, rfl⟩
              have hji : j < i := by rw [← hj]; exact Nat.mod_lt _ (by omega)
              have hm1 : ((s : Int)).tmod (i : Int) = (j : Int) := by rw [← hj]; rfl
              have hm2 : (s : Int) % (i : Int) = (j : Int) := by rw [← hj]; rfl
              have hw0 : IntKind.i64.wrap (b : Int) = (b : Int) := IntWalk.i64_in _ (by omega)
              have hw1 : IntKind.i64.wrap ((k : Int) + (b : Int)) = (s : Int) := by rw [IntWalk.i64_in _ (by omega)]; omega
              have hw2 : IntKind.i64.wrap (j : Int) = (j : Int) := IntWalk.i64_in _ (by omega)
              have hi0 : ((i : Int) == 0) = false := beq_f (by omega)
              have hk0 : (0 : Int) ≤ k := by omega
              have hk1 : (k : Int) < i := by omega
              have hj0 : (0 : Int) ≤ j := by omega
              have hj1 : (j : Int) < i := by omega
              obtain ⟨q, hq⟩ : ∃ q, l.getD j dC = q := ⟨_, rfl⟩
              have hnext : (Hst.rotI l b k).set k q = Hst.rotI l b (k + 1) := by rw [Hst.rotI, HL.out, hs, hj, hq]
              have HNX := Lib.hid hnext
              have HQ := Lib.hid hq
              have HRL := Lib.hid hrl
              have HROW := Lib.hid hrow
              have HBI := Lib.hid B
              have HW0 := Lib.hid hw0
              have HW1 := Lib.hid hw1
              have HM1 := Lib.hid hm1
              have HM2 := Lib.hid hm2
              clear hs hj hnext hq hrl hrow B hw0 hw1 hm1 hm2 hw2
              go_upto_region 25 with fail
              refine wp_region_held_drew (S := fun W => Below gk w W) (by kernel_rfl) (by exact HBI.out.drew) (fun hS => ?_)
              refine wpAnyH_take (i := 0) (v := ?_) rfl (by kernel_rfl) (by kernel_rfl) (by kernel_rfl) (fun _ _ _ h => h) (Or.inl ⟨by kernel_rfl, ?_⟩) hS ?_
              rotate_left
              · intro W hW; go_simp; try with_reducible rfl
              refine wpAnyH_take (i := 1) (v := ?_) rfl (by kernel_rfl) (by kernel_rfl) (by kernel_rfl) (fun _ _ _ h => h) (Or.inl ⟨by kernel_rfl, ?_⟩) hS ?_
              rotate_left
              · intro W hW; go_simp; try with_reducible rfl
              refine wpAnyH_take (i := 2) (v := ?_) rfl (by kernel_rfl) (by kernel_rfl) (by kernel_rfl) (fun _ _ _ h => h) (Or.inl ⟨by kernel_rfl, ?_⟩) hS ?_
              rotate_left
              · intro W hW; go_simp; try with_reducible rfl
              refine wpAnyH_take (i := 4) (v := ?_) rfl (by kernel_rfl) (by kernel_rfl) (by kernel_rfl) (fun _ _ _ h => h) (Or.inl ⟨by kernel_rfl, ?_⟩) hS ?_
              rotate_left
              · intro W hW; go_simp; try with_reducible rfl
              refine wpAnyH_take (i := 5) (v := ?_) rfl (by kernel_rfl) (by kernel_rfl) (by kernel_rfl) (fun _ _ _ h => h) (Or.inl ⟨by kernel_rfl, ?_⟩) hS ?_
              rotate_left
              · intro W hW; go_simp; try with_reducible rfl
              refine wpAnyH_take (i := 6) (v := ?_) rfl (by kernel_rfl) (by kernel_rfl) (by kernel_rfl) (fun _ _ _ h => h) (Or.inl ⟨by kernel_rfl, ?_⟩) hS ?_
              rotate_left
              · intro W hW; go_simp; rw [HW0.out]; try with_reducible rfl
              refine wpAnyH_take (i := 7) (v := ?_) rfl (by kernel_rfl) (by kernel_rfl) (by kernel_rfl) (fun _ _ _ h => h) (Or.inl ⟨by kernel_rfl, ?_⟩) hS ?_
              rotate_left
              · intro W hW; go_simp; rw [HW1.out]; try with_reducible rfl
              refine wpAnyH_take (i := 8) (v := ?_) rfl (by kernel_rfl) (by kernel_rfl) (by kernel_rfl) (fun _ _ _ h => h) (Or.inl ⟨by kernel_rfl, ?_⟩) hS ?_
              rotate_left
              · intro W hW; go_simp; try with_reducible rfl
              refine wpAnyH_take (i := 9) (v := ?_) rfl (by kernel_rfl) (by kernel_rfl) (by kernel_rfl) (fun _ _ _ h => h) (Or.inl ⟨by kernel_rfl, ?_⟩) hS ?_
              rotate_left
              · intro W hW; go_simp; try with_reducible rfl
              refine wpAnyH_take (i := 10) (v := ?_) rfl (by kernel_rfl) (by kernel_rfl) (by kernel_rfl) (fun _ _ _ h => h) (Or.inl ⟨by kernel_rfl, ?_⟩) hS ?_
              rotate_left
              · intro W hW; go_simp; first | rw [HM1.out] | rw [HM2.out]; try with_reducible rfl
              refine wpAnyH_ready (rs := [3]) (by kernel_rfl) (by simp) ?_
              refine AllReadyH.cons rfl (fun K hK => ?_) AllReadyH.nil
              go_simp
              refine (OF.out _ hS).mono ?_
              rintro e w9 ⟨v9, rfl, ho9, B9⟩
              have hT : Below gk w w9 := Below.trans hS (B9.mono (HSZ.out _ hS))
              have hrow9 := own_belowH HROW.out.drew B9 (Nat.le_refl _)
              obtain ⟨a9, c9, rfl, -⟩ := own_form_any' ho9
              obtain ⟨g9, rfl, -⟩ := own_pos ho9 (by omega)
              obtain ⟨d0, d1, d2, d3, d4, d5, d6⟩ := own_cells7 ho9 (by rw [HL.out]; exact hji) HQ.out
              clear ho9 B9
              go_simp
              refine hK.out _ _ ?_ (fun hN => ?_)
              · first | exact hT | exact hS | exact hS.alloc hS.size _ | exact hS.drew
              clear hK K
              try clear hT
              clear hS
              have hS := hN
              clear hN
              refine wpAnyH_take (i := 11) (v := ?_) rfl (by kernel_rfl) (by kernel_rfl) (by kernel_rfl) (fun _ _ _ h => h) (Or.inl ⟨by kernel_rfl, ?_⟩) hS ?_
              rotate_left
              · intro W hW; go_simp; try with_reducible rfl
              refine wpAnyH_ready (rs := [12]) (by kernel_rfl) (by simp) ?_
              refine AllReadyH.cons rfl (fun K hK => ?_) AllReadyH.nil
              go_simp
              refine hK.out _ _ ?_ (fun hN => ?_)
              · first | exact hT | exact hS | exact hS.alloc hS.size _ | exact hS.drew
              clear hK K
              try clear hT
              clear hS
              have hS := hN
              clear hN
              refine wpAnyH_take (i := 13) (v := ?_) rfl (by kernel_rfl) (by kernel_rfl) (by kernel_rfl) (fun _ _ _ h => h) (Or.inl ⟨by kernel_rfl, ?_⟩) hS ?_
              rotate_left
              · intro W hW; go_simp; try with_reducible rfl
              refine wpAnyH_ready (rs := [14]) (by kernel_rfl) (by simp) ?_
              refine AllReadyH.cons rfl (fun K hK => ?_) AllReadyH.nil
              have hfr : ∀ x, w9.frozen? ⟨g, x, none⟩ = false := fun x => own_frozen hrow9
              obtain ⟨e0, e1, e2, e3, e4, e5, e6⟩ := own_cells7 hrow9 (i := k) (by rw [HRL.out]; exact hlt) rfl
              have hrow10 := own_set7 hrow9 (k := k) (by rw [HRL.out]; exact hlt) q
              rw [HNX.out] at hrow10
              have hT := below_set7 (k := k) hS hgk q
              obtain ⟨w10, hw10⟩ : ∃ W, (((((((w9.setCell ⟨g, k * 7, none⟩ (.int .i64 q.op)).setCell ⟨g, k * 7 + 1, none⟩ (.int .u32 q.ck)).setCell ⟨g, k * 7 + 2, none⟩ (.slice q.da q.dn q.dc)).setCell ⟨g, k * 7 + 3, none⟩ (.int .i64 q.bg)).setCell ⟨g, k * 7 + 4, none⟩ (.int .i64 q.en)).setCell ⟨g, k * 7 + 5, none⟩ (.int .i64 q.cd)).setCell ⟨g, k * 7 + 6, none⟩ (.slice q.ga q.gn q.gc)) = W := ⟨_, rfl⟩
              rw [hw10] at hrow10 hT
              go_simp
              clear hw10
              refine hK.out _ _ ?_ (fun hN => ?_)
              · first | exact hT | exact hS | exact hS.alloc hS.size _ | exact hS.drew
              clear hK K
              try clear hT
              clear hS
              have hS := hN
              clear hN
              refine wpAnyH_done (by kernel_rfl) ?_ _
              have HR2 := Lib.hid hrow10
              have HB2 := Lib.hid hS
              clear hrow9 hrow10 hS d0 d1 d2 d3 d4 d5 d6 e0 e1 e2 e3 e4 e5 e6 hfr
              go_simp
              go_wp2_with fail
              go_roundw
              case rel => exact ⟨k + 1, by omega, by go_num, HR2.out, HB2.out⟩
              case measure => simp [intOf]; omega
            · obtain rfl : k = i := by omega
              clear hlt hk
              have hrok : ∀ j, j < k → COk wr wr.heap.size ((Hst.rotI l b k).getD j dC) := fun j hj => by
                rw [Hst.rotI_get l b k j (by rw [HL.out]; omega), if_pos hj, HL.out]
                exact (HH.out wr B).2.1 _ (Nat.mod_lt _ (by omega))
              have hrl : Hst.linear (Hst.rotI l b k) = was := by
                have := Hst.rot_lin (l := l) (b := b)
                rw [HL.out] at this
                rw [this, HWAS.out]
              have HT := Lib.hid fun (W : World) (B : Below wr.heap.size wr W) => HLC.out W (some ⟨g, 0, none⟩) k c13 gk (Hst.rotI l b k) (own_belowH hrow B (Nat.le_refl _)) (by rw [Hst.rotI_len, HL.out]) (fun j hj => ((hrok j hj).below B).more B.size) (by omega)
              rw [hrl] at HT
              have HBW := Lib.hid fun (W : World) (B' : Below wr.heap.size wr W) => B.trans (B'.mono (HSZ.out _ B))
              have OF15 := Lib.hid (OF.out wr B)
              clear hrok hrl hrow B
              go_wp2_with fail
              refine OF15.out.mono ?_
              rintro e w15 ⟨v15, rfl, ho15, B15⟩
              obtain ⟨a15, c15, rfl, -⟩ := own_form_any' ho15
              obtain ⟨g15, rfl, hg15, -⟩ := own_pos ho15 (by omega)
              have hgw : gk ≤ g15 := Nat.le_trans (HSZ.out _ (HBW.out wr (Below.refl _ _))) hg15
              obtain ⟨kk, hkk⟩ : ∃ kk : Nat, t % k = kk := ⟨_, rfl⟩
              have hkl : kk < k := by rw [← hkk]; exact Nat.mod_lt _ (by omega)
              have hm1 : ((t : Nat) : Int) % (k : Int) = (kk : Int) := by rw [← hkk]; rfl
              have hk0 : (0 : Int) ≤ kk := by omega
              have hk1 : (kk : Int) < k := by omega
              have hkne : (k : Int) ≠ 0 := by omega
              obtain ⟨q, hq⟩ : ∃ q, l.getD kk dC = q := ⟨_, rfl⟩
              have hqc := own_cells7 ho15 (i := kk) (by rw [HL.out]; exact hkl) hq
              have hqe := HBD.out kk hkl
              have hqf := HF.out kk hkl
              rw [hq] at hqe hqf
              have hq0 : 0 ≤ q.bg ∧ 0 ≤ q.en := by
                unfold farC at hqf
                simp only [Bool.or_eq_false_iff, decide_eq_false_iff_not] at hqf
                omega
              obtain ⟨hqb0, hqe0⟩ := hq0
              obtain ⟨hqb1, hqe1⟩ := hqe
              have f4 : w15.frozen? ⟨g15, kk * 7 + 4, none⟩ = false := own_frozen ho15
              have hLP : ∀ (W : World) (B : Below wr.heap.size wr W) (ho : W.ownsRow wr.heap.size 39 7 (.slice (some ⟨g15, 0, none⟩) k c15) k (flatC (l.set kk (Hst.offC b q)))),
                  Calls Try.prog 16 #[.slice (some ⟨g15, 0, none⟩) k c15] W fun e w' => e = .returned (.bool (Hst.linear (l.set kk (Hst.offC b q)))) ∧ Below W.heap.size W w' := fun W B ho =>
                HLC.out W (some ⟨g15, 0, none⟩) k c15 _ _ ho (by rw [List.length_set, HL.out]) (fun j hj => by
                  rw [getD_set]
                  by_cases e : kk = j ∧ kk < l.length
                  · rw [if_pos e, ← hq]
                    exact Hst.off_ok ((HH.out W (HBW.out W B)).2.1 kk hkl) (by omega) (by rw [hq]; exact hqe1)
                  · rw [if_neg e]; exact (HH.out W (HBW.out W B)).2.1 j hj) (by omega)
              have HLP := Lib.hid hLP
              have HOT := Lib.hid fun (e : was = true) => (show Hst.linear (l.set kk (Hst.offC b q)) = true from by
                have := Hst.off_lin (l := l) (b := b) (k := kk) (by rw [HWAS.out]; exact e)
                rwa [hq] at this)
              have HO15 := Lib.hid ho15
              have HB15 := Lib.hid B15
              have HQ := Lib.hid hq
              have HCELL := Lib.hid fun (W : World) (B : Below w15.heap.size w15 W) => (⟨(B.cell (p := ⟨g15, kk * 7 + 3, none⟩) (World.block_lt_of_cell? _ _ hqc.2.2.2.1)).trans hqc.2.2.2.1, (B.cell (p := ⟨g15, kk * 7 + 4, none⟩) (World.block_lt_of_cell? _ _ hqc.2.2.2.2.1)).trans hqc.2.2.2.2.1⟩ : W.cell? ⟨g15, kk * 7 + 3, none⟩ = some (.int .i64 q.bg) ∧ W.cell? ⟨g15, kk * 7 + 4, none⟩ = some (.int .i64 q.en))
              have HM1 := Lib.hid hm1
              clear hLP hqc hqf hq ho15 B15 hkk OF15 hm1
              go_upto_region 28 with fail
              rw [HM1.out]
              obtain ⟨tb, htb⟩ : ∃ tb, decide (0 < q.en ∧ q.bg ≤ q.en) = tb := ⟨_, rfl⟩
              have HTB := Lib.hid htb
              clear htb
              go_cut [169] (fun v wx => v = .bool tb ∧ Below w15.heap.size w15 wx)
              case first =>
                by_cases y1 : 0 < q.en
                · by_cases y2 : q.bg ≤ q.en
                  · obtain rfl : tb = true := by rw [← HTB.out]; exact decide_eq_true ⟨y1, y2⟩
                    have z1 : decide (0 < q.en) = true := decide_eq_true y1
                    have z2 : decide (q.bg ≤ q.en) = true := decide_eq_true y2
                    refine wp_region_held_drew (S := fun W => Below w15.heap.size w15 W) (by kernel_rfl) ((Below.refl _ _).drew) (fun hS => ?_)
                    refine wpAnyH_take (i := 0) (v := ?_) rfl (by kernel_rfl) (by kernel_rfl) (by kernel_rfl) (fun _ _ _ h => h) (Or.inl ⟨by kernel_rfl, ?_⟩) hS ?_
                    rotate_left
                    · intro W hW; go_simp; try with_reducible rfl
                    refine wpAnyH_take (i := 1) (v := ?_) rfl (by kernel_rfl) (by kernel_rfl) (by kernel_rfl) (fun _ _ _ h => h) (Or.inl ⟨by kernel_rfl, ?_⟩) hS ?_
                    rotate_left
                    · intro W hW; go_simp; try with_reducible rfl
                    refine wpAnyH_take (i := 2) (v := ?_) rfl (by kernel_rfl) (by kernel_rfl) (by kernel_rfl) (fun _ _ _ h => h) (Or.inl ⟨by kernel_rfl, ?_⟩) hS ?_
                    rotate_left
                    · intro W hW; go_simp; try with_reducible rfl
                    refine wpAnyH_take (i := 3) (v := ?_) rfl (by kernel_rfl) (by kernel_rfl) (by kernel_rfl) (fun _ _ _ h => h) (Or.inl ⟨by kernel_rfl, ?_⟩) hS ?_
                    rotate_left
                    · intro W hW; go_simp; try with_reducible rfl
                    refine wpAnyH_take (i := 4) (v := ?_) rfl (by kernel_rfl) (by kernel_rfl) (by kernel_rfl) (fun _ _ _ h => h) (Or.inl ⟨by kernel_rfl, ?_⟩) hS ?_
                    rotate_left
                    · intro W hW; obtain ⟨k3, k4⟩ := HCELL.out W hW; go_simp; try with_reducible rfl
                    refine wpAnyH_take (i := 5) (v := ?_) rfl (by kernel_rfl) (by kernel_rfl) (by kernel_rfl) (fun _ _ _ h => h) (Or.inl ⟨by kernel_rfl, ?_⟩) hS ?_
                    rotate_left
                    · intro W hW; go_simp; try with_reducible rfl
                    refine wpAnyH_take (i := 6) (v := ?_) rfl (by kernel_rfl) (by kernel_rfl) (by kernel_rfl) (fun _ _ _ h => h) (Or.inl ⟨by kernel_rfl, ?_⟩) hS ?_
                    rotate_left
                    · intro W hW; go_simp; try with_reducible rfl
                    refine wpAnyH_take (i := 7) (v := ?_) rfl (by kernel_rfl) (by kernel_rfl) (by kernel_rfl) (fun _ _ _ h => h) (Or.inl ⟨by kernel_rfl, ?_⟩) hS ?_
                    rotate_left
                    · intro W hW; go_simp; try with_reducible rfl
                    refine wpAnyH_take (i := 8) (v := ?_) rfl (by kernel_rfl) (by kernel_rfl) (by kernel_rfl) (fun _ _ _ h => h) (Or.inl ⟨by kernel_rfl, ?_⟩) hS ?_
                    rotate_left
                    · intro W hW; go_simp; try with_reducible rfl
                    refine wpAnyH_take (i := 9) (v := ?_) rfl (by kernel_rfl) (by kernel_rfl) (by kernel_rfl) (fun _ _ _ h => h) (Or.inl ⟨by kernel_rfl, ?_⟩) hS ?_
                    rotate_left
                    · intro W hW; go_simp; try with_reducible rfl
                    refine wpAnyH_take (i := 10) (v := ?_) rfl (by kernel_rfl) (by kernel_rfl) (by kernel_rfl) (fun _ _ _ h => h) (Or.inl ⟨by kernel_rfl, ?_⟩) hS ?_
                    rotate_left
                    · intro W hW; go_simp; try with_reducible rfl
                    refine wpAnyH_take (i := 11) (v := ?_) rfl (by kernel_rfl) (by kernel_rfl) (by kernel_rfl) (fun _ _ _ h => h) (Or.inl ⟨by kernel_rfl, ?_⟩) hS ?_
                    rotate_left
                    · intro W hW; obtain ⟨k3, k4⟩ := HCELL.out W hW; go_simp; try with_reducible rfl
                    refine wpAnyH_take (i := 12) (v := ?_) rfl (by kernel_rfl) (by kernel_rfl) (by kernel_rfl) (fun _ _ _ h => h) (Or.inl ⟨by kernel_rfl, ?_⟩) hS ?_
                    rotate_left
                    · intro W hW; go_simp; try with_reducible rfl
                    refine wpAnyH_take (i := 13) (v := ?_) rfl (by kernel_rfl) (by kernel_rfl) (by kernel_rfl) (fun _ _ _ h => h) (Or.inl ⟨by kernel_rfl, ?_⟩) hS ?_
                    rotate_left
                    · intro W hW; go_simp; try with_reducible rfl
                    refine wpAnyH_take (i := 14) (v := ?_) rfl (by kernel_rfl) (by kernel_rfl) (by kernel_rfl) (fun _ _ _ h => h) (Or.inl ⟨by kernel_rfl, ?_⟩) hS ?_
                    rotate_left
                    · intro W hW; go_simp; try with_reducible rfl
                    refine wpAnyH_take (i := 15) (v := ?_) rfl (by kernel_rfl) (by kernel_rfl) (by kernel_rfl) (fun _ _ _ h => h) (Or.inl ⟨by kernel_rfl, ?_⟩) hS ?_
                    rotate_left
                    · intro W hW; go_simp; try with_reducible rfl
                    refine wpAnyH_take (i := 16) (v := ?_) rfl (by kernel_rfl) (by kernel_rfl) (by kernel_rfl) (fun _ _ _ h => h) (Or.inl ⟨by kernel_rfl, ?_⟩) hS ?_
                    rotate_left
                    · intro W hW; obtain ⟨k3, k4⟩ := HCELL.out W hW; go_simp; try with_reducible rfl
                    refine wpAnyH_take (i := 17) (v := ?_) rfl (by kernel_rfl) (by kernel_rfl) (by kernel_rfl) (fun _ _ _ h => h) (Or.inl ⟨by kernel_rfl, ?_⟩) hS ?_
                    rotate_left
                    · intro W hW; go_simp; try with_reducible rfl
                    refine wpAnyH_take (i := 18) (v := ?_) rfl (by kernel_rfl) (by kernel_rfl) (by kernel_rfl) (fun _ _ _ h => h) (Or.inl ⟨by kernel_rfl, ?_⟩) hS ?_
                    rotate_left
                    · intro W hW; go_simp; try with_reducible rfl
                    refine wpAnyH_done (by kernel_rfl) ?_ _
                    go_simp
                    go_wp2_with fail
                    go_meet
                    exact ⟨rfl, hS⟩
                  · obtain rfl : tb = false := by rw [← HTB.out]; exact decide_eq_false (fun h => y2 h.2)
                    have z1 : decide (0 < q.en) = true := decide_eq_true y1
                    have z2 : decide (q.bg ≤ q.en) = false := decide_eq_false y2
                    refine wp_region_held_drew (S := fun W => Below w15.heap.size w15 W) (by kernel_rfl) ((Below.refl _ _).drew) (fun hS => ?_)
                    refine wpAnyH_take (i := 0) (v := ?_) rfl (by kernel_rfl) (by kernel_rfl) (by kernel_rfl) (fun _ _ _ h => h) (Or.inl ⟨by kernel_rfl, ?_⟩) hS ?_
                    rotate_left
                    · intro W hW; go_simp; try with_reducible rfl
                    refine wpAnyH_take (i := 1) (v := ?_) rfl (by kernel_rfl) (by kernel_rfl) (by kernel_rfl) (fun _ _ _ h => h) (Or.inl ⟨by kernel_rfl, ?_⟩) hS ?_
                    rotate_left
                    · intro W hW; go_simp; try with_reducible rfl
                    refine wpAnyH_take (i := 2) (v := ?_) rfl (by kernel_rfl) (by kernel_rfl) (by kernel_rfl) (fun _ _ _ h => h) (Or.inl ⟨by kernel_rfl, ?_⟩) hS ?_
                    rotate_left
                    · intro W hW; go_simp; try with_reducible rfl
                    refine wpAnyH_take (i := 3) (v := ?_) rfl (by kernel_rfl) (by kernel_rfl) (by kernel_rfl) (fun _ _ _ h => h) (Or.inl ⟨by kernel_rfl, ?_⟩) hS ?_
                    rotate_left
                    · intro W hW; go_simp; try with_reducible rfl
                    refine wpAnyH_take (i := 4) (v := ?_) rfl (by kernel_rfl) (by kernel_rfl) (by kernel_rfl) (fun _ _ _ h => h) (Or.inl ⟨by kernel_rfl, ?_⟩) hS ?_
                    rotate_left
                    · intro W hW; obtain ⟨k3, k4⟩ := HCELL.out W hW; go_simp; try with_reducible rfl
                    refine wpAnyH_take (i := 5) (v := ?_) rfl (by kernel_rfl) (by kernel_rfl) (by kernel_rfl) (fun _ _ _ h => h) (Or.inl ⟨by kernel_rfl, ?_⟩) hS ?_
                    rotate_left
                    · intro W hW; go_simp; try with_reducible rfl
                    refine wpAnyH_take (i := 6) (v := ?_) rfl (by kernel_rfl) (by kernel_rfl) (by kernel_rfl) (fun _ _ _ h => h) (Or.inl ⟨by kernel_rfl, ?_⟩) hS ?_
                    rotate_left
                    · intro W hW; go_simp; try with_reducible rfl
                    refine wpAnyH_take (i := 7) (v := ?_) rfl (by kernel_rfl) (by kernel_rfl) (by kernel_rfl) (fun _ _ _ h => h) (Or.inl ⟨by kernel_rfl, ?_⟩) hS ?_
                    rotate_left
                    · intro W hW; go_simp; try with_reducible rfl
                    refine wpAnyH_take (i := 8) (v := ?_) rfl (by kernel_rfl) (by kernel_rfl) (by kernel_rfl) (fun _ _ _ h => h) (Or.inl ⟨by kernel_rfl, ?_⟩) hS ?_
                    rotate_left
                    · intro W hW; go_simp; try with_reducible rfl
                    refine wpAnyH_take (i := 9) (v := ?_) rfl (by kernel_rfl) (by kernel_rfl) (by kernel_rfl) (fun _ _ _ h => h) (Or.inl ⟨by kernel_rfl, ?_⟩) hS ?_
                    rotate_left
                    · intro W hW; go_simp; try with_reducible rfl
                    refine wpAnyH_take (i := 10) (v := ?_) rfl (by kernel_rfl) (by kernel_rfl) (by kernel_rfl) (fun _ _ _ h => h) (Or.inl ⟨by kernel_rfl, ?_⟩) hS ?_
                    rotate_left
                    · intro W hW; go_simp; try with_reducible rfl
                    refine wpAnyH_take (i := 11) (v := ?_) rfl (by kernel_rfl) (by kernel_rfl) (by kernel_rfl) (fun _ _ _ h => h) (Or.inl ⟨by kernel_rfl, ?_⟩) hS ?_
                    rotate_left
                    · intro W hW; obtain ⟨k3, k4⟩ := HCELL.out W hW; go_simp; try with_reducible rfl
                    refine wpAnyH_take (i := 12) (v := ?_) rfl (by kernel_rfl) (by kernel_rfl) (by kernel_rfl) (fun _ _ _ h => h) (Or.inl ⟨by kernel_rfl, ?_⟩) hS ?_
                    rotate_left
                    · intro W hW; go_simp; try with_reducible rfl
                    refine wpAnyH_take (i := 13) (v := ?_) rfl (by kernel_rfl) (by kernel_rfl) (by kernel_rfl) (fun _ _ _ h => h) (Or.inl ⟨by kernel_rfl, ?_⟩) hS ?_
                    rotate_left
                    · intro W hW; go_simp; try with_reducible rfl
                    refine wpAnyH_take (i := 14) (v := ?_) rfl (by kernel_rfl) (by kernel_rfl) (by kernel_rfl) (fun _ _ _ h => h) (Or.inl ⟨by kernel_rfl, ?_⟩) hS ?_
                    rotate_left
                    · intro W hW; go_simp; try with_reducible rfl
                    refine wpAnyH_take (i := 15) (v := ?_) rfl (by kernel_rfl) (by kernel_rfl) (by kernel_rfl) (fun _ _ _ h => h) (Or.inl ⟨by kernel_rfl, ?_⟩) hS ?_
                    rotate_left
                    · intro W hW; go_simp; try with_reducible rfl
                    refine wpAnyH_take (i := 16) (v := ?_) rfl (by kernel_rfl) (by kernel_rfl) (by kernel_rfl) (fun _ _ _ h => h) (Or.inl ⟨by kernel_rfl, ?_⟩) hS ?_
                    rotate_left
                    · intro W hW; obtain ⟨k3, k4⟩ := HCELL.out W hW; go_simp; try with_reducible rfl
                    refine wpAnyH_take (i := 17) (v := ?_) rfl (by kernel_rfl) (by kernel_rfl) (by kernel_rfl) (fun _ _ _ h => h) (Or.inl ⟨by kernel_rfl, ?_⟩) hS ?_
                    rotate_left
                    · intro W hW; go_simp; try with_reducible rfl
                    refine wpAnyH_take (i := 18) (v := ?_) rfl (by kernel_rfl) (by kernel_rfl) (by kernel_rfl) (fun _ _ _ h => h) (Or.inl ⟨by kernel_rfl, ?_⟩) hS ?_
                    rotate_left
                    · intro W hW; go_simp; try with_reducible rfl
                    refine wpAnyH_done (by kernel_rfl) ?_ _
                    go_simp
                    go_wp2_with fail
                    go_meet
                    exact ⟨rfl, hS⟩
                · obtain rfl : tb = false := by rw [← HTB.out]; exact decide_eq_false (fun h => y1 h.1)
                  have z1 : decide (0 < q.en) = false := decide_eq_false y1
                  refine wp_region_held_drew (S := fun W => Below w15.heap.size w15 W) (by kernel_rfl) ((Below.refl _ _).drew) (fun hS => ?_)
                  refine wpAnyH_take (i := 0) (v := ?_) rfl (by kernel_rfl) (by kernel_rfl) (by kernel_rfl) (fun _ _ _ h => h) (Or.inl ⟨by kernel_rfl, ?_⟩) hS ?_
                  rotate_left
                  · intro W hW; go_simp; try with_reducible rfl
                  refine wpAnyH_take (i := 1) (v := ?_) rfl (by kernel_rfl) (by kernel_rfl) (by kernel_rfl) (fun _ _ _ h => h) (Or.inl ⟨by kernel_rfl, ?_⟩) hS ?_
                  rotate_left
                  · intro W hW; go_simp; try with_reducible rfl
                  refine wpAnyH_take (i := 2) (v := ?_) rfl (by kernel_rfl) (by kernel_rfl) (by kernel_rfl) (fun _ _ _ h => h) (Or.inl ⟨by kernel_rfl, ?_⟩) hS ?_
                  rotate_left
                  · intro W hW; go_simp; try with_reducible rfl
                  refine wpAnyH_take (i := 3) (v := ?_) rfl (by kernel_rfl) (by kernel_rfl) (by kernel_rfl) (fun _ _ _ h => h) (Or.inl ⟨by kernel_rfl, ?_⟩) hS ?_
                  rotate_left
                  · intro W hW; go_simp; try with_reducible rfl
                  refine wpAnyH_take (i := 4) (v := ?_) rfl (by kernel_rfl) (by kernel_rfl) (by kernel_rfl) (fun _ _ _ h => h) (Or.inl ⟨by kernel_rfl, ?_⟩) hS ?_
                  rotate_left
                  · intro W hW; obtain ⟨k3, k4⟩ := HCELL.out W hW; go_simp; try with_reducible rfl
                  refine wpAnyH_take (i := 5) (v := ?_) rfl (by kernel_rfl) (by kernel_rfl) (by kernel_rfl) (fun _ _ _ h => h) (Or.inl ⟨by kernel_rfl, ?_⟩) hS ?_
                  rotate_left
                  · intro W hW; go_simp; try with_reducible rfl
                  refine wpAnyH_take (i := 6) (v := ?_) rfl (by kernel_rfl) (by kernel_rfl) (by kernel_rfl) (fun _ _ _ h => h) (Or.inl ⟨by kernel_rfl, ?_⟩) hS ?_
                  rotate_left
                  · intro W hW; go_simp; try with_reducible rfl
                  refine wpAnyH_take (i := 7) (v := undef) rfl (by kernel_rfl) (by kernel_rfl) (by kernel_rfl) (fun _ _ _ h => h) (Or.inr ⟨by kernel_rfl, rfl⟩) hS ?_
                  refine wpAnyH_take (i := 8) (v := undef) rfl (by kernel_rfl) (by kernel_rfl) (by kernel_rfl) (fun _ _ _ h => h) (Or.inr ⟨by kernel_rfl, rfl⟩) hS ?_
                  refine wpAnyH_take (i := 9) (v := undef) rfl (by kernel_rfl) (by kernel_rfl) (by kernel_rfl) (fun _ _ _ h => h) (Or.inr ⟨by kernel_rfl, rfl⟩) hS ?_
                  refine wpAnyH_take (i := 10) (v := undef) rfl (by kernel_rfl) (by kernel_rfl) (by kernel_rfl) (fun _ _ _ h => h) (Or.inr ⟨by kernel_rfl, rfl⟩) hS ?_
                  refine wpAnyH_take (i := 11) (v := undef) rfl (by kernel_rfl) (by kernel_rfl) (by kernel_rfl) (fun _ _ _ h => h) (Or.inr ⟨by kernel_rfl, rfl⟩) hS ?_
                  refine wpAnyH_take (i := 12) (v := undef) rfl (by kernel_rfl) (by kernel_rfl) (by kernel_rfl) (fun _ _ _ h => h) (Or.inr ⟨by kernel_rfl, rfl⟩) hS ?_
                  refine wpAnyH_take (i := 13) (v := undef) rfl (by kernel_rfl) (by kernel_rfl) (by kernel_rfl) (fun _ _ _ h => h) (Or.inr ⟨by kernel_rfl, rfl⟩) hS ?_
                  refine wpAnyH_take (i := 14) (v := undef) rfl (by kernel_rfl) (by kernel_rfl) (by kernel_rfl) (fun _ _ _ h => h) (Or.inr ⟨by kernel_rfl, rfl⟩) hS ?_
                  refine wpAnyH_take (i := 15) (v := undef) rfl (by kernel_rfl) (by kernel_rfl) (by kernel_rfl) (fun _ _ _ h => h) (Or.inr ⟨by kernel_rfl, rfl⟩) hS ?_
                  refine wpAnyH_take (i := 16) (v := undef) rfl (by kernel_rfl) (by kernel_rfl) (by kernel_rfl) (fun _ _ _ h => h) (Or.inr ⟨by kernel_rfl, rfl⟩) hS ?_
                  refine wpAnyH_take (i := 17) (v := undef) rfl (by kernel_rfl) (by kernel_rfl) (by kernel_rfl) (fun _ _ _ h => h) (Or.inr ⟨by kernel_rfl, rfl⟩) hS ?_
                  refine wpAnyH_take (i := 18) (v := ?_) rfl (by kernel_rfl) (by kernel_rfl) (by kernel_rfl) (fun _ _ _ h => h) (Or.inl ⟨by kernel_rfl, ?_⟩) hS ?_
                  rotate_left
                  · intro W hW; go_simp; try with_reducible rfl
                  refine wpAnyH_done (by kernel_rfl) ?_ _
                  go_simp
                  go_wp2_with fail
                  go_meet
                  exact ⟨rfl, hS⟩
              case rest =>
                obtain ⟨rfl, B16⟩ := hcut
                have ho16 := own_belowH HO15.out B16 (Nat.le_refl _)
                have hB16 := HB15.out.trans (B16.mono HB15.out.size)
                have f4 : wc.frozen? ⟨g15, kk * 7 + 4, none⟩ = false := own_frozen ho16
                obtain ⟨k3, k4⟩ := HCELL.out wc B16
                clear HCELL HO15 HB15 B16
                have hfin : ∃ wy, wc.setCell ⟨g15, kk * 7 + 4, none⟩ (.int .i64 (q.en + b)) = wy := ⟨_, rfl⟩
                obtain ⟨wy, hwy⟩ := hfin
                have hoy := own_set (k := kk * 7 + 4) ho16 (.int .i64 (q.en + b))
                have hBy := hB16.setCell (p := ⟨g15, kk * 7 + 4, none⟩) hg15 (.int .i64 (q.en + b))
                rw [hwy] at hoy hBy
                cases tb with
                | true =>
                  obtain ⟨y1, y2⟩ := of_decide_eq_true HTB.out
                  rw [flatC_set l kk 4 (Hst.offC b q) _ (by rw [HL.out]; exact hkl) (by omega) (by rw [HQ.out]; unfold Hst.offC; rw [if_pos ⟨y1, y2⟩]; rfl)] at hoy
                  have HOY := Lib.hid hoy
                  have HBY := Lib.hid hBy
                  have HT1 := Lib.hid (HT.out wy hBy)
                  clear hoy hBy ho16 hB16
                  go_upto_region 30 with fail
                  clear hwy k3 k4 f4
                  go_wp2_with fail
                  refine HT1.out.mono ?_
                  rintro e w17 ⟨rfl, B17⟩
                  have HB17 := Lib.hid B17
                  clear B17
                  have HB18 := Lib.hid (HBY.out.trans (HB17.out.mono HBY.out.size))
                  have HL17 := Lib.hid (HLP.out w17 HB18.out (own_belowH HOY.out HB17.out (Nat.le_refl _)))
                  cases was with
                  | true =>
                    have HO1 := HOT.out rfl
                    rw [HO1] at HL17
                    clear HO1
                    go_wp2_with fail
                    refine HL17.out.mono ?_
                    rintro e w18 ⟨rfl, B18⟩
                    have HE := Lib.hid (HBW.out _ (HB18.out.trans (B18.mono HB18.out.size)))
                    clear B18
                    go_wp2_with fail
                    go_ret
                    exact ⟨rfl, by rw [HGK.out]; exact HE.out⟩
                  | false =>
                    have HE := Lib.hid (HBW.out _ HB18.out)
                    go_wp2_with fail
                    go_ret
                    exact ⟨rfl, by rw [HGK.out]; exact HE.out⟩
                | false =>
                  clear hwy hoy hBy
                  have hno : l.set kk (Hst.offC b q) = l := by
                    have : ¬ (0 < q.en ∧ q.bg ≤ q.en) := of_decide_eq_false HTB.out
                    unfold Hst.offC
                    rw [if_neg this, ← HQ.out, List.getD, List.getElem?_eq_getElem (by rw [HL.out]; exact hkl), Option.getD_some, List.set_getElem_self]
                  have HOY := Lib.hid (show wc.ownsRow wr.heap.size 39 7 (.slice (some ⟨g15, 0, none⟩) k c15) k (flatC (l.set kk (Hst.offC b q))) from by rw [hno]; exact ho16)
                  have HBY := Lib.hid hB16
                  have HT1 := Lib.hid (HT.out wc hB16)
                  clear ho16 hB16 hno k3 k4 f4
                  go_wp2_with fail
                  refine HT1.out.mono ?_
                  rintro e w17 ⟨rfl, B17⟩
                  have HB17 := Lib.hid B17
                  clear B17
                  have HB18 := Lib.hid (HBY.out.trans (HB17.out.mono HBY.out.size))
                  have HL17 := Lib.hid (HLP.out w17 HB18.out (own_belowH HOY.out HB17.out (Nat.le_refl _)))
                  cases was with
                  | true =>
                    have HO1 := HOT.out rfl
                    rw [HO1] at HL17
                    clear HO1
                    go_wp2_with fail
                    refine HL17.out.mono ?_
                    rintro e w18 ⟨rfl, B18⟩
                    have HE := Lib.hid (HBW.out _ (HB18.out.trans (B18.mono HB18.out.size)))
                    clear B18
                    go_wp2_with fail
                    go_ret
                    exact ⟨rfl, by rw [HGK.out]; exact HE.out⟩
                  | false =>
                    have HE := Lib.hid (HBW.out _ HB18.out)
                    go_wp2_with fail
                    go_ret
                    exact ⟨rfl, by rw [HGK.out]; exact HE.out⟩

end Go.Proofs.Ytboadalojimdlaa
