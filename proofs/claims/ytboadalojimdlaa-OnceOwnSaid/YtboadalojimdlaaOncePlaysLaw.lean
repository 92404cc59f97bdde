/-
  The table and the document's: alike but for where their bytes stand.
-/
import Derived.Test.YtboadalojimdlaaOnceAlive
import Derived.Test.YtboadalojimdlaaOnceRKeep
namespace Go.Proofs.Ytboadalojimdlaa
open Go.RowKit

def stM (m : MsgR) : MsgR := { m with a := none, c := 0 }
theorem stM_find (l : List MsgR) (t : Int) (i : Nat) : mFind (l.map stM) t i = (mFind l t i).map stM := by
  unfold mFind
  rw [List.find?_map]
  rfl
theorem alike_find {l d : List MsgR} (h : l.map stM = d.map stM) (t : Int) (i : Nat) : (mFind l t i).map stM = (mFind d t i).map stM := by
  rw [← stM_find, ← stM_find, h]
theorem alike_len {l d : List MsgR} (h : l.map stM = d.map stM) : l.length = d.length := by
  have := congrArg List.length h
  simpa using this
theorem alike_code {l d : List MsgR} (h : l.map stM = d.map stM) (most : Int) (m : MsgR) : kpCode l most m = kpCode d most m := by
  have h1 : (mFind l m.tt m.id).isSome = (mFind d m.tt m.id).isSome := by
    have := congrArg Option.isSome (alike_find h m.tt m.id)
    simpa using this
  unfold kpCode
  rw [h1, alike_len h]
theorem alike_snoc {l d : List MsgR} (h : l.map stM = d.map stM) (m : MsgR) (av : Option Addr) (cv : Nat) : (l ++ [{ m with a := av, c := cv }]).map stM = (d ++ [m]).map stM := by
  rw [List.map_append, List.map_append, h]
  rfl
theorem alike_same {m m' : MsgR} (h : stM m = stM m') : mSame m m' = true := by
  obtain ⟨fr, tt, kd, vol, life, id, cd, has, key, ck, g, a, n, c, l⟩ := m
  obtain ⟨fr', tt', kd', vol', life', id', cd', has', key', ck', g', a', n', c', l'⟩ := m'
  unfold stM at h
  injection h with h1 h2 h3 h4 h5 h6 h7 h8 h9 h10 h11 h12 h13 h14 h15
  subst h1 h2 h3 h4 h5 h6 h7 h8 h9 h10 h11 h15
  simp [mSame, mHead, ndSame]
theorem alike_at {l d : List MsgR} (h : l.map stM = d.map stM) {t : Int} {i : Nat} {m : MsgR} (hd : mFind d t i = some m) : ∃ m', mFind l t i = some m' ∧ m' ∈ l ∧ stM m' = stM m := by
  have h1 := alike_find h t i
  rw [hd] at h1
  cases hl : mFind l t i with
  | none => rw [hl] at h1; cases h1
  | some m' =>
    rw [hl] at h1
    injection h1 with h1
    exact ⟨m', rfl, List.mem_of_find?_eq_some hl, h1⟩
theorem alike_no {l d : List MsgR} (h : l.map stM = d.map stM) {t : Int} {i : Nat} (hd : mFind d t i = none) : mFind l t i = none := by
  have h1 := alike_find h t i
  rw [hd] at h1
  cases hl : mFind l t i with
  | none => rfl
  | some m' => rw [hl] at h1; cases h1

/-- A map's block holds no cells. -/
theorem MBlk.cell_none {w : World} {b : Nat} {l : List MsgR} (h : MBlk w b l) (off : Nat) : w.cell? ⟨b, off, none⟩ = none := by
  obtain ⟨es, c, h1, _⟩ := h
  simp [World.cell?, h1]
theorem BSl.kept_map {w w' : World} {B b n : Nat} {a : Option Addr} {l : List (BitVec 8)} {L : List MsgR} (h : BSl w B a n l) (hM : MBlk w b L) (hg : w.grownBy w' (some b)) (_ : B ≤ w.heap.size) : BSl w' B a n l :=
  ⟨h.1, fun hn => by
    obtain ⟨g, off, e, hb, hc⟩ := h.2 hn
    refine ⟨g, off, e, hb, fun k hk => ?_⟩
    have hne : some g ≠ some b := by
      intro q
      injection q with q
      have := hc k hk
      rw [q, hM.cell_none] at this
      cases this
    exact hg.cell (hc k hk) hne⟩
theorem MIn.kept_map {w w' : World} {B b : Nat} {m : MsgR} {L : List MsgR} (h : MIn w B m) (hM : MBlk w b L) (hg : w.grownBy w' (some b)) (hB : B ≤ w.heap.size) : MIn w' B m := { h with hb := h.hb.kept_map hM hg hB }
theorem MSl.kept_map {w w' : World} {B b n : Nat} {a : Option Addr} {l : List MsgR} {L : List MsgR} (h : MSl w B a n l) (hM : MBlk w b L) (hg : w.grownBy w' (some b)) (hB : B ≤ w.heap.size) : MSl w' B a n l :=
  ⟨h.1, fun i hi => (h.2.1 i hi).kept_map hM hg hB, fun hn => by
    obtain ⟨g, off, e, hb, hc⟩ := h.2.2 hn
    have hne : some g ≠ some b := by
      intro q
      injection q with q
      have := hc 0 0 hn (by omega)
      rw [q, hM.cell_none] at this
      cases this
    refine ⟨g, off, e, hb, fun i j hi hj => ?_⟩
    rw [← hc i j hi hj]
    exact World.grownBy.cell_far hg _ (by show g < w.heap.size; omega) hne⟩

/-- What a table's messages stand on. -/
def HeldT (w : World) (l : List MsgR) : Prop := ∀ m, m ∈ l → BSl w w.heap.size m.a m.n m.l ∧ m.n ≤ m.c ∧ m.n ≤ 300
theorem HeldT.on {w w' : World} {l : List MsgR} (h : HeldT w l) (hb : Below w.heap.size w w') : HeldT w' l := fun m hm => ⟨((h m hm).1.below hb).more hb.size, (h m hm).2⟩
theorem HeldT.kept_map {w w' : World} {b : Nat} {l : List MsgR} (h : HeldT w l) (hM : MBlk w b l) (hg : w.grownBy w' (some b)) : HeldT w' l := fun m hm => ⟨((h m hm).1.kept_map hM hg (Nat.le_refl _)).more hg.size, (h m hm).2⟩
theorem HeldT.snoc {w : World} {l : List MsgR} (h : HeldT w l) {m : MsgR} (hm : BSl w w.heap.size m.a m.n m.l ∧ m.n ≤ m.c ∧ m.n ≤ 300) : HeldT w (l ++ [m]) := by
  intro x hx
  rcases List.mem_append.1 hx with hx | hx
  · exact h x hx
  · rw [List.mem_singleton.1 hx]; exact hm

theorem msl_snoc {w W : World} {base : Nat} {da a : Option Addr} {cap : Nat} {D : List MsgR} {m : MsgR} (hD : MSl w w.heap.size da D.length D) (hB : Below w.heap.size w W)
    (ho : W.ownsRow base 60 12 (.slice a (D.length + 1) cap) (D.length + 1) (flatM (D ++ [m]))) (hm : MIn W W.heap.size m) : MSl W W.heap.size a (D.length + 1) (D ++ [m]) := by
  refine msl_own ho (by simp) (fun i hi => ?_)
  rcases Nat.lt_succ_iff_lt_or_eq.1 hi with h | rfl
  · rw [show (D ++ [m]).getD i mNone = D.getD i mNone from by simp [List.getD, List.getElem?_append_left h]]
    exact ((hD.2.1 i h).below hB).more hB.size
  · rw [show (D ++ [m]).getD D.length mNone = m from by simp [List.getD]]
    exact hm
theorem MSl.on {w w' : World} {n : Nat} {a : Option Addr} {l : List MsgR} (h : MSl w w.heap.size a n l) (hb : Below w.heap.size w w') : MSl w' w'.heap.size a n l := (h.below hb).more hb.size
/-- What stands between two rounds. -/
def PSt (w : World) (b : Nat) (most : Int) (i : Nat) (v : Value) (W : World) : Prop :=
  ∃ (L D : List MsgR) (da : Option Addr) (dc : Nat), v = .slice da D.length dc ∧ MSl W W.heap.size da D.length D ∧ L.map stM = D.map stM ∧ HeldT W L ∧ TBl W (b + 1) b most L ∧ Below w.heap.size w W ∧ D.length ≤ i
end Go.Proofs.Ytboadalojimdlaa
