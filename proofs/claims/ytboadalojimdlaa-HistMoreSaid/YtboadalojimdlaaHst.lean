/-
  Histories of a key, plainly: what a call tells; which calls are right; the chosen points of the put and of the deletion.
-/
import Derived.Test.YtboadalojimdlaaMem
namespace Go.Proofs.Ytboadalojimdlaa
open Go.RowKit

/-- A call on a key, with where its bytes stand. -/
structure CallR where
  op : Int
  ck : Int
  da : Option Addr
  dn : Nat
  dc : Nat
  dl : List (BitVec 8)
  bg : Int
  en : Int
  cd : Int
  ga : Option Addr
  gn : Nat
  gc : Nat
  gl : List (BitVec 8)
def dC : CallR := ⟨0, 0, none, 0, 0, [], 0, 0, 0, none, 0, 0, []⟩

namespace Hst
def opn (c : CallR) : Bool := decide (c.en = 0 ∨ c.cd = 17)
def toldR (op cd : Int) : Nat :=
  if op = 1 then (if cd = 0 then 4 else if cd = 7 then 3 else if cd = 8 then 2 else 0)
  else if op = 3 then (if cd = 0 then 2 else if cd = 7 then 3 else if cd = 9 then 2 else if cd = 6 then 1 else 0)
  else if op = 4 then (if cd = 0 then 5 else if cd = 7 then 3 else if cd = 9 then 2 else if cd = 6 then 1 else 0)
  else 0
def told (c : CallR) : Nat := if opn c = true ∨ c.en < c.bg then 0 else toldR c.op c.cd
def fits (c b : CallR) : Bool :=
  if c.op = 1 then true else if c.cd = 9 then decide (c.ck ≠ b.ck) else if c.op = 3 then decide (c.ck = b.ck) && decide (c.gl = b.dl) else decide (c.ck = b.ck)
def hi (c : CallR) : Int := if opn c = true then 9223372036854775807 else c.en

/-- Two spans. -/
structure Sp where
  pl : Int
  ph : Int
  ql : Int
  qh : Int
def start (l : List CallR) (p : Nat) (d : Int) : Sp :=
  if 0 ≤ d then ⟨(l.getD p dC).bg, hi (l.getD p dC), (l.getD d.toNat dC).bg, hi (l.getD d.toNat dC)⟩
  else ⟨(l.getD p dC).bg, hi (l.getD p dC), 0, 9223372036854775807⟩
def stepC (l : List CallR) (p : Nat) (d : Int) (i : Nat) (s : Sp) : Option Sp :=
  if (told (l.getD i dC) = 4 ∧ i ≠ p) ∨ (told (l.getD i dC) = 5 ∧ (i : Int) ≠ d) ∨ (told (l.getD i dC) = 3 ∧ d < 0) then none
  else if told (l.getD i dC) = 1 then some ⟨max s.pl (l.getD i dC).bg, s.ph, s.ql, s.qh⟩
  else if told (l.getD i dC) = 2 then (if fits (l.getD i dC) (l.getD p dC) = true then some ⟨s.pl, min s.ph (l.getD i dC).en, max s.ql (l.getD i dC).bg, s.qh⟩ else none)
  else if told (l.getD i dC) = 3 then some ⟨s.pl, s.ph, s.ql, min s.qh (l.getD i dC).en⟩
  else some s
def runC (l : List CallR) (p : Nat) (d : Int) : Nat → Option Sp
  | 0 => some (start l p d)
  | i + 1 => (runC l p d i).bind (stepC l p d i)
def lastC : Option Sp → Bool
  | none => false
  | some s => decide (s.pl ≤ s.ph) && decide (s.ql ≤ s.qh) && decide (s.pl ≤ s.qh)
def chosen (l : List CallR) (p : Nat) (d : Int) : Bool :=
  if 0 ≤ d ∧ (l.getD d.toNat dC).ck ≠ (l.getD p dC).ck then false else lastC (runC l p d l.length)
def mayP (l : List CallR) (op : Int) (t : Nat) (i : Nat) : Bool := decide ((l.getD i dC).op = op) && (decide (told (l.getD i dC) = t) || opn (l.getD i dC))
def may (l : List CallR) (op : Int) (t : Nat) : List Nat := (List.range l.length).filter (mayP l op t)
def linear (l : List CallR) : Bool :=
  if (l.any fun c => decide (2 ≤ told c)) = true then (may l 1 4).any fun p => chosen l p (-1) || (may l 4 5).any fun d => chosen l p (d : Int)
  else true

/-- What a call asks of the two points. -/
def okC (l : List CallR) (p : Nat) (d : Int) (x y : Int) (i : Nat) : Prop :=
  (told (l.getD i dC) = 4 → i = p) ∧ (told (l.getD i dC) = 5 → (i : Int) = d) ∧ (told (l.getD i dC) = 3 → 0 ≤ d ∧ y ≤ (l.getD i dC).en) ∧
  (told (l.getD i dC) = 1 → (l.getD i dC).bg ≤ x) ∧ (told (l.getD i dC) = 2 → fits (l.getD i dC) (l.getD p dC) = true ∧ x ≤ (l.getD i dC).en ∧ (l.getD i dC).bg ≤ y)

theorem stepC_none {l : List CallR} {p : Nat} {d : Int} {i : Nat} {s : Sp} (h : stepC l p d i s = none) (x y : Int) : ¬ okC l p d x y i := by
  intro ⟨k4, k5, k3, k1, k2⟩
  unfold stepC at h
  split at h
  · next hb =>
    rcases hb with ⟨a, b⟩ | ⟨a, b⟩ | ⟨a, b⟩
    · exact b (k4 a)
    · exact b (k5 a)
    · have := (k3 a).1; omega
  · split at h
    · cases h
    · split at h
      · next h2 =>
        split at h
        · cases h
        · next h3 => exact h3 (k2 h2).1
      · split at h <;> cases h
theorem stepC_some {l : List CallR} {p : Nat} {d : Int} {i : Nat} {s t : Sp} (h : stepC l p d i s = some t) (x y : Int) :
    (t.pl ≤ x ∧ x ≤ t.ph ∧ t.ql ≤ y ∧ y ≤ t.qh) ↔ ((s.pl ≤ x ∧ x ≤ s.ph ∧ s.ql ≤ y ∧ y ≤ s.qh) ∧ okC l p d x y i) := by
  unfold stepC at h
  unfold okC
  split at h
  · cases h
  · next hb =>
    split at h
    · next h1 =>
      injection h with h; subst h
      simp only [h1]
      constructor
      · intro ⟨a, b, c, e⟩; exact ⟨⟨by omega, b, c, e⟩, by omega, by omega, by omega, fun _ => by omega, by omega⟩
      · intro ⟨⟨a, b, c, e⟩, _, _, _, f, _⟩; have := f trivial; exact ⟨by omega, b, c, e⟩
    · split at h
      · next h1 h2 =>
        split at h
        · next h3 =>
          injection h with h; subst h
          simp only [h2]
          constructor
          · intro ⟨a, b, c, e⟩; exact ⟨⟨a, by omega, by omega, e⟩, by omega, by omega, by omega, by omega, fun _ => ⟨h3, by omega, by omega⟩⟩
          · intro ⟨⟨a, b, c, e⟩, _, _, _, _, f⟩; have := f trivial; exact ⟨a, by omega, by omega, e⟩
        · cases h
      · split at h
        · next h1 h2 h3 =>
          injection h with h; subst h
          simp only [h3]
          constructor
          · intro ⟨a, b, c, e⟩; exact ⟨⟨a, b, c, by omega⟩, by omega, by omega, fun _ => ⟨by omega, by omega⟩, by omega, by omega⟩
          · intro ⟨⟨a, b, c, e⟩, _, _, f, _, _⟩; have := f trivial; exact ⟨a, b, c, by omega⟩
        · next h1 h2 h3 =>
          injection h with h; subst h
          constructor
          · intro hs; exact ⟨hs, fun k => Decidable.byContradiction fun e => hb (.inl ⟨k, e⟩), fun k => Decidable.byContradiction fun e => hb (.inr (.inl ⟨k, e⟩)), fun k => absurd k h3, fun k => absurd k h1, fun k => absurd k h2⟩
          · exact fun hs => hs.1

theorem runC_spec (l : List CallR) (p : Nat) (d : Int) (k : Nat) (x y : Int) :
    (∃ s, runC l p d k = some s ∧ s.pl ≤ x ∧ x ≤ s.ph ∧ s.ql ≤ y ∧ y ≤ s.qh) ↔
    (((start l p d).pl ≤ x ∧ x ≤ (start l p d).ph ∧ (start l p d).ql ≤ y ∧ y ≤ (start l p d).qh) ∧ ∀ i, i < k → okC l p d x y i) := by
  induction k with
  | zero =>
    constructor
    · intro ⟨s, h, hs⟩
      injection h with h; subst h
      exact ⟨hs, fun i hi => by omega⟩
    · intro ⟨h, _⟩
      exact ⟨_, rfl, h⟩
  | succ k ih =>
    constructor
    · intro ⟨t, h, ht⟩
      rw [runC] at h
      cases hr : runC l p d k with
      | none => rw [hr] at h; cases h
      | some s =>
        rw [hr, Option.bind_some] at h
        obtain ⟨hs, ho⟩ := (stepC_some h x y).1 ht
        obtain ⟨h1, h2⟩ := ih.1 ⟨s, hr, hs⟩
        refine ⟨h1, fun i hi => ?_⟩
        by_cases e : i = k
        · rw [e]; exact ho
        · exact h2 i (by omega)
    · intro ⟨h1, h2⟩
      obtain ⟨s, hr, hs⟩ := ih.2 ⟨h1, fun i hi => h2 i (by omega)⟩
      rw [runC, hr, Option.bind_some]
      cases ht : stepC l p d k s with
      | none => exact absurd (h2 k (by omega)) (stepC_none ht x y)
      | some t => exact ⟨t, rfl, (stepC_some ht x y).2 ⟨hs, h2 k (by omega)⟩⟩

/-- The two points, plainly. -/
def Pts (l : List CallR) (p : Nat) (d : Int) : Prop :=
  (0 ≤ d → (l.getD d.toNat dC).ck = (l.getD p dC).ck) ∧
  ∃ x y : Int, x ≤ y ∧ (l.getD p dC).bg ≤ x ∧ x ≤ hi (l.getD p dC) ∧ (0 ≤ d → (l.getD d.toNat dC).bg ≤ y ∧ y ≤ hi (l.getD d.toNat dC)) ∧ (d < 0 → 0 ≤ y ∧ y ≤ 9223372036854775807) ∧
    ∀ i, i < l.length → okC l p d x y i

theorem start_iff (l : List CallR) (p : Nat) (d : Int) (x y : Int) : ((start l p d).pl ≤ x ∧ x ≤ (start l p d).ph ∧ (start l p d).ql ≤ y ∧ y ≤ (start l p d).qh) ↔
    ((l.getD p dC).bg ≤ x ∧ x ≤ hi (l.getD p dC) ∧ (0 ≤ d → (l.getD d.toNat dC).bg ≤ y ∧ y ≤ hi (l.getD d.toNat dC)) ∧ (d < 0 → 0 ≤ y ∧ y ≤ 9223372036854775807)) := by
  unfold start
  split
  · next h => exact ⟨fun ⟨a, b, c, e⟩ => ⟨a, b, fun _ => ⟨c, e⟩, fun h' => by omega⟩, fun ⟨a, b, c, _⟩ => ⟨a, b, (c h).1, (c h).2⟩⟩
  · next h => exact ⟨fun ⟨a, b, c, e⟩ => ⟨a, b, fun h' => absurd h' h, fun _ => ⟨c, e⟩⟩, fun ⟨a, b, _, c⟩ => ⟨a, b, (c (by omega)).1, (c (by omega)).2⟩⟩

theorem chosen_iff (l : List CallR) (p : Nat) (d : Int) : chosen l p d = true ↔ Pts l p d := by
  unfold chosen Pts
  constructor
  · intro h
    split at h
    · cases h
    · next hc =>
      cases hr : runC l p d l.length with
      | none => rw [hr] at h; cases h
      | some s =>
        rw [hr] at h
        simp only [lastC, Bool.and_eq_true, decide_eq_true_eq] at h
        obtain ⟨h1, h2⟩ := (runC_spec l p d l.length s.pl s.qh).1 ⟨s, hr, by omega, by omega, by omega, by omega⟩
        obtain ⟨a, b, c, e⟩ := (start_iff l p d _ _).1 h1
        exact ⟨fun h0 => Decidable.byContradiction fun e => hc ⟨h0, e⟩, s.pl, s.qh, h.2, a, b, c, e, h2⟩
  · intro ⟨hc, x, y, hxy, a, b, c, e, h2⟩
    rw [if_neg (fun h => h.2 (hc h.1))]
    obtain ⟨s, hr, h⟩ := (runC_spec l p d l.length x y).2 ⟨(start_iff l p d x y).2 ⟨a, b, c, e⟩, h2⟩
    rw [hr]
    simp only [lastC, Bool.and_eq_true, decide_eq_true_eq]
    omega

theorem mayP_iff (l : List CallR) (op : Int) (t i : Nat) : mayP l op t i = true ↔ (l.getD i dC).op = op ∧ (told (l.getD i dC) = t ∨ opn (l.getD i dC) = true) := by
  simp [mayP]

/-- Right calls, plainly. -/
def Lin (l : List CallR) : Prop :=
  (∀ i, i < l.length → told (l.getD i dC) < 2) ∨
  ∃ p, p < l.length ∧ mayP l 1 4 p = true ∧ (Pts l p (-1) ∨ ∃ d, d < l.length ∧ mayP l 4 5 d = true ∧ Pts l p (d : Nat))

theorem any_iff (l : List CallR) : (l.any fun c => decide (2 ≤ told c)) = true ↔ ¬ ∀ i, i < l.length → told (l.getD i dC) < 2 := by
  rw [List.any_eq_true]
  constructor
  · intro ⟨c, hc, h⟩ ha
    obtain ⟨i, hi, rfl⟩ := List.getElem_of_mem hc
    have := ha i hi
    rw [List.getD, List.getElem?_eq_getElem hi, Option.getD_some] at this
    have := of_decide_eq_true h
    omega
  · intro h
    by_cases hx : ∃ i, i < l.length ∧ 2 ≤ told (l.getD i dC)
    · obtain ⟨i, hi, h2⟩ := hx
      refine ⟨l[i], List.getElem_mem hi, ?_⟩
      rw [List.getD, List.getElem?_eq_getElem hi, Option.getD_some] at h2
      exact decide_eq_true h2
    · exact absurd (fun i hi => Nat.lt_of_not_le fun h2 => hx ⟨i, hi, h2⟩) h
theorem may_mem (l : List CallR) (op : Int) (t i : Nat) : i ∈ may l op t ↔ i < l.length ∧ mayP l op t i = true := by
  simp [may]

theorem linear_iff (l : List CallR) : linear l = true ↔ Lin l := by
  unfold linear Lin
  split
  · next h =>
    have h' := (any_iff l).1 h
    simp only [List.any_eq_true, Bool.or_eq_true, may_mem, chosen_iff]
    constructor
    · intro ⟨p, ⟨hp, hm⟩, hx⟩
      refine .inr ⟨p, hp, hm, ?_⟩
      rcases hx with hx | ⟨d, ⟨hd, hm2⟩, hx⟩
      · exact .inl hx
      · exact .inr ⟨d, hd, hm2, hx⟩
    · intro hx
      rcases hx with hx | ⟨p, hp, hm, hx⟩
      · exact absurd hx h'
      · refine ⟨p, ⟨hp, hm⟩, ?_⟩
        rcases hx with hx | ⟨d, hd, hm2, hx⟩
        · exact .inl hx
        · exact .inr ⟨d, ⟨hd, hm2⟩, hx⟩
  · next h => exact ⟨fun _ => .inl (Decidable.byContradiction fun e => h ((any_iff l).2 e)), fun _ => rfl⟩
theorem linear_false (l : List CallR) (h : ¬ Lin l) : linear l = false := by
  cases e : linear l with
  | false => rfl
  | true => exact absurd ((linear_iff l).1 e) h
theorem linear_eq {l l' : List CallR} (h : Lin l ↔ Lin l') : linear l = linear l' := by
  cases e : linear l' with
  | false => exact linear_false l (fun hl => by rw [(linear_iff l').2 (h.1 hl)] at e; cases e)
  | true => exact (linear_iff l).2 (h.2 ((linear_iff l').1 e))
end Hst

end Go.Proofs.Ytboadalojimdlaa
