/-
  Histories: calls one behind the other, answered as told; one answer turned.
-/
import Derived.Test.YtboadalojimdlaaHstLaw
namespace Go.Proofs.Ytboadalojimdlaa.Hst
open Go.RowKit

/-- What a key has. -/
structure KeyR where
  st : Int
  ck : Int
  da : Option Addr
  dn : Nat
  dc : Nat
  dl : List (BitVec 8)
def k0 : KeyR := ⟨0, 0, none, 0, 0, []⟩

/-- A call's answer: what the key has then, and the call with its answer. -/
def stepK (k : KeyR) (c : CallR) : KeyR × CallR :=
  if c.op = 1 then
    if k.st = 0 then (⟨1, c.ck, c.da, c.dn, c.dc, c.dl⟩, { c with cd := 0, ga := none, gn := 0, gc := 0, gl := [] })
    else (k, { c with cd := 9 - k.st, ga := none, gn := 0, gc := 0, gl := [] })
  else if k.st = 0 then (k, { c with cd := 6, ga := none, gn := 0, gc := 0, gl := [] })
  else if k.st = 2 then (k, { c with cd := 7, ga := none, gn := 0, gc := 0, gl := [] })
  else if k.ck ≠ c.ck then (k, { c with cd := 9, ga := none, gn := 0, gc := 0, gl := [] })
  else if c.op = 4 then (⟨2, k.ck, none, 0, 0, []⟩, { c with cd := 0, ga := none, gn := 0, gc := 0, gl := [] })
  else (k, { c with cd := 0, ga := k.da, gn := k.dn, gc := k.dc, gl := k.dl })

def known (c : CallR) : Bool := decide (c.op = 1 ∨ c.op = 3 ∨ c.op = 4)
def timed (c : CallR) (n : Nat) : CallR := { c with bg := 2 * (n : Int) + 1, en := 2 * (n : Int) + 2 }
def simK (l : List CallR) : Nat → KeyR × List CallR
  | 0 => (k0, [])
  | i + 1 => if known (l.getD i dC) = true then
      ((stepK (simK l i).1 (timed (l.getD i dC) (simK l i).2.length)).1, (simK l i).2 ++ [(stepK (simK l i).1 (timed (l.getD i dC) (simK l i).2.length)).2])
    else simK l i

/-- Calls answered as told: before the put, the put, between, the deletion, behind. -/
def At (x : List CallR) (p d : Nat) (i : Nat) (c : CallR) : Prop :=
  c.bg = 2 * (i : Int) + 1 ∧ c.en = 2 * (i : Int) + 2 ∧
  (i < p → (c.op = 3 ∨ c.op = 4) ∧ c.cd = 6) ∧
  (i = p → c.op = 1 ∧ c.cd = 0) ∧
  (p < i → i < d → (c.op = 1 ∧ c.cd = 8) ∨ ((c.op = 3 ∨ c.op = 4) ∧ c.ck ≠ (x.getD p dC).ck ∧ c.cd = 9) ∨ (c.op = 3 ∧ c.ck = (x.getD p dC).ck ∧ c.cd = 0 ∧ c.gl = (x.getD p dC).dl)) ∧
  (p < i → i = d → c.op = 4 ∧ c.ck = (x.getD p dC).ck ∧ c.cd = 0) ∧
  (p < i → d < i → (c.op = 1 ∨ c.op = 3 ∨ c.op = 4) ∧ c.cd = 7)
def Shape (x : List CallR) (p d : Nat) : Prop :=
  p ≤ x.length ∧ d ≤ x.length ∧ (p = x.length → d = x.length) ∧ (p < x.length → p < d) ∧ ∀ i, i < x.length → At x p d i (x.getD i dC)
def SimOk (k : KeyR) (x : List CallR) : Prop :=
  ∃ p d, Shape x p d ∧ ((k.st = 0 ∧ p = x.length) ∨ (k.st = 1 ∧ p < x.length ∧ d = x.length ∧ k.ck = (x.getD p dC).ck ∧ k.dl = (x.getD p dC).dl) ∨ (k.st = 2 ∧ d < x.length ∧ p < x.length))

theorem At.more {x : List CallR} {p d i : Nat} {c z : CallR} (hp : p < x.length) (h : At x p d i c) : At (x ++ [z]) p d i c := by
  unfold At at h ⊢
  rw [getD_append_lt hp]
  exact h

theorem sim_step {k : KeyR} {x : List CallR} {c : CallR} (h : SimOk k x) (hk : known c = true) : SimOk (stepK k (timed c x.length)).1 (x ++ [(stepK k (timed c x.length)).2]) := by
  obtain ⟨p, d, ⟨hp, hd, hpd, hlt, hat⟩, hs⟩ := h
  have hop : c.op = 1 ∨ c.op = 3 ∨ c.op = 4 := of_decide_eq_true hk
  have hlen : ∀ z : CallR, (x ++ [z]).length = x.length + 1 := fun z => by rw [List.length_append, List.length_singleton]
  rcases hs with ⟨s0, rfl⟩ | ⟨s1, hp1, rfl, hck, hdl⟩ | ⟨s2, hd2, hp2⟩
  · have hat' : ∀ (z : CallR) p' d', x.length ≤ p' → ∀ i, i < x.length → At (x ++ [z]) p' d' i ((x ++ [z]).getD i dC) := by
      intro z p' d' hp' i hi
      rw [getD_append_lt hi]
      obtain ⟨a1, a2, a3, -⟩ := hat i hi
      exact ⟨a1, a2, fun _ => a3 hi, by omega, by omega, by omega, by omega⟩
    by_cases h1 : c.op = 1
    · have e : stepK k (timed c x.length) = (⟨1, c.ck, c.da, c.dn, c.dc, c.dl⟩, { timed c x.length with cd := 0, ga := none, gn := 0, gc := 0, gl := [] }) := by
        unfold stepK; rw [if_pos (by exact h1), if_pos s0]; rfl
      rw [e]
      refine ⟨x.length, x.length + 1, ⟨by rw [hlen]; omega, by rw [hlen]; omega, by rw [hlen]; omega, by rw [hlen]; omega, ?_⟩, .inr (.inl ⟨rfl, by rw [hlen]; omega, by rw [hlen], by rw [getD_append_eq]; rfl, by rw [getD_append_eq]; rfl⟩)⟩
      intro i hi
      rw [hlen] at hi
      by_cases e : i = x.length
      · subst e
        rw [getD_append_eq]
        exact ⟨rfl, rfl, by omega, fun _ => ⟨h1, rfl⟩, by omega, by omega, by omega⟩
      · exact hat' _ _ _ (Nat.le_refl _) i (by omega)
    · have e : stepK k (timed c x.length) = (k, { timed c x.length with cd := 6, ga := none, gn := 0, gc := 0, gl := [] }) := by
        unfold stepK; rw [if_neg (by exact h1), if_pos s0]
      rw [e]
      refine ⟨x.length + 1, x.length + 1, ⟨by rw [hlen]; omega, by rw [hlen]; omega, by rw [hlen]; omega, by rw [hlen]; omega, ?_⟩, .inl ⟨s0, by rw [hlen]⟩⟩
      intro i hi
      rw [hlen] at hi
      by_cases e : i = x.length
      · subst e
        rw [getD_append_eq]
        exact ⟨rfl, rfl, fun _ => ⟨hop.resolve_left h1, rfl⟩, by omega, by omega, by omega, by omega⟩
      · exact hat' _ _ _ (by omega) i (by omega)
  · have hat' : ∀ (z : CallR) d', x.length ≤ d' → ∀ i, i < x.length → At (x ++ [z]) p d' i ((x ++ [z]).getD i dC) := by
      intro z d' hd' i hi
      rw [getD_append_lt hi]
      obtain ⟨a1, a2, a3, a4, a5, -⟩ := (hat i hi).more (z := z) hp1
      exact ⟨a1, a2, a3, a4, fun h _ => a5 h hi, by omega, by omega⟩
    have hfin : ∀ z : CallR, z.bg = 2 * (x.length : Int) + 1 → z.en = 2 * (x.length : Int) + 2 → ((z.op = 1 ∧ z.cd = 8) ∨ ((z.op = 3 ∨ z.op = 4) ∧ z.ck ≠ (x.getD p dC).ck ∧ z.cd = 9) ∨ (z.op = 3 ∧ z.ck = (x.getD p dC).ck ∧ z.cd = 0 ∧ z.gl = (x.getD p dC).dl)) →
        SimOk k (x ++ [z]) := by
      intro z z1 z2 z3
      refine ⟨p, x.length + 1, ⟨by rw [hlen]; omega, by rw [hlen]; omega, by rw [hlen]; omega, by rw [hlen]; omega, ?_⟩, .inr (.inl ⟨s1, by rw [hlen]; omega, by rw [hlen], by rw [getD_append_lt hp1]; exact hck, by rw [getD_append_lt hp1]; exact hdl⟩)⟩
      intro i hi
      rw [hlen] at hi
      by_cases e : i = x.length
      · subst e
        rw [getD_append_eq]
        refine ⟨z1, z2, by omega, by omega, fun _ _ => ?_, by omega, by omega⟩
        rw [getD_append_lt hp1]
        exact z3
      · exact hat' _ _ (by omega) i (by omega)
    by_cases h1 : c.op = 1
    · have e : stepK k (timed c x.length) = (k, { timed c x.length with cd := 8, ga := none, gn := 0, gc := 0, gl := [] }) := by
        unfold stepK; rw [if_pos (by exact h1), if_neg (by omega), s1]; rfl
      rw [e]
      exact hfin _ rfl rfl (.inl ⟨h1, rfl⟩)
    · by_cases h2 : k.ck ≠ c.ck
      · have e : stepK k (timed c x.length) = (k, { timed c x.length with cd := 9, ga := none, gn := 0, gc := 0, gl := [] }) := by
          unfold stepK; rw [if_neg (by exact h1), if_neg (by omega), if_neg (by omega), if_pos (by exact h2)]
        rw [e]
        exact hfin _ rfl rfl (.inr (.inl ⟨hop.resolve_left h1, fun e => h2 (by rw [hck]; exact e.symm), rfl⟩))
      · have h2 := Decidable.not_not.1 h2
        by_cases h4 : c.op = 4
        · have e : stepK k (timed c x.length) = (⟨2, k.ck, none, 0, 0, []⟩, { timed c x.length with cd := 0, ga := none, gn := 0, gc := 0, gl := [] }) := by
            unfold stepK; rw [if_neg (by exact h1), if_neg (by omega), if_neg (by omega), if_neg (fun q => q h2), if_pos (by exact h4)]
          rw [e]
          refine ⟨p, x.length, ⟨by rw [hlen]; omega, by rw [hlen]; omega, by rw [hlen]; omega, by rw [hlen]; omega, ?_⟩, .inr (.inr ⟨rfl, by rw [hlen]; omega, by rw [hlen]; omega⟩)⟩
          intro i hi
          rw [hlen] at hi
          by_cases e : i = x.length
          · subst e
            rw [getD_append_eq]
            refine ⟨rfl, rfl, by omega, by omega, by omega, fun _ _ => ⟨h4, ?_, rfl⟩, by omega⟩
            rw [getD_append_lt hp1, ← hck, h2]; rfl
          · exact hat' _ _ (Nat.le_refl _) i (by omega)
        · have e : stepK k (timed c x.length) = (k, { timed c x.length with cd := 0, ga := k.da, gn := k.dn, gc := k.dc, gl := k.dl }) := by
            unfold stepK; rw [if_neg (by exact h1), if_neg (by omega), if_neg (by omega), if_neg (fun q => q h2), if_neg (by exact h4)]
          rw [e]
          exact hfin _ rfl rfl (.inr (.inr ⟨(hop.resolve_left h1).resolve_right h4, by rw [← hck, h2]; rfl, rfl, hdl⟩))
  · have e : (stepK k (timed c x.length)).1 = k ∧ (stepK k (timed c x.length)).2 = { timed c x.length with cd := 7, ga := none, gn := 0, gc := 0, gl := [] } := by
      unfold stepK
      by_cases h1 : c.op = 1
      · rw [if_pos (by exact h1), if_neg (by omega), s2]; exact ⟨rfl, rfl⟩
      · rw [if_neg (by exact h1), if_neg (by omega), if_pos s2]; exact ⟨rfl, rfl⟩
    rw [e.1, e.2]
    refine ⟨p, d, ⟨by rw [hlen]; omega, by rw [hlen]; omega, by rw [hlen]; omega, by rw [hlen]; omega, ?_⟩, .inr (.inr ⟨s2, by rw [hlen]; omega, by rw [hlen]; omega⟩)⟩
    intro i hi
    rw [hlen] at hi
    by_cases e : i = x.length
    · subst e
      rw [getD_append_eq]
      exact ⟨rfl, rfl, by omega, by omega, by omega, by omega, fun _ _ => ⟨hop, rfl⟩⟩
    · rw [getD_append_lt (show i < x.length by omega)]
      exact (hat i (by omega)).more hp2

theorem sim_ok (l : List CallR) (i : Nat) : SimOk (simK l i).1 (simK l i).2 := by
  induction i with
  | zero => exact ⟨0, 0, ⟨Nat.le_refl _, Nat.le_refl _, fun _ => rfl, fun h => absurd h (by simp [simK]), fun i hi => absurd hi (by simp [simK])⟩, .inl ⟨rfl, rfl⟩⟩
  | succ i ih =>
    rw [simK]
    split
    · next h => exact sim_step ih h
    · exact ih
theorem simK_le (l : List CallR) (i : Nat) : (simK l i).2.length ≤ i := by
  induction i with
  | zero => exact Nat.le_refl _
  | succ i ih =>
    rw [simK]
    split
    · rw [List.length_append, List.length_singleton]; omega
    · omega

theorem At.told {x : List CallR} {p d i : Nat} {c : CallR} (h : At x p d i c) : told c = toldR c.op c.cd ∧ opn c = false := by
  obtain ⟨h1, h2, h3, h4, h5, h6, h7⟩ := h
  have ho : opn c = false := by
    unfold opn
    rw [decide_eq_false_iff_not]
    intro h
    rcases h with h | h
    · omega
    · rcases Nat.lt_trichotomy i p with hi | hi | hi
      · have := h3 hi; omega
      · have := h4 hi; omega
      · rcases Nat.lt_trichotomy i d with hd | hd | hd
        · rcases h5 hi hd with q | q | q <;> omega
        · have := h6 hi hd; omega
        · have := h7 hi hd; omega
  exact ⟨told_make ho (by omega), ho⟩

/-- Calls answered as told are right. -/
theorem shape_lin {x : List CallR} {p d : Nat} (hn : x.length ≤ 1000) (h : Shape x p d) : Lin x := by
  obtain ⟨hp, hd, hpd, hlt, hat⟩ := h
  by_cases hpn : p = x.length
  · left
    intro i hi
    obtain ⟨a1, a2, a3, -⟩ := hat i hi
    have := a3 (by omega)
    rw [(hat i hi).told.1, toldR_none.2 this]
    omega
  · have hpl : p < x.length := by omega
    have hpd' := hlt hpl
    have hpa := hat p hpl
    have hokc : ∀ (e : Int), (e = d ∧ d < x.length) ∨ (e = -1 ∧ d = x.length) → ∀ i, i < x.length → okC x p e (2 * (p : Int) + 1) (2 * (d : Int) + 1) i := by
      intro e he i hi
      have hai := hat i hi
      obtain ⟨ht, ho⟩ := hai.told
      obtain ⟨h1, h2, h3, h4, h5, h6, h7⟩ := hai
      unfold okC
      rw [ht, toldR_put, toldR_del, toldR_over, toldR_none, toldR_full]
      rcases Nat.lt_trichotomy i p with hi' | hi' | hi'
      · have := h3 hi'
        exact ⟨by omega, by omega, by omega, by omega, by omega⟩
      · have := h4 hi'
        exact ⟨by omega, by omega, by omega, by omega, by omega⟩
      · rcases Nat.lt_trichotomy i d with hd | hd | hd
        · have h5 := h5 hi' hd
          refine ⟨by omega, by omega, by omega, by omega, fun _ => ⟨?_, by omega, by omega⟩⟩
          unfold fits
          rcases h5 with ⟨q1, q2⟩ | ⟨q1, q2, q3⟩ | ⟨q1, q2, q3, q4⟩
          · rw [if_pos q1]
          · rw [if_neg (by omega), if_pos q3]; exact decide_eq_true q2
          · rw [if_neg (by omega), if_neg (by omega), if_pos q1, q2, q4]; simp
        · have := h6 hi' hd
          exact ⟨by omega, by omega, by omega, by omega, by omega⟩
        · have := h7 hi' hd
          exact ⟨by omega, by omega, by omega, by omega, by omega⟩
    have hhi : ∀ i, i < x.length → hi (x.getD i dC) = 2 * (i : Int) + 2 := by
      intro i hi'
      unfold hi
      rw [(hat i hi').told.2, (hat i hi').2.1]; rfl
    right
    refine ⟨p, hpl, ?_, ?_⟩
    · rw [mayP_iff, hpa.told.1, toldR_put]
      have := hpa.2.2.2.1 rfl
      exact ⟨this.1, .inl this⟩
    · by_cases hdn : d = x.length
      · left
        refine ⟨by omega, 2 * (p : Int) + 1, 2 * (x.length : Int) + 1, by omega, by rw [hpa.1]; omega, by rw [hhi p hpl]; omega, by omega, ?_, ?_⟩
        · intro _
          exact ⟨by omega, by omega⟩
        · have := hokc (-1) (.inr ⟨rfl, hdn⟩)
          rw [hdn] at this
          exact this
      · have hdl : d < x.length := by omega
        have hda := hat d hdl
        obtain ⟨q1, q2, q3⟩ := hda.2.2.2.2.2.1 hpd' rfl
        right
        refine ⟨d, hdl, ?_, ?_, 2 * (p : Int) + 1, 2 * (d : Int) + 1, by omega, by rw [hpa.1]; omega, by rw [hhi p hpl]; omega, ?_, by omega, hokc d (.inl ⟨rfl, hdl⟩)⟩
        · rw [mayP_iff, hda.told.1, toldR_del]
          exact ⟨q1, .inl ⟨q1, q3⟩⟩
        · intro _
          rw [Int.toNat_natCast]
          exact q2
        · intro _
          rw [Int.toNat_natCast, hda.1, hhi d hdl]
          omega

theorem toldR_nz {op c : Int} (h : toldR op c ≠ 0) : (op = 1 ∧ (c = 0 ∨ c = 7 ∨ c = 8)) ∨ (op = 3 ∧ (c = 0 ∨ c = 7 ∨ c = 9 ∨ c = 6)) ∨ (op = 4 ∧ (c = 0 ∨ c = 7 ∨ c = 9 ∨ c = 6)) := by
  unfold toldR at h
  by_cases h1 : op = 1
  · rw [if_pos h1] at h
    refine .inl ⟨h1, ?_⟩
    repeat' split at h
    all_goals omega
  · by_cases h3 : op = 3
    · rw [if_neg h1, if_pos h3] at h
      refine .inr (.inl ⟨h3, ?_⟩)
      repeat' split at h
      all_goals omega
    · by_cases h4 : op = 4
      · rw [if_neg h1, if_neg h3, if_pos h4] at h
        refine .inr (.inr ⟨h4, ?_⟩)
        repeat' split at h
        all_goals omega
      · rw [if_neg h1, if_neg h3, if_neg h4] at h
        exact absurd rfl h

set_option linter.unusedSimpArgs false in
set_option maxHeartbeats 1000000 in
theorem turned_core {op cd c ck ckp X Y e : Int} {i p d n : Nat} (hi : i < n) (hne : c ≠ cd) (hXY : X ≤ Y) (hpl : p < n) (hlt : p < d) (hd : d ≤ n)
    (hnz : (op = 1 ∧ (c = 0 ∨ c = 7 ∨ c = 8)) ∨ (op = 3 ∧ (c = 0 ∨ c = 7 ∨ c = 9 ∨ c = 6)) ∨ (op = 4 ∧ (c = 0 ∨ c = 7 ∨ c = 9 ∨ c = 6)))
    (a3 : i < p → (op = 3 ∨ op = 4) ∧ cd = 6) (a4 : i ≠ p) (a5 : p < i → i < d → (op = 1 ∧ cd = 8) ∨ ((op = 3 ∨ op = 4) ∧ ck ≠ ckp ∧ cd = 9) ∨ (op = 3 ∧ ck = ckp ∧ cd = 0)) (a6 : i ≠ d)
    (a7 : p < i → d < i → (op = 1 ∨ op = 3 ∨ op = 4) ∧ cd = 7) (o4 : op = 1 ∧ c = 0 → False) (o5 : op = 4 ∧ c = 0 → e = (i : Int) ∧ ck = ckp ∧ Y ≤ 2 * (i : Int) + 2) (o3 : (op = 1 ∨ op = 3 ∨ op = 4) ∧ c = 7 → 0 ≤ e ∧ Y ≤ 2 * (i : Int) + 2)
    (o1 : (op = 3 ∨ op = 4) ∧ c = 6 → 2 * (i : Int) + 1 ≤ X) (o2 : (op = 1 ∧ c = 8) ∨ (op = 3 ∧ c = 0) ∨ ((op = 3 ∨ op = 4) ∧ c = 9) → X ≤ 2 * (i : Int) + 2 ∧ 2 * (i : Int) + 1 ≤ Y)
    (f1 : op = 3 ∧ c = 0 → ck = ckp) (f2 : (op = 3 ∨ op = 4) ∧ c = 9 → ck ≠ ckp) (kb : 2 * (p : Int) + 1 ≤ X) (kh : X ≤ 2 * (p : Int) + 2)
    (hdd : d < n → e = d ∧ 2 * (d : Int) + 1 ≤ Y ∧ Y ≤ 2 * (d : Int) + 2) (hnd : d = n → e = -1 ∨ (e = (i : Int) ∧ op = 4 ∧ c = 0)) : False := by
  have hpos : (i < p ∧ cd = 6 ∧ (op = 3 ∨ op = 4)) ∨ (p < i ∧ p < d ∧ i < d ∧ ((op = 1 ∧ cd = 8) ∨ ((op = 3 ∨ op = 4) ∧ ck ≠ ckp ∧ cd = 9) ∨ (op = 3 ∧ ck = ckp ∧ cd = 0))) ∨ (p < i ∧ d < i ∧ cd = 7) := by
    rcases Nat.lt_trichotomy i p with q | q | q
    · have := a3 q; exact .inl ⟨q, this.2, this.1⟩
    · exact absurd q a4
    · rcases Nat.lt_trichotomy i d with r | r | r
      · exact .inr (.inl ⟨q, by omega, r, a5 q r⟩)
      · exact absurd r a6
      · exact .inr (.inr ⟨q, r, (a7 q r).2⟩)
  have hdc : (d < n ∧ e = d ∧ 2 * (d : Int) + 1 ≤ Y ∧ Y ≤ 2 * (d : Int) + 2) ∨ (d = n ∧ (e = -1 ∨ (e = (i : Int) ∧ op = 4 ∧ c = 0))) := by
    rcases Nat.lt_or_ge d n with h | h
    · exact .inl ⟨h, hdd h⟩
    · have h : d = n := by omega
      exact .inr ⟨h, hnd h⟩
  clear a3 a4 a5 a6 a7 hdd hnd hd
  rcases hnz with ⟨rfl, rfl | rfl | rfl⟩ | ⟨rfl, rfl | rfl | rfl | rfl⟩ | ⟨rfl, rfl | rfl | rfl | rfl⟩
  · exact o4 ⟨rfl, rfl⟩
  all_goals
    simp at o4 o5 o3 o1 o2 f1 f2
    rcases hpos with ⟨q, rfl, h⟩ | ⟨q, r, s, ⟨h, rfl⟩ | ⟨h, h', rfl⟩ | ⟨h, h', rfl⟩⟩ | ⟨q, r, rfl⟩ <;> rcases hdc with ⟨u, rfl, u2, u3⟩ | ⟨rfl, u | u⟩ <;> omega

theorem At.put {x : List CallR} {p d i : Nat} {c : CallR} (h : At x p d i c) (h1 : c.op = 1) (h2 : c.cd = 0) : i = p := by
  obtain ⟨a1, a2, a3, a4, a5, a6, a7⟩ := h
  clear a1 a2
  rcases Nat.lt_trichotomy i p with q | q | q
  · have := a3 q; clear a3 a4 a5 a6 a7; omega
  · exact q
  · rcases Nat.lt_trichotomy i d with r | r | r
    · have := a5 q r; clear a3 a4 a5 a6 a7; omega
    · have := a6 q r; clear a3 a4 a5 a6 a7; omega
    · have := a7 q r; clear a3 a4 a5 a6 a7; omega
theorem At.del {x : List CallR} {p d i : Nat} {c : CallR} (h : At x p d i c) (h1 : c.op = 4) (h2 : c.cd = 0) : i = d := by
  obtain ⟨a1, a2, a3, a4, a5, a6, a7⟩ := h
  clear a1 a2
  rcases Nat.lt_trichotomy i p with q | q | q
  · have := a3 q; clear a3 a4 a5 a6 a7; omega
  · have := a4 q; clear a3 a4 a5 a6 a7; omega
  · rcases Nat.lt_trichotomy i d with r | r | r
    · have := a5 q r; clear a3 a4 a5 a6 a7; omega
    · exact r
    · have := a7 q r; clear a3 a4 a5 a6 a7; omega

/-- .. and with one answer turned they aren't. -/
theorem shape_turned {x x' : List CallR} {p d i : Nat} {c : Int} (h : Shape x p d) (hi : i < x.length) (hl : x'.length = x.length) (ho : ∀ j, j ≠ i → x'.getD j dC = x.getD j dC)
    (hx : x'.getD i dC = { x.getD i dC with cd := c }) (hne : c ≠ (x.getD i dC).cd) (ht : told (x'.getD i dC) ≠ 0)
    (h1 : ¬ ((x.getD i dC).op = 1 ∧ (x.getD i dC).cd = 0)) (h4 : ¬ ((x.getD i dC).op = 4 ∧ (x.getD i dC).cd = 0)) : ¬ Lin x' := by
  obtain ⟨hp, hd, hpd, hlt, hat⟩ := h
  have hai := hat i hi
  have hi' : i < x'.length := by rw [hl]; exact hi
  obtain ⟨ho', hbe, htr⟩ := told_of rfl ht
  have htr : toldR (x.getD i dC).op c = told (x'.getD i dC) := by rw [← htr, hx]
  have hbg : (x'.getD i dC).bg = 2 * (i : Int) + 1 := by rw [hx]; exact hai.1
  have hen : (x'.getD i dC).en = 2 * (i : Int) + 2 := by rw [hx]; exact hai.2.1
  have hopx : (x'.getD i dC).op = (x.getD i dC).op := by rw [hx]
  have hckx : (x'.getD i dC).ck = (x.getD i dC).ck := by rw [hx]
  have hcdx : (x'.getD i dC).cd = c := by rw [hx]
  have hnopen : ∀ j, j < x'.length → opn (x'.getD j dC) = false := by
    intro j hj
    by_cases e : j = i
    · rw [e]; exact ho'
    · rw [ho j e]; exact (hat j (hl ▸ hj)).told.2
  have hput : p < x.length → p ≠ i := fun hpl e => h1 (by rw [← e]; exact (hat p hpl).2.2.2.1 rfl)
  have hpl' : d < x.length → p < x.length := fun hdl => Decidable.byContradiction fun e => by
    have := hpd (Nat.le_antisymm hp (Nat.le_of_not_lt e))
    rw [this] at hdl
    exact Nat.lt_irrefl _ hdl
  have hdf : d < x.length → (x.getD d dC).op = 4 ∧ (x.getD d dC).cd = 0 := fun hdl => by
    obtain ⟨q1, -, q3⟩ := (hat d hdl).2.2.2.2.2.1 (hlt (hpl' hdl)) rfl
    exact ⟨q1, q3⟩
  have hdel : d < x.length → d ≠ i := fun hdl e => h4 (by rw [← e]; exact hdf hdl)
  have hp4 : p < x.length → told (x'.getD p dC) = 4 := fun hpl => by
    rw [ho p (hput hpl), (hat p hpl).told.1, toldR_put]; exact (hat p hpl).2.2.2.1 rfl
  have hd5 : d < x.length → told (x'.getD d dC) = 5 := fun hdl => by
    rw [ho d (hdel hdl), (hat d hdl).told.1, toldR_del]
    exact hdf hdl
  have only4 : ∀ j, j < x.length → told (x'.getD j dC) = 4 → j = i ∨ j = p := by
    intro j hj h
    by_cases e : j = i
    · exact .inl e
    · rw [ho j e, (hat j hj).told.1, toldR_put] at h
      exact .inr ((hat j hj).put h.1 h.2)
  have only5 : ∀ j, j < x.length → told (x'.getD j dC) = 5 → j = i ∨ j = d := by
    intro j hj h
    by_cases e : j = i
    · exact .inl e
    · rw [ho j e, (hat j hj).told.1, toldR_del] at h
      exact .inr ((hat j hj).del h.1 h.2)
  intro hlin
  have key : ∀ (p' : Nat) (e : Int), p' < x.length → told (x'.getD p' dC) = 4 → (e = -1 ∨ ∃ m : Nat, e = m ∧ m < x.length ∧ told (x'.getD m dC) = 5) → ¬ Pts x' p' e := by
    intro p' e hp' ht' he ⟨kc, X, Y, hXY, kb, kh, kd, kn, ok⟩
    have oki := ok i hi'
    obtain ⟨a1, a2, a3, a4, a5, a6, a7⟩ := hai
    have hpp : p' = p := by
      rcases only4 p' hp' ht' with q | q
      · subst q
        rw [← htr, toldR_put] at ht'
        rcases Nat.lt_trichotomy p' p with q | q | q
        · have := (a3 q).1
          rw [ht'.1] at this
          exact absurd this (by decide)
        · exact q
        · have hpx := Nat.lt_trans q hi
          exact ((ok p (hl ▸ hpx)).1 (hp4 hpx)).symm
      · exact q
    subst hpp
    have hpd' := hlt hp'
    have hne' := hput hp'
    have hbgp : (x'.getD p' dC).bg = 2 * (p' : Int) + 1 := by rw [ho p' hne']; exact (hat p' hp').1
    have hhip : Hst.hi (x'.getD p' dC) = 2 * (p' : Int) + 2 := by unfold Hst.hi; rw [hnopen p' (hl ▸ hp'), ho p' hne', (hat p' hp').2.1]; rfl
    have hckp : (x'.getD p' dC).ck = (x.getD p' dC).ck := by rw [ho p' hne']
    rw [hbgp] at kb
    rw [hhip] at kh
    have hdd : d < x.length → e = d ∧ 2 * (d : Int) + 1 ≤ Y ∧ Y ≤ 2 * (d : Int) + 2 := by
      intro hdl
      have e1 := (ok d (hl ▸ hdl)).2.1 (hd5 hdl)
      have e2 := kd (by rw [← e1]; exact Int.natCast_nonneg _)
      rw [← e1, Int.toNat_natCast] at e2
      have hne2 := hdel hdl
      have e3 : (x'.getD d dC).bg = 2 * (d : Int) + 1 := by rw [ho d hne2]; exact (hat d hdl).1
      have e4 : Hst.hi (x'.getD d dC) = 2 * (d : Int) + 2 := by unfold Hst.hi; rw [hnopen d (hl ▸ hdl), ho d hne2, (hat d hdl).2.1]; rfl
      rw [e3, e4] at e2
      exact ⟨e1.symm, e2⟩
    have hnd : d = x.length → e = -1 ∨ (e = (i : Int) ∧ told (x'.getD i dC) = 5) := by
      intro hdl
      rcases he with he | ⟨m, he, hm, h5⟩
      · exact .inl he
      · rcases only5 m hm h5 with q | q
        · exact .inr ⟨by rw [he, q], by rw [← q]; exact h5⟩
        · rw [q, hdl] at hm
          exact absurd hm (Nat.lt_irrefl _)
    have hYi : e = (i : Int) → Y ≤ 2 * (i : Int) + 2 := by
      intro e1
      have e2 := (kd (by rw [e1]; exact Int.natCast_nonneg _)).2
      have e4 : Hst.hi (x'.getD i dC) = 2 * (i : Int) + 2 := by unfold Hst.hi; rw [ho', hen]; rfl
      rw [e1, Int.toNat_natCast, e4] at e2
      exact e2
    have hcki : e = (i : Int) → (x.getD i dC).ck = (x.getD p' dC).ck := by
      intro e1
      have e2 := kc (by rw [e1]; exact Int.natCast_nonneg _)
      rw [e1, Int.toNat_natCast, hckx, hckp] at e2
      exact e2
    obtain ⟨o4, o5, o3, o1, o2⟩ := oki
    rw [← htr, toldR_put] at o4
    rw [← htr, toldR_del] at o5
    rw [← htr, toldR_over, hen] at o3
    rw [← htr, toldR_none, hbg] at o1
    rw [← htr, toldR_full, hbg, hen] at o2
    rw [← htr, toldR_del] at hnd
    have hnz : toldR (x.getD i dC).op c ≠ 0 := by rw [htr]; exact ht
    have hfit := fun h => (o2 h).1
    unfold fits at hfit
    rw [hopx, hcdx, hckx, hckp] at hfit
    refine turned_core (op := (x.getD i dC).op) (cd := (x.getD i dC).cd) (c := c) (ck := (x.getD i dC).ck) (ckp := (x.getD p' dC).ck) hi hne hXY hp' hpd' hd (toldR_nz hnz) a3 hne'.symm (fun q r => ?_) (fun q => ?_) a7 (fun h => hne' (o4 h).symm)
      (fun h => ⟨(o5 h).symm, hcki (o5 h).symm, hYi (o5 h).symm⟩) o3 o1 (fun h => (o2 h).2) (fun h => ?_) (fun h => ?_) kb kh hdd hnd
    · rcases a5 q r with s | s | s
      · exact .inl s
      · exact .inr (.inl s)
      · exact .inr (.inr ⟨s.1, s.2.1, s.2.2.1⟩)
    · exact hdel (q ▸ hi) q.symm
    · have := hfit (.inr (.inl h))
      rw [if_neg (by rw [h.1]; decide), if_neg (by rw [h.2]; decide), if_pos h.1, Bool.and_eq_true, decide_eq_true_eq] at this
      exact this.1
    · have := hfit (.inr (.inr h))
      rw [if_neg (by rcases h.1 with h | h <;> rw [h] <;> decide), if_pos h.2, decide_eq_true_eq] at this
      exact this
  rcases hlin with hlin | ⟨p', hp', hm, hlin⟩
  · by_cases hpl : p < x.length
    · have h2 := hlin p (hl ▸ hpl)
      rw [hp4 hpl] at h2
      exact absurd h2 (by decide)
    · have h3 := hai.2.2.1 (Nat.lt_of_lt_of_le hi (Nat.le_of_not_lt hpl))
      have h2 := hlin i hi'
      have h5 : told (x'.getD i dC) = 1 := by clear hat; omega
      rw [← htr, toldR_none] at h5
      exact hne (by rw [h5.2, h3.2])
  · rw [mayP_iff, hnopen p' hp'] at hm
    have hm4 : told (x'.getD p' dC) = 4 := hm.2.resolve_right (fun h => by cases h)
    rcases hlin with hlin | ⟨d', hd', hm2, hlin⟩
    · exact key p' (-1) (hl ▸ hp') hm4 (.inl rfl) hlin
    · rw [mayP_iff, hnopen d' hd'] at hm2
      have hm5 : told (x'.getD d' dC) = 5 := hm2.2.resolve_right (fun h => by cases h)
      exact key p' d' (hl ▸ hp') hm4 (.inr ⟨d', rfl, hl ▸ hd', hm5⟩) hlin

end Go.Proofs.Ytboadalojimdlaa.Hst
