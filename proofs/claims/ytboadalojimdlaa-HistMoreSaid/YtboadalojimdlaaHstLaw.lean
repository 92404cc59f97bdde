/-
  Histories: what the statements ask, plainly.
-/
import Derived.Test.YtboadalojimdlaaHst
namespace Go.Proofs.Ytboadalojimdlaa.Hst
open Go.RowKit

/-! Counting. -/
def cnt (f : CallR → Bool) (l : List CallR) : Nat → Nat
  | 0 => 0
  | i + 1 => cnt f l i + if f (l.getD i dC) = true then 1 else 0
theorem cnt_pos {f : CallR → Bool} {l : List CallR} {k : Nat} (h : 0 < cnt f l k) : ∃ i, i < k ∧ f (l.getD i dC) = true := by
  induction k with
  | zero => simp [cnt] at h
  | succ k ih =>
    by_cases e : f (l.getD k dC) = true
    · exact ⟨k, by omega, e⟩
    · rw [cnt, if_neg e] at h
      obtain ⟨i, hi, hf⟩ := ih (by omega)
      exact ⟨i, by omega, hf⟩
theorem cnt_two {f : CallR → Bool} {l : List CallR} {k : Nat} (h : 1 < cnt f l k) : ∃ i j, i < j ∧ j < k ∧ f (l.getD i dC) = true ∧ f (l.getD j dC) = true := by
  induction k with
  | zero => simp [cnt] at h
  | succ k ih =>
    by_cases e : f (l.getD k dC) = true
    · rw [cnt, if_pos e] at h
      obtain ⟨i, hi, hf⟩ := cnt_pos (show 0 < cnt f l k by omega)
      exact ⟨i, k, hi, by omega, hf, e⟩
    · rw [cnt, if_neg e] at h
      obtain ⟨i, j, hij, hj, hf⟩ := ih (by omega)
      exact ⟨i, j, hij, by omega, hf⟩
theorem cnt_none {f : CallR → Bool} {l : List CallR} {k : Nat} (h : cnt f l k = 0) : ∀ i, i < k → f (l.getD i dC) = false := by
  induction k with
  | zero => intro i hi; omega
  | succ k ih =>
    intro i hi
    rw [cnt] at h
    by_cases e : f (l.getD k dC) = true
    · rw [if_pos e] at h; omega
    · rw [if_neg e] at h
      by_cases hik : i = k
      · rw [hik]; simpa using e
      · exact ih (by omega) i (by omega)
theorem cnt_le (f : CallR → Bool) (l : List CallR) (k : Nat) : cnt f l k ≤ k := by
  induction k with
  | zero => exact Nat.le_refl _
  | succ k ih => rw [cnt]; split <;> omega

def isPut (c : CallR) : Bool := decide (told c = 4)
def isDel (c : CallR) : Bool := decide (told c = 5)
def isAsk (c : CallR) : Bool := decide (2 ≤ told c)
def isMay (c : CallR) : Bool := decide (c.op = 1) && (decide (told c = 4) || opn c)

theorem told_le (c : CallR) : told c ≤ 5 := by
  unfold told toldR
  repeat' split
  all_goals omega
theorem told_of {c : CallR} {k : Nat} (h : told c = k) (hk : k ≠ 0) : opn c = false ∧ c.bg ≤ c.en ∧ toldR c.op c.cd = k := by
  unfold told at h
  split at h
  · omega
  · next h' =>
    have h1 : ¬ opn c = true := fun e => h' (.inl e)
    exact ⟨by simpa using h1, Int.not_lt.1 (fun e => h' (.inr e)), h⟩
theorem told_make {c : CallR} (h1 : opn c = false) (h2 : c.bg ≤ c.en) : told c = toldR c.op c.cd := by
  unfold told
  rw [if_neg]
  rw [h1]
  intro h
  rcases h with h | h
  · cases h
  · omega
theorem toldR_put {op cd : Int} : toldR op cd = 4 ↔ op = 1 ∧ cd = 0 := by
  unfold toldR
  repeat' split
  all_goals omega
theorem toldR_del {op cd : Int} : toldR op cd = 5 ↔ op = 4 ∧ cd = 0 := by
  unfold toldR
  repeat' split
  all_goals omega
theorem toldR_over {op cd : Int} : toldR op cd = 3 ↔ (op = 1 ∨ op = 3 ∨ op = 4) ∧ cd = 7 := by
  unfold toldR
  repeat' split
  all_goals omega
theorem toldR_none {op cd : Int} : toldR op cd = 1 ↔ (op = 3 ∨ op = 4) ∧ cd = 6 := by
  unfold toldR
  repeat' split
  all_goals omega
theorem toldR_full {op cd : Int} : toldR op cd = 2 ↔ (op = 1 ∧ cd = 8) ∨ (op = 3 ∧ cd = 0) ∨ ((op = 3 ∨ op = 4) ∧ cd = 9) := by
  unfold toldR
  repeat' split
  all_goals omega

theorem two_puts {l : List CallR} {i j : Nat} (hij : i < j) (hj : j < l.length) (h1 : told (l.getD i dC) = 4) (h2 : told (l.getD j dC) = 4) : ¬ Lin l := by
  intro h
  rcases h with h | ⟨p, -, -, h | ⟨d, -, -, h⟩⟩
  · have := h i (by omega); omega
  · obtain ⟨-, x, y, -, -, -, -, -, ho⟩ := h
    have a := (ho i (by omega)).1 h1
    have b := (ho j hj).1 h2
    omega
  · obtain ⟨-, x, y, -, -, -, -, -, ho⟩ := h
    have a := (ho i (by omega)).1 h1
    have b := (ho j hj).1 h2
    omega
theorem two_dels {l : List CallR} {i j : Nat} (hij : i < j) (hj : j < l.length) (h1 : told (l.getD i dC) = 5) (h2 : told (l.getD j dC) = 5) : ¬ Lin l := by
  intro h
  rcases h with h | ⟨p, -, -, h | ⟨d, -, -, h⟩⟩
  · have := h i (by omega); omega
  · obtain ⟨-, x, y, -, -, -, -, -, ho⟩ := h
    have a := (ho i (by omega)).2.1 h1
    have b := (ho j hj).2.1 h2
    omega
  · obtain ⟨-, x, y, -, -, -, -, -, ho⟩ := h
    have a := (ho i (by omega)).2.1 h1
    have b := (ho j hj).2.1 h2
    omega
theorem mayP_eq (l : List CallR) (i : Nat) : mayP l 1 4 i = isMay (l.getD i dC) := rfl

theorem ends_false {l : List CallR} (h : 1 < cnt isPut l l.length ∨ 1 < cnt isDel l l.length ∨ (0 < cnt isAsk l l.length ∧ cnt isMay l l.length = 0)) : linear l = false := by
  apply linear_false
  rcases h with h | h | ⟨h, h0⟩
  · obtain ⟨i, j, hij, hj, h1, h2⟩ := cnt_two h
    exact two_puts hij hj (of_decide_eq_true h1) (of_decide_eq_true h2)
  · obtain ⟨i, j, hij, hj, h1, h2⟩ := cnt_two h
    exact two_dels hij hj (of_decide_eq_true h1) (of_decide_eq_true h2)
  · intro hl
    rcases hl with hl | ⟨p, hp, hm, -⟩
    · obtain ⟨i, hi, hf⟩ := cnt_pos h
      have := hl i hi
      have := of_decide_eq_true hf
      omega
    · have := cnt_none h0 p hp
      rw [mayP_eq, this] at hm
      cases hm
theorem ends_true {l : List CallR} (h : cnt isAsk l l.length = 0) : linear l = true := by
  rw [linear_iff]
  left
  intro i hi
  have := cnt_none h i hi
  unfold isAsk at this
  have := of_decide_eq_false this
  omega

/-! Lists of which one tells no more than the other. -/
/-- c' asks no more than c. -/
def Less (c c' : CallR) : Prop := c'.op = c.op ∧ c'.ck = c.ck ∧ c'.cd = c.cd ∧ c'.dl = c.dl ∧ c'.gl = c.gl ∧ c'.bg = c.bg ∧ opn c' = opn c ∧ told c' = told c ∧ c.en ≤ c'.en ∧ hi c ≤ hi c'
theorem Less.refl (c : CallR) : Less c c := ⟨rfl, rfl, rfl, rfl, rfl, rfl, rfl, rfl, Int.le_refl _, Int.le_refl _⟩
theorem Less.fits {c c' b b' : CallR} (h : Less c c') (hb : Less b b') : Hst.fits c' b' = Hst.fits c b := by
  obtain ⟨h1, h2, h3, -, h5, -⟩ := h
  obtain ⟨-, k2, -, k4, -⟩ := hb
  unfold Hst.fits
  rw [h1, h2, h3, h5, k2, k4]

theorem pts_map {l l' : List CallR} (f g : Nat → Nat) (hf : ∀ i, i < l'.length → told (l'.getD i dC) = 0 ∨ (f i < l.length ∧ Less (l.getD (f i) dC) (l'.getD i dC) ∧ g (f i) = i))
    (hg : ∀ i, i < l.length → g i < l'.length ∧ Less (l.getD i dC) (l'.getD (g i) dC)) {p : Nat} (hp : p < l.length) {d d' : Int} (hd : (d = -1 ∧ d' = -1) ∨ ∃ m : Nat, d = m ∧ d' = g m ∧ m < l.length) (h : Pts l p d) : Pts l' (g p) d' := by
  obtain ⟨hc, x, y, hxy, a, b, c, e, ho⟩ := h
  obtain ⟨p1, p2, p3, p4, p5, p6, p7, p8, p9, p10⟩ := (hg p hp).2
  refine ⟨?_, x, y, hxy, by rw [p6]; exact a, by omega, ?_, by intro h0; exact e (by rcases hd with h | ⟨m, h1, h2, _⟩ <;> omega), ?_⟩
  · intro h0
    rcases hd with h | ⟨m, rfl, rfl, hm⟩
    · omega
    · have := (hg m hm).2.2.1
      have hc := hc (by omega)
      rw [Int.toNat_natCast] at hc ⊢
      rw [this, p2, hc]
  · intro h0
    rcases hd with h | ⟨m, rfl, rfl, hm⟩
    · omega
    · obtain ⟨-, -, -, -, -, q6, -, -, -, q10⟩ := (hg m hm).2
      have c := c (by omega)
      rw [Int.toNat_natCast] at c ⊢
      rw [q6]
      omega
  · intro i hi
    rcases hf i hi with h0 | ⟨h1, h2, h3⟩
    · unfold okC; rw [h0]; exact ⟨by omega, by omega, by omega, by omega, by omega⟩
    · obtain ⟨o4, o5, o3, o1, o2⟩ := ho _ h1
      have hfit := h2.fits (hg p hp).2
      obtain ⟨q1, q2, q3, q4, q5, q6, q7, q8, q9, q10⟩ := h2
      unfold okC
      rw [q8, hfit, q6]
      refine ⟨fun h => by rw [← o4 h, h3], fun h => ?_, fun h => ?_, o1, fun h => ?_⟩
      · have := o5 h
        rcases hd with h | ⟨m, rfl, rfl, hm⟩
        · omega
        · have : f i = m := by omega
          rw [← this, h3]
      · have := o3 h
        rcases hd with h | ⟨m, rfl, rfl, hm⟩ <;> omega
      · have := o2 h
        exact ⟨this.1, by omega, this.2.2⟩

theorem lin_map {l l' : List CallR} (f g : Nat → Nat) (hf : ∀ i, i < l'.length → told (l'.getD i dC) = 0 ∨ (f i < l.length ∧ Less (l.getD (f i) dC) (l'.getD i dC) ∧ g (f i) = i))
    (hg : ∀ i, i < l.length → g i < l'.length ∧ Less (l.getD i dC) (l'.getD (g i) dC)) (h : Lin l) : Lin l' := by
  rcases h with h | ⟨p, hp, hm, h⟩
  · left
    intro i hi
    rcases hf i hi with h0 | ⟨h1, h2, -⟩
    · omega
    · have := h _ h1
      obtain ⟨-, -, -, -, -, -, -, q8, -⟩ := h2
      omega
  · right
    have hmap : ∀ op t i, i < l.length → mayP l op t i = true → mayP l' op t (g i) = true := by
      intro op t i hi hm
      obtain ⟨q1, -, -, -, -, -, q7, q8, -⟩ := (hg i hi).2
      rw [mayP_iff] at hm ⊢
      rw [q1, q7, q8]
      exact hm
    refine ⟨g p, (hg p hp).1, hmap _ _ _ hp hm, ?_⟩
    rcases h with h | ⟨d, hd, hm2, h⟩
    · exact .inl (pts_map f g hf hg hp (.inl ⟨rfl, rfl⟩) h)
    · exact .inr ⟨g d, (hg d hd).1, hmap _ _ _ hd hm2, pts_map f g hf hg hp (.inr ⟨d, rfl, rfl, hd⟩) h⟩

theorem getD_append_lt {l : List CallR} {c : CallR} {i : Nat} (h : i < l.length) : (l ++ [c]).getD i dC = l.getD i dC := by
  rw [List.getD, List.getD, List.getElem?_append_left h]
theorem getD_append_eq {l : List CallR} {c : CallR} : (l ++ [c]).getD l.length dC = c := by
  rw [List.getD, List.getElem?_append_right (Nat.le_refl _), Nat.sub_self]; rfl

/-- One open call more. -/
theorem lin_open {l : List CallR} {c : CallR} (h0 : told c = 0) (h : Lin l) : Lin (l ++ [c]) := by
  refine lin_map id id ?_ ?_ h
  · intro i hi
    by_cases e : i < l.length
    · exact .inr ⟨e, by rw [getD_append_lt e]; exact Less.refl _, rfl⟩
    · rw [List.length_append, List.length_singleton] at hi
      obtain rfl : i = l.length := by omega
      rw [getD_append_eq]
      exact .inl h0
  · intro i hi
    exact ⟨by rw [List.length_append]; exact Nat.lt_add_right _ hi, by rw [id, getD_append_lt hi]; exact Less.refl _⟩

/-- Another order. -/
theorem lin_turn {l l' : List CallR} {n : Nat} (hl : l.length = n) (hl' : l'.length = n) (f g : Nat → Nat) (hf : ∀ i, i < n → f i < n ∧ l'.getD i dC = l.getD (f i) dC ∧ g (f i) = i) (hg : ∀ i, i < n → g i < n ∧ f (g i) = i) : Lin l ↔ Lin l' := by
  have hg' : ∀ i, i < n → l'.getD (g i) dC = l.getD i dC := fun i hi => by rw [(hf _ (hg i hi).1).2.1, (hg i hi).2]
  constructor
  · refine lin_map f g ?_ ?_
    · intro i hi
      obtain ⟨a, b, c⟩ := hf i (by omega)
      exact .inr ⟨by omega, by rw [b]; exact Less.refl _, c⟩
    · intro i hi
      obtain ⟨a, b⟩ := hg i (by omega)
      exact ⟨by omega, by rw [hg' i (by omega)]; exact Less.refl _⟩
  · refine lin_map g f ?_ ?_
    · intro i hi
      obtain ⟨a, b⟩ := hg i (by omega)
      exact .inr ⟨by omega, by rw [hg' i (by omega)]; exact Less.refl _, b⟩
    · intro i hi
      obtain ⟨a, b, c⟩ := hf i (by omega)
      exact ⟨by omega, by rw [b]; exact Less.refl _⟩

theorem rot_mod {n by' i : Nat} (hi : i < n) : (((i + by') % n) + (n - by' % n)) % n = i := by
  have hn : 0 < n := by omega
  have h1 := Nat.mod_lt by' hn
  have h2 : (i + by') % n = (i + by' % n) % n := by rw [Nat.add_mod, Nat.mod_eq_of_lt hi]
  rw [h2]
  by_cases e : i + by' % n < n
  · rw [Nat.mod_eq_of_lt e, show i + by' % n + (n - by' % n) = i + n from by omega, Nat.add_mod_right, Nat.mod_eq_of_lt hi]
  · have e2 : (i + by' % n) % n = i + by' % n - n := by rw [Nat.mod_eq_sub_mod (by omega), Nat.mod_eq_of_lt (by omega)]
    rw [e2, show i + by' % n - n + (n - by' % n) = i from by omega, Nat.mod_eq_of_lt hi]
theorem rot_mod2 {n by' i : Nat} (hi : i < n) : ((i + (n - by' % n)) % n + by') % n = i := by
  have hn : 0 < n := by omega
  rw [Nat.mod_add_mod, show i + (n - by' % n) + by' = i + by' + (n - by' % n) from by omega]
  rw [← Nat.mod_add_mod, rot_mod hi]

/-- The list turned. -/
theorem lin_rot {l l' : List CallR} {n by' : Nat} (hl : l.length = n) (hl' : l'.length = n) (h : ∀ i, i < n → l'.getD i dC = l.getD ((i + by') % n) dC) : Lin l ↔ Lin l' :=
  lin_turn hl hl' (fun i => (i + by') % n) (fun i => (i + (n - by' % n)) % n) (fun i hi => ⟨Nat.mod_lt _ (by omega), h i hi, rot_mod hi⟩) (fun i hi => ⟨Nat.mod_lt _ (by omega), rot_mod2 hi⟩)

/-- Ends put off. -/
theorem lin_off {l l' : List CallR} (hl : l'.length = l.length) (h : ∀ i, i < l.length → Less (l.getD i dC) (l'.getD i dC)) (hlin : Lin l) : Lin l' :=
  lin_map id id (fun i hi => .inr ⟨by simp only [id]; omega, h i (by omega), rfl⟩) (fun i hi => ⟨by simp only [id]; omega, h i hi⟩) hlin

/-- Later by one number. -/
def Later (b : Int) (c c' : CallR) : Prop := c'.op = c.op ∧ c'.ck = c.ck ∧ c'.cd = c.cd ∧ c'.dl = c.dl ∧ c'.gl = c.gl ∧ c'.bg = c.bg + b ∧ c'.en = (if 0 < c.en then c.en + b else c.en) ∧ 0 ≤ c.bg ∧ 0 ≤ c.en ∧ c.bg ≤ 1099511627776 ∧ c.en ≤ 1099511627776
theorem Later.opn {b : Int} {c c' : CallR} (hb : 0 ≤ b) (h : Later b c c') : opn c' = opn c := by
  obtain ⟨-, -, h3, -, -, -, h7, -, h9, -⟩ := h
  unfold Hst.opn
  rw [h3, h7]
  congr 1
  split
  · apply propext; constructor <;> (intro h; rcases h with h | h; · omega
                                    · exact .inr h)
  · rfl
theorem Later.told {b : Int} {c c' : CallR} (hb : 0 ≤ b) (h : Later b c c') : told c' = told c := by
  have ho := h.opn hb
  obtain ⟨h1, -, h3, -, -, h6, h7, h8, h9, -⟩ := h
  unfold Hst.told
  rw [ho, h1, h3, h6, h7]
  cases e : Hst.opn c with
  | true => rw [if_pos (.inl rfl), if_pos (.inl rfl)]
  | false =>
    have : 0 < c.en := by
      unfold Hst.opn at e
      have := of_decide_eq_false e
      have : ¬ c.en = 0 := fun h => this (.inl h)
      omega
    rw [if_pos this]
    congr 1
    apply propext
    constructor <;> (intro h; rcases h with h | h; · exact .inl h
                     · exact .inr (by omega))
theorem Later.fits {e : Int} {c c' b b' : CallR} (h : Later e c c') (hb : Later e b b') : Hst.fits c' b' = Hst.fits c b := by
  obtain ⟨h1, h2, h3, -, h5, -⟩ := h
  obtain ⟨-, k2, -, k4, -⟩ := hb
  unfold Hst.fits
  rw [h1, h2, h3, h5, k2, k4]
theorem Later.hi {b : Int} {c c' : CallR} (hb : 0 ≤ b) (h : Later b c c') : Hst.hi c' = (if Hst.opn c = true then 9223372036854775807 else c.en + b) ∧ Hst.hi c = (if Hst.opn c = true then 9223372036854775807 else c.en) := by
  have ho := h.opn hb
  obtain ⟨-, -, -, -, -, -, h7, -, h9, -⟩ := h
  unfold Hst.hi
  rw [ho]
  refine ⟨?_, rfl⟩
  cases e : Hst.opn c with
  | true => rfl
  | false =>
    have : 0 < c.en := by
      unfold Hst.opn at e
      have := of_decide_eq_false e
      have : ¬ c.en = 0 := fun h => this (.inl h)
      omega
    rw [h7, if_pos this]
theorem Later.fin {b : Int} {c c' : CallR} (h : Later b c c') (ht : Hst.told c ≠ 0) : c'.en = c.en + b := by
  have := (told_of rfl ht).1
  obtain ⟨-, -, -, -, -, -, h7, -, h9, -⟩ := h
  unfold Hst.opn at this
  have := of_decide_eq_false this
  have : ¬ c.en = 0 := fun h => this (.inl h)
  rw [h7, if_pos (by omega)]

theorem pts_later {l l' : List CallR} {b : Int} (hb : 0 ≤ b) (hb2 : b ≤ 255) (hl : l'.length = l.length) (h : ∀ i, i < l.length → Later b (l.getD i dC) (l'.getD i dC)) {p : Nat} (hp : p < l.length) {d : Int} (hd : d = -1 ∨ ∃ m : Nat, d = m ∧ m < l.length) : Pts l p d ↔ Pts l' p d := by
  have hcap : ∀ i, i < l.length → (l.getD i dC).bg ≤ 1099511627776 ∧ 0 ≤ (l.getD i dC).bg ∧ (l'.getD i dC).bg = (l.getD i dC).bg + b := fun i hi => by
    obtain ⟨-, -, -, -, -, h6, -, h8, h9, h10, h11⟩ := h i hi
    exact ⟨h10, h8, h6⟩
  have hhi : ∀ i, i < l.length → _ := fun i hi => (h i hi).hi hb
  have hck : ∀ i, i < l.length → (l'.getD i dC).ck = (l.getD i dC).ck := fun i hi => (h i hi).2.1
  constructor
  · intro ⟨hc, x, y, hxy, a, bb, c, e, ho⟩
    refine ⟨fun h0 => ?_, min x 1099511627776 + b, min y 1099511627776 + b, by omega, ?_, ?_, fun h0 => ?_, fun h0 => ?_, fun i hi => ?_⟩
    · rcases hd with hd | ⟨m, rfl, hm⟩
      · omega
      · have hc := hc h0
        rw [Int.toNat_natCast] at hc ⊢
        rw [hck m hm, hck p hp, hc]
    · have := hcap p hp; omega
    · obtain ⟨k1, k2⟩ := hhi p hp
      rw [k1]
      rw [k2] at bb
      split at bb
      · next q => rw [if_pos q]; omega
      · next q => rw [if_neg q]; omega
    · rcases hd with hd | ⟨m, rfl, hm⟩
      · omega
      · have c := c h0
        obtain ⟨k1, k2⟩ := hhi m hm
        rw [Int.toNat_natCast] at c ⊢
        have := hcap m hm
        rw [k1]
        rw [k2] at c
        obtain ⟨c1, c2⟩ := c
        refine ⟨by omega, ?_⟩
        split at c2
        · next q => rw [if_pos q]; omega
        · next q => rw [if_neg q]; omega
    · have := e h0; omega
    · obtain ⟨o4, o5, o3, o1, o2⟩ := ho i (by omega)
      have hi' : i < l.length := by omega
      have hfit := (h i hi').fits (h p hp)
      have hend := (h i hi').fin
      have := hcap i hi'
      unfold okC
      rw [(h i hi').told hb, hfit]
      refine ⟨o4, o5, fun q => ?_, fun q => ?_, fun q => ?_⟩
      · have := o3 q; have := hend (by omega); omega
      · have := o1 q; omega
      · have := o2 q; have := hend (by omega); exact ⟨(o2 q).1, by omega, by omega⟩
  · intro ⟨hc, x, y, hxy, a, bb, c, e, ho⟩
    refine ⟨fun h0 => ?_, x - b, y - b, by omega, ?_, ?_, fun h0 => ?_, fun h0 => ?_, fun i hi => ?_⟩
    · rcases hd with hd | ⟨m, rfl, hm⟩
      · omega
      · have hc := hc h0
        rw [Int.toNat_natCast] at hc ⊢
        rw [hck m hm, hck p hp] at hc
        exact hc
    · have := hcap p hp; omega
    · obtain ⟨k1, k2⟩ := hhi p hp
      rw [k1] at bb
      rw [k2]
      split at bb
      · next q => rw [if_pos q]; omega
      · next q => rw [if_neg q]; omega
    · rcases hd with hd | ⟨m, rfl, hm⟩
      · omega
      · have c := c h0
        obtain ⟨k1, k2⟩ := hhi m hm
        rw [Int.toNat_natCast] at c ⊢
        have := hcap m hm
        rw [k1] at c
        rw [k2]
        obtain ⟨c1, c2⟩ := c
        refine ⟨by omega, ?_⟩
        split at c2
        · next q => rw [if_pos q]; omega
        · next q => rw [if_neg q]; omega
    · have := e h0; have := hcap p hp; omega
    · obtain ⟨o4, o5, o3, o1, o2⟩ := ho i (by omega)
      have hfit := (h i hi).fits (h p hp)
      have hend := (h i hi).fin
      have := hcap i hi
      rw [(h i hi).told hb] at o4 o5 o3 o1 o2
      rw [hfit] at o2
      refine ⟨o4, o5, fun q => ?_, fun q => ?_, fun q => ?_⟩
      · have := o3 q; have := hend (by omega); omega
      · have := o1 q; omega
      · have := o2 q; have := hend (by omega); exact ⟨(o2 q).1, by omega, by omega⟩

theorem lin_later {l l' : List CallR} {b : Int} (hb : 0 ≤ b) (hb2 : b ≤ 255) (hl : l'.length = l.length) (h : ∀ i, i < l.length → Later b (l.getD i dC) (l'.getD i dC)) : Lin l ↔ Lin l' := by
  have hm : ∀ op t i, i < l.length → (mayP l op t i = true ↔ mayP l' op t i = true) := fun op t i hi => by
    rw [mayP_iff, mayP_iff, (h i hi).told hb, (h i hi).opn hb, (h i hi).1]
  unfold Lin
  rw [hl]
  constructor
  · intro hx
    rcases hx with hx | ⟨p, hp, hmp, hx⟩
    · exact .inl fun i hi => by rw [(h i hi).told hb]; exact hx i hi
    · refine .inr ⟨p, hp, (hm _ _ p hp).1 hmp, ?_⟩
      rcases hx with hx | ⟨d, hd, hmd, hx⟩
      · exact .inl ((pts_later hb hb2 hl h hp (.inl rfl)).1 hx)
      · exact .inr ⟨d, hd, (hm _ _ d hd).1 hmd, (pts_later hb hb2 hl h hp (.inr ⟨d, rfl, hd⟩)).1 hx⟩
  · intro hx
    rcases hx with hx | ⟨p, hp, hmp, hx⟩
    · exact .inl fun i hi => by rw [← (h i hi).told hb]; exact hx i hi
    · refine .inr ⟨p, hp, (hm _ _ p hp).2 hmp, ?_⟩
      rcases hx with hx | ⟨d, hd, hmd, hx⟩
      · exact .inl ((pts_later hb hb2 hl h hp (.inl rfl)).2 hx)
      · exact .inr ⟨d, hd, (hm _ _ d hd).2 hmd, (pts_later hb hb2 hl h hp (.inr ⟨d, rfl, hd⟩)).2 hx⟩

end Go.Proofs.Ytboadalojimdlaa.Hst
