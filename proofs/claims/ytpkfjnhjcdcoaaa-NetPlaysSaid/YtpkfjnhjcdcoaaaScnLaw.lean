/-
  What a scan finds: plain lists.
-/
import Derived.Test.YtpkfjnhjcdcoaaaNdlGet
namespace Go.Proofs.Ytpkfjnhjcdcoaaa

theorem ndGet_len {L : List (BitVec 8)} {key ck : Nat} {g : Bool} {lx : List (BitVec 8)} {all : Nat} (h : ndGet L = (key, ck, g, lx, all, 0)) :
    ¬ L.length < 32 ∧ ¬ ndForm L ∧ all = 32 + nums L 20 4 + padn (nums L 20 4) ∧ all ≤ L.length ∧ nums L 24 4 = (Crc.of (L.take 24 ++ (L.drop 32).take (nums L 20 4))).toNat ∧ nz ((L.drop (32 + nums L 20 4)).take (padn (nums L 20 4))) = false ∧
    key = nums L 8 8 ∧ ck = nums L 16 4 ∧ g = decide (nums L 4 4 = 1) ∧ lx = (L.drop 32).take (nums L 20 4) := by
  unfold ndGet at h
  split at h
  · simp [ndBad] at h
  split at h
  · simp [ndBad] at h
  split at h
  · simp [ndBad] at h
  split at h
  · simp [ndBad] at h
  split at h
  · simp [ndBad] at h
  simp only [Prod.mk.injEq] at h
  obtain ⟨h1, h2, h3, h4, h5, -⟩ := h
  refine ⟨by assumption, by assumption, h5.symm, by omega, by omega, by simp_all, h1.symm, h2.symm, h3.symm, h4.symm⟩
theorem part_local {L M : List (BitVec 8)} {e p k : Nat} (h : M.take e = L.take e) (hp : p + k ≤ e) : (M.drop p).take k = (L.drop p).take k := by
  have h1 : ∀ X : List (BitVec 8), (X.drop p).take k = ((X.take e).drop p).take k := fun X => by
    rw [List.drop_take, List.take_take, show min k (e - p) = k from by omega]
  rw [h1 M, h1 L, h]
theorem ndGet_local {L M : List (BitVec 8)} {key ck : Nat} {g : Bool} {lx : List (BitVec 8)} {all : Nat} (h : ndGet L = (key, ck, g, lx, all, 0)) (hM : M.take all = L.take all) : ndGet M = (key, ck, g, lx, all, 0) := by
  obtain ⟨h1, h2, h3, h4, h5, h6, h7, h8, h9, h10⟩ := ndGet_len h
  have hl : all ≤ M.length := by
    have := congrArg List.length hM
    rw [List.length_take, List.length_take] at this
    omega
  have hn : ∀ p k, p + k ≤ all → nums M p k = nums L p k := fun p k hp => by unfold nums; rw [part_local hM hp]
  have e0 := hn 0 4 (by omega)
  have e4 := hn 4 4 (by omega)
  have e8 := hn 8 8 (by omega)
  have e16 := hn 16 4 (by omega)
  have e20 := hn 20 4 (by omega)
  have e24 := hn 24 4 (by omega)
  have e28 := hn 28 4 (by omega)
  have ef : ¬ ndForm M := by unfold ndForm at h2 ⊢; rw [e0, e4, e28, e20]; exact h2
  have et : M.take 24 = L.take 24 := by simpa using part_local (p := 0) (k := 24) hM (by omega)
  have ed := part_local (p := 32) (k := nums L 20 4) hM (by omega)
  have ez := part_local (p := 32 + nums L 20 4) (k := padn (nums L 20 4)) hM (by omega)
  unfold ndGet
  rw [if_neg (by omega), if_neg ef, e20, if_neg (by omega), e24, et, ed, if_neg (by omega), ez, if_neg (by rw [h6]; decide), e8, e16, e4, ← h3, ← h7, ← h8, ← h9, ← h10]
theorem ndGet_code6 (L : List (BitVec 8)) {key ck : Nat} {g : Bool} {lx : List (BitVec 8)} {all cf : Nat} (hg : ndGet L = (key, ck, g, lx, all, cf)) : (cf = 0 ∨ cf = 3 ∨ cf = 4 ∨ cf = 5) ∧ lx.length ≤ L.length ∧ key < 18446744073709551616 ∧ ck < 4294967296 := by
  have k8 : nums L 8 8 < 256 ^ 8 := nums_lt L 8 8
  have k4 : nums L 16 4 < 256 ^ 4 := nums_lt L 16 4
  unfold ndGet ndBad at hg
  repeat' split at hg
  all_goals
    simp only [Prod.mk.injEq] at hg
    obtain ⟨rfl, rfl, -, rfl, -, rfl⟩ := hg
    refine ⟨by omega, ?_, by omega, by omega⟩
    first
      | (simp only [List.length_nil]; omega)
      | (rw [List.length_take, List.length_drop]; omega)

/-- A needle that was found. -/
structure Fd where
  off : Nat
  sz : Nat
  key : Nat
  ck : Nat
  g : Bool
  l : List (BitVec 8)

/-- A scan: what is found, where it ends, the error there. -/
def scnF (L : List (BitVec 8)) : Nat → Nat → List Fd × Nat × Nat
  | 0, at_ => ([], at_, 0)
  | f + 1, at_ =>
    if at_ < L.length then
      if (ndGet (L.drop at_)).2.2.2.2.2 ≠ 0 then ([], at_, (ndGet (L.drop at_)).2.2.2.2.2)
      else (⟨at_, (ndGet (L.drop at_)).2.2.2.2.1, (ndGet (L.drop at_)).1, (ndGet (L.drop at_)).2.1, (ndGet (L.drop at_)).2.2.1, (ndGet (L.drop at_)).2.2.2.1⟩ :: (scnF L f (at_ + (ndGet (L.drop at_)).2.2.2.2.1)).1, (scnF L f (at_ + (ndGet (L.drop at_)).2.2.2.2.1)).2)
    else ([], at_, 0)
theorem ndGet_all {L : List (BitVec 8)} (h : (ndGet L).2.2.2.2.2 = 0) : 32 ≤ (ndGet L).2.2.2.2.1 ∧ (ndGet L).2.2.2.2.1 ≤ L.length := by
  obtain ⟨⟨key, ck, g, lx, all, cf⟩, hg⟩ : ∃ r, ndGet L = r := ⟨_, rfl⟩
  rw [hg] at h ⊢
  obtain rfl : cf = 0 := h
  obtain ⟨h1, h2, h3, h4, -⟩ := ndGet_len hg
  exact ⟨by show 32 ≤ all; omega, h4⟩
theorem scnF_more (L : List (BitVec 8)) : ∀ (f f' at_ : Nat), L.length - at_ ≤ f → L.length - at_ ≤ f' → scnF L f at_ = scnF L f' at_
  | 0, 0, _, _, _ => rfl
  | 0, f' + 1, at_, h, _ => by
    rw [show scnF L 0 at_ = ([], at_, 0) from rfl, scnF, if_neg (by omega)]
  | f + 1, 0, at_, _, h => by
    rw [show scnF L 0 at_ = ([], at_, 0) from rfl, scnF, if_neg (by omega)]
  | f + 1, f' + 1, at_, h, h' => by
    rw [scnF, scnF]
    by_cases hl : at_ < L.length
    · rw [if_pos hl, if_pos hl]
      by_cases hc : (ndGet (L.drop at_)).2.2.2.2.2 ≠ 0
      · rw [if_pos hc, if_pos hc]
      · rw [if_neg hc, if_neg hc]
        have ha := ndGet_all (L := L.drop at_) (by omega)
        rw [scnF_more L f f' _ (by omega) (by omega)]
    · rw [if_neg hl, if_neg hl]
def scn (L : List (BitVec 8)) (at_ : Nat) : List Fd × Nat × Nat := scnF L (L.length - at_) at_
theorem scn_end {L : List (BitVec 8)} {at_ : Nat} (h : ¬ at_ < L.length) : scn L at_ = ([], at_, 0) := by
  unfold scn
  rw [show L.length - at_ = 0 from by omega]
  rfl
theorem scn_bad {L : List (BitVec 8)} {at_ : Nat} (h : at_ < L.length) {key ck : Nat} {g : Bool} {lx : List (BitVec 8)} {all cf : Nat} (hg : ndGet (L.drop at_) = (key, ck, g, lx, all, cf)) (hc : cf ≠ 0) : scn L at_ = ([], at_, cf) := by
  unfold scn
  obtain ⟨f, hf⟩ : ∃ f, L.length - at_ = f + 1 := ⟨L.length - at_ - 1, by omega⟩
  rw [hf, scnF, if_pos h, hg, if_pos hc]
theorem scn_next {L : List (BitVec 8)} {at_ : Nat} (h : at_ < L.length) {key ck : Nat} {g : Bool} {lx : List (BitVec 8)} {all : Nat} (hg : ndGet (L.drop at_) = (key, ck, g, lx, all, 0)) :
    scn L at_ = (⟨at_, all, key, ck, g, lx⟩ :: (scn L (at_ + all)).1, (scn L (at_ + all)).2) := by
  have ha := ndGet_all (L := L.drop at_) (by rw [hg])
  rw [hg] at ha
  simp only at ha
  unfold scn
  obtain ⟨f, hf⟩ : ∃ f, L.length - at_ = f + 1 := ⟨L.length - at_ - 1, by omega⟩
  rw [hf, scnF, if_pos h, hg, if_neg (by simp)]
  simp only
  rw [scnF_more L f (L.length - (at_ + all)) (at_ + all) (by omega) (Nat.le_refl _)]

/-- Where the ones that were found end. -/
def en (at_ : Nat) (fs : List Fd) : Nat := at_ + (fs.map Fd.sz).sum
theorem en_nil (at_ : Nat) : en at_ [] = at_ := rfl
theorem en_cons (at_ : Nat) (f : Fd) (fs : List Fd) : en at_ (f :: fs) = en (at_ + f.sz) fs := by unfold en; rw [List.map_cons, List.sum_cons]; omega
/-- The facts of all that is found from a place on. -/
def FdAll (n : Nat) : Nat → List Fd → Prop
  | at_, [] => at_ ≤ n
  | at_, f :: r => f.off = at_ ∧ 32 ≤ f.sz ∧ at_ + f.sz ≤ n ∧ f.key < 18446744073709551616 ∧ f.ck < 4294967296 ∧ f.l.length ≤ n ∧ FdAll n (at_ + f.sz) r
theorem scn_all (L : List (BitVec 8)) : ∀ (m at_ : Nat), L.length - at_ ≤ m → at_ ≤ L.length →
    FdAll L.length at_ (scn L at_).1 ∧ (scn L at_).2.1 = en at_ (scn L at_).1 ∧ ((scn L at_).2.2 = 0 ∨ (scn L at_).2.2 = 3 ∨ (scn L at_).2.2 = 4 ∨ (scn L at_).2.2 = 5) ∧ (scn L at_).2.1 ≤ L.length := by
  intro m
  induction m with
  | zero =>
    intro at_ hm hle
    rw [scn_end (by omega)]
    exact ⟨hle, rfl, .inl rfl, hle⟩
  | succ m ih =>
    intro at_ hm hle
    by_cases h : at_ < L.length
    · obtain ⟨⟨key, ck, g, lx, all, cf⟩, hg⟩ : ∃ r, ndGet (L.drop at_) = r := ⟨_, rfl⟩
      obtain ⟨hc, hlx, hkey, hck⟩ := ndGet_code6 _ hg
      rw [List.length_drop] at hlx
      by_cases h0 : cf = 0
      · subst h0
        have ha := ndGet_all (L := L.drop at_) (by rw [hg])
        rw [hg, List.length_drop] at ha
        simp only at ha
        obtain ⟨i1, i2, i3, i4⟩ := ih (at_ + all) (by omega) (by omega)
        rw [scn_next h hg]
        refine ⟨⟨rfl, ha.1, by show at_ + all ≤ L.length; omega, hkey, hck, by show lx.length ≤ L.length; omega, i1⟩, ?_, i3, i4⟩
        rw [en_cons]
        exact i2
      · rw [scn_bad h hg h0]
        exact ⟨hle, rfl, hc, hle⟩
    · rw [scn_end h]
      exact ⟨hle, rfl, .inl rfl, hle⟩
theorem FdAll.len {n : Nat} : ∀ {fs : List Fd} {at_ : Nat}, FdAll n at_ fs → at_ + 32 * fs.length ≤ n
  | [], _, h => by simpa [FdAll] using h
  | f :: r, at_, ⟨_, h2, _, _, _, _, h⟩ => by have := h.len; rw [List.length_cons]; omega
theorem FdAll.at_ {n : Nat} : ∀ {fs : List Fd} {at_ : Nat}, FdAll n at_ fs → ∀ (i : Nat) (f : Fd), fs[i]? = some f → f.off = en at_ (fs.take i) ∧ f.off + f.sz = en at_ (fs.take (i + 1)) ∧ 32 ≤ f.sz ∧ f.off + f.sz ≤ n ∧ f.key < 18446744073709551616 ∧ f.ck < 4294967296 ∧ f.l.length ≤ n
  | [], _, _, i, f, h => by simp at h
  | f :: r, at_, ⟨h1, h2, h3, h4, h5, h6, h7⟩, 0, f', h => by
    simp at h; subst h
    refine ⟨h1, ?_, h2, by omega, h4, h5, h6⟩
    rw [List.take_succ_cons, en_cons, List.take_zero, en_nil, h1]
  | f :: r, at_, ⟨h1, h2, h3, h4, h5, h6, h7⟩, i + 1, f', h => by
    have h' : r[i]? = some f' := by simpa using h
    obtain ⟨g1, g2, g⟩ := h7.at_ i f' h'
    refine ⟨?_, ?_, g⟩
    · rw [List.take_succ_cons, en_cons]; exact g1
    · rw [List.take_succ_cons, en_cons]; exact g2
/-- From the place of any that was found on: the rest. -/
theorem scn_drop (L : List (BitVec 8)) : ∀ (k at_ : Nat), k ≤ (scn L at_).1.length → scn L (en at_ ((scn L at_).1.take k)) = ((scn L at_).1.drop k, (scn L at_).2) := by
  intro k
  induction k with
  | zero => intro at_ _; rw [List.take_zero, en_nil, List.drop_zero]
  | succ k ih =>
    intro at_ hk
    by_cases h : at_ < L.length
    · obtain ⟨⟨key, ck, g, lx, all, cf⟩, hg⟩ : ∃ r, ndGet (L.drop at_) = r := ⟨_, rfl⟩
      by_cases h0 : cf = 0
      · subst h0
        rw [scn_next h hg] at hk ⊢
        rw [List.take_succ_cons, en_cons, List.drop_succ_cons]
        exact ih (at_ + all) (by simpa using hk)
      · rw [scn_bad h hg h0] at hk; simp at hk
    · rw [scn_end h] at hk; simp at hk
/-- Other bytes that begin alike: the same is found. -/
theorem scn_local (L M : List (BitVec 8)) : ∀ (k at_ : Nat), k ≤ (scn L at_).1.length → M.take (en at_ ((scn L at_).1.take k)) = L.take (en at_ ((scn L at_).1.take k)) →
    scn M at_ = ((scn L at_).1.take k ++ (scn M (en at_ ((scn L at_).1.take k))).1, (scn M (en at_ ((scn L at_).1.take k))).2) := by
  intro k
  induction k with
  | zero => intro at_ _ _; rw [List.take_zero, en_nil, List.nil_append]
  | succ k ih =>
    intro at_ hk hM
    by_cases h : at_ < L.length
    · obtain ⟨⟨key, ck, g, lx, all, cf⟩, hg⟩ : ∃ r, ndGet (L.drop at_) = r := ⟨_, rfl⟩
      by_cases h0 : cf = 0
      · subst h0
        rw [scn_next h hg] at hk hM ⊢
        rw [List.take_succ_cons, en_cons] at hM ⊢
        obtain ⟨n1, n2, n3, n4, -⟩ := ndGet_len hg
        rw [List.length_drop] at n4
        have hen : at_ + all ≤ en (at_ + all) ((scn L (at_ + all)).1.take k) := by unfold en; omega
        have hp : ∀ e, e ≤ en (at_ + all) ((scn L (at_ + all)).1.take k) → M.take e = L.take e := fun e he => by
          have := congrArg (List.take e) hM
          rwa [List.take_take, List.take_take, Nat.min_eq_left he] at this
        have hA := hp (at_ + all) hen
        have hlen : at_ < M.length := by
          have := congrArg List.length hA
          rw [List.length_take, List.length_take] at this
          omega
        have hgM := ndGet_local hg (M := M.drop at_) (by
          have := congrArg (List.drop at_) hA
          rw [List.drop_take, List.drop_take, Nat.add_sub_cancel_left] at this
          exact this)
        rw [scn_next hlen hgM, ih (at_ + all) (by simpa using hk) hM, List.cons_append]
      · rw [scn_bad h hg h0] at hk; simp at hk
    · rw [scn_end h] at hk; simp at hk
theorem FdAll.en_le {n : Nat} : ∀ {fs : List Fd} {at_ : Nat} (k : Nat), FdAll n at_ fs → en at_ (fs.take k) ≤ n
  | [], at_, k, h => by rw [List.take_nil, en_nil]; exact h
  | f :: r, at_, 0, ⟨h1, h2, h3, h⟩ => by rw [List.take_zero, en_nil]; omega
  | f :: r, at_, k + 1, ⟨h1, h2, h3, h4, h5, h6, h⟩ => by rw [List.take_succ_cons, en_cons]; exact h.en_le k
end Go.Proofs.Ytpkfjnhjcdcoaaa
