/-
  The contracts of the package pack: sized, fits, Get.
-/
import Derived.Test.YtpkfjnhjcdcoaaaBack
import Derived.Test.YtpkfjnhjcdcoaaaNum
import Derived.Test.YtpkfjnhjcdcoaaaIs
import Derived.WalkSpells
import Derived.Maps.AppendAt
import Derived.Deep.RegionHeld3
import Derived.Deep.AppendLies
import Derived.Deep.DrawnRows
import Derived.BigRegion
namespace Go.Proofs.Ytpkfjnhjcdcoaaa
open Go.RowKit Go.Shelf

attribute [local go_sem] Oper.semAt_some

/-- Is it a size of a number? -/
def isSize (n : Int) : Bool := n == 1 || n == 2 || n == 4 || n == 8

theorem sized_yes (n : Int) (w : World) (h : isSize n = true) :
    Calls Try.prog 60 #[.int .i64 n] w fun e w' => e = .returned (.bool true) ∧ w = w' := by
  have h' : n = 1 ∨ n = 2 ∨ n = 4 ∨ n = 8 := by simpa [isSize, or_assoc] using h
  clear h
  rcases h' with rfl | rfl | rfl | rfl
  all_goals
    go_enter Try.func60, Try.ntmps60
    go_wp2
    go_ret
    exact ⟨rfl, rfl⟩

theorem sized_no (n : Int) (w : World) (h : isSize n = false) :
    Calls Try.prog 60 #[.int .i64 n] w fun e w' => e = .returned (.bool false) ∧ w = w' := by
  simp only [isSize, Bool.or_eq_false_iff] at h
  obtain ⟨⟨⟨h1, h2⟩, h4⟩, h8⟩ := h
  go_enter Try.func60, Try.ntmps60
  go_wp2
  go_ret
  exact ⟨rfl, rfl⟩

/-- A slice of bytes, cut. -/
theorem cut_bytes_at {w : World} {B : Nat} {a : Option Addr} {n c : Nat} {l : List (BitVec 8)} (h : BSl w B a n l) (hc : n ≤ c) (p k : Nat) (hp : p + k ≤ n) :
    ∃ a', (∀ (x y : Int) (W : World), x = p → y = p + k → (Instr.slice 22 (.slice a n c) (some (.int .i64 x)) (some (.int .i64 y)) none).run Try.prog W = .ok (.slice a' k (c - p)) W) ∧
      (∀ (x : Int) (W : World), x = p → p + k = n → (Instr.slice 22 (.slice a n c) (some (.int .i64 x)) none none).run Try.prog W = .ok (.slice a' k (c - p)) W) ∧
      (∀ (y : Int) (W : World), p = 0 → y = k → (Instr.slice 22 (.slice a n c) none (some (.int .i64 y)) none).run Try.prog W = .ok (.slice a' k c) W) ∧ BSl w B a' k ((l.drop p).take k) ∧ (∀ b off, a' = some ⟨b, off, none⟩ → ∃ q, a = some q ∧ q.block = b) := by
  have hs : ∀ W, (sizeOf (Try.prog.elem 22)).run Try.prog W = .ok 1 W := fun W => by kernel_rfl
  have hu : Try.prog.underlying 22 = some (.slice (Try.prog.elem 22)) := by kernel_rfl
  refine ⟨if c = p then a else a.map (·.add p), fun x y W hx hy => ?_, fun x W hx hy => ?_, fun y W h0 hy => ?_, ?_, fun b off e => ?_⟩
  · subst hx hy
    rw [run_slice_lh _ _ _ _ _ hu _ _ _ _ (by omega) (by omega) (by omega)]
    simp only [hs, sliced, Result.andThen_ok, Nat.mul_one, Int.toNat_natCast]
    rw [show ((p : Int) + k).toNat - p = k from by omega]
  · subst hx
    rw [run_slice_l _ _ _ _ _ hu _ _ (by omega) (by omega)]
    simp only [hs, sliced, Result.andThen_ok, Nat.mul_one, Int.toNat_natCast]
    rw [show n - p = k from by omega]
  · subst hy h0
    rw [run_slice_h _ _ _ _ _ hu _ _ (by omega) (by omega)]
    simp only [hs, sliced, Result.andThen_ok, Nat.mul_one, Int.toNat_natCast]
    simp
  · refine ⟨by rw [List.length_take, List.length_drop, h.1]; omega, fun hk => ?_⟩
    obtain ⟨b, off, rfl, hb, hcell⟩ := h.2 (by omega)
    rw [if_neg (by omega)]
    refine ⟨b, off + p, ?_, hb, fun i hi => ?_⟩
    · unfold Addr.add
      split
      · next h0 => subst h0; rfl
      · rfl
    · rw [Nat.add_assoc, hcell (p + i) (by omega)]
      simp [List.getD, hi]
  · by_cases hcp : c = p
    · rw [if_pos hcp] at e
      exact ⟨_, e, rfl⟩
    · rw [if_neg hcp] at e
      cases a with
      | none => cases e
      | some q =>
        have e2 : q.add p = ⟨b, off, none⟩ := by simpa using e
        refine ⟨q, rfl, ?_⟩
        have e3 := congrArg Addr.block e2
        unfold Addr.add at e3
        split at e3 <;> exact e3

theorem cut_bytes {w : World} {B : Nat} {a : Option Addr} {n c : Nat} {l : List (BitVec 8)} (h : BSl w B a n l) (hc : n ≤ c) (p k : Nat) (hp : p + k ≤ n) :
    ∃ a', (∀ (x y : Int) (W : World), x = p → y = p + k → (Instr.slice 22 (.slice a n c) (some (.int .i64 x)) (some (.int .i64 y)) none).run Try.prog W = .ok (.slice a' k (c - p)) W) ∧
      (∀ (x : Int) (W : World), x = p → p + k = n → (Instr.slice 22 (.slice a n c) (some (.int .i64 x)) none none).run Try.prog W = .ok (.slice a' k (c - p)) W) ∧
      (∀ (y : Int) (W : World), p = 0 → y = k → (Instr.slice 22 (.slice a n c) none (some (.int .i64 y)) none).run Try.prog W = .ok (.slice a' k c) W) ∧ BSl w B a' k ((l.drop p).take k) := by
  obtain ⟨a', h1, h2, h3, h4, _⟩ := cut_bytes_at h hc p k hp
  exact ⟨a', h1, h2, h3, h4⟩

theorem isSize_le {k : Nat} (h : isSize (k : Int) = true) : k = 1 ∨ k = 2 ∨ k = 4 ∨ k = 8 := by
  simp only [isSize, Bool.or_eq_true, beq_iff_eq] at h
  omega

theorem or_shift (v : Nat) (c : BitVec 8) (h : v < 72057594037927936) : bits .or .u64 ((v : Int) * 256) (c.toNat : Int) = ((v * 256 + c.toNat : Nat) : Int) := by
  have hc := c.isLt
  have hw : (v : Int) * 256 = ((v * 256 : Nat) : Int) := by omega
  have e : ∀ x : Nat, x < 18446744073709551616 → (BitVec.ofInt 64 (x : Int)).toNat = x := fun x hx => by
    rw [BitVec.ofInt_natCast, BitVec.toNat_ofNat]; exact Nat.mod_eq_of_lt hx
  rw [hw]
  show IntKind.u64.wrap ((BitVec.ofInt 64 ((v * 256 : Nat) : Int) ||| BitVec.ofInt 64 (c.toNat : Int)).toNat : Int) = _
  rw [BitVec.toNat_or, e _ (by omega), e _ (by omega), Num.or_byte]
  show ((v * 256 + c.toNat : Nat) : Int) % 18446744073709551616 = _
  omega

set_option maxRecDepth 100000 in
set_option maxHeartbeats 2000000 in
theorem get_ok (a : Option Addr) (n c : Nat) (l : List (BitVec 8)) (p k : Nat) (w : World) (h : BSl w w.heap.size a n l) (hc : n ≤ c) (hn : n ≤ 1099511627776) (hk : isSize (k : Int) = true) (hp : p + k ≤ n) :
    Calls Try.prog 38 #[.slice a n c, .int .i64 p, .int .i64 k] w fun e w' => e = .returned (.tuple #[.int .u64 (Num.num ((l.drop p).take k) : Nat), .nilIface]) ∧ Below w.heap.size w w' := by
  have hk8 : k ≤ 8 := by have := isSize_le hk; omega
  have hk1 : 1 ≤ k := by have := isSize_le hk; omega
  obtain ⟨a', s1, _, _, hcut⟩ := cut_bytes h hc p k hp
  have hsl := fun W => s1 (p : Int) ((p : Int) + k) W rfl rfl
  clear s1
  have HK := Lib.hid hk
  clear hk
  refine (callsIn_wide (n := 5)).1 ?_
  refine callsIn_of_wp_marks Try.func38 rfl trivial ?_ rfl
  simp only [Try.ntmps38, List.size_toArray, List.length_cons, List.length_nil, Nat.reduceAdd, Nat.reduceSub, Array.replicate_succ, Array.replicate_zero, List.push_toArray, List.append_toArray, List.nil_append, List.cons_append]
  refine wpIn_wide.2 ?_
  go_wp2_with (first
    | (go_at_call 60; refine (sized_yes _ _ HK.out).mono ?_; rintro e w' ⟨rfl, rfl⟩)
    | (go_at_call 61; refine (back_calls _ _ _ _).mono ?_; rintro e w' ⟨rfl, rfl⟩))
  have bS := Boxed.new w 24 (.int .u64 0)
  have bN := Boxed.new (w.alloc (.cells #[.int .u64 0] 24)) 22 (.slice a' k (c - p))
  rw [World.size_alloc] at bN
  have hB0 : Below w.heap.size w ((w.alloc (.cells #[.int .u64 0] 24)).alloc (.cells #[.slice a' k (c - p)] 22)) := ((Below.refl _ w).alloc (Nat.le_refl _) _).alloc (by simp) _
  refine range_wide (gf := 80) (lb := #[.pointer (some ⟨w.heap.size + 1, 0, none⟩)]) rfl (enters_of Try.func80 (by kernel_rfl) rfl)
    (back_stops Fence.wide 4 trivial rfl (by omega) (w.heap.size + 1) k (c - p) (fun b => b < w.heap.size ∨ b = w.heap.size + 1) a' _ (by omega) _ (fun b hb => by simp; omega) (.inr rfl) bN.cell
      ⟨hcut.1, fun h0 => by obtain ⟨b, off, e, hb, hc⟩ := (hcut.below hB0).2 h0; exact ⟨b, off, e, .inl hb, hc⟩⟩) KS.trans (ks_put (fun b hb => by simp; omega)) (Below.refl _ _) (fun _ => rfl)
    (fun pre W => (Boxed W w.heap.size 24 (.int .u64 (Num.back 0 pre : Nat))) ∧ Below w.heap.size w W)
    (OwnFrom.and (Own.from (fun s A B row hs hg hr => hs.kept hg (fun e => by obtain ⟨o, ho, hc⟩ := hr _ e.symm; rw [show A.heap[w.heap.size]? = _ from hs] at ho; cases ho; cases hc)) _) (ownFrom_below (Nat.le_refl _) (by simp; omega)))
    ⟨by simpa [Num.back] using bS.alloc _, hB0⟩
    (fun t x => ((t.setIfInBounds 39 (.int .i64 (x.1 : Int))).setIfInBounds 40 (.int .u8 (x.2.toNat : Int))).setIfInBounds 10 (.int .u8 (x.2.toNat : Int)))
    ?assign ?body ?done
  case assign =>
    intro lp x W K hK
    unfold encB
    gi_wp2
    exact hK
  case body =>
    rintro lp pre x W ⟨hb, hB⟩ hlt
    have hcell := hb.cell
    have hfr := hb.frozen
    have hv : Num.back 0 pre < 72057594037927936 := by
      have h1 := Num.back_lt pre
      have h2 : 256 ^ pre.length ≤ 256 ^ 7 := Nat.pow_le_pow_right (by omega) (by omega)
      have h3 : (256 : Nat) ^ 7 = 72057594037927936 := by decide
      omega
    dsimp only
    gi_wp2
    refine ⟨(KeepsOthers.setCell _ _ _).from _, (fun b hb => Below.heap_setCell _ _ _ _ (by dsimp only; omega)), ?_, hB.setCell (p := ⟨w.heap.size, 0, none⟩) (Nat.le_refl _) _⟩
    have := hb.set (.int .u64 (Num.back 0 (pre ++ [x]) : Nat))
    rw [or_shift _ _ hv]
    rw [Num.back_snoc] at this ⊢
    exact this
  case done =>
    rintro D ys W hD rfl ⟨hb, hB⟩ hK
    have hcell := hb.cell
    have hfin : Num.back 0 (upto (backAt (List.take k (List.drop p l)) k) k) = Num.num ((l.drop p).take k) := by
      have hl := hcut.1
      have := Num.back_all ((l.drop p).take k) (backAt ((l.drop p).take k) k) (fun j _ => by rw [hl]; rfl)
      rw [hl] at this
      exact this
    rw [hfin] at hcell
    clear hfin
    go_wp2
    refine ⟨by simp, .inl ⟨_, _, rfl, run_takeDeferred hK, ?_⟩⟩
    exact ⟨_, results_tmp2 rfl _ _ _, rfl, hB.trans (belowK_b (w := w) (Nat.le_refl _) W D _ _ (by simp at hD; omega) hK rfl rfl)⟩

theorem get_arg (a : Option Addr) (n c : Nat) (p k : Int) (w : World) (h : isSize k = false ∨ p < 0) :
    Calls Try.prog 38 #[.slice a n c, .int .i64 p, .int .i64 k] w fun e w' => e = .returned (.tuple #[.int .u64 0, er 1]) ∧ w = w' := by
  cases hk : isSize k with
  | false =>
    have HK := Lib.hid hk
    clear hk h
    go_enter Try.func38, Try.ntmps38
    go_wp2_with (go_at_call 60; refine (sized_no _ _ HK.out).mono ?_; rintro e w' ⟨rfl, rfl⟩)
    go_ret2
    exact ⟨rfl, rfl⟩
  | true =>
    have hp : p < 0 := by simpa [hk] using h
    have HK := Lib.hid hk
    clear hk h
    go_enter Try.func38, Try.ntmps38
    go_wp2_with (go_at_call 60; refine (sized_yes _ _ HK.out).mono ?_; rintro e w' ⟨rfl, rfl⟩)
    go_ret2
    exact ⟨rfl, rfl⟩

theorem get_short (a : Option Addr) (n c : Nat) (p k : Int) (w : World) (hk : isSize k = true) (hp : 0 ≤ p) (hn : n ≤ 1099511627776) (h : (n : Int) < p ∨ (n : Int) - p < k) :
    Calls Try.prog 38 #[.slice a n c, .int .i64 p, .int .i64 k] w fun e w' => e = .returned (.tuple #[.int .u64 0, er 3]) ∧ w = w' := by
  have HK := Lib.hid hk
  clear hk
  by_cases h1 : (n : Int) < p
  · clear h
    go_enter Try.func38, Try.ntmps38
    go_wp2_with (go_at_call 60; refine (sized_yes _ _ HK.out).mono ?_; rintro e w' ⟨rfl, rfl⟩)
    go_ret2
    exact ⟨rfl, rfl⟩
  · have h2 : (n : Int) - p < k := by omega
    have h3 : p ≤ n := by omega
    clear h h1
    go_enter Try.func38, Try.ntmps38
    go_wp2_with (go_at_call 60; refine (sized_yes _ _ HK.out).mono ?_; rintro e w' ⟨rfl, rfl⟩)
    go_ret2
    exact ⟨rfl, rfl⟩

theorem fits_any (n : Nat) (k : Nat) (w : World) (hn : n < 18446744073709551616) (hk : isSize (k : Int) = true) :
    Calls Try.prog 75 #[.int .u64 n, .int .i64 k] w fun e w' => e = .returned (.bool (decide (n < 256 ^ k))) ∧ w = w' := by
  rcases isSize_le hk with rfl | rfl | rfl | rfl
  all_goals
    clear hk
    go_enter Try.func75, Try.ntmps75
    go_wp2
    go_ret
    refine ⟨ret_bool ?_, rfl⟩
    rw [Bool.eq_iff_iff]
    simp
    try omega

/-- The byte of a number at place k, as the walks carry it. -/
def pb (n k : Nat) : Int := ((n / 256 ^ k % 256 : Nat) : Int)

theorem part_any (n : Nat) (kk : Int) (k : Nat) (nb : Nat) (w : World) (hkk : kk = k) (hn : n < 18446744073709551616) (hk : k < 8) (hc : w.cell? ⟨nb, 0, none⟩ = some (.int .u64 n)) :
    Calls Try.prog 76 #[.int .i64 kk, .pointer (some ⟨nb, 0, none⟩)] w fun e w' => e = .returned (.int .u8 (pb n k)) ∧ w = w' := by
  subst hkk
  have hk' : k = 0 ∨ k = 1 ∨ k = 2 ∨ k = 3 ∨ k = 4 ∨ k = 5 ∨ k = 6 ∨ k = 7 := by omega
  clear hk
  rcases hk' with rfl | rfl | rfl | rfl | rfl | rfl | rfl | rfl
  all_goals
    go_enter Try.func76, Try.ntmps76
    go_wp2
    go_ret
    refine ⟨ret_int ?_, rfl⟩
    unfold pb
    omega

theorem part_open (n : Nat) (kk : Int) (nb : Nat) (w : World) (hn : n < 18446744073709551616) (h0 : 0 ≤ kk) (h8 : kk < 8) (hc : w.cell? ⟨nb, 0, none⟩ = some (.int .u64 n)) :
    Calls Try.prog 76 #[.int .i64 kk, .pointer (some ⟨nb, 0, none⟩)] w fun e w' => e = .returned (.int .u8 (pb n kk.toNat)) ∧ w = w' :=
  part_any n kk kk.toNat nb w (by omega) hn (by omega) hc

theorem info_u8 : (Try.prog.info? 5).map (fun i => (i.zero, i.size, i.bytes)) = some (some (.int .u8 0), 1, 1) := by kernel_rfl

theorem bv_one (l : List (BitVec 8)) : ∀ u ∈ l.map bv, u.oneCell' = true := by
  intro u hu
  obtain ⟨x, _, rfl⟩ := List.mem_map.1 hu
  rfl

/-- A slice of bytes that is read as the source of an append. -/
theorem BSl.news {w : World} {B n : Nat} {ad : Addr} {l : List (BitVec 8)} (h : BSl w B (some ad) n l) : ∀ j u, (l.map bv)[j]? = some u → w.cell? (ad.add j) = some u := by
  intro j u hu
  have hj : j < l.length := by
    rw [List.getElem?_map] at hu
    rcases Nat.lt_or_ge j l.length with h1 | h1
    · exact h1
    · rw [List.getElem?_eq_none h1] at hu; cases hu
  obtain ⟨b, off, e, hb, hc⟩ := h.2 (by have := h.1; omega)
  cases e
  have e1 : (⟨b, off, none⟩ : Addr).add j = ⟨b, off + j, none⟩ := by
    unfold Addr.add; split
    · next h0 => subst h0; rfl
    · rfl
  rw [e1, hc j (by have := h.1; omega)]
  rw [List.getElem?_map, List.getElem?_eq_getElem hj] at hu
  simpa [List.getD, hj] using hu

theorem clone_any (a : Option Addr) (n c : Nat) (l : List (BitVec 8)) (w : World) (h : BSl w w.heap.size a n l) (hn : n ≤ 1099511627776) (h0 : a = none → n = 0) :
    Calls Try.prog 59 #[.slice a n c] w fun e w' => ∃ av cv, e = .returned (.slice av n cv) ∧ w'.ownsRow w.heap.size 5 1 (.slice av n cv) n (l.map bv) ∧ Below w.heap.size w w' := by
  have qT : ∀ (w : World) (a : Option Addr) (n c n' c' : Nat), (binOp .eql 22 (.slice a n c) (.slice none n' c')).run Try.prog w = .ok (.bool a.isNone) w := fun w a n c n' c' => Lib.run_eql_slice_nil w _ _ a n c n' c' Try.underlying22
  cases a with
  | none =>
    obtain rfl := h0 rfl
    have hl : l = [] := List.eq_nil_of_length_eq_zero h.1
    subst hl
    go_enter Try.func59, Try.ntmps59
    go_wp2
    go_ret
    exact ⟨_, _, rfl, World.ownsRow_nil _ _ _ _, Below.refl _ _⟩
  | some ad =>
    obtain ⟨i0, hi, hz0, hz1, hz2⟩ := info_parts info_u8
    have hnews := (h.below ((Below.refl w.heap.size w).alloc (Nat.le_refl _) (.cells #[] 5))).news
    have hlen := h.1
    clear h0
    go_enter Try.func59, Try.ntmps59
    go_wp2_with (at_builtin; refine wpList_append_own _ rfl _ _ 22 rfl w.heap.size 5 i0 (.int .u8 0) 1 1 Try.underlying22 hi hz0 hz1 hz2 rfl (by decide) _ 0 [] rfl (World.ownsRow_made w #[] 0 (Nat.le_refl _) (Nat.zero_le _) rfl) ad n c (l.map bv) rfl (by simp [hlen]) hnews (bv_one l) (by unfold maxLen; omega) (by omega) (by simp) ?_; intro v' w1 hown' hgrow _)
    have hform : ∃ av cv, v' = .slice av n cv := by
      rcases hown'.2 with ⟨e1, e2⟩ | ⟨g, cap, cur, e1, _⟩
      · obtain rfl : n = 0 := by omega
        exact ⟨none, 0, e1⟩
      · exact ⟨_, cap, by rw [e1, Nat.zero_add]⟩
    obtain ⟨av, cv, rfl⟩ := hform
    go_ret
    refine ⟨_, _, rfl, by simpa using hown', ((Below.refl _ _).alloc (Nat.le_refl _) _).grown hgrow (by simp) (fun k e => ?_)⟩
    have e' : some w.heap.size = some k := e
    injection e' with e'
    omega

end Go.Proofs.Ytpkfjnhjcdcoaaa
