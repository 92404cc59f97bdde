/-
  The document's net: pairs, Apart, without.
-/
import Derived.Test.YtpkfjnhjcdcoaaaNetAll
import Derived.Test.YtpkfjnhjcdcoaaaMsl
import Derived.Deep.AppendLies
namespace Go.Proofs.Ytpkfjnhjcdcoaaa
open Go.RowKit
set_option linter.unusedVariables false

theorem MSl.news {w : World} {B n : Nat} {ad : Addr} {l : List MsgR} (h : MSl w B (some ad) n l) : ∀ j u, (flatM l)[j]? = some u → w.cell? (ad.add j) = some u := by
  intro j u hu
  have hj : j < (flatM l).length := (List.getElem?_eq_some_iff.1 hu).1
  have hlen : l.length * 12 = (flatM l).length := (flatM_length l).symm
  have hln := h.1
  have hd : j / 12 < n := by omega
  obtain ⟨b, off, e, -, hc⟩ := h.2.2 (by omega)
  injection e with e
  subst e
  have := hc (j / 12) (j % 12) hd (by omega)
  rw [← flatM_at l (j / 12) (j % 12) (by omega) (by omega), show j / 12 * 12 + j % 12 = j from by omega, hu, show off + j / 12 * 12 + j % 12 = off + j from by omega] at this
  have hadd : (⟨b, off, none⟩ : Addr).add j = ⟨b, off + j, none⟩ := by
    unfold Addr.add; split
    · next h => subst h; rfl
    · rfl
  rw [hadd]
  exact this
theorem flatM_one (l : List MsgR) : ∀ u ∈ flatM l, u.oneCell' = true := by
  intro u hu
  simp only [flatM, List.mem_flatten, List.mem_map] at hu
  obtain ⟨_, ⟨m, _, rfl⟩, hu⟩ := hu
  exact mcells_one m u hu
theorem info_rmsg_parts : ∃ i, Try.prog.info? 36 = some i ∧ i.zero = some mNone.vals ∧ i.size = 12 ∧ i.bytes = 104 := info_parts info_rmsg
set_option maxRecDepth 100000 in
/-- append of a list of messages to a row of one's own. -/
theorem append_msgs {W : World} {base g k cap : Nat} {xs : List Value} (hown : W.ownsRow base 36 12 (.slice (some ⟨g, 0, none⟩) k cap) k xs) {B : Nat} {a : Option Addr} {n : Nat} {l : List MsgR} (c : Nat) (h : MSl W B a n l) (hs : k + n ≤ 1000000) (hbase : base ≤ W.heap.size) :
    ∃ g' cap' W', (Builtin.append_ #[70, 70] 70 #[.slice (some ⟨g, 0, none⟩) k cap, .slice a n c]).run Try.prog W = .ok (.slice (some ⟨g', 0, none⟩) (k + n) cap') W' ∧
      W'.ownsRow base 36 12 (.slice (some ⟨g', 0, none⟩) (k + n) cap') (k + n) (xs ++ flatM l) ∧ W.grownBy W' (some g) := by
  obtain ⟨i0, hi, hz0, hz1, hz2⟩ := info_rmsg_parts
  cases a with
  | none =>
    have hn : n = 0 := by
      rcases Nat.eq_zero_or_pos n with h0 | h0
      · exact h0
      · obtain ⟨_, _, e, _⟩ := h.2.2 h0; cases e
    subst hn
    have hl : l = [] := List.eq_nil_of_length_eq_zero h.1
    subst hl
    refine ⟨g, cap, W, ?_, by simpa [flatM] using hown, grown_refl W _⟩
    rcases hown.2 with ⟨e, _⟩ | ⟨g', cap', cur, e, _, _, hnc, _⟩
    · cases e
    · injection e with e1 e2 e3
      have hnc' : k ≤ cap := by rw [e3]; exact hnc
      simp [Builtin.append_, run_underlying Try.underlying70, sizeOf, typeInfo, hi, Builtin.lenOf, Builtin.firstCells, hnc', storeCells]
  | some ad =>
    obtain ⟨v', w', hr, h2, h3, _, h5⟩ := run_append_own_at (P := Try.prog) W base 70 70 36 i0 _ 12 104 Try.underlying70 hi hz0 hz1 hz2 rfl (by decide) _ k xs hown ad n c (flatM l) (by rw [flatM_length, h.1]) h.news (flatM_one l) (by unfold maxLen; omega) (by omega) hbase
    have hform : ∃ g' cap', v' = .slice (some ⟨g', 0, none⟩) (k + n) cap' := by
      rcases h2.2 with ⟨e1, _⟩ | ⟨g', cap', _, e1, _⟩
      · rw [e1] at h5
        rcases h5 with h5 | h5 <;> cases h5
      · exact ⟨g', cap', e1⟩
    obtain ⟨g', cap', rfl⟩ := hform
    exact ⟨g', cap', w', hr, h2, h3⟩
set_option maxRecDepth 100000 in
/-- append of one message that lies in a block. -/
theorem append_msg {W : World} {base gb : Nat} {v : Value} {k : Nat} {xs : List Value} (hown : W.ownsRow base 36 12 v k xs) (m : MsgR) (hb : Blk W gb 36 m.cells.toArray) (hk : k + 1 ≤ 1000000) (hbase : base ≤ W.heap.size) :
    ∃ g cap W2, (Builtin.append_ #[70, 70] 70 #[v, .slice (some ⟨gb, 0, none⟩) 1 1]).run Try.prog W = .ok (.slice (some ⟨g, 0, none⟩) (k + 1) cap) W2 ∧
      W2.ownsRow base 36 12 (.slice (some ⟨g, 0, none⟩) (k + 1) cap) (k + 1) (xs ++ m.cells) ∧ W.grownBy W2 v.ownBlock := by
  obtain ⟨i0, hi, hz0, hz1, hz2⟩ := info_rmsg_parts
  obtain ⟨g, cap, W2, hrun, hown2, hgrow, -, -⟩ := run_append_lies (P := Try.prog) W 70 70 base 36 i0 _ 12 104 Try.underlying70 hi hz0 hz1 hz2 rfl (by decide)
    _ k xs hown ⟨gb, 0, none⟩ 1 1 m.cells rfl (by simpa using World.news_of_block hb) (mcells_one m) (by decide) (by unfold maxLen; omega) (by omega) hbase W.heap.size rfl
  exact ⟨g, cap, W2, hrun, hown2, hgrow⟩
theorem made_at {B s : Nat} {a W : World} (_ : Below B a W) (t : TypeId) (cs : Array Value) (hs : W.heap.size = s) : Blk (W.alloc (.cells cs t)) s t cs := by rw [← hs]; exact Blk.made W t cs
theorem ownsRow_new {B s : Nat} {a W : World} (h : Below B a W) (t : TypeId) (hs : W.heap.size = s) : (W.alloc (.cells #[] t)).ownsRow a.heap.size t 12 (.slice (some ⟨s, 0, none⟩) 0 0) 0 [] := by rw [← hs]; exact World.ownsRow_made W #[] 0 h.size (Nat.zero_le _) rfl
/-- A slice of pairs that reads as C. -/
def CSl (w : World) (B : Nat) (a : Option Addr) (n : Nat) (C : List (Int × Int)) : Prop :=
  C.length = n ∧ (0 < n → ∃ b off, a = some ⟨b, off, none⟩ ∧ b < B ∧ ∀ i, i < n → w.cell? ⟨b, off + i * 2, none⟩ = some (.int .i64 (C.getD i (0, 0)).1) ∧ w.cell? ⟨b, off + i * 2 + 1, none⟩ = some (.int .i64 (C.getD i (0, 0)).2))
theorem CSl.below {w w' : World} {B n : Nat} {a : Option Addr} {C : List (Int × Int)} (h : CSl w B a n C) (hb : Below B w w') : CSl w' B a n C :=
  ⟨h.1, fun h0 => by obtain ⟨b, off, e, hlt, hc⟩ := h.2 h0; exact ⟨b, off, e, hlt, fun i hi => ⟨(hb.cell (p := ⟨b, off + i * 2, none⟩) hlt).trans (hc i hi).1, (hb.cell (p := ⟨b, off + i * 2 + 1, none⟩) hlt).trans (hc i hi).2⟩⟩⟩
theorem CSl.more {w : World} {B B' n : Nat} {a : Option Addr} {C : List (Int × Int)} (h : CSl w B a n C) (hB : B ≤ B') : CSl w B' a n C :=
  ⟨h.1, fun h0 => by obtain ⟨b, off, e, hlt, hc⟩ := h.2 h0; exact ⟨b, off, e, by omega, hc⟩⟩
theorem CSl.on {w w' : World} {n : Nat} {a : Option Addr} {C : List (Int × Int)} (h : CSl w w.heap.size a n C) (hb : Below w.heap.size w w') : CSl w' w'.heap.size a n C := (h.below hb).more hb.size
theorem MSl.onB {w w' : World} {n : Nat} {a : Option Addr} {l : List MsgR} (h : MSl w w.heap.size a n l) (hb : Below w.heap.size w w') : MSl w' w'.heap.size a n l := (h.below hb).more hb.size
theorem csl_own {W : World} {base c : Nat} {a : Option Addr} {C : List (Int × Int)} (h : W.ownsRow base 107 2 (.slice a C.length c) C.length (flatC C)) : CSl W W.heap.size a C.length C := by
  refine ⟨rfl, fun h0 => ?_⟩
  rcases h.2 with ⟨_, e2⟩ | ⟨g, cap, cur, e1, -, e3, -⟩
  · omega
  · cases e1
    refine ⟨g, 0, rfl, (Array.getElem?_eq_some_iff.1 e3).1, fun i hi => ?_⟩
    obtain ⟨h1, h2⟩ := flatC_at C i hi
    rw [Nat.zero_add]
    exact ⟨(h.cellAt (i * 2) (by omega)).trans h1, (h.cellAt (i * 2 + 1) (by omega)).trans h2⟩
/-- Does a pair part two places? -/
def dPart (q : Int × Int) (a b : Int) : Bool := (decide (q.1 = a) && decide (q.2 = b)) || (decide (q.1 = b) && decide (q.2 = a))
def dAp (C : List (Int × Int)) (a b : Int) : Bool := C.any fun q => dPart q a b
theorem dAp_take (C : List (Int × Int)) (i : Nat) (hi : i < C.length) (a b : Int) : dAp (C.take (i + 1)) a b = (dAp (C.take i) a b || dPart (C.getD i (0, 0)) a b) := by
  unfold dAp
  rw [List.take_succ_eq_append_getElem hi, List.any_append]
  simp [List.getD, hi]
set_option maxRecDepth 100000 in
set_option maxHeartbeats 2000000 in
theorem rapart_any (a b : Int) (la : Option Addr) (n lc : Nat) (ca : Option Addr) (k cc : Nat) (C : List (Int × Int)) (w : World) (h : CSl w w.heap.size ca k C) (hk : k ≤ 1000000) :
    Calls Try.prog 34 #[.agg #[.slice la n lc, .slice ca k cc], .int .i64 a, .int .i64 b] w fun e w' => e = .returned (.bool (dAp C a b)) ∧ Below w.heap.size w w' := by
  have BA := (Below.refl w.heap.size w).alloc (Nat.le_refl _) (.cells #[.slice la n lc, .slice ca k cc] 73)
  have HK := Lib.hid (Blk.made w 73 #[.slice la n lc, .slice ca k cc])
  have HC := Lib.hid (h.on BA)
  have HB := Lib.hid BA
  have HL := Lib.hid h.1
  clear BA h
  go_enter Try.func34, Try.ntmps34
  go_upto_region 1 with fail
  generalize (w.alloc (.cells #[.slice la n lc, .slice ca k cc] 73)) = W1 at *
  have k1 := HK.out.cell 1
  go_wp2_with fail
  go_loopw [7] (fun iv wr => ∃ i : Nat, i ≤ k ∧ iv = .int .i64 i ∧ dAp (C.take i) a b = false ∧ wr = W1) (fun iv _ => k - (intOf iv).toNat)
  case atStart => exact ⟨0, Nat.zero_le _, rfl, rfl, rfl⟩
  case round =>
    obtain ⟨i, hi, rfl, hne, rfl⟩ := hrel
    have HNE := Lib.hid hne
    clear hne
    by_cases hlt : i < k
    · have HLT := Lib.hid hlt
      obtain ⟨g, off, rfl, -, hcl⟩ := HC.out.2 (by omega)
      obtain ⟨c0, c1⟩ := hcl i hlt
      obtain ⟨c, d, hcd⟩ : ∃ c d, C.getD i (0, 0) = (c, d) := ⟨_, _, rfl⟩
      rw [hcd] at c0 c1
      dsimp only at c0 c1
      have hij : (i : Int) < (k : Int) := by omega
      have HST := Lib.hid (show dAp (C.take (i + 1)) a b = dPart (c, d) a b from by rw [dAp_take C i (by rw [HL.out]; exact hlt), HNE.out, Bool.false_or, hcd])
      have hdp : dPart (c, d) a b = ((decide (c = a) && decide (d = b)) || (decide (c = b) && decide (d = a))) := rfl
      clear hcl hcd
      by_cases h1 : c = a
      · have z1 : (c == a) = true := by rw [h1]; exact beq_self_eq_true _
        by_cases h2 : d = b
        · have z2 : (d == b) = true := by rw [h2]; exact beq_self_eq_true _
          have HF := Lib.hid (show dAp C a b = true from by
            have h3 : dAp (C.take (i + 1)) a b = true := by rw [HST.out, hdp, decide_eq_true h1, decide_eq_true h2]; rfl
            unfold dAp at h3 ⊢
            rw [List.any_eq_true] at h3 ⊢
            obtain ⟨x, hx, hp⟩ := h3
            exact ⟨x, List.mem_of_mem_take hx, hp⟩)
          clear h1 h2 hdp hlt
          go_wp2_with fail
          go_ret
          exact ⟨by rw [HF.out]; rfl, HB.out⟩
        have z2 : (d == b) = false := by rw [beq_eq_false_iff_ne]; exact h2
        by_cases h3 : c = b
        · have z3 : (c == b) = true := by rw [h3]; exact beq_self_eq_true _
          by_cases h4 : d = a
          · have z4 : (d == a) = true := by rw [h4]; exact beq_self_eq_true _
            have hdt : dPart (c, d) a b = true := by rw [hdp, decide_eq_true h3, decide_eq_true h4]; simp
            have HF := Lib.hid (show dAp C a b = true from by
              have h3 : dAp (C.take (i + 1)) a b = true := by rw [HST.out]; exact hdt
              unfold dAp at h3 ⊢
              rw [List.any_eq_true] at h3 ⊢
              obtain ⟨x, hx, hp⟩ := h3
              exact ⟨x, List.mem_of_mem_take hx, hp⟩)
            clear hdt hdp hlt h1 h2 h3 h4
            go_wp2_with fail
            go_ret
            exact ⟨by rw [HF.out]; rfl, HB.out⟩
          have z4 : (d == a) = false := by rw [beq_eq_false_iff_ne]; exact h4
          have hdt : dPart (c, d) a b = false := by rw [hdp, decide_eq_false h2, decide_eq_false h4]; simp
          have HF := Lib.hid (show dAp (C.take (i + 1)) a b = false from by rw [HST.out]; exact hdt)
          clear hdt hdp hlt h1 h2 h3 h4
          go_wp2_with fail
          go_roundw
          case rel => exact ⟨i + 1, HLT.out, by go_num, HF.out, trivial⟩
          case measure => have := HLT.out; simp [intOf]; omega
        have z3 : (c == b) = false := by rw [beq_eq_false_iff_ne]; exact h3
        have hdt : dPart (c, d) a b = false := by rw [hdp, decide_eq_false h2, decide_eq_false h3]; simp
        have HF := Lib.hid (show dAp (C.take (i + 1)) a b = false from by rw [HST.out]; exact hdt)
        clear hdt hdp hlt h1 h2 h3
        go_wp2_with fail
        go_roundw
        case rel => exact ⟨i + 1, HLT.out, by go_num, HF.out, trivial⟩
        case measure => have := HLT.out; simp [intOf]; omega
      have z1 : (c == a) = false := by rw [beq_eq_false_iff_ne]; exact h1
      by_cases h3 : c = b
      · have z3 : (c == b) = true := by rw [h3]; exact beq_self_eq_true _
        by_cases h4 : d = a
        · have z4 : (d == a) = true := by rw [h4]; exact beq_self_eq_true _
          have hdt : dPart (c, d) a b = true := by rw [hdp, decide_eq_true h3, decide_eq_true h4]; simp
          have HF := Lib.hid (show dAp C a b = true from by
            have h3 : dAp (C.take (i + 1)) a b = true := by rw [HST.out]; exact hdt
            unfold dAp at h3 ⊢
            rw [List.any_eq_true] at h3 ⊢
            obtain ⟨x, hx, hp⟩ := h3
            exact ⟨x, List.mem_of_mem_take hx, hp⟩)
          clear hdt hdp hlt h1 h3 h4
          go_wp2_with fail
          go_ret
          exact ⟨by rw [HF.out]; rfl, HB.out⟩
        have z4 : (d == a) = false := by rw [beq_eq_false_iff_ne]; exact h4
        have hdt : dPart (c, d) a b = false := by rw [hdp, decide_eq_false h1, decide_eq_false h4]; simp
        have HF := Lib.hid (show dAp (C.take (i + 1)) a b = false from by rw [HST.out]; exact hdt)
        clear hdt hdp hlt h1 h3 h4
        go_wp2_with fail
        go_roundw
        case rel => exact ⟨i + 1, HLT.out, by go_num, HF.out, trivial⟩
        case measure => have := HLT.out; simp [intOf]; omega
      have z3 : (c == b) = false := by rw [beq_eq_false_iff_ne]; exact h3
      have hdt : dPart (c, d) a b = false := by rw [hdp, decide_eq_false h1, decide_eq_false h3]; simp
      have HF := Lib.hid (show dAp (C.take (i + 1)) a b = false from by rw [HST.out]; exact hdt)
      clear hdt hdp hlt h1 h3
      go_wp2_with fail
      go_roundw
      case rel => exact ⟨i + 1, HLT.out, by go_num, HF.out, trivial⟩
      case measure => have := HLT.out; simp [intOf]; omega
    · obtain rfl : i = k := by omega
      have HF := Lib.hid (show dAp C a b = false from by have := HNE.out; rw [← HL.out, List.take_length] at this; exact this)
      clear hlt
      go_wp2_with fail
      go_ret
      exact ⟨by rw [HF.out]; rfl, HB.out⟩
theorem msl_take {w : World} {B n : Nat} {a : Option Addr} {l : List MsgR} (h : MSl w B a n l) (i : Nat) (hi : i ≤ n) : MSl w B a i (l.take i) := by
  have hg : ∀ j, j < i → (l.take i).getD j mNone = l.getD j mNone := fun j hj => by simp only [List.getD, List.getElem?_take, if_pos hj]
  refine ⟨by rw [List.length_take, h.1]; omega, fun j hj => by rw [hg j hj]; exact h.2.1 j (by omega), fun h0 => ?_⟩
  obtain ⟨b, off, e, hb, hc⟩ := h.2.2 (by omega)
  exact ⟨b, off, e, hb, fun j t hj ht => by rw [hg j hj]; exact hc j t (by omega) ht⟩
theorem cut_msgs {w : World} {B n c : Nat} {a : Option Addr} {l : List MsgR} (h : MSl w B a n l) (hc : n ≤ c) (p : Nat) (hp : p ≤ n) :
    ∃ a', (∀ (x : Int) (W : World), x = p → (Instr.slice 70 (.slice a n c) (some (.int .i64 x)) none none).run Try.prog W = .ok (.slice a' (n - p) (c - p)) W) ∧ MSl w B a' (n - p) (l.drop p) := by
  have hs : ∀ W, (sizeOf (Try.prog.elem 70)).run Try.prog W = .ok 12 W := fun W => by kernel_rfl
  have hu : Try.prog.underlying 70 = some (.slice (Try.prog.elem 70)) := by kernel_rfl
  have hg : ∀ j, (l.drop p).getD j mNone = l.getD (p + j) mNone := fun j => by simp only [List.getD, List.getElem?_drop]
  refine ⟨if c = p then a else a.map (·.add (p * 12)), fun x W hx => ?_, ⟨by rw [List.length_drop, h.1], fun j hj => by rw [hg]; exact h.2.1 _ (by omega), fun h0 => ?_⟩⟩
  · subst hx
    rw [run_slice_l _ _ _ _ _ hu _ _ (by omega) (by omega)]
    simp only [hs, sliced, Result.andThen_ok, Int.toNat_natCast]
  · obtain ⟨b, off, rfl, hb, hcl⟩ := h.2.2 (by omega)
    rw [if_neg (by omega)]
    refine ⟨b, off + p * 12, ?_, hb, fun j t hj ht => ?_⟩
    · simp [Addr.add_lit]
    · rw [hg, show off + p * 12 + j * 12 + t = off + (p + j) * 12 + t from by omega]
      exact hcl (p + j) t (by omega) ht
set_option maxRecDepth 100000 in
set_option maxHeartbeats 1000000 in
theorem without_any (i : Nat) (a : Option Addr) (n c : Nat) (l : List MsgR) (w : World) (h : MSl w w.heap.size a n l) (hc : n ≤ c) (hn : n ≤ 4096) (hi : i < n) :
    Calls Try.prog 57 #[.slice a n c, .int .i64 i] w fun e w' => ∃ a' c', e = .returned (.slice a' (n - 1) c') ∧ w'.ownsRow w.heap.size 36 12 (.slice a' (n - 1) c') (n - 1) (flatM (l.eraseIdx i)) ∧ n - 1 ≤ c' ∧ Below w.heap.size w w' := by
  have HBA := Lib.hid ((Below.refl w.heap.size w).alloc (Nat.le_refl _) (.cells #[] 36))
  obtain ⟨a2, hs2', hm2⟩ := cut_msgs h hc (i + 1) (by omega)
  have hs2 := fun W => hs2' ((i : Int) + 1) W (by omega)
  obtain ⟨g1, cap1, w1, hr1, ho1, hg1⟩ := append_msgs (World.ownsRow_made (base := w.heap.size) w #[] 0 (Nat.le_refl _) (Nat.zero_le _) rfl) c (((msl_take h i (by omega)).below HBA.out).more HBA.out.size) (by omega) HBA.out.size
  simp only [Nat.zero_add, List.nil_append] at hr1 ho1
  have B1 : Below w.heap.size w w1 := HBA.out.grown hg1 HBA.out.size (fun k e => by injection e with e; omega)
  obtain ⟨g2, cap2, w2, hr2, ho2, hg2⟩ := append_msgs ho1 (c - (i + 1)) ((hm2.below B1).more B1.size) (by omega) B1.size
  have B2 : Below w.heap.size w w2 := B1.grown hg2 B1.size (fun k e => by injection e with e; have := (ho1.lt g1 rfl).1; omega)
  have he : i + (n - (i + 1)) = n - 1 := by omega
  have hfe : flatM (l.take i) ++ flatM (l.drop (i + 1)) = flatM (l.eraseIdx i) := by
    rw [List.eraseIdx_eq_take_drop_succ]
    simp [flatM]
  rw [he] at hr2 ho2
  rw [hfe] at ho2
  have HM := Lib.hid ho2
  have HCP := Lib.hid (show n - 1 ≤ cap2 from by
    rcases ho2.2 with ⟨e1, _⟩ | ⟨_, _, _, e1, _, _, e2, _⟩
    · cases e1
    · cases e1; exact e2)
  have HB2 := Lib.hid B2
  have hic : i ≤ c := by omega
  have hii : (i : Int) + 1 ≤ 4097 := by omega
  clear h hs2' hm2 ho1 hg1 B1 ho2 hg2 B2 he hfe
  go_enter Try.func57, Try.ntmps57
  go_wp2_with (first | (at_builtin; refine list_run (by rfl) _ _ rfl rfl rfl hr1 ?_; clear hr1) | (at_builtin; refine list_run (by rfl) _ _ rfl rfl rfl hr2 ?_; clear hr2))
  go_ret
  exact ⟨some ⟨g2, 0, none⟩, cap2, rfl, HM.out, HCP.out, HB2.out⟩
end Go.Proofs.Ytpkfjnhjcdcoaaa
