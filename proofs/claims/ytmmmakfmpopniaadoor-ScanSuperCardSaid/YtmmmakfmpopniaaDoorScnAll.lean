/-
  scan.All: what a scan of any bytes finds.
-/
import Derived.Test.YtmmmakfmpopniaaDoorScn
namespace Go.Proofs.YtmmmakfmpopniaaDoor
open Go.RowKit
set_option linter.unusedVariables false

/-- What ends a scan: no error, or one with its place. -/
def AtE (w : World) (nm : ByteArray) (o c : Nat) (ev : Value) : Prop := (c = 0 ∧ ev = .nilIface) ∨ (c ≠ 0 ∧ ∃ p, ev = atv p ∧ Blk w p 61 #[.string nm, .int .i64 o, er c])
theorem AtE.below {w w' : World} {B : Nat} {nm : ByteArray} {o c : Nat} {ev : Value} (h : AtE w nm o c ev) (hb : Below B w w') (hB : w.heap.size ≤ B) : AtE w' nm o c ev := by
  rcases h with h | ⟨h0, p, h1, h2⟩
  · exact .inl h
  · exact .inr ⟨h0, p, h1, h2.below hb (Nat.lt_of_lt_of_le h2.lt hB)⟩
/-- What scan.All hands back. -/
def ScnP (nm : ByteArray) (L : List (BitVec 8)) (fr : Nat) (w : World) (e : Ending) (w' : World) : Prop :=
  Below w.heap.size w w' ∧ ∃ v ev, e = .returned (.tuple #[v, .int .i64 (scn L fr).2.1, ev]) ∧ FRow w' w.heap.size 41 v (scn L fr).1 ∧ AtE w' nm (scn L fr).2.1 (scn L fr).2.2 ev
/-- Up to a place of the scan. -/
def ScnR (L : List (BitVec 8)) (fr at_ : Nat) (fs : List Fd) : Prop := scn L fr = (fs ++ (scn L at_).1, (scn L at_).2)
theorem ScnR.bad {L : List (BitVec 8)} {fr at_ : Nat} {fs : List Fd} (h : ScnR L fr at_ fs) {r : Nat × Nat} (hs : scn L at_ = ([], r)) : scn L fr = (fs, r) := by
  unfold ScnR at h
  rw [h, hs, List.append_nil]
theorem ScnR.next {L : List (BitVec 8)} {fr at_ : Nat} {fs : List Fd} (h : ScnR L fr at_ fs) {f : Fd} {at' : Nat} (hs : scn L at_ = (f :: (scn L at').1, (scn L at').2)) : ScnR L fr at' (fs ++ [f]) := by
  unfold ScnR at h ⊢
  rw [h, hs, List.append_assoc]
  rfl
theorem info_found : (Tryd.prog.info? 41).map (fun i => (i.zero, i.size, i.bytes)) = some (some (.agg #[.int .i64 0, .int .i64 0, .int .u64 0, .int .u32 0, .bool false, .slice none 0 0]), 6, 56) := by kernel_rfl
theorem scn_end_is {nm : ByteArray} {L : List (BitVec 8)} {fr : Nat} {w w' : World} {v ev : Value} {fs : List Fd} {o c : Nat} (hs : scn L fr = (fs, o, c)) (hb : Below w.heap.size w w') (hr : FRow w' w.heap.size 41 v fs) (he : AtE w' nm o c ev) :
    ScnP nm L fr w (.returned (.tuple #[v, .int .i64 o, ev])) w' := by
  refine ⟨hb, v, ev, ?_, ?_, ?_⟩
  · rw [hs]
  · rw [hs]; exact hr
  · rw [hs]; exact he
/-- The bytes from a place on. -/
theorem cut_rest {w : World} {B : Nat} {a : Option Addr} {n c : Nat} {l : List (BitVec 8)} (h : BSl w B a n l) (hc : n ≤ c) (p : Nat) (hp : p ≤ n) :
    ∃ a', (∀ W : World, (Instr.slice 22 (.slice a n c) (some (.int .i64 (p : Int))) none none).run Tryd.prog W = .ok (.slice a' (n - p) (c - p)) W) ∧ BSl w B a' (n - p) (l.drop p) := by
  obtain ⟨a', -, h2, -, h3⟩ := cut_bytes h hc p (n - p) (by omega)
  refine ⟨a', fun W => h2 p W rfl (by omega), ?_⟩
  rw [List.take_of_length_le (by rw [List.length_drop, h.1]; omega)] at h3
  exact h3

set_option maxRecDepth 100000 in
set_option maxHeartbeats 4000000 in
theorem scn_any (nm : ByteArray) (a : Option Addr) (n c : Nat) (l : List (BitVec 8)) (fr : Nat) (w : World) (h : BSl w w.heap.size a n l) (hc : n ≤ c) (hn : n ≤ 1099511627776) (hf : fr ≤ n) :
    Calls Tryd.prog 8 #[.string nm, .slice a n c, .int .i64 (fr : Int)] w (ScnP nm l fr w) := by
  have HL := Lib.hid h.1
  have HBS := Lib.hid fun (W : World) (B0 : Below w.heap.size w W) => (show BSl W W.heap.size a n l from (h.below B0).more B0.size)
  have HC := Lib.hid hc
  have HN := Lib.hid hn
  obtain ⟨i0, hi, hz0, hz1, hz2⟩ := info_parts info_found
  have HI := Lib.hid hi
  have HZ0 := Lib.hid hz0
  have HZ1 := Lib.hid hz1
  have HZ2 := Lib.hid hz2
  have b0 : decide ((fr : Int) < 0) = false := decide_eq_false (by omega)
  have b1 : decide (n < fr) = false := decide_eq_false (by omega)
  have HS0 := Lib.hid (show ScnR l fr fr [] from rfl)
  have HF := Lib.hid hf
  clear h hc hn hi hz0 hz1 hz2 hf
  go_enter Tryd.func8, Tryd.ntmps8
  go_wp2_with fail
  go_loopw [9, 10] (fun v av wr => ∃ (at_ : Nat) (fs : List Fd), av = .int .i64 (at_ : Int) ∧ at_ ≤ n ∧ fs.length * 32 ≤ at_ ∧ ScnR l fr at_ fs ∧ FRow wr w.heap.size 41 v fs ∧ Below w.heap.size w wr) (fun _ av _ => n - (intOf av).toNat)
  case atStart => exact ⟨fr, [], rfl, HF.out, by simp, HS0.out, FRow.nil _ _ _, Below.refl _ _⟩
  case round =>
    obtain ⟨at_, fs, rfl, hat, hcnt, hR, hrow, hB⟩ := hrel
    have HR := Lib.hid hR
    have HROW := Lib.hid hrow
    have HB := Lib.hid hB
    have HCN := Lib.hid hcnt
    clear hR hrow hB hcnt
    by_cases hlt : at_ < n
    · obtain ⟨⟨key, ck, g, lx, all, cf⟩, hg⟩ : ∃ r, ndGet (l.drop at_) = r := ⟨_, rfl⟩
      obtain ⟨hc6, hlx, hk8, hk4⟩ := ndGet_code6 _ hg
      have HC6 := Lib.hid hc6
      have HG := Lib.hid hg
      have HLT := Lib.hid (show at_ < l.length from by rw [HL.out]; exact hlt)
      have hltz : (at_ : Int) < (n : Int) := by omega
      obtain ⟨a1, hs1, hb1⟩ := cut_rest (HBS.out _ HB.out) HC.out at_ hat
      have E := Lib.hid (nget_any a1 (n - at_) (c - at_) (l.drop at_) wr hb1 (by have := HC.out; omega) (by have := HN.out; omega))
      clear hb1 hg hc6 hlx hk8 hk4
      go_wp2_with fail
      refine E.out.mono ?_
      intro e W2 hgot
      obtain ⟨B2, av, cv, rfl, hcv, ho2⟩ := hgot.is HG.out
      obtain ⟨W3, hW3, K3, B3⟩ : ∃ W3, W2.alloc (.cells #[.int .u64 key, .int .u32 ck, .bool g, .slice av lx.length cv] 39) = W3 ∧ Blk W3 W2.heap.size 39 #[.int .u64 key, .int .u32 ck, .bool g, .slice av lx.length cv] ∧ Below W2.heap.size W2 W3 := ⟨_, rfl, Blk.made _ _ _, (Below.refl _ W2).alloc (Nat.le_refl _) _⟩
      have B23 := B2.trans (B3.mono B2.size)
      have HO3 := Lib.hid (own_more (own_belowF ho2 B3 (Nat.le_refl _)) HB.out.size)
      have HROW3 := Lib.hid (HROW.out.below B23 (Nat.le_refl _))
      have HB3 := Lib.hid (HB.out.trans (B23.mono HB.out.size))
      have HCV := Lib.hid hcv
      have HK3 := Lib.hid K3
      obtain ⟨q0, q1, q2, q3⟩ := K3.four
      clear hgot ho2 B2 B3 B23 hcv K3 E HROW HB hs1
      by_cases h0 : cf = 0
      · subst h0
        rw [show errc 0 = Value.nilIface from rfl]
        have hsn := Lib.hid (scn_next HLT.out HG.out)
        have hal := ndGet_len HG.out
        have HAL := Lib.hid (show 32 ≤ all ∧ at_ + all ≤ n from by
          have h1 := hal.2.2.1
          have h2 := hal.2.2.2.1
          rw [List.length_drop, HL.out] at h2
          omega)
        have hle : (0 : Int) ≤ (all : Int) := by omega
        have hw : IntKind.i64.wrap ((at_ : Int) + (all : Int)) = ((at_ + all : Nat) : Int) := by
          have := HAL.out; have := HN.out
          rw [IntWalk.i64_in _ (by omega)]; omega
        obtain ⟨av3, cv3, hv, hcap⟩ := HROW3.out.form
        subst hv
        obtain ⟨g2, cap2, W4, hr, hrow4, hB4, -⟩ := HROW3.out.append (S := 24) Tryd.underlying24 HI.out HZ0.out HZ1.out HZ2.out rfl (by decide) (⟨at_, all, key, ck, g, lx⟩, av, cv) ⟨HCV.out, HO3.out⟩ (by have := HCN.out; have := HN.out; omega) HB3.out.size
        have hr : (Builtin.append_ #[24, 24] 24 #[.slice av3 fs.length cv3, .slice (some ⟨W3.heap.size, 0, none⟩) 1 1]).run Tryd.prog (W3.alloc (.cells #[.int .i64 at_, .int .i64 all, .int .u64 key, .int .u32 ck, .bool g, .slice av lx.length cv] 41)) = .ok (.slice (some ⟨g2, 0, none⟩) (fs.length + 1) cap2) W4 := hr
        have HREL := Lib.hid (show ScnR l fr (at_ + all) (fs ++ [⟨at_, all, key, ck, g, lx⟩]) from HR.out.next hsn.out)
        have HROW4 := Lib.hid hrow4
        have HB4 := Lib.hid (HB3.out.trans hB4)
        clear hal hrow4 hB4 hcap
        go_upto_region 7 with fail
        clear hW3
        go_wp2_with (at_builtin; refine list_run (by rfl) _ _ rfl rfl rfl hr ?_; clear hr)
        go_roundw
        case rel => exact ⟨at_ + all, _, by first | rfl | (rw [hw]) | go_num, HAL.out.2, by have := HCN.out; have := HAL.out; rw [List.length_append, List.length_singleton]; omega, HREL.out, HROW4.out, HB4.out⟩
        case measure => have := HAL.out; simp [intOf]; omega
      · have hsn := Lib.hid (HR.out.bad (scn_bad HLT.out HG.out h0))
        have hec : errc cf = er cf := by unfold errc; rw [if_neg h0]
        rw [hec]
        have HH0 := Lib.hid h0
        clear hec
        go_upto_region 7 with fail
        clear hW3 h0
        have hB4 : Below w.heap.size w (W3.alloc (.cells #[.string nm, .int .i64 at_, er cf] 61)) := HB3.out.alloc HB3.out.size _
        have hP4 := Blk.made W3 61 #[.string nm, .int .i64 at_, er cf]
        have hrow4 := HROW3.out.below ((Below.refl W3.heap.size W3).alloc (Nat.le_refl _) (.cells #[.string nm, .int .i64 at_, er cf] 61)) (Nat.le_refl _)
        have HX := Lib.hid (scn_end_is hsn.out hB4 hrow4 (ev := atv W3.heap.size) (nm := nm) (.inr ⟨HH0.out, _, rfl, hP4⟩))
        clear hB4 hP4 hrow4
        go_wp2_with fail
        go_ret3
        exact HX.out
    · obtain rfl : at_ = n := by omega
      have hltz : ¬ ((at_ : Int) < (at_ : Int)) := by omega
      have HX := Lib.hid (scn_end_is (HR.out.bad (scn_end (by rw [HL.out]; omega))) HB.out HROW.out (nm := nm) (ev := .nilIface) (.inl ⟨rfl, rfl⟩))
      go_wp2_with fail
      go_ret3
      exact HX.out
/-- An offset that cannot be. -/
theorem scn_arg (nm : ByteArray) (a : Option Addr) (n c : Nat) (fr : Int) (w : World) (hf : fr < 0 ∨ (n : Int) < fr) :
    Calls Tryd.prog 8 #[.string nm, .slice a n c, .int .i64 fr] w fun e w' => e = .returned (.tuple #[.slice none 0 0, .int .i64 0, er 1]) ∧ w = w' := by
  by_cases h0 : fr < 0
  · have b0 : decide (fr < 0) = true := decide_eq_true h0
    clear hf
    go_enter Tryd.func8, Tryd.ntmps8
    go_wp2_with fail
    go_ret3
    exact ⟨rfl, rfl⟩
  · have b0 : decide (fr < 0) = false := decide_eq_false h0
    have b1 : decide ((n : Int) < fr) = true := decide_eq_true (by omega)
    clear hf
    go_enter Tryd.func8, Tryd.ntmps8
    go_wp2_with fail
    go_ret3
    exact ⟨rfl, rfl⟩

/-- What the document's scan hands back. -/
def RScnP (L : List (BitVec 8)) (fr : Nat) (w : World) (e : Ending) (w' : World) : Prop :=
  Below w.heap.size w w' ∧ ∃ v, e = .returned (.tuple #[v, .int .i64 (scn L fr).2.1, .int .i64 (scn L fr).2.2]) ∧ FRow w' w.heap.size 44 v (scn L fr).1
theorem rscn_end_is {L : List (BitVec 8)} {fr : Nat} {w w' : World} {v : Value} {fs : List Fd} {o c : Nat} (hs : scn L fr = (fs, o, c)) (hb : Below w.heap.size w w') (hr : FRow w' w.heap.size 44 v fs) :
    RScnP L fr w (.returned (.tuple #[v, .int .i64 o, .int .i64 c])) w' := by
  refine ⟨hb, v, ?_, ?_⟩
  · rw [hs]
  · rw [hs]; exact hr
theorem info_rfound : (Tryd.prog.info? 44).map (fun i => (i.zero, i.size, i.bytes)) = some (some (.agg #[.int .i64 0, .int .i64 0, .int .u64 0, .int .u32 0, .bool false, .slice none 0 0]), 6, 56) := by kernel_rfl
theorem RefOwn.is {L : List (BitVec 8)} {w w' : World} {e : Ending} (h : RefOwn L w e w') {key ck : Nat} {g : Bool} {lx : List (BitVec 8)} {all cf : Nat} (hg : ndGet L = (key, ck, g, lx, all, cf)) :
    Below w.heap.size w w' ∧ ∃ av cv, e = .returned (.tuple #[.agg #[.int .u64 (key : Nat), .int .u32 (ck : Nat), .bool g, .slice av lx.length cv], .int .i64 (all : Nat), .int .i64 (cf : Nat)]) ∧ lx.length ≤ cv ∧ w'.ownsRow w.heap.size 5 1 (.slice av lx.length cv) lx.length (lx.map bv) := by
  obtain ⟨B, key', ck', g', lx', all', cf', he, av, cv, rfl, h1, h2⟩ := h
  rw [hg] at he
  simp only [Prod.mk.injEq] at he
  obtain ⟨rfl, rfl, rfl, rfl, rfl, rfl⟩ := he
  exact ⟨B, av, cv, rfl, h1, h2⟩

set_option maxRecDepth 100000 in
set_option maxHeartbeats 4000000 in
theorem rscn_any (a : Option Addr) (n c : Nat) (l : List (BitVec 8)) (fr : Nat) (w : World) (h : BSl w w.heap.size a n l) (hc : n ≤ c) (hn : n ≤ 1099511627776) (hf : fr ≤ n) :
    Calls Tryd.prog 11 #[.slice a n c, .int .i64 (fr : Int)] w (RScnP l fr w) := by
  have HL := Lib.hid h.1
  have HBS := Lib.hid fun (W : World) (B0 : Below w.heap.size w W) => (show BSl W W.heap.size a n l from (h.below B0).more B0.size)
  have HC := Lib.hid hc
  have HN := Lib.hid hn
  obtain ⟨i0, hi, hz0, hz1, hz2⟩ := info_parts info_rfound
  have HI := Lib.hid hi
  have HZ0 := Lib.hid hz0
  have HZ1 := Lib.hid hz1
  have HZ2 := Lib.hid hz2
  have HS0 := Lib.hid (show ScnR l fr fr [] from rfl)
  have HF := Lib.hid hf
  clear h hc hn hi hz0 hz1 hz2 hf
  go_enter Tryd.func11, Tryd.ntmps11
  go_wp2_with fail
  go_loopw [7, 1] (fun v av wr => ∃ (at_ : Nat) (fs : List Fd), av = .int .i64 (at_ : Int) ∧ at_ ≤ n ∧ fs.length * 32 ≤ at_ ∧ ScnR l fr at_ fs ∧ FRow wr w.heap.size 44 v fs ∧ Below w.heap.size w wr) (fun _ av _ => n - (intOf av).toNat)
  case atStart => exact ⟨fr, [], rfl, HF.out, by simp, HS0.out, FRow.nil _ _ _, Below.refl _ _⟩
  case round =>
    obtain ⟨at_, fs, rfl, hat, hcnt, hR, hrow, hB⟩ := hrel
    have HR := Lib.hid hR
    have HROW := Lib.hid hrow
    have HB := Lib.hid hB
    have HCN := Lib.hid hcnt
    clear hR hrow hB hcnt
    by_cases hlt : at_ < n
    · obtain ⟨⟨key, ck, g, lx, all, cf⟩, hg⟩ : ∃ r, ndGet (l.drop at_) = r := ⟨_, rfl⟩
      obtain ⟨hc6, hlx, hk8, hk4⟩ := ndGet_code6 _ hg
      have HC6 := Lib.hid hc6
      have HG := Lib.hid hg
      have HLT := Lib.hid (show at_ < l.length from by rw [HL.out]; exact hlt)
      have hltz : (at_ : Int) < (n : Int) := by omega
      obtain ⟨a1, hs1, hb1⟩ := cut_rest (HBS.out _ HB.out) HC.out at_ hat
      have E := Lib.hid (rget_own a1 (n - at_) (c - at_) (l.drop at_) wr hb1 (by have := HC.out; omega) (by have := HN.out; omega))
      clear hb1 hg hc6 hlx hk8 hk4
      go_wp2_with fail
      refine E.out.mono ?_
      intro e W2 hgot
      obtain ⟨B2, av, cv, rfl, hcv, ho2⟩ := hgot.is HG.out
      obtain ⟨W3, hW3, K3, B3⟩ : ∃ W3, W2.alloc (.cells #[.int .u64 key, .int .u32 ck, .bool g, .slice av lx.length cv] 42) = W3 ∧ Blk W3 W2.heap.size 42 #[.int .u64 key, .int .u32 ck, .bool g, .slice av lx.length cv] ∧ Below W2.heap.size W2 W3 := ⟨_, rfl, Blk.made _ _ _, (Below.refl _ W2).alloc (Nat.le_refl _) _⟩
      have B23 := B2.trans (B3.mono B2.size)
      have HO3 := Lib.hid (own_more (own_belowF ho2 B3 (Nat.le_refl _)) HB.out.size)
      have HROW3 := Lib.hid (HROW.out.below B23 (Nat.le_refl _))
      have HB3 := Lib.hid (HB.out.trans (B23.mono HB.out.size))
      have HCV := Lib.hid hcv
      have HK3 := Lib.hid K3
      obtain ⟨q0, q1, q2, q3⟩ := K3.four
      clear hgot ho2 B2 B3 B23 hcv K3 E HROW HB hs1
      by_cases h0 : cf = 0
      · subst h0
        have hsn := Lib.hid (scn_next HLT.out HG.out)
        have hal := ndGet_len HG.out
        have HAL := Lib.hid (show 32 ≤ all ∧ at_ + all ≤ n from by
          have h1 := hal.2.2.1
          have h2 := hal.2.2.2.1
          rw [List.length_drop, HL.out] at h2
          omega)
        have hle : (0 : Int) ≤ (all : Int) := by omega
        have hw : IntKind.i64.wrap ((at_ : Int) + (all : Int)) = ((at_ + all : Nat) : Int) := by
          have := HAL.out; have := HN.out
          rw [IntWalk.i64_in _ (by omega)]; omega
        obtain ⟨av3, cv3, hv, hcap⟩ := HROW3.out.form
        subst hv
        obtain ⟨g2, cap2, W4, hr, hrow4, hB4, -⟩ := HROW3.out.append (S := 31) Tryd.underlying31 HI.out HZ0.out HZ1.out HZ2.out rfl (by decide) (⟨at_, all, key, ck, g, lx⟩, av, cv) ⟨HCV.out, HO3.out⟩ (by have := HCN.out; have := HN.out; omega) HB3.out.size
        have hr : (Builtin.append_ #[31, 31] 31 #[.slice av3 fs.length cv3, .slice (some ⟨W3.heap.size, 0, none⟩) 1 1]).run Tryd.prog (W3.alloc (.cells #[.int .i64 at_, .int .i64 all, .int .u64 key, .int .u32 ck, .bool g, .slice av lx.length cv] 44)) = .ok (.slice (some ⟨g2, 0, none⟩) (fs.length + 1) cap2) W4 := hr
        have HREL := Lib.hid (show ScnR l fr (at_ + all) (fs ++ [⟨at_, all, key, ck, g, lx⟩]) from HR.out.next hsn.out)
        have HROW4 := Lib.hid hrow4
        have HB4 := Lib.hid (HB3.out.trans hB4)
        clear hal hrow4 hB4 hcap
        go_upto_region 4 with fail
        clear hW3
        go_wp2_with (at_builtin; refine list_run (by rfl) _ _ rfl rfl rfl hr ?_; clear hr)
        go_roundw
        case rel => exact ⟨at_ + all, _, by first | rfl | (rw [hw]) | go_num, HAL.out.2, by have := HCN.out; have := HAL.out; rw [List.length_append, List.length_singleton]; omega, HREL.out, HROW4.out, HB4.out⟩
        case measure => have := HAL.out; simp [intOf]; omega
      · have hsn := Lib.hid (HR.out.bad (scn_bad HLT.out HG.out h0))
        have hcz : ((cf : Int) != 0) = true := by rw [bne_iff_ne]; omega
        have HX := Lib.hid (rscn_end_is hsn.out HB3.out HROW3.out)
        go_upto_region 4 with fail
        clear hW3 h0
        go_wp2_with fail
        go_ret3
        exact HX.out
    · obtain rfl : at_ = n := by omega
      have hltz : ¬ ((at_ : Int) < (at_ : Int)) := by omega
      have HX := Lib.hid (rscn_end_is (HR.out.bad (scn_end (by rw [HL.out]; omega))) HB.out HROW.out)
      go_wp2_with fail
      go_ret3
      exact HX.out
end Go.Proofs.YtmmmakfmpopniaaDoor
