/-
  The walk of corncriblaw15.NetPlays.
-/
import Derived.Test.YtpkfjnhjcdcoaaaNetAlive
import Derived.Test.YtpkfjnhjcdcoaaaNetDo3P
import Derived.Deep.CutBlock
namespace Go.Proofs.Ytpkfjnhjcdcoaaa
open Go.RowKit
set_option linter.unusedVariables false
-- AUXK
def ActOk (x : ActR) : Prop := x.m.n ≤ 300 ∧ 0 ≤ x.kd ∧ x.kd ≤ 5
theorem min_none (w : World) (B : Nat) : MIn w B mNone := ⟨BSl.nil w B none, by decide, by decide, by decide, by decide, by decide, by decide, by decide, by decide, by decide, by decide, by decide, by decide, by decide, by decide, by decide, by decide, by decide⟩
theorem NetR.othr2 {W W' : World} {N base g : Nat} {P : List Pk} {C : List (Int × Int)} {cs : Array Value} {t : TypeId} (hb : W.heap[g]? = some (.cells cs t (0, 0))) (hg : W.grownBy W' (some g)) (h : NetR W N base P C) (n1 : 99 ≠ t) (n2 : 22 ≠ t) (n3 : 102 ≠ t) (n4 : 5 ≠ t) : NetR W' N base P C := by
  obtain ⟨la, lc, ca, cc, h1, h2, h3, h4, h5, h6⟩ := h
  refine ⟨la, lc, ca, cc, ?_, row_keep h2 hg hb n2, row_keep h3 hg hb n3, h4, fun p hp => ?_, h6⟩
  · exact (hg.block N h1.lt (by intro e; injection e with e; exact blk_ne h1 hb n1 e)).trans h1
  · obtain ⟨g1, g2, bp, g3⟩ := h5 p hp
    exact ⟨g1, g2, bp, row_keep g3 hg hb n4⟩
/-- The document's net stays where its rows stay. -/
theorem RNet.stay {W W' : World} {la ca : Option Addr} {n lc k cc : Nat} {DL : List MsgR} {DC : List (Int × Int)} (h : RNet W la n lc ca k cc DL DC) (hr : ∀ base v m xs, W.ownsRow base 36 12 v m xs → W'.ownsRow base 36 12 v m xs) (hs : ∀ base v m xs, W.ownsRow base 107 2 v m xs → W'.ownsRow base 107 2 v m xs) (hq : ∀ q ∈ DL, MIn W' W'.heap.size q) : RNet W' la n lc ca k cc DL DC := by
  obtain ⟨hm, hnc, hc, ⟨b1, h1⟩, b2, h2⟩ := h
  have h1' := hr _ _ _ _ h1
  have h2' := hs _ _ _ _ h2
  have hk := hc.1
  subst hk
  refine ⟨msl_own h1' hm.1 (fun i hi => ?_), hnc, csl_own h2', ⟨b1, h1'⟩, b2, h2'⟩
  have hil : i < DL.length := by rw [hm.1]; exact hi
  exact hq _ (by simp only [List.getD, List.getElem?_eq_getElem hil, Option.getD_some]; exact List.getElem_mem _)
theorem RNet.nk {w W W' : World} {la ca : Option Addr} {n lc k cc : Nat} {DL : List MsgR} {DC : List (Int × Int)} (h : RNet W la n lc ca k cc DL DC) (hk : NKeep W W') (hB : Below w.heap.size w W') (hq : ∀ q ∈ DL, MIn w w.heap.size q) : RNet W' la n lc ca k cc DL DC :=
  h.stay (fun _ _ _ _ r => row_nkeep r hk (by decide) (by decide) (by decide)) (fun _ _ _ _ r => row_nkeep r hk (by decide) (by decide) (by decide)) fun q h1 => ((hq q h1).below hB).more hB.size
theorem RNet.put {w W W' : World} {la ca : Option Addr} {n lc k cc g : Nat} {DL : List MsgR} {DC : List (Int × Int)} {cs : Array Value} {t : TypeId} (h : RNet W la n lc ca k cc DL DC) (hg : W.grownBy W' (some g)) (hb : W.heap[g]? = some (.cells cs t (0, 0))) (n1 : 36 ≠ t) (n2 : 107 ≠ t) (hB : Below w.heap.size w W') (hq : ∀ q ∈ DL, MIn w w.heap.size q) : RNet W' la n lc ca k cc DL DC :=
  h.stay (fun _ _ _ _ r => row_keep r hg hb n1) (fun _ _ _ _ r => row_keep r hg hb n2) fun q h1 => ((hq q h1).below hB).more hB.size
theorem bare_with {m m' : MsgR} (h : m.bare = m'.bare) (a : Option Addr) (c : Nat) : ({ m with a := a, c := c } : MsgR) = { m' with a := a, c := c } := by
  have h2 := congrArg (fun r : MsgR => ({ r with a := a, c := c } : MsgR)) h
  exact h2
theorem apC_turn (C : List (Int × Int)) (a b : Int) : apC C b a = apC C a b := by
  unfold apC
  rw [(nrm_eq b a a b).2 (.inr ⟨rfl, rfl⟩)]
theorem send_as {P : List Pk} {DL DL1 : List MsgR} {DC DC1 : List (Int × Int)} {q : MsgR} {cf N : Nat} {x : ActR} (hdo : docDo DL DC x = (DL1, DC1, q, cf)) (hP : PMat P DL) (hk : x.kd = 0) : q = mNone ∧ ∀ w : World, NetR w N N P (DC.map nrm) → AIn w w.heap.size x → x.m.n ≤ 300 →
    Calls Try.prog 26 #[.pointer (some ⟨N, 0, none⟩), .agg #[.int .i64 x.m.fr, .int .i64 x.m.tt, .int .i64 x.m.kd, .int .i64 x.m.vol, .int .i64 x.m.life, .int .u64 x.m.id, .int .i64 x.m.cd, .bool x.m.has, .int .u64 x.m.key, .int .u32 x.m.ck, .bool x.m.g, .slice x.m.a x.m.n x.m.c]] w fun e w' => ∃ P1, e = .returned (errc cf) ∧ NDid w N N P1 (DC1.map nrm) w' ∧ PMat P1 DL1 := by
  have h0 : SentAs P x.m P (mchk x.m) ∨ SentAs P x.m P 11 ∨ SentAs P x.m (P ++ [⟨0, 0, x.m⟩]) 0 := by
    by_cases h1 : mchk x.m = 0
    · by_cases h2 : 4096 ≤ P.length
      · exact .inr (.inl (.inr (.inl ⟨h1, h2, rfl, rfl⟩)))
      · exact .inr (.inr (.inr (.inr ⟨h1, by omega, rfl, _, rfl, rfl⟩)))
    · exact .inl (.inl ⟨h1, rfl, rfl⟩)
  refine ⟨?_, fun w h hx hn => ?_⟩
  · rcases h0 with h0 | h0 | h0 <;> (have := (send_match (DC := DC) hP hk h0).2.2.1; rw [hdo] at this; exact this)
  · refine (send_any x.m w h hx.m.hb (by omega) hx.m.id1 hx.m.key1 hx.m.ck1).mono ?_
    rintro e w' ⟨P1, c1, rfl, hd, hs⟩
    have hm := send_match (DC := DC) hP hk hs
    rw [hdo] at hm
    obtain ⟨m1, m2, -, m4⟩ := hm
    dsimp only at m1 m2 m4
    subst m2 m4
    exact ⟨P1, rfl, hd, m1⟩
theorem take_as {P : List Pk} {DL DL1 : List MsgR} {DC DC1 : List (Int × Int)} {q : MsgR} {cf N : Nat} {x : ActR} (hdo : docDo DL DC x = (DL1, DC1, q, cf)) (hP : PMat P DL) (hk : x.kd = 1) (w : World) (h : NetR w N N P (DC.map nrm)) (hn : DC.length ≤ 100000) :
    Calls Try.prog 28 #[.pointer (some ⟨N, 0, none⟩), .int .i64 x.i] w fun e w' => ∃ P1 a c, e = .returned (.tuple #[.agg #[.int .i64 q.fr, .int .i64 q.tt, .int .i64 q.kd, .int .i64 q.vol, .int .i64 q.life, .int .u64 q.id, .int .i64 q.cd, .bool q.has, .int .u64 q.key, .int .u32 q.ck, .bool q.g, .slice a q.n c], errc cf]) ∧ NDid w N N P1 (DC1.map nrm) w' ∧ PMat P1 DL1 ∧ w'.ownsRow w.heap.size 5 1 (.slice a q.n c) q.n (q.l.map bv) := by
  have hm := take_match (x := x) (DC := DC) hP hk
  rw [hdo] at hm
  obtain ⟨m1, m2, m3, m4⟩ := hm
  dsimp only at m1 m2 m3 m4
  refine (take_any x.i w h (by rw [List.length_map]; exact hn)).mono ?_
  rintro e w' ⟨hd, a, c, rfl, -, -, ho⟩
  have hb := bare_with m3 a c
  subst m2 m4
  refine ⟨_, a, c, ?_, hd, m1, ?_⟩
  · rw [hb]; rfl
  · have e1 : (netTake P (List.map nrm DC1) x.i).1.1.n = q.n := by have h2 := congrArg MsgR.n m3; exact h2
    have e2 : (netTake P (List.map nrm DC1) x.i).1.1.l = q.l := by have h2 := congrArg MsgR.l m3; exact h2
    rw [e1, e2] at ho
    exact ho
theorem lose_as {P : List Pk} {DL DL1 : List MsgR} {DC DC1 : List (Int × Int)} {q : MsgR} {cf N : Nat} {x : ActR} (hdo : docDo DL DC x = (DL1, DC1, q, cf)) (hP : PMat P DL) (hk : x.kd = 2) : q = mNone ∧ ∀ w : World, NetR w N N P (DC.map nrm) →
    Calls Try.prog 30 #[.pointer (some ⟨N, 0, none⟩), .int .i64 x.i] w fun e w' => ∃ P1, e = .returned (errc cf) ∧ NDid w N N P1 (DC1.map nrm) w' ∧ PMat P1 DL1 := by
  have hm := lose_match (x := x) (DC := DC) hP hk
  rw [hdo] at hm
  obtain ⟨m1, m2, m3, m4⟩ := hm
  dsimp only at m1 m2 m3 m4
  subst m2
  rw [m4]
  exact ⟨m3, fun w h => (lose_any x.i w h).mono fun e w' hh => ⟨_, hh.1, hh.2, m1⟩⟩
theorem twice_as {P : List Pk} {DL DL1 : List MsgR} {DC DC1 : List (Int × Int)} {q : MsgR} {cf N : Nat} {x : ActR} (hdo : docDo DL DC x = (DL1, DC1, q, cf)) (hP : PMat P DL) (hk : x.kd = 3) : q = mNone ∧ ∀ w : World, NetR w N N P (DC.map nrm) →
    Calls Try.prog 31 #[.pointer (some ⟨N, 0, none⟩), .int .i64 x.i] w fun e w' => ∃ P1, e = .returned (errc cf) ∧ NDid w N N P1 (DC1.map nrm) w' ∧ PMat P1 DL1 := by
  have hm := twice_match (x := x) (DC := DC) hP hk
  rw [hdo] at hm
  obtain ⟨m1, m2, m3, m4⟩ := hm
  dsimp only at m1 m2 m3 m4
  subst m2
  rw [m4]
  exact ⟨m3, fun w h => (twice_any x.i w h).mono fun e w' hh => ⟨_, hh.1, hh.2, m1⟩⟩
theorem cut_as {P : List Pk} {DL DL1 : List MsgR} {DC DC1 : List (Int × Int)} {q : MsgR} {cf N : Nat} {x : ActR} (hdo : docDo DL DC x = (DL1, DC1, q, cf)) (hP : PMat P DL) (hk : 4 ≤ x.kd) (b : Bool) (hb : decide (x.kd = 4) = b) (hn : DC.length ≤ 100000) : q = mNone ∧ ∀ w : World, NetR w N N P (DC.map nrm) →
    Calls Try.prog 27 #[.pointer (some ⟨N, 0, none⟩), .int .i64 x.i, .int .i64 x.k, .bool b] w fun e w' => ∃ P1, e = .returned (errc cf) ∧ NDid w N N P1 (DC1.map nrm) w' ∧ PMat P1 DL1 := by
  have hm := ncut_match (x := x) (DL := DL) (DC := DC) hk
  rw [hdo, hb] at hm
  obtain ⟨m1, m2, m3, m4⟩ := hm
  dsimp only at m1 m2 m3 m4
  subst m1
  rw [m4]
  refine ⟨m3, fun w h => (cut_any x.i x.k b w h (by rw [List.length_map]; exact hn)).mono fun e w' hh => ⟨P, hh.1, ?_, hP⟩⟩
  rw [← m2]
  exact hh.2
/-- At the loop's heads: both nets. -/
def PlI (w : World) (N b5 i : Nat) (W : World) : Prop :=
  ∃ (P : List Pk) (DL : List MsgR) (DC : List (Int × Int)) (la : Option Addr) (lc : Nat) (ca : Option Addr) (cc : Nat), NetR W N N P (DC.map nrm) ∧ PMat P DL ∧ Blk W b5 73 #[.slice la DL.length lc, .slice ca DC.length cc] ∧ RNet W la DL.length lc ca DC.length cc DL DC ∧ (∀ q ∈ DL, MIn w w.heap.size q ∧ q.n ≤ 300) ∧ (DL.length ≤ i ∧ DC.length ≤ i) ∧ Below w.heap.size w W
/-- Behind a call at both. -/
def PlS (w : World) (N b5 b9 b11 : Nat) (DL : List MsgR) (DC : List (Int × Int)) (q : MsgR) (la : Option Addr) (lc : Nat) (ca : Option Addr) (cc : Nat) (W : World) : Prop :=
  ∃ (P : List Pk) (ga : Option Addr) (gc : Nat), NetR W N N P (DC.map nrm) ∧ PMat P DL ∧ Blk W b5 73 #[.slice la DL.length lc, .slice ca DC.length cc] ∧ RNet W la DL.length lc ca DC.length cc DL DC ∧ Blk W b9 36 #[.int .i64 q.fr, .int .i64 q.tt, .int .i64 q.kd, .int .i64 q.vol, .int .i64 q.life, .int .u64 q.id, .int .i64 q.cd, .bool q.has, .int .u64 q.key, .int .u32 q.ck, .bool q.g, .slice q.a q.n q.c] ∧ Blk W b11 29 #[.int .i64 q.fr, .int .i64 q.tt, .int .i64 q.kd, .int .i64 q.vol, .int .i64 q.life, .int .u64 q.id, .int .i64 q.cd, .bool q.has, .int .u64 q.key, .int .u32 q.ck, .bool q.g, .slice ga q.n gc] ∧ BSl W W.heap.size ga q.n q.l ∧ Below w.heap.size w W
set_option maxRecDepth 100000 in
set_option maxHeartbeats 8000000 in
theorem plays_all (a : Option Addr) (n c : Nat) (l : List ActR) (w : World) (h : ASl w w.heap.size a n l) :
    Calls Try.prog 9 #[.slice a n c] w fun e w' => e = .returned (.bool true) ∧ Below w.heap.size w w' := by
  by_cases hbig : 60 < n
  · have hb : decide ((60 : Int) < (n : Int)) = true := decide_eq_true (by omega)
    clear hbig h
    go_enter Try.func9, Try.ntmps9
    go_wp2_with fail
    refine (net_alive _).mono ?_
    rintro e w1 ⟨rfl, B1⟩
    go_wp2_with fail
    go_ret
    exact ⟨rfl, B1⟩
  have hb : decide ((60 : Int) < (n : Int)) = false := decide_eq_false (by omega)
  have hn60 : n ≤ 60 := by omega
  have HA := Lib.hid h
  clear h hbig
  go_enter Try.func9, Try.ntmps9
  go_wp2_with fail
  refine (net_alive _).mono ?_
  rintro e w1 ⟨rfl, B1⟩
  have HB1 := Lib.hid B1
  clear B1
  go_wp2_with fail
  go_loopw [3] (fun iv wr => ∃ i : Nat, i ≤ n ∧ iv = .int .i64 i ∧ (∀ j, j < i → ActOk (l.getD j aNone)) ∧ Below w.heap.size w wr) (fun iv _ => n - (intOf iv).toNat)
  case atStart => exact ⟨0, Nat.zero_le _, rfl, fun j hj => absurd hj (Nat.not_lt_zero _), HB1.out⟩
  case round =>
    clear HB1 hb
    obtain ⟨i, hi, rfl, hok, hB⟩ := hrel
    have HOK := Lib.hid hok
    have HB := Lib.hid hB
    clear hok hB
    by_cases hlt : i < n
    · have HLT := Lib.hid hlt
      obtain ⟨x, hx⟩ : ∃ x, l.getD i aNone = x := ⟨_, rfl⟩
      have HX := Lib.hid hx
      obtain ⟨b, off, rfl, -, k0, -, -, -, -, -, -, -, -, -, -, -, -, -, k14⟩ := (HA.out.below HB.out).at_ hlt hx
      have hij : (i : Int) < (n : Int) := by omega
      clear hx hlt
      by_cases h1 : 300 < x.m.n
      · have z1 : decide ((300 : Int) < (x.m.n : Int)) = true := decide_eq_true (by omega)
        clear h1
        go_wp2_with fail
        go_ret
        exact ⟨rfl, HB.out⟩
      have z1 : decide ((300 : Int) < (x.m.n : Int)) = false := decide_eq_false (by omega)
      by_cases h2 : x.kd < 0
      · have z2 : decide (x.kd < 0) = true := decide_eq_true h2
        clear h1 h2
        go_wp2_with fail
        go_ret
        exact ⟨rfl, HB.out⟩
      have z2 : decide (x.kd < 0) = false := decide_eq_false h2
      by_cases h3 : 5 < x.kd
      · have z3 : decide (5 < x.kd) = true := decide_eq_true h3
        clear h1 h2 h3
        go_wp2_with fail
        go_ret
        exact ⟨rfl, HB.out⟩
      have z3 : decide (5 < x.kd) = false := decide_eq_false h3
      have HK := Lib.hid (show ActOk x from ⟨by omega, by omega, by omega⟩)
      clear h1 h2 h3
      go_wp2_with fail
      go_roundw
      case rel => exact ⟨i + 1, HLT.out, by go_num, fun j hj => (by rcases Nat.lt_succ_iff_lt_or_eq.1 hj with h | h; exact HOK.out j h; subst h; rw [HX.out]; exact HK.out), HB.out⟩
      case measure => have := HLT.out; simp [intOf]; omega
    have HALL := Lib.hid (show ∀ j, j < n → ActOk (l.getD j aNone) from fun j hj => HOK.out j (by omega))
    have hij : decide ((i : Int) < (n : Int)) = false := decide_eq_false (by omega)
    clear HOK
    go_wp2_with fail
    refine (new_any wr).mono ?_
    rintro e w2 ⟨rfl, rfl⟩
    have hn0 := new_net wr
    have BA := (Below.refl wr.heap.size wr).alloc (Nat.le_refl _) (.cells #[.slice none 0 0, .slice none 0 0] 99)
    have HB2 := Lib.hid (HB.out.trans (BA.mono HB.out.size))
    have HR2 := Lib.hid hn0
    have HLN := Lib.hid (show w.heap.size ≤ wr.heap.size from HB.out.size)
    have HN2 := Lib.hid (show wr.heap.size < (wr.alloc (.cells #[.slice none 0 0, .slice none 0 0] 99)).heap.size from by simp)
    generalize (wr.alloc (.cells #[.slice none 0 0, .slice none 0 0] 99)) = w2 at *
    clear hn0 BA HB hi hlt hij
    generalize wr.heap.size = N at *
    have BA := (Below.refl w2.heap.size w2).alloc (Nat.le_refl _) (.cells #[.slice none 0 0, .slice none 0 0] 73)
    have HB3 := Lib.hid (HB2.out.trans (BA.mono HB2.out.size))
    have HR3 := Lib.hid (HR2.out.below BA)
    have H53 := Lib.hid (Blk.made w2 73 #[.slice none 0 0, .slice none 0 0])
    have HL5 := Lib.hid (show N < w2.heap.size ∧ w.heap.size ≤ w2.heap.size from ⟨HN2.out, HB2.out.size⟩)
    clear BA HB2 HR2 HN2
    go_upto_region 12 with fail
    generalize (w2.alloc (.cells #[.slice none 0 0, .slice none 0 0] 73)) = w3 at *
    generalize w2.heap.size = b5 at *
    go_wp2_with fail
    go_loopw [6] (fun iv wr => ∃ i : Nat, i ≤ n ∧ iv = .int .i64 i ∧ PlI w N b5 i wr) (fun iv _ => n - (intOf iv).toNat)
    case atStart => exact ⟨0, Nat.zero_le _, rfl, [], [], [], none, 0, none, 0, HR3.out, rfl, H53.out, ⟨MSl.nil _ _ _, Nat.le_refl _, ⟨rfl, fun h => absurd h (Nat.lt_irrefl 0)⟩, ⟨0, rfl, .inl ⟨rfl, rfl⟩⟩, 0, rfl, .inl ⟨rfl, rfl⟩⟩, fun q hq => (nomatch hq), ⟨Nat.le_refl _, Nat.le_refl _⟩, HB3.out⟩
    case round =>
      clear HB3 HR3 H53
      obtain ⟨i, hi, rfl, P, DL, DC, la, lc, ca, cc, hR, hP, h5, hRN, hq, hLC, hB⟩ := hrel
      have HR := Lib.hid hR
      have HP := Lib.hid hP
      have H5 := Lib.hid h5
      have HRN := Lib.hid hRN
      have HQ := Lib.hid hq
      have HLC := Lib.hid hLC
      have HB := Lib.hid hB
      clear hR hP h5 hRN hq hLC hB
      by_cases hlt : i < n
      rotate_left
      · have hij : decide ((i : Int) < (n : Int)) = false := decide_eq_false (by omega)
        have n0 := H5.out.cell 0
        have EP := Lib.hid (peek_any (DL.length : Int) wr HR.out)
        rw [netAt_end HP.out] at EP
        clear hi
        go_wp2_with fail
        refine EP.out.mono ?_
        rintro e w4 ⟨B4, a1, c1, rfl, -, -, -⟩
        rw [show MsgR.vals { ((mNone, 6) : MsgR × Nat).1 with a := a1, c := c1 } = .agg #[.int .i64 0, .int .i64 0, .int .i64 0, .int .i64 0, .int .i64 0, .int .u64 0, .int .i64 0, .bool false, .int .u64 0, .int .u32 0, .bool false, .slice a1 0 c1] from rfl, show errc ((mNone, 6) : MsgR × Nat).2 = errc 6 from rfl]
        have BB := B4.trans (((Below.refl w4.heap.size w4).alloc (Nat.le_refl _) (.cells #[.int .i64 0, .int .i64 0, .int .i64 0, .int .i64 0, .int .i64 0, .int .u64 0, .int .i64 0, .bool false, .int .u64 0, .int .u32 0, .bool false, .slice a1 0 c1] 29)).mono B4.size)
        have HB4 := Lib.hid (HB.out.trans (BB.mono HB.out.size))
        clear B4 BB EP n0
        go_upto_region 43 with fail
        generalize (w4.alloc (.cells #[.int .i64 0, .int .i64 0, .int .i64 0, .int .i64 0, .int .i64 0, .int .u64 0, .int .i64 0, .bool false, .int .u64 0, .int .u32 0, .bool false, .slice a1 0 c1] 29)) = w5 at *
        go_wp2_with fail
        refine (code_c 6 _ (by decide)).mono ?_
        rintro e w6 ⟨rfl, rfl⟩
        go_wp2_with fail
        go_ret
        exact ⟨rfl, HB4.out⟩
      obtain ⟨x, hx⟩ : ∃ x, l.getD i aNone = x := ⟨_, rfl⟩
      have HXI := Lib.hid (show AIn w w.heap.size x from by rw [← hx]; exact HA.out.2.1 i hlt)
      have HXO := Lib.hid (show ActOk x from by rw [← hx]; exact HALL.out i hlt)
      have HLT := Lib.hid hlt
      obtain ⟨b, off, rfl, -, k0, k1, k2, k3, k4, k5, k6, k7, k8, k9, k10, k11, k12, k13, k14⟩ := (HA.out.below HB.out).at_ hlt hx
      have hij : (i : Int) < (n : Int) := by omega
      have BA := (Below.refl wr.heap.size wr).alloc (Nat.le_refl _) (.cells #[.int .i64 x.kd, .int .i64 x.i, .int .i64 x.k, .int .i64 x.m.fr, .int .i64 x.m.tt, .int .i64 x.m.kd, .int .i64 x.m.vol, .int .i64 x.m.life, .int .u64 x.m.id, .int .i64 x.m.cd, .bool x.m.has, .int .u64 x.m.key, .int .u32 x.m.ck, .bool x.m.g, .slice x.m.a x.m.n x.m.c] 66)
      have HB1 := Lib.hid (HB.out.trans (BA.mono HB.out.size))
      have HX1 := Lib.hid (Blk.made wr 66 #[.int .i64 x.kd, .int .i64 x.i, .int .i64 x.k, .int .i64 x.m.fr, .int .i64 x.m.tt, .int .i64 x.m.kd, .int .i64 x.m.vol, .int .i64 x.m.life, .int .u64 x.m.id, .int .i64 x.m.cd, .bool x.m.has, .int .u64 x.m.key, .int .u32 x.m.ck, .bool x.m.g, .slice x.m.a x.m.n x.m.c])
      have HR1 := Lib.hid (HR.out.below BA)
      have HN1 := Lib.hid (HRN.out.on BA)
      have H51 := Lib.hid (H5.out.below BA H5.out.lt)
      have HLX := Lib.hid (show b5 < wr.heap.size from H5.out.lt)
      clear hx hlt BA HB HR HRN H5
      go_upto_region 15 with fail
      go_cut [7] (fun pv wx => pv = .pointer (some ⟨wr.heap.size, 0, none⟩) ∧ (wr.alloc (.cells #[.int .i64 x.kd, .int .i64 x.i, .int .i64 x.k, .int .i64 x.m.fr, .int .i64 x.m.tt, .int .i64 x.m.kd, .int .i64 x.m.vol, .int .i64 x.m.life, .int .u64 x.m.id, .int .i64 x.m.cd, .bool x.m.has, .int .u64 x.m.key, .int .u32 x.m.ck, .bool x.m.g, .slice x.m.a x.m.n x.m.c] 66)) = wx)
      case first =>
        as_aux_lemma =>
          go_upto_region 16 with fail
          go_meet
          exact ⟨rfl, rfl⟩
      case rest =>
      obtain ⟨rfl, rfl⟩ := hcut
      generalize (wr.alloc (.cells #[.int .i64 x.kd, .int .i64 x.i, .int .i64 x.k, .int .i64 x.m.fr, .int .i64 x.m.tt, .int .i64 x.m.kd, .int .i64 x.m.vol, .int .i64 x.m.life, .int .u64 x.m.id, .int .i64 x.m.cd, .bool x.m.has, .int .u64 x.m.key, .int .u32 x.m.ck, .bool x.m.g, .slice x.m.a x.m.n x.m.c] 66)) = W1 at *
      generalize wr.heap.size = b7 at *
      clear k0 k1 k2 k3 k4 k5 k6 k7 k8 k9 k10 k11 k12 k13 k14 hij hi
      obtain ⟨k0, k1, k2, k3, k4, k5, k6, k7, k8, k9, k10, k11, k12, k13, k14⟩ := act_cells HX1.out
      have n0 := H51.out.cell 0
      have n1 := H51.out.cell 1
      have ed := do_any la DL.length lc ca DC.length cc DL DC x W1 HN1.out ((HXI.out.below HB1.out).more HB1.out.size) (by have := HLC.out.1; have := HLT.out; omega) (by have := HLC.out.2; have := HLT.out; omega) (by have := HXO.out.1; omega) HXO.out.2.1
      have hdm := docDo_mem DL DC x
      obtain ⟨⟨DL1, DC1, q, cf⟩, hdo⟩ : ∃ r, docDo DL DC x = r := ⟨_, rfl⟩
      rw [hdo] at ed hdm
      unfold DoP at ed
      dsimp only at ed hdm
      have HDO := Lib.hid hdo
      have HQ1 := Lib.hid (show (∀ m ∈ DL1, MIn w w.heap.size m ∧ m.n ≤ 300) ∧ MIn w w.heap.size q ∧ q.n ≤ 300 from by
        refine ⟨fun m hm => ?_, ?_⟩
        · rcases hdm.1 m hm with h | h
          · exact HQ.out m h
          · rw [h]; exact ⟨HXI.out.m, HXO.out.1⟩
        · rcases hdm.2.1 with h | h
          · rw [h]; exact ⟨min_none _ _, by decide⟩
          · exact HQ.out q h)
      have HLC1 := Lib.hid (show (DL1.length ≤ i + 1 ∧ DC1.length ≤ i + 1) ∧ cf ≤ 17 from ⟨⟨Nat.le_trans hdm.2.2.2.1 (Nat.succ_le_succ HLC.out.1), Nat.le_trans hdm.2.2.2.2 (Nat.succ_le_succ HLC.out.2)⟩, hdm.2.2.1⟩)
      have ED := Lib.hid ed
      clear ed hdo hdm
      go_upto_region 16 with fail
      go_cut [8, 9, 10] (fun v8 v9 v10 wx => ∃ (w3 : World) (la1 : Option Addr) (lc1 : Nat) (ca1 : Option Addr) (cc1 : Nat), v8 = .pointer (some ⟨w3.heap.size, 0, none⟩) ∧ v9 = .pointer (some ⟨w3.heap.size + 1, 0, none⟩) ∧ v10 = .int .i64 (cf : Int) ∧ Below W1.heap.size W1 w3 ∧ RNet w3 la1 DL1.length lc1 ca1 DC1.length cc1 DL1 DC1 ∧ ((w3.alloc (.cells #[.slice la1 DL1.length lc1, .slice ca1 DC1.length cc1] 73)).alloc (.cells #[.int .i64 q.fr, .int .i64 q.tt, .int .i64 q.kd, .int .i64 q.vol, .int .i64 q.life, .int .u64 q.id, .int .i64 q.cd, .bool q.has, .int .u64 q.key, .int .u32 q.ck, .bool q.g, .slice q.a q.n q.c] 36)) = wx)
      case first =>
        as_aux_lemma =>
          go_wp2_with fail
          refine ED.out.mono ?_
          rintro e w3 ⟨B3, la1, n1', lc1, ca1, k1', cc1, rfl, hrn3⟩
          obtain rfl : n1' = DL1.length := hrn3.m.1.symm
          obtain rfl : k1' = DC1.length := hrn3.c.1.symm
          rw [show MsgR.vals q = .agg #[.int .i64 q.fr, .int .i64 q.tt, .int .i64 q.kd, .int .i64 q.vol, .int .i64 q.life, .int .u64 q.id, .int .i64 q.cd, .bool q.has, .int .u64 q.key, .int .u32 q.ck, .bool q.g, .slice q.a q.n q.c] from rfl]
          have HB3 := Lib.hid B3
          have HN3 := Lib.hid hrn3
          clear B3 ED hrn3
          go_upto_region 17 with fail
          go_meet
          exact ⟨_, _, _, _, _, rfl, rfl, rfl, HB3.out, HN3.out, rfl⟩
      case rest =>
      obtain ⟨w3, la1, lc1, ca1, cc1, rfl, rfl, rfl, B3, hrn3, rfl⟩ := hcut
      have HB3 := Lib.hid (HB1.out.trans (B3.mono HB1.out.size))
      have HX3 := Lib.hid (HX1.out.below B3 HX1.out.lt)
      have HR3 := Lib.hid (HR1.out.below B3)
      have HN3 := Lib.hid hrn3
      have H53 := Lib.hid (H51.out.below B3 H51.out.lt)
      clear B3 ED HB1 HX1 HR1 HN1 H51 n0 n1 k0 k1 k2 k3 k4 k5 k6 k7 k8 k9 k10 k11 k12 k13 k14
      have BA := ((Below.refl w3.heap.size w3).alloc (Nat.le_refl _) (.cells #[.slice la1 DL1.length lc1, .slice ca1 DC1.length cc1] 73)).alloc (by simp) (.cells #[.int .i64 q.fr, .int .i64 q.tt, .int .i64 q.kd, .int .i64 q.vol, .int .i64 q.life, .int .u64 q.id, .int .i64 q.cd, .bool q.has, .int .u64 q.key, .int .u32 q.ck, .bool q.g, .slice q.a q.n q.c] 36)
      obtain ⟨h8, h9⟩ := made_two w3 73 36 #[.slice la1 DL1.length lc1, .slice ca1 DC1.length cc1] #[.int .i64 q.fr, .int .i64 q.tt, .int .i64 q.kd, .int .i64 q.vol, .int .i64 q.life, .int .u64 q.id, .int .i64 q.cd, .bool q.has, .int .u64 q.key, .int .u32 q.ck, .bool q.g, .slice q.a q.n q.c]
      have HB4 := Lib.hid (HB3.out.trans (BA.mono HB3.out.size))
      have HX4 := Lib.hid (HX3.out.below BA HX3.out.lt)
      have HR4 := Lib.hid (HR3.out.below BA)
      have HN4 := Lib.hid (HN3.out.on BA)
      have H54 := Lib.hid (H53.out.below BA H53.out.lt)
      have HLY := Lib.hid (show b5 < w3.heap.size from H53.out.lt)
      have H84 := Lib.hid h8
      have H94 := Lib.hid h9
      clear hrn3 BA h8 h9 HB3 HX3 HR3 HN3 H53
      generalize ((w3.alloc (.cells #[.slice la1 DL1.length lc1, .slice ca1 DC1.length cc1] 73)).alloc (.cells #[.int .i64 q.fr, .int .i64 q.tt, .int .i64 q.kd, .int .i64 q.vol, .int .i64 q.life, .int .u64 q.id, .int .i64 q.cd, .bool q.has, .int .u64 q.key, .int .u32 q.ck, .bool q.g, .slice q.a q.n q.c] 36)) = W4 at *
      generalize w3.heap.size + 1 = b9 at *
      generalize w3.heap.size = b8 at *
      have n0 := H84.out.cell 0
      have n1 := H84.out.cell 1
      have s0 := H54.out.cell 0
      have s1 := H54.out.cell 1
      have f0 := H54.out.frozen 0
      have f1 := H54.out.frozen 1
      have g1 := grown_put (grown_put (grown_refl W4 (some b5)) 0 (.slice la1 DL1.length lc1)) 1 (.slice ca1 DC1.length cc1)
      have hB5 := ((Below.refl w.heap.size W4).setCell (p := ⟨b5, 0, none⟩) HL5.out.2 (.slice la1 DL1.length lc1)).setCell (p := ⟨b5, 1, none⟩) HL5.out.2 (.slice ca1 DC1.length cc1)
      have HB5 := Lib.hid (HB4.out.trans hB5)
      have H55 := Lib.hid (show Blk _ b5 73 #[.slice la1 DL1.length lc1, .slice ca1 DC1.length cc1] from (H54.out.put 0 (.slice la1 DL1.length lc1)).put 1 (.slice ca1 DC1.length cc1))
      have HX5 := Lib.hid (HX4.out.grown g1 (by intro e; injection e with e; have := HLX.out; omega))
      have H95 := Lib.hid (H94.out.grown g1 (by intro e; injection e with e; exact blk_ne H94.out H54.out (by decide) e))
      have HR5 := Lib.hid (NetR.othr2 H54.out g1 HR4.out (by decide) (by decide) (by decide) (by decide))
      have HN5 := Lib.hid (HN4.out.put g1 H54.out (by decide) (by decide) HB5.out fun m hm => (HQ1.out.1 m hm).1)
      clear g1 hB5 HB4 HX4 H94 HR4 HN4 H54 H84
      go_upto_region 18 with fail
      generalize ((W4.setCell ⟨b5, 0, none⟩ (.slice la1 DL1.length lc1)).setCell ⟨b5, 1, none⟩ (.slice ca1 DC1.length cc1)) = W5 at *
      clear n0 n1 s0 s1 f0 f1
      have BA := (Below.refl W5.heap.size W5).alloc (Nat.le_refl _) (.cells #[.int .i64 0, .int .i64 0, .int .i64 0, .int .i64 0, .int .i64 0, .int .u64 0, .int .i64 0, .bool false, .int .u64 0, .int .u32 0, .bool false, .slice none 0 0] 29)
      have HB6 := Lib.hid (HB5.out.trans (BA.mono HB5.out.size))
      have HX6 := Lib.hid (HX5.out.below BA HX5.out.lt)
      have HR6 := Lib.hid (HR5.out.below BA)
      have HN6 := Lib.hid (HN5.out.on BA)
      have H56 := Lib.hid (H55.out.below BA H55.out.lt)
      have H96 := Lib.hid (H95.out.below BA H95.out.lt)
      have H116 := Lib.hid (Blk.made W5 29 #[.int .i64 0, .int .i64 0, .int .i64 0, .int .i64 0, .int .i64 0, .int .u64 0, .int .i64 0, .bool false, .int .u64 0, .int .u32 0, .bool false, .slice none 0 0])
      have HL11 := Lib.hid (show w.heap.size ≤ W5.heap.size from HB5.out.size)
      clear BA HB5 HX5 HR5 HN5 H55 H95
      go_upto_region 20 with fail
      generalize (W5.alloc (.cells #[.int .i64 0, .int .i64 0, .int .i64 0, .int .i64 0, .int .i64 0, .int .u64 0, .int .i64 0, .bool false, .int .u64 0, .int .u32 0, .bool false, .slice none 0 0] 29)) = W6 at *
      generalize W5.heap.size = b11 at *
      obtain ⟨k0, k1, k2, k3, k4, k5, k6, k7, k8, k9, k10, k11, k12, k13, k14⟩ := act_cells HX6.out
      go_upto_block 4 with fail
      go_cut [12] (fun ev wx => ev = errc cf ∧ PlS w N b5 b9 b11 DL1 DC1 q la1 lc1 ca1 cc1 wx)
      case first =>
        by_cases e0 : x.kd = 0
        · have y0 : (x.kd == 0) = true := by rw [e0]; rfl
          obtain ⟨hq, hsa⟩ := send_as (N := N) HDO.out HP.out e0
          have EO := Lib.hid (show Calls Try.prog 19 #[.agg #[.int .i64 x.m.fr, .int .i64 x.m.tt, .int .i64 x.m.kd, .int .i64 x.m.vol, .int .i64 x.m.life, .int .u64 x.m.id, .int .i64 x.m.cd, .bool x.m.has, .int .u64 x.m.key, .int .u32 x.m.ck, .bool x.m.g, .slice x.m.a x.m.n x.m.c]] W6 fun e w' => e = .returned (.agg #[.int .i64 x.m.fr, .int .i64 x.m.tt, .int .i64 x.m.kd, .int .i64 x.m.vol, .int .i64 x.m.life, .int .u64 x.m.id, .int .i64 x.m.cd, .bool x.m.has, .int .u64 x.m.key, .int .u32 x.m.ck, .bool x.m.g, .slice x.m.a x.m.n x.m.c]) ∧ Below W6.heap.size W6 w' from ofm_any x.m W6)
          have ES := Lib.hid hsa
          clear e0 hsa
          subst hq
          go_wp2_with fail
          refine EO.out.mono ?_
          rintro e w7 ⟨rfl, B7⟩
          have HB7 := Lib.hid (HB6.out.trans (B7.mono HB6.out.size))
          have HR7 := Lib.hid (HR6.out.below B7)
          have HN7 := Lib.hid (HN6.out.on B7)
          have H57 := Lib.hid (H56.out.below B7 H56.out.lt)
          have H97 := Lib.hid (H96.out.below B7 H96.out.lt)
          have H117 := Lib.hid (H116.out.below B7 H116.out.lt)
          have ES7 := Lib.hid (ES.out w7 HR7.out ((HXI.out.below HB7.out).more HB7.out.size) HXO.out.1)
          clear B7 EO ES HB6 HR6 HN6 H56 H96 H116 HX6 k0 k1 k2 k3 k4 k5 k6 k7 k8 k9 k10 k11 k12 k13 k14
          go_wp2_with fail
          refine ES7.out.mono ?_
          rintro e w8 ⟨P1, rfl, hd8, hm8⟩
          have HB8 := Lib.hid (HB7.out.trans (hd8.2.2.mono HLN.out))
          have HR8 := Lib.hid (show NetR _ N N _ (DC1.map nrm) from hd8.1)
          have HN8 := Lib.hid (HN7.out.nk hd8.2.1 HB8.out fun m hm => (HQ1.out.1 m hm).1)
          have H58 := Lib.hid (H57.out.nkeep hd8.2.1 (by decide) (by decide) (by decide))
          have H98 := Lib.hid (H97.out.nkeep hd8.2.1 (by decide) (by decide) (by decide))
          have H118 := Lib.hid (H117.out.nkeep hd8.2.1 (by decide) (by decide) (by decide))
          have HM8 := Lib.hid hm8
          clear hd8 hm8 ES7 HB7 HR7 HN7 H57 H97 H117
          go_wp2_with fail
          go_meet
          exact ⟨rfl, _, none, 0, HR8.out, HM8.out, H58.out, HN8.out, H98.out, H118.out, BSl.nil _ _ none, HB8.out⟩
        have y0 : (x.kd == 0) = false := by rw [beq_eq_false_iff_ne]; exact e0
        by_cases e1 : x.kd = 1
        · have y1 : (x.kd == 1) = true := by rw [e1]; rfl
          have ES7 := Lib.hid (take_as HDO.out HP.out e1 W6 HR6.out (by have := HLC.out.2; have := HLT.out; omega))
          clear e0 e1
          go_wp2_with fail
          refine ES7.out.mono ?_
          rintro e w8 ⟨P1, ga, gc, rfl, hd8, hm8, ho8⟩
          have HB8 := Lib.hid (HB6.out.trans (hd8.2.2.mono HLN.out))
          have HR8 := Lib.hid (show NetR _ N N _ (DC1.map nrm) from hd8.1)
          have HN8 := Lib.hid (HN6.out.nk hd8.2.1 HB8.out fun m hm => (HQ1.out.1 m hm).1)
          have H58 := Lib.hid (H56.out.nkeep hd8.2.1 (by decide) (by decide) (by decide))
          have H98 := Lib.hid (H96.out.nkeep hd8.2.1 (by decide) (by decide) (by decide))
          have H118 := Lib.hid (H116.out.nkeep hd8.2.1 (by decide) (by decide) (by decide))
          have HM8 := Lib.hid hm8
          have HO8 := Lib.hid ho8
          clear hd8 hm8 ho8 ES7 HB6 HR6 HN6 H56 H96 H116 HX6 k0 k1 k2 k3 k4 k5 k6 k7 k8 k9 k10 k11 k12 k13 k14
          obtain ⟨z0, z1, z2, z3, z4, z5, z6, z7, z8, z9, z10, z11⟩ := H118.out.twelve
          obtain ⟨f0, f1, f2, f3, f4, f5, f6, f7, f8, f9, f10, f11⟩ := H118.out.twelve_frozen
          go_upto_region 23 with fail
          have hp := H118.out.put12 (.int .i64 q.fr) (.int .i64 q.tt) (.int .i64 q.kd) (.int .i64 q.vol) (.int .i64 q.life) (.int .u64 q.id) (.int .i64 q.cd) (.bool q.has) (.int .u64 q.key) (.int .u32 q.ck) (.bool q.g) (.slice ga q.n gc)
          have hg := grown_put12 (grown_refl w8 (some b11)) (.int .i64 q.fr) (.int .i64 q.tt) (.int .i64 q.kd) (.int .i64 q.vol) (.int .i64 q.life) (.int .u64 q.id) (.int .i64 q.cd) (.bool q.has) (.int .u64 q.key) (.int .u32 q.ck) (.bool q.g) (.slice ga q.n gc)
          have hb := below_put12 HB8.out HL11.out (.int .i64 q.fr) (.int .i64 q.tt) (.int .i64 q.kd) (.int .i64 q.vol) (.int .i64 q.life) (.int .u64 q.id) (.int .i64 q.cd) (.bool q.has) (.int .u64 q.key) (.int .u32 q.ck) (.bool q.g) (.slice ga q.n gc)
          have HFIN := Lib.hid (show PlS w N b5 b9 b11 DL1 DC1 q la1 lc1 ca1 cc1 _ from ⟨P1, ga, gc, NetR.othr2 H118.out hg HR8.out (by decide) (by decide) (by decide) (by decide), HM8.out, H58.out.grown hg (by intro e; injection e with e; exact blk_ne H58.out H118.out (by decide) e), HN8.out.put hg H118.out (by decide) (by decide) hb (fun m hm => (HQ1.out.1 m hm).1), H98.out.grown hg (by intro e; injection e with e; exact blk_ne H98.out H118.out (by decide) e), hp, bsl_own (row_keep HO8.out hg H118.out (by decide)), hb⟩)
          clear hp hg hb z0 z1 z2 z3 z4 z5 z6 z7 z8 z9 z10 z11 f0 f1 f2 f3 f4 f5 f6 f7 f8 f9 f10 f11
          go_meet
          exact ⟨rfl, HFIN.out⟩
        have y1 : (x.kd == 1) = false := by rw [beq_eq_false_iff_ne]; exact e1
        by_cases e2 : x.kd = 2
        · have y2 : (x.kd == 2) = true := by rw [e2]; rfl
          obtain ⟨hq, hsa⟩ := lose_as (N := N) HDO.out HP.out e2
          have ES7 := Lib.hid (hsa W6 HR6.out)
          clear e0 e1 e2  hsa
          subst hq
          go_wp2_with fail
          refine ES7.out.mono ?_
          rintro e w8 ⟨P1, rfl, hd8, hm8⟩
          have HB8 := Lib.hid (HB6.out.trans (hd8.2.2.mono HLN.out))
          have HR8 := Lib.hid (show NetR _ N N _ (DC1.map nrm) from hd8.1)
          have HN8 := Lib.hid (HN6.out.nk hd8.2.1 HB8.out fun m hm => (HQ1.out.1 m hm).1)
          have H58 := Lib.hid (H56.out.nkeep hd8.2.1 (by decide) (by decide) (by decide))
          have H98 := Lib.hid (H96.out.nkeep hd8.2.1 (by decide) (by decide) (by decide))
          have H118 := Lib.hid (H116.out.nkeep hd8.2.1 (by decide) (by decide) (by decide))
          have HM8 := Lib.hid hm8
          clear hd8 hm8 ES7 HB6 HR6 HN6 H56 H96 H116 HX6 k0 k1 k2 k3 k4 k5 k6 k7 k8 k9 k10 k11 k12 k13 k14
          go_wp2_with fail
          go_meet
          exact ⟨rfl, _, none, 0, HR8.out, HM8.out, H58.out, HN8.out, H98.out, H118.out, BSl.nil _ _ none, HB8.out⟩
        have y2 : (x.kd == 2) = false := by rw [beq_eq_false_iff_ne]; exact e2
        by_cases e3 : x.kd = 3
        · have y3 : (x.kd == 3) = true := by rw [e3]; rfl
          obtain ⟨hq, hsa⟩ := twice_as (N := N) HDO.out HP.out e3
          have ES7 := Lib.hid (hsa W6 HR6.out)
          clear e0 e1 e2 e3 hsa
          subst hq
          go_wp2_with fail
          refine ES7.out.mono ?_
          rintro e w8 ⟨P1, rfl, hd8, hm8⟩
          have HB8 := Lib.hid (HB6.out.trans (hd8.2.2.mono HLN.out))
          have HR8 := Lib.hid (show NetR _ N N _ (DC1.map nrm) from hd8.1)
          have HN8 := Lib.hid (HN6.out.nk hd8.2.1 HB8.out fun m hm => (HQ1.out.1 m hm).1)
          have H58 := Lib.hid (H56.out.nkeep hd8.2.1 (by decide) (by decide) (by decide))
          have H98 := Lib.hid (H96.out.nkeep hd8.2.1 (by decide) (by decide) (by decide))
          have H118 := Lib.hid (H116.out.nkeep hd8.2.1 (by decide) (by decide) (by decide))
          have HM8 := Lib.hid hm8
          clear hd8 hm8 ES7 HB6 HR6 HN6 H56 H96 H116 HX6 k0 k1 k2 k3 k4 k5 k6 k7 k8 k9 k10 k11 k12 k13 k14
          go_wp2_with fail
          go_meet
          exact ⟨rfl, _, none, 0, HR8.out, HM8.out, H58.out, HN8.out, H98.out, H118.out, BSl.nil _ _ none, HB8.out⟩
        have y3 : (x.kd == 3) = false := by rw [beq_eq_false_iff_ne]; exact e3
        have h45 : 4 ≤ x.kd := by have := HXO.out.2.1; omega
        have HAP := Lib.hid (show DC1.length ≤ 1000 from by have := HLC1.out.1.2; have := HLT.out; omega)
        obtain ⟨bx, hbx⟩ : ∃ r, dAp DC1 x.i x.k = r := ⟨_, rfl⟩
        have HBX := Lib.hid hbx
        have hne : (bx != bx) = false := bne_self_eq_false bx
        clear hbx
        obtain ⟨bb, hbb⟩ : ∃ r, (x.kd == 4) = r := ⟨_, rfl⟩
        obtain ⟨hq, hsa⟩ := cut_as (N := N) HDO.out HP.out h45 bb hbb (by have := HLC.out.2; have := HLT.out; omega)
        have ES7 := Lib.hid (hsa W6 HR6.out)
        have HH5 := Lib.hid (show (x.kd == 4) = false → (x.kd == 5) = true from fun h => by rw [beq_eq_false_iff_ne] at h; rw [show x.kd = 5 from by have := HXO.out.2.2; omega]; rfl)
        clear e0 e1 e2 e3 h45 hsa
        subst hq
        go_upto_if 104 with fail
        go_cut [104] (fun v wx => v = .bool true ∧ W6 = wx)
        case first =>
          cases bb
          · have y5 := HH5.out hbb
            go_wp2_with fail
            go_meet
            exact ⟨rfl, rfl⟩
          · go_wp2_with fail
            go_meet
            exact ⟨rfl, rfl⟩
        case rest =>
          obtain ⟨rfl, rfl⟩ := hcut
          go_wp2_with fail
          refine ES7.out.mono ?_
          rintro e w8 ⟨P1, rfl, hd8, hm8⟩
          have HB8 := Lib.hid (HB6.out.trans (hd8.2.2.mono HLN.out))
          have HR8 := Lib.hid (show NetR _ N N _ (DC1.map nrm) from hd8.1)
          have HN8 := Lib.hid (HN6.out.nk hd8.2.1 HB8.out fun m hm => (HQ1.out.1 m hm).1)
          have H58 := Lib.hid (H56.out.nkeep hd8.2.1 (by decide) (by decide) (by decide))
          have H98 := Lib.hid (H96.out.nkeep hd8.2.1 (by decide) (by decide) (by decide))
          have H118 := Lib.hid (H116.out.nkeep hd8.2.1 (by decide) (by decide) (by decide))
          have HX8 := Lib.hid (HX6.out.nkeep hd8.2.1 (by decide) (by decide) (by decide))
          have HM8 := Lib.hid hm8
          clear hd8 hm8 ES7 HB6 HR6 HN6 H56 H96 H116 HX6 k0 k1 k2 k3 k4 k5 k6 k7 k8 k9 k10 k11 k12 k13 k14
          have C1 := Lib.hid fun (W : World) (B : Below w8.heap.size w8 W) => act_cells (HX8.out.below B HX8.out.lt)
          have C2 := Lib.hid fun (W : World) (B : Below w8.heap.size w8 W) => And.intro ((H58.out.below B H58.out.lt).cell 0) ((H58.out.below B H58.out.lt).cell 1)
          have EA1 := Lib.hid fun (W : World) (B : Below w8.heap.size w8 W) => show Calls Try.prog 29 #[.pointer (some ⟨N, 0, none⟩), .int .i64 x.i, .int .i64 x.k] W fun e w' => e = .returned (.bool bx) ∧ Below W.heap.size W w' from by
            have := apart_any x.i x.k W (HR8.out.below B) (by rw [List.length_map]; have := HAP.out; omega)
            rw [ap_match, HBX.out] at this
            exact this
          have EA2 := Lib.hid fun (W : World) (B : Below w8.heap.size w8 W) => show Calls Try.prog 29 #[.pointer (some ⟨N, 0, none⟩), .int .i64 x.k, .int .i64 x.i] W fun e w' => e = .returned (.bool bx) ∧ Below W.heap.size W w' from by
            have := apart_any x.k x.i W (HR8.out.below B) (by rw [List.length_map]; have := HAP.out; omega)
            rw [apC_turn, ap_match, HBX.out] at this
            exact this
          have ER := Lib.hid fun (W : World) (B : Below w8.heap.size w8 W) => show Calls Try.prog 34 #[.agg #[.slice la1 DL1.length lc1, .slice ca1 DC1.length cc1], .int .i64 x.i, .int .i64 x.k] W fun e w' => e = .returned (.bool bx) ∧ Below W.heap.size W w' from by
            have := rapart_any x.i x.k la1 DL1.length lc1 ca1 DC1.length cc1 DC1 W (HN8.out.on B).c (by have := HAP.out; omega)
            rw [HBX.out] at this
            exact this
          go_upto_region 32 with fail
          refine wp_region_held_drew (S := fun W => Below w8.heap.size w8 W) (by as_aux_lemma => kernel_rfl) ((Below.refl _ _).drew) (fun hS => ?_)
          refine wpAnyH_take (i := 0) (v := ?_) rfl (by as_aux_lemma => kernel_rfl) (by as_aux_lemma => kernel_rfl) (by as_aux_lemma => kernel_rfl) (fun _ _ _ h => h) (Or.inl ⟨by as_aux_lemma => kernel_rfl, ?_⟩) hS ?_
          rotate_left
          · intro W hW; go_simp; try with_reducible rfl
          refine wpAnyH_take (i := 1) (v := ?_) rfl (by as_aux_lemma => kernel_rfl) (by as_aux_lemma => kernel_rfl) (by as_aux_lemma => kernel_rfl) (fun _ _ _ h => h) (Or.inl ⟨by as_aux_lemma => kernel_rfl, ?_⟩) hS ?_
          rotate_left
          · intro W hW; go_simp; try with_reducible rfl
          refine wpAnyH_take (i := 2) (v := ?_) rfl (by as_aux_lemma => kernel_rfl) (by as_aux_lemma => kernel_rfl) (by as_aux_lemma => kernel_rfl) (fun _ _ _ h => h) (Or.inl ⟨by as_aux_lemma => kernel_rfl, ?_⟩) hS ?_
          rotate_left
          · intro W hW; obtain ⟨k0, k1, k2, k3, k4, k5, k6, k7, k8, k9, k10, k11, k12, k13, k14⟩ := C1.out W hW; obtain ⟨n0, n1⟩ := C2.out W hW; go_simp; try with_reducible rfl
          refine wpAnyH_take (i := 3) (v := ?_) rfl (by as_aux_lemma => kernel_rfl) (by as_aux_lemma => kernel_rfl) (by as_aux_lemma => kernel_rfl) (fun _ _ _ h => h) (Or.inl ⟨by as_aux_lemma => kernel_rfl, ?_⟩) hS ?_
          rotate_left
          · intro W hW; go_simp; try with_reducible rfl
          refine wpAnyH_take (i := 4) (v := ?_) rfl (by as_aux_lemma => kernel_rfl) (by as_aux_lemma => kernel_rfl) (by as_aux_lemma => kernel_rfl) (fun _ _ _ h => h) (Or.inl ⟨by as_aux_lemma => kernel_rfl, ?_⟩) hS ?_
          rotate_left
          · intro W hW; obtain ⟨k0, k1, k2, k3, k4, k5, k6, k7, k8, k9, k10, k11, k12, k13, k14⟩ := C1.out W hW; obtain ⟨n0, n1⟩ := C2.out W hW; go_simp; try with_reducible rfl
          refine wpAnyH_take (i := 6) (v := ?_) rfl (by as_aux_lemma => kernel_rfl) (by as_aux_lemma => kernel_rfl) (by as_aux_lemma => kernel_rfl) (fun _ _ _ h => h) (Or.inl ⟨by as_aux_lemma => kernel_rfl, ?_⟩) hS ?_
          rotate_left
          · intro W hW; obtain ⟨k0, k1, k2, k3, k4, k5, k6, k7, k8, k9, k10, k11, k12, k13, k14⟩ := C1.out W hW; obtain ⟨n0, n1⟩ := C2.out W hW; go_simp; try with_reducible rfl
          refine wpAnyH_take (i := 7) (v := ?_) rfl (by as_aux_lemma => kernel_rfl) (by as_aux_lemma => kernel_rfl) (by as_aux_lemma => kernel_rfl) (fun _ _ _ h => h) (Or.inl ⟨by as_aux_lemma => kernel_rfl, ?_⟩) hS ?_
          rotate_left
          · intro W hW; go_simp; try with_reducible rfl
          refine wpAnyH_take (i := 8) (v := ?_) rfl (by as_aux_lemma => kernel_rfl) (by as_aux_lemma => kernel_rfl) (by as_aux_lemma => kernel_rfl) (fun _ _ _ h => h) (Or.inl ⟨by as_aux_lemma => kernel_rfl, ?_⟩) hS ?_
          rotate_left
          · intro W hW; obtain ⟨k0, k1, k2, k3, k4, k5, k6, k7, k8, k9, k10, k11, k12, k13, k14⟩ := C1.out W hW; obtain ⟨n0, n1⟩ := C2.out W hW; go_simp; try with_reducible rfl
          refine wpAnyH_take (i := 9) (v := ?_) rfl (by as_aux_lemma => kernel_rfl) (by as_aux_lemma => kernel_rfl) (by as_aux_lemma => kernel_rfl) (fun _ _ _ h => h) (Or.inl ⟨by as_aux_lemma => kernel_rfl, ?_⟩) hS ?_
          rotate_left
          · intro W hW; go_simp; try with_reducible rfl
          refine wpAnyH_take (i := 10) (v := ?_) rfl (by as_aux_lemma => kernel_rfl) (by as_aux_lemma => kernel_rfl) (by as_aux_lemma => kernel_rfl) (fun _ _ _ h => h) (Or.inl ⟨by as_aux_lemma => kernel_rfl, ?_⟩) hS ?_
          rotate_left
          · intro W hW; obtain ⟨k0, k1, k2, k3, k4, k5, k6, k7, k8, k9, k10, k11, k12, k13, k14⟩ := C1.out W hW; obtain ⟨n0, n1⟩ := C2.out W hW; go_simp; try with_reducible rfl
          refine wpAnyH_ready (rs := [5]) (by as_aux_lemma => kernel_rfl) (by simp) ?_
          refine AllReadyH.cons (i := 5) rfl ?_ AllReadyH.nil
          intro K hK
          go_simp
          refine (EA1.out _ hS).mono ?_
          rintro e wv ⟨rfl, Bv⟩
          have hT := hS.trans (Bv.mono hS.size)
          go_simp
          refine hK.out _ _ ?_ (fun hN => ?_)
          · first | exact hT | exact hS | exact hS.alloc hS.size _ | exact hS.drew
          clear hK K
          try clear hT
          clear hS
          have hS := hN
          clear hN
          refine wpAnyH_ready (rs := [11]) (by as_aux_lemma => kernel_rfl) (by simp) ?_
          refine AllReadyH.cons (i := 11) rfl ?_ AllReadyH.nil
          intro K hK
          go_simp
          refine (ER.out _ hS).mono ?_
          rintro e wv ⟨rfl, Bv⟩
          have hT := hS.trans (Bv.mono hS.size)
          go_simp
          refine hK.out _ _ ?_ (fun hN => ?_)
          · first | exact hT | exact hS | exact hS.alloc hS.size _ | exact hS.drew
          clear hK K
          try clear hT
          clear hS
          have hS := hN
          clear hN
          refine wpAnyH_take (i := 12) (v := ?_) rfl (by as_aux_lemma => kernel_rfl) (by as_aux_lemma => kernel_rfl) (by as_aux_lemma => kernel_rfl) (fun _ _ _ h => h) (Or.inl ⟨by as_aux_lemma => kernel_rfl, ?_⟩) hS ?_
          rotate_left
          · intro W hW; go_simp; try with_reducible rfl
          refine wpAnyH_take (i := 13) (v := ?_) rfl (by as_aux_lemma => kernel_rfl) (by as_aux_lemma => kernel_rfl) (by as_aux_lemma => kernel_rfl) (fun _ _ _ h => h) (Or.inl ⟨by as_aux_lemma => kernel_rfl, ?_⟩) hS ?_
          rotate_left
          · intro W hW; go_simp; try with_reducible rfl
          refine wpAnyH_take (i := 14) (v := ?_) rfl (by as_aux_lemma => kernel_rfl) (by as_aux_lemma => kernel_rfl) (by as_aux_lemma => kernel_rfl) (fun _ _ _ h => h) (Or.inl ⟨by as_aux_lemma => kernel_rfl, ?_⟩) hS ?_
          rotate_left
          · intro W hW; go_simp; try with_reducible rfl
          refine wpAnyH_take (i := 15) (v := ?_) rfl (by as_aux_lemma => kernel_rfl) (by as_aux_lemma => kernel_rfl) (by as_aux_lemma => kernel_rfl) (fun _ _ _ h => h) (Or.inl ⟨by as_aux_lemma => kernel_rfl, ?_⟩) hS ?_
          rotate_left
          · intro W hW; go_simp; try with_reducible rfl
          refine wpAnyH_take (i := 16) (v := ?_) rfl (by as_aux_lemma => kernel_rfl) (by as_aux_lemma => kernel_rfl) (by as_aux_lemma => kernel_rfl) (fun _ _ _ h => h) (Or.inl ⟨by as_aux_lemma => kernel_rfl, ?_⟩) hS ?_
          rotate_left
          · intro W hW; obtain ⟨k0, k1, k2, k3, k4, k5, k6, k7, k8, k9, k10, k11, k12, k13, k14⟩ := C1.out W hW; obtain ⟨n0, n1⟩ := C2.out W hW; go_simp; try with_reducible rfl
          refine wpAnyH_take (i := 17) (v := ?_) rfl (by as_aux_lemma => kernel_rfl) (by as_aux_lemma => kernel_rfl) (by as_aux_lemma => kernel_rfl) (fun _ _ _ h => h) (Or.inl ⟨by as_aux_lemma => kernel_rfl, ?_⟩) hS ?_
          rotate_left
          · intro W hW; go_simp; try with_reducible rfl
          refine wpAnyH_take (i := 18) (v := ?_) rfl (by as_aux_lemma => kernel_rfl) (by as_aux_lemma => kernel_rfl) (by as_aux_lemma => kernel_rfl) (fun _ _ _ h => h) (Or.inl ⟨by as_aux_lemma => kernel_rfl, ?_⟩) hS ?_
          rotate_left
          · intro W hW; obtain ⟨k0, k1, k2, k3, k4, k5, k6, k7, k8, k9, k10, k11, k12, k13, k14⟩ := C1.out W hW; obtain ⟨n0, n1⟩ := C2.out W hW; go_simp; try with_reducible rfl
          refine wpAnyH_take (i := 20) (v := ?_) rfl (by as_aux_lemma => kernel_rfl) (by as_aux_lemma => kernel_rfl) (by as_aux_lemma => kernel_rfl) (fun _ _ _ h => h) (Or.inl ⟨by as_aux_lemma => kernel_rfl, ?_⟩) hS ?_
          rotate_left
          · intro W hW; go_simp; try with_reducible rfl
          refine wpAnyH_take (i := 21) (v := ?_) rfl (by as_aux_lemma => kernel_rfl) (by as_aux_lemma => kernel_rfl) (by as_aux_lemma => kernel_rfl) (fun _ _ _ h => h) (Or.inl ⟨by as_aux_lemma => kernel_rfl, ?_⟩) hS ?_
          rotate_left
          · intro W hW; go_simp; try with_reducible rfl
          refine wpAnyH_take (i := 22) (v := ?_) rfl (by as_aux_lemma => kernel_rfl) (by as_aux_lemma => kernel_rfl) (by as_aux_lemma => kernel_rfl) (fun _ _ _ h => h) (Or.inl ⟨by as_aux_lemma => kernel_rfl, ?_⟩) hS ?_
          rotate_left
          · intro W hW; obtain ⟨k0, k1, k2, k3, k4, k5, k6, k7, k8, k9, k10, k11, k12, k13, k14⟩ := C1.out W hW; obtain ⟨n0, n1⟩ := C2.out W hW; go_simp; try with_reducible rfl
          refine wpAnyH_take (i := 23) (v := ?_) rfl (by as_aux_lemma => kernel_rfl) (by as_aux_lemma => kernel_rfl) (by as_aux_lemma => kernel_rfl) (fun _ _ _ h => h) (Or.inl ⟨by as_aux_lemma => kernel_rfl, ?_⟩) hS ?_
          rotate_left
          · intro W hW; go_simp; try with_reducible rfl
          refine wpAnyH_take (i := 24) (v := ?_) rfl (by as_aux_lemma => kernel_rfl) (by as_aux_lemma => kernel_rfl) (by as_aux_lemma => kernel_rfl) (fun _ _ _ h => h) (Or.inl ⟨by as_aux_lemma => kernel_rfl, ?_⟩) hS ?_
          rotate_left
          · intro W hW; obtain ⟨k0, k1, k2, k3, k4, k5, k6, k7, k8, k9, k10, k11, k12, k13, k14⟩ := C1.out W hW; obtain ⟨n0, n1⟩ := C2.out W hW; go_simp; try with_reducible rfl
          refine wpAnyH_ready (rs := [19]) (by as_aux_lemma => kernel_rfl) (by simp) ?_
          refine AllReadyH.cons (i := 19) rfl ?_ AllReadyH.nil
          intro K hK
          go_simp
          refine (EA2.out _ hS).mono ?_
          rintro e wv ⟨rfl, Bv⟩
          have hT := hS.trans (Bv.mono hS.size)
          go_simp
          refine hK.out _ _ ?_ (fun hN => ?_)
          · first | exact hT | exact hS | exact hS.alloc hS.size _ | exact hS.drew
          clear hK K
          try clear hT
          clear hS
          have hS := hN
          clear hN
          refine wpAnyH_ready (rs := [25]) (by as_aux_lemma => kernel_rfl) (by simp) ?_
          refine AllReadyH.cons (i := 25) rfl ?_ AllReadyH.nil
          intro K hK
          go_simp
          refine (EA1.out _ hS).mono ?_
          rintro e wv ⟨rfl, Bv⟩
          have hT := hS.trans (Bv.mono hS.size)
          go_simp
          refine hK.out _ _ ?_ (fun hN => ?_)
          · first | exact hT | exact hS | exact hS.alloc hS.size _ | exact hS.drew
          clear hK K
          try clear hT
          clear hS
          have hS := hN
          clear hN
          refine wpAnyH_take (i := 26) (v := ?_) rfl (by as_aux_lemma => kernel_rfl) (by as_aux_lemma => kernel_rfl) (by as_aux_lemma => kernel_rfl) (fun _ _ _ h => h) (Or.inl ⟨by as_aux_lemma => kernel_rfl, ?_⟩) hS ?_
          rotate_left
          · intro W hW; go_simp; try with_reducible rfl
          refine wpAnyH_take (i := 27) (v := ?_) rfl (by as_aux_lemma => kernel_rfl) (by as_aux_lemma => kernel_rfl) (by as_aux_lemma => kernel_rfl) (fun _ _ _ h => h) (Or.inl ⟨by as_aux_lemma => kernel_rfl, ?_⟩) hS ?_
          rotate_left
          · intro W hW; go_simp; try with_reducible rfl
          refine wpAnyH_done (by as_aux_lemma => kernel_rfl) ?_ _
          go_simp
          have HB9 := Lib.hid (HB8.out.trans (hS.mono HB8.out.size))
          have HR9 := Lib.hid (HR8.out.below hS)
          have HN9 := Lib.hid (HN8.out.on hS)
          have H59 := Lib.hid (H58.out.below hS H58.out.lt)
          have H99 := Lib.hid (H98.out.below hS H98.out.lt)
          have H119 := Lib.hid (H118.out.below hS H118.out.lt)
          have HM9 := Lib.hid HM8.out
          clear hS
          go_wp2_with fail
          go_meet
          exact ⟨rfl, _, none, 0, HR9.out, HM9.out, H59.out, HN9.out, H99.out, H119.out, BSl.nil _ _ none, HB9.out⟩
      case rest =>
        obtain ⟨rfl, P1, ga, gc, hR, hP, h5, hRN, h9, h11, hga, hB⟩ := hcut
        have HRc := Lib.hid hR
        have HMc := Lib.hid hP
        have H5c := Lib.hid h5
        have HNc := Lib.hid hRN
        have H9c := Lib.hid h9
        have H11c := Lib.hid h11
        have HGc := Lib.hid hga
        have HBc := Lib.hid hB
        clear hR hP h5 hRN h9 h11 hga hB HB6 HR6 HN6 H56 H96 H116 HX6 HP HL11 k0 k1 k2 k3 k4 k5 k6 k7 k8 k9 k10 k11 k12 k13 k14
        have C1 := Lib.hid fun (W : World) (B : Below wc.heap.size wc W) => (H11c.out.below B H11c.out.lt).twelve
        have C2 := Lib.hid fun (W : World) (B : Below wc.heap.size wc W) => (H9c.out.below B H9c.out.lt).twelve
        have C3 := Lib.hid fun (W : World) (B : Below wc.heap.size wc W) => (H5c.out.below B H5c.out.lt).cell 0
        have ETo := Lib.hid fun (W : World) => show Calls Try.prog 16 #[.agg #[.int .i64 q.fr, .int .i64 q.tt, .int .i64 q.kd, .int .i64 q.vol, .int .i64 q.life, .int .u64 q.id, .int .i64 q.cd, .bool q.has, .int .u64 q.key, .int .u32 q.ck, .bool q.g, .slice ga q.n gc]] W fun e w' => e = .returned (.agg #[.int .i64 q.fr, .int .i64 q.tt, .int .i64 q.kd, .int .i64 q.vol, .int .i64 q.life, .int .u64 q.id, .int .i64 q.cd, .bool q.has, .int .u64 q.key, .int .u32 q.ck, .bool q.g, .slice ga q.n gc]) ∧ Below W.heap.size W w' from tom_any { q with a := ga, c := gc } W
        have ESm := Lib.hid fun (W : World) (B : Below wc.heap.size wc W) => show Calls Try.prog 15 #[.agg #[.int .i64 q.fr, .int .i64 q.tt, .int .i64 q.kd, .int .i64 q.vol, .int .i64 q.life, .int .u64 q.id, .int .i64 q.cd, .bool q.has, .int .u64 q.key, .int .u32 q.ck, .bool q.g, .slice ga q.n gc], .agg #[.int .i64 q.fr, .int .i64 q.tt, .int .i64 q.kd, .int .i64 q.vol, .int .i64 q.life, .int .u64 q.id, .int .i64 q.cd, .bool q.has, .int .u64 q.key, .int .u32 q.ck, .bool q.g, .slice q.a q.n q.c]] W fun e w' => e = .returned (.bool true) ∧ Below W.heap.size W w' from by
          have hBW := HBc.out.trans (B.mono HBc.out.size)
          have := rsame_any { q with a := ga, c := gc } q W ((HGc.out.below B).more B.size) ((HQ1.out.2.1.hb.below hBW).more hBW.size) (by have := HQ1.out.2.2; show q.n ≤ _; omega)
          rw [show mSame { q with a := ga, c := gc } q = true from mSame_of rfl] at this
          exact this
        have ELn := Lib.hid fun (W : World) (B : Below wc.heap.size wc W) => show Calls Try.prog 32 #[.pointer (some ⟨N, 0, none⟩)] W fun e w' => e = .returned (.int .i64 (DL1.length : Int)) ∧ W = w' from by
          have := len_any (HRc.out.below B)
          rw [HMc.out.len] at this
          exact this
        have HCF := Lib.hid HLC1.out.2
        have hz0 : ((cf : Int) != (cf : Int)) = false := bne_self_eq_false _
        have hz1 : ((DL1.length : Int) != (DL1.length : Int)) = false := bne_self_eq_false _
        go_upto_region 34 with fail
        refine wp_region_held_drew (S := fun W => Below wc.heap.size wc W) (by as_aux_lemma => kernel_rfl) ((Below.refl _ _).drew) (fun hS => ?_)
        refine wpAnyH_take (i := 0) (v := ?_) rfl (by as_aux_lemma => kernel_rfl) (by as_aux_lemma => kernel_rfl) (by as_aux_lemma => kernel_rfl) (fun _ _ _ h => h) (Or.inl ⟨by as_aux_lemma => kernel_rfl, ?_⟩) hS ?_
        rotate_left
        · intro W hW; go_simp; try with_reducible rfl
        refine wpAnyH_take (i := 2) (v := ?_) rfl (by as_aux_lemma => kernel_rfl) (by as_aux_lemma => kernel_rfl) (by as_aux_lemma => kernel_rfl) (fun _ _ _ h => h) (Or.inl ⟨by as_aux_lemma => kernel_rfl, ?_⟩) hS ?_
        rotate_left
        · intro W hW; go_simp; try with_reducible rfl
        refine wpAnyH_ready (rs := [1]) (by as_aux_lemma => kernel_rfl) (by simp) ?_
        refine AllReadyH.cons (i := 1) rfl ?_ AllReadyH.nil
        intro K hK
        go_simp
        refine (code_c cf _ HCF.out).mono ?_
        rintro e wv ⟨rfl, rfl⟩
        have hT := hS
        go_simp
        refine hK.out _ _ ?_ (fun hN => ?_)
        · first | exact hT | exact hS | exact hS.alloc hS.size _ | exact hS.drew
        clear hK K
        try clear hT
        clear hS
        have hS := hN
        clear hN
        refine wpAnyH_take (i := 3) (v := ?_) rfl (by as_aux_lemma => kernel_rfl) (by as_aux_lemma => kernel_rfl) (by as_aux_lemma => kernel_rfl) (fun _ _ _ h => h) (Or.inl ⟨by as_aux_lemma => kernel_rfl, ?_⟩) hS ?_
        rotate_left
        · intro W hW; go_simp; try with_reducible rfl
        refine wpAnyH_take (i := 4) (v := ?_) rfl (by as_aux_lemma => kernel_rfl) (by as_aux_lemma => kernel_rfl) (by as_aux_lemma => kernel_rfl) (fun _ _ _ h => h) (Or.inl ⟨by as_aux_lemma => kernel_rfl, ?_⟩) hS ?_
        rotate_left
        · intro W hW; go_simp; try with_reducible rfl
        refine wpAnyH_take (i := 5) (v := ?_) rfl (by as_aux_lemma => kernel_rfl) (by as_aux_lemma => kernel_rfl) (by as_aux_lemma => kernel_rfl) (fun _ _ _ h => h) (Or.inl ⟨by as_aux_lemma => kernel_rfl, ?_⟩) hS ?_
        rotate_left
        · intro W hW; obtain ⟨k0, k1, k2, k3, k4, k5, k6, k7, k8, k9, k10, k11⟩ := C1.out W hW; obtain ⟨x0, x1, x2, x3, x4, x5, x6, x7, x8, x9, x10, x11⟩ := C2.out W hW; have n0 := C3.out W hW; go_simp; try with_reducible rfl
        refine wpAnyH_take (i := 7) (v := ?_) rfl (by as_aux_lemma => kernel_rfl) (by as_aux_lemma => kernel_rfl) (by as_aux_lemma => kernel_rfl) (fun _ _ _ h => h) (Or.inl ⟨by as_aux_lemma => kernel_rfl, ?_⟩) hS ?_
        rotate_left
        · intro W hW; obtain ⟨k0, k1, k2, k3, k4, k5, k6, k7, k8, k9, k10, k11⟩ := C1.out W hW; obtain ⟨x0, x1, x2, x3, x4, x5, x6, x7, x8, x9, x10, x11⟩ := C2.out W hW; have n0 := C3.out W hW; go_simp; try with_reducible rfl
        refine wpAnyH_ready (rs := [6]) (by as_aux_lemma => kernel_rfl) (by simp) ?_
        refine AllReadyH.cons (i := 6) rfl ?_ AllReadyH.nil
        intro K hK
        go_simp
        refine (ETo.out _).mono ?_
        rintro e wv ⟨rfl, Bv⟩
        have hT := hS.trans (Bv.mono hS.size)
        go_simp
        refine hK.out _ _ ?_ (fun hN => ?_)
        · first | exact hT | exact hS | exact hS.alloc hS.size _ | exact hS.drew
        clear hK K
        try clear hT
        clear hS
        have hS := hN
        clear hN
        refine wpAnyH_ready (rs := [8]) (by as_aux_lemma => kernel_rfl) (by simp) ?_
        refine AllReadyH.cons (i := 8) rfl ?_ AllReadyH.nil
        intro K hK
        go_simp
        refine (ESm.out _ hS).mono ?_
        rintro e wv ⟨rfl, Bv⟩
        have hT := hS.trans (Bv.mono hS.size)
        go_simp
        refine hK.out _ _ ?_ (fun hN => ?_)
        · first | exact hT | exact hS | exact hS.alloc hS.size _ | exact hS.drew
        clear hK K
        try clear hT
        clear hS
        have hS := hN
        clear hN
        refine wpAnyH_take (i := 9) (v := ?_) rfl (by as_aux_lemma => kernel_rfl) (by as_aux_lemma => kernel_rfl) (by as_aux_lemma => kernel_rfl) (fun _ _ _ h => h) (Or.inl ⟨by as_aux_lemma => kernel_rfl, ?_⟩) hS ?_
        rotate_left
        · intro W hW; go_simp; try with_reducible rfl
        refine wpAnyH_take (i := 10) (v := ?_) rfl (by as_aux_lemma => kernel_rfl) (by as_aux_lemma => kernel_rfl) (by as_aux_lemma => kernel_rfl) (fun _ _ _ h => h) (Or.inl ⟨by as_aux_lemma => kernel_rfl, ?_⟩) hS ?_
        rotate_left
        · intro W hW; go_simp; try with_reducible rfl
        refine wpAnyH_take (i := 11) (v := ?_) rfl (by as_aux_lemma => kernel_rfl) (by as_aux_lemma => kernel_rfl) (by as_aux_lemma => kernel_rfl) (fun _ _ _ h => h) (Or.inl ⟨by as_aux_lemma => kernel_rfl, ?_⟩) hS ?_
        rotate_left
        · intro W hW; go_simp; try with_reducible rfl
        refine wpAnyH_take (i := 12) (v := ?_) rfl (by as_aux_lemma => kernel_rfl) (by as_aux_lemma => kernel_rfl) (by as_aux_lemma => kernel_rfl) (fun _ _ _ h => h) (Or.inl ⟨by as_aux_lemma => kernel_rfl, ?_⟩) hS ?_
        rotate_left
        · intro W hW; go_simp; try with_reducible rfl
        refine wpAnyH_take (i := 14) (v := ?_) rfl (by as_aux_lemma => kernel_rfl) (by as_aux_lemma => kernel_rfl) (by as_aux_lemma => kernel_rfl) (fun _ _ _ h => h) (Or.inl ⟨by as_aux_lemma => kernel_rfl, ?_⟩) hS ?_
        rotate_left
        · intro W hW; go_simp; try with_reducible rfl
        refine wpAnyH_take (i := 15) (v := ?_) rfl (by as_aux_lemma => kernel_rfl) (by as_aux_lemma => kernel_rfl) (by as_aux_lemma => kernel_rfl) (fun _ _ _ h => h) (Or.inl ⟨by as_aux_lemma => kernel_rfl, ?_⟩) hS ?_
        rotate_left
        · intro W hW; obtain ⟨k0, k1, k2, k3, k4, k5, k6, k7, k8, k9, k10, k11⟩ := C1.out W hW; obtain ⟨x0, x1, x2, x3, x4, x5, x6, x7, x8, x9, x10, x11⟩ := C2.out W hW; have n0 := C3.out W hW; go_simp; try with_reducible rfl
        refine wpAnyH_take (i := 16) (v := ?_) rfl (by as_aux_lemma => kernel_rfl) (by as_aux_lemma => kernel_rfl) (by as_aux_lemma => kernel_rfl) (fun _ _ _ h => h) (Or.inl ⟨by as_aux_lemma => kernel_rfl, ?_⟩) hS ?_
        rotate_left
        · intro W hW; go_simp; try with_reducible rfl
        refine wpAnyH_ready (rs := [13]) (by as_aux_lemma => kernel_rfl) (by simp) ?_
        refine AllReadyH.cons (i := 13) rfl ?_ AllReadyH.nil
        intro K hK
        go_simp
        refine (ELn.out _ hS).mono ?_
        rintro e wv ⟨rfl, rfl⟩
        have hT := hS
        go_simp
        refine hK.out _ _ ?_ (fun hN => ?_)
        · first | exact hT | exact hS | exact hS.alloc hS.size _ | exact hS.drew
        clear hK K
        try clear hT
        clear hS
        have hS := hN
        clear hN
        refine wpAnyH_take (i := 17) (v := ?_) rfl (by as_aux_lemma => kernel_rfl) (by as_aux_lemma => kernel_rfl) (by as_aux_lemma => kernel_rfl) (fun _ _ _ h => h) (Or.inl ⟨by as_aux_lemma => kernel_rfl, ?_⟩) hS ?_
        rotate_left
        · intro W hW; go_simp; try with_reducible rfl
        refine wpAnyH_take (i := 18) (v := ?_) rfl (by as_aux_lemma => kernel_rfl) (by as_aux_lemma => kernel_rfl) (by as_aux_lemma => kernel_rfl) (fun _ _ _ h => h) (Or.inl ⟨by as_aux_lemma => kernel_rfl, ?_⟩) hS ?_
        rotate_left
        · intro W hW; go_simp; try with_reducible rfl
        refine wpAnyH_done (by as_aux_lemma => kernel_rfl) ?_ _
        go_simp
        have HS := Lib.hid hS
        clear hS C1 C2 ETo ESm ELn HCF hz0 hz1
        go_wp2_with fail
        go_loopw [13] (fun kv wk => ∃ k : Nat, k ≤ DL1.length ∧ kv = .int .i64 k ∧ Below wc.heap.size wc wk) (fun kv _ => DL1.length - (intOf kv).toNat)
        case atStart => exact ⟨0, Nat.zero_le _, rfl, HS.out⟩
        case round =>
          clear HS
          obtain ⟨k, hk, rfl, hBk⟩ := hrel
          have HBk := Lib.hid hBk
          clear hBk
          have n0 := C3.out _ HBk.out
          by_cases hkl : k < DL1.length
          rotate_left
          · have hkd : decide ((k : Int) < (DL1.length : Int)) = false := decide_eq_false (by omega)
            have hij : (i : Int) < (n : Int) := by have := HLT.out; omega
            have HRe := Lib.hid (HRc.out.below HBk.out)
            have H5e := Lib.hid (H5c.out.below HBk.out H5c.out.lt)
            have HNe := Lib.hid (HNc.out.on HBk.out)
            have HBe := Lib.hid (HBc.out.trans (HBk.out.mono HBc.out.size))
            clear C3 HBk HRc H5c HNc HBc H9c H11c HGc
            go_wp2_with fail
            go_roundw
            case rel => exact ⟨i + 1, HLT.out, by go_num, P1, DL1, DC1, la1, lc1, ca1, cc1, HRe.out, HMc.out, H5e.out, HNe.out, HQ1.out.1, HLC1.out.1, HBe.out⟩
            case measure => have := HLT.out; simp [intOf]; omega
          have hkd : (k : Int) < (DL1.length : Int) := by omega
          have HKL := Lib.hid hkl
          obtain ⟨m, hm⟩ : ∃ m, DL1.getD k mNone = m := ⟨_, rfl⟩
          have HM := Lib.hid hm
          have HMI := Lib.hid (show MIn w w.heap.size m ∧ m.n ≤ 300 from by
            rw [← hm]
            exact HQ1.out.1 _ (by simp only [List.getD, List.getElem?_eq_getElem hkl, Option.getD_some]; exact List.getElem_mem _))
          have EP := Lib.hid (show Calls Try.prog 35 #[.pointer (some ⟨N, 0, none⟩), .int .i64 (k : Int)] _ (NGot (m.bare, 0) _) from by
            have := peek_any (k : Int) _ (HRc.out.below HBk.out)
            obtain ⟨q', h1, h2⟩ := netAt_mat HMc.out k hkl
            rw [h1, h2, hm] at this
            exact this)
          obtain ⟨lb, lo, rfl, -, -⟩ := (HNc.out.on HBk.out).m.at_ hkl hm
          clear hm hkl
          go_wp2_with fail
          refine EP.out.mono ?_
          rintro e w4 ⟨B4, a1, c1, rfl, -, -, ho4⟩
          rw [show MsgR.vals { ((m.bare, 0) : MsgR × Nat).1 with a := a1, c := c1 } = .agg #[.int .i64 m.fr, .int .i64 m.tt, .int .i64 m.kd, .int .i64 m.vol, .int .i64 m.life, .int .u64 m.id, .int .i64 m.cd, .bool m.has, .int .u64 m.key, .int .u32 m.ck, .bool m.g, .slice a1 m.n c1] from rfl, show errc ((m.bare, 0) : MsgR × Nat).2 = errc 0 from rfl]
          have BA := (Below.refl w4.heap.size w4).alloc (Nat.le_refl _) (.cells #[.int .i64 m.fr, .int .i64 m.tt, .int .i64 m.kd, .int .i64 m.vol, .int .i64 m.life, .int .u64 m.id, .int .i64 m.cd, .bool m.has, .int .u64 m.key, .int .u32 m.ck, .bool m.g, .slice a1 m.n c1] 29)
          have HB4 := Lib.hid ((HBk.out.trans (B4.mono HBk.out.size)).trans (BA.mono (Nat.le_trans HBk.out.size B4.size)))
          have H144 := Lib.hid (Blk.made w4 29 #[.int .i64 m.fr, .int .i64 m.tt, .int .i64 m.kd, .int .i64 m.vol, .int .i64 m.life, .int .u64 m.id, .int .i64 m.cd, .bool m.has, .int .u64 m.key, .int .u32 m.ck, .bool m.g, .slice a1 m.n c1])
          have HO4 := Lib.hid (bsl_own (row_below ho4 BA (Nat.le_refl _)))
          clear BA B4 ho4 EP HBk n0 hkd
          go_upto_region 40 with fail
          generalize (w4.alloc (.cells #[.int .i64 m.fr, .int .i64 m.tt, .int .i64 m.kd, .int .i64 m.vol, .int .i64 m.life, .int .u64 m.id, .int .i64 m.cd, .bool m.has, .int .u64 m.key, .int .u32 m.ck, .bool m.g, .slice a1 m.n c1] 29)) = w5 at *
          generalize w4.heap.size = b14 at *
          have D1 := Lib.hid fun (W : World) (B : Below w5.heap.size w5 W) => (H144.out.below B H144.out.lt).twelve
          have D2 := Lib.hid fun (W : World) (B : Below w5.heap.size w5 W) => C3.out W (HB4.out.trans (B.mono HB4.out.size))
          have D3 := Lib.hid fun (W : World) (B : Below w5.heap.size w5 W) => (HNc.out.on (HB4.out.trans (B.mono HB4.out.size))).m.at_some HKL.out HM.out
          have ETo := Lib.hid fun (W : World) => show Calls Try.prog 16 #[.agg #[.int .i64 m.fr, .int .i64 m.tt, .int .i64 m.kd, .int .i64 m.vol, .int .i64 m.life, .int .u64 m.id, .int .i64 m.cd, .bool m.has, .int .u64 m.key, .int .u32 m.ck, .bool m.g, .slice a1 m.n c1]] W fun e w' => e = .returned (.agg #[.int .i64 m.fr, .int .i64 m.tt, .int .i64 m.kd, .int .i64 m.vol, .int .i64 m.life, .int .u64 m.id, .int .i64 m.cd, .bool m.has, .int .u64 m.key, .int .u32 m.ck, .bool m.g, .slice a1 m.n c1]) ∧ Below W.heap.size W w' from tom_any { m.bare with a := a1, c := c1 } W
          have ESm := Lib.hid fun (W : World) (B : Below w5.heap.size w5 W) => show Calls Try.prog 15 #[.agg #[.int .i64 m.fr, .int .i64 m.tt, .int .i64 m.kd, .int .i64 m.vol, .int .i64 m.life, .int .u64 m.id, .int .i64 m.cd, .bool m.has, .int .u64 m.key, .int .u32 m.ck, .bool m.g, .slice a1 m.n c1], .agg #[.int .i64 m.fr, .int .i64 m.tt, .int .i64 m.kd, .int .i64 m.vol, .int .i64 m.life, .int .u64 m.id, .int .i64 m.cd, .bool m.has, .int .u64 m.key, .int .u32 m.ck, .bool m.g, .slice m.a m.n m.c]] W fun e w' => e = .returned (.bool true) ∧ Below W.heap.size W w' from by
            have hBW := HBc.out.trans ((HB4.out.trans (B.mono HB4.out.size)).mono HBc.out.size)
            have := rsame_any { m.bare with a := a1, c := c1 } m W ((HO4.out.below B).more B.size) ((HMI.out.1.hb.below hBW).more hBW.size) (by have := HMI.out.2; show m.n ≤ _; omega)
            rw [show mSame { m.bare with a := a1, c := c1 } m = true from mSame_of rfl] at this
            exact this
          have hkd : (k : Int) < (DL1.length : Int) := by have := HKL.out; omega
          refine wp_region_held_drew (S := fun W => Below w5.heap.size w5 W) (by as_aux_lemma => kernel_rfl) ((Below.refl _ _).drew) (fun hS => ?_)
          refine wpAnyH_take (i := 0) (v := ?_) rfl (by as_aux_lemma => kernel_rfl) (by as_aux_lemma => kernel_rfl) (by as_aux_lemma => kernel_rfl) (fun _ _ _ h => h) (Or.inl ⟨by as_aux_lemma => kernel_rfl, ?_⟩) hS ?_
          rotate_left
          · intro W hW; go_simp; try with_reducible rfl
          refine wpAnyH_ready (rs := [1]) (by as_aux_lemma => kernel_rfl) (by simp) ?_
          refine AllReadyH.cons (i := 1) rfl ?_ AllReadyH.nil
          intro K hK
          go_simp
          refine (code_c 0 _ (by decide)).mono ?_
          rintro e wv ⟨rfl, rfl⟩
          have hT := hS
          go_simp
          refine hK.out _ _ ?_ (fun hN => ?_)
          · first | exact hT | exact hS | exact hS.alloc hS.size _ | exact hS.drew
          clear hK K
          try clear hT
          clear hS
          have hS := hN
          clear hN
          refine wpAnyH_take (i := 2) (v := ?_) rfl (by as_aux_lemma => kernel_rfl) (by as_aux_lemma => kernel_rfl) (by as_aux_lemma => kernel_rfl) (fun _ _ _ h => h) (Or.inl ⟨by as_aux_lemma => kernel_rfl, ?_⟩) hS ?_
          rotate_left
          · intro W hW; go_simp; try with_reducible rfl
          refine wpAnyH_take (i := 3) (v := ?_) rfl (by as_aux_lemma => kernel_rfl) (by as_aux_lemma => kernel_rfl) (by as_aux_lemma => kernel_rfl) (fun _ _ _ h => h) (Or.inl ⟨by as_aux_lemma => kernel_rfl, ?_⟩) hS ?_
          rotate_left
          · intro W hW; go_simp; try with_reducible rfl
          refine wpAnyH_take (i := 4) (v := ?_) rfl (by as_aux_lemma => kernel_rfl) (by as_aux_lemma => kernel_rfl) (by as_aux_lemma => kernel_rfl) (fun _ _ _ h => h) (Or.inl ⟨by as_aux_lemma => kernel_rfl, ?_⟩) hS ?_
          rotate_left
          · intro W hW; obtain ⟨k0, k1, k2, k3, k4, k5, k6, k7, k8, k9, k10, k11⟩ := D1.out W hW; obtain ⟨x0, x1, x2, x3, x4, x5, x6, x7, x8, x9, x10, x11⟩ := D3.out W hW; have n0 := D2.out W hW; go_simp; try with_reducible rfl
          refine wpAnyH_take (i := 6) (v := ?_) rfl (by as_aux_lemma => kernel_rfl) (by as_aux_lemma => kernel_rfl) (by as_aux_lemma => kernel_rfl) (fun _ _ _ h => h) (Or.inl ⟨by as_aux_lemma => kernel_rfl, ?_⟩) hS ?_
          rotate_left
          · intro W hW; go_simp; try with_reducible rfl
          refine wpAnyH_take (i := 7) (v := ?_) rfl (by as_aux_lemma => kernel_rfl) (by as_aux_lemma => kernel_rfl) (by as_aux_lemma => kernel_rfl) (fun _ _ _ h => h) (Or.inl ⟨by as_aux_lemma => kernel_rfl, ?_⟩) hS ?_
          rotate_left
          · intro W hW; obtain ⟨k0, k1, k2, k3, k4, k5, k6, k7, k8, k9, k10, k11⟩ := D1.out W hW; obtain ⟨x0, x1, x2, x3, x4, x5, x6, x7, x8, x9, x10, x11⟩ := D3.out W hW; have n0 := D2.out W hW; go_simp; try with_reducible rfl
          refine wpAnyH_take (i := 8) (v := ?_) rfl (by as_aux_lemma => kernel_rfl) (by as_aux_lemma => kernel_rfl) (by as_aux_lemma => kernel_rfl) (fun _ _ _ h => h) (Or.inl ⟨by as_aux_lemma => kernel_rfl, ?_⟩) hS ?_
          rotate_left
          · intro W hW; go_simp; try with_reducible rfl
          refine wpAnyH_take (i := 9) (v := ?_) rfl (by as_aux_lemma => kernel_rfl) (by as_aux_lemma => kernel_rfl) (by as_aux_lemma => kernel_rfl) (fun _ _ _ h => h) (Or.inl ⟨by as_aux_lemma => kernel_rfl, ?_⟩) hS ?_
          rotate_left
          · intro W hW; go_simp; try with_reducible rfl
          refine wpAnyH_take (i := 10) (v := ?_) rfl (by as_aux_lemma => kernel_rfl) (by as_aux_lemma => kernel_rfl) (by as_aux_lemma => kernel_rfl) (fun _ _ _ h => h) (Or.inl ⟨by as_aux_lemma => kernel_rfl, ?_⟩) hS ?_
          rotate_left
          · intro W hW; obtain ⟨k0, k1, k2, k3, k4, k5, k6, k7, k8, k9, k10, k11⟩ := D1.out W hW; obtain ⟨x0, x1, x2, x3, x4, x5, x6, x7, x8, x9, x10, x11⟩ := D3.out W hW; have n0 := D2.out W hW; go_simp; try with_reducible rfl
          refine wpAnyH_ready (rs := [5]) (by as_aux_lemma => kernel_rfl) (by simp) ?_
          refine AllReadyH.cons (i := 5) rfl ?_ AllReadyH.nil
          intro K hK
          go_simp
          refine (ETo.out _).mono ?_
          rintro e wv ⟨rfl, Bv⟩
          have hT := hS.trans (Bv.mono hS.size)
          go_simp
          refine hK.out _ _ ?_ (fun hN => ?_)
          · first | exact hT | exact hS | exact hS.alloc hS.size _ | exact hS.drew
          clear hK K
          try clear hT
          clear hS
          have hS := hN
          clear hN
          refine wpAnyH_ready (rs := [11]) (by as_aux_lemma => kernel_rfl) (by simp) ?_
          refine AllReadyH.cons (i := 11) rfl ?_ AllReadyH.nil
          intro K hK
          go_simp
          refine (ESm.out _ hS).mono ?_
          rintro e wv ⟨rfl, Bv⟩
          have hT := hS.trans (Bv.mono hS.size)
          go_simp
          refine hK.out _ _ ?_ (fun hN => ?_)
          · first | exact hT | exact hS | exact hS.alloc hS.size _ | exact hS.drew
          clear hK K
          try clear hT
          clear hS
          have hS := hN
          clear hN
          refine wpAnyH_take (i := 12) (v := ?_) rfl (by as_aux_lemma => kernel_rfl) (by as_aux_lemma => kernel_rfl) (by as_aux_lemma => kernel_rfl) (fun _ _ _ h => h) (Or.inl ⟨by as_aux_lemma => kernel_rfl, ?_⟩) hS ?_
          rotate_left
          · intro W hW; go_simp; try with_reducible rfl
          refine wpAnyH_take (i := 13) (v := ?_) rfl (by as_aux_lemma => kernel_rfl) (by as_aux_lemma => kernel_rfl) (by as_aux_lemma => kernel_rfl) (fun _ _ _ h => h) (Or.inl ⟨by as_aux_lemma => kernel_rfl, ?_⟩) hS ?_
          rotate_left
          · intro W hW; go_simp; try with_reducible rfl
          refine wpAnyH_done (by as_aux_lemma => kernel_rfl) ?_ _
          go_simp
          have HE := Lib.hid (HB4.out.trans (hS.mono HB4.out.size))
          clear hS D1 D2 D3 ETo ESm
          have hkc : (DL1.length : Int) ≤ 60 := by have := HLC1.out.1.1; have := HLT.out; omega
          go_wp2_with fail
          go_roundw
          case rel => exact ⟨k + 1, HKL.out, by go_num, HE.out⟩
          case measure => have := HKL.out; simp [intOf]; omega
end Go.Proofs.Ytpkfjnhjcdcoaaa
