/-
  hist: of, chosen.
-/
import Derived.Test.YtboadalojimdlaaHstFun
import Derived.Test.YtboadalojimdlaaHstLaw
namespace Go.Proofs.Ytboadalojimdlaa
open Go.RowKit

def CallR.cells (c : CallR) : List Value := [.int .i64 c.op, .int .u32 c.ck, .slice c.da c.dn c.dc, .int .i64 c.bg, .int .i64 c.en, .int .i64 c.cd, .slice c.ga c.gn c.gc]
/-- What holds of one call in memory. -/
structure COk (w : World) (B : Nat) (c : CallR) : Prop where
  hd : BSl w B c.da c.dn c.dl
  hg : BSl w B c.ga c.gn c.gl
  ck0 : 0 ≤ c.ck
  ck1 : c.ck < 4294967296
  op0 : -9223372036854775808 ≤ c.op
  op1 : c.op ≤ 9223372036854775807
  bg0 : -9223372036854775808 ≤ c.bg
  bg1 : c.bg ≤ 9223372036854775807
  en0 : -9223372036854775808 ≤ c.en
  en1 : c.en ≤ 9223372036854775807
  cd0 : -9223372036854775808 ≤ c.cd
  cd1 : c.cd ≤ 9223372036854775807
theorem COk.below {w w' : World} {B : Nat} {c : CallR} (h : COk w B c) (hb : Below B w w') : COk w' B c :=
  ⟨h.hd.below hb, h.hg.below hb, h.ck0, h.ck1, h.op0, h.op1, h.bg0, h.bg1, h.en0, h.en1, h.cd0, h.cd1⟩
theorem COk.more {w : World} {B B' : Nat} {c : CallR} (h : COk w B c) (hB : B ≤ B') : COk w B' c :=
  ⟨h.hd.more hB, h.hg.more hB, h.ck0, h.ck1, h.op0, h.op1, h.bg0, h.bg1, h.en0, h.en1, h.cd0, h.cd1⟩

/-- A slice of calls that reads as l. -/
def CSl (w : World) (B : Nat) (a : Option Addr) (n : Nat) (l : List CallR) : Prop :=
  l.length = n ∧ (∀ i, i < n → COk w B (l.getD i dC)) ∧
  (0 < n → ∃ b off, a = some ⟨b, off, none⟩ ∧ b < B ∧ ∀ i j, i < n → j < 7 → w.cell? ⟨b, off + i * 7 + j, none⟩ = (l.getD i dC).cells[j]?)
theorem CSl.below {w w' : World} {B n : Nat} {a : Option Addr} {l : List CallR} (h : CSl w B a n l) (hb : Below B w w') : CSl w' B a n l :=
  ⟨h.1, fun i hi => (h.2.1 i hi).below hb, fun h0 => by obtain ⟨b, off, e, hlt, hc⟩ := h.2.2 h0; exact ⟨b, off, e, hlt, fun i j hi hj => (hb.cell (p := ⟨b, off + i * 7 + j, none⟩) hlt).trans (hc i j hi hj)⟩⟩
theorem CSl.more {w : World} {B B' n : Nat} {a : Option Addr} {l : List CallR} (h : CSl w B a n l) (hB : B ≤ B') : CSl w B' a n l :=
  ⟨h.1, fun i hi => (h.2.1 i hi).more hB, fun h0 => by obtain ⟨b, off, e, hlt, hc⟩ := h.2.2 h0; exact ⟨b, off, e, by omega, hc⟩⟩
theorem CSl.at_ {w : World} {B n i : Nat} {a : Option Addr} {l : List CallR} (h : CSl w B a n l) (hi : i < n) : ∃ b off, a = some ⟨b, off, none⟩ ∧ b < B ∧
    (w.cell? ⟨b, off + i * 7, none⟩ = some (.int .i64 (l.getD i dC).op) ∧ w.cell? ⟨b, off + i * 7 + 1, none⟩ = some (.int .u32 (l.getD i dC).ck) ∧ w.cell? ⟨b, off + i * 7 + 2, none⟩ = some (.slice (l.getD i dC).da (l.getD i dC).dn (l.getD i dC).dc) ∧
     w.cell? ⟨b, off + i * 7 + 3, none⟩ = some (.int .i64 (l.getD i dC).bg) ∧ w.cell? ⟨b, off + i * 7 + 4, none⟩ = some (.int .i64 (l.getD i dC).en) ∧ w.cell? ⟨b, off + i * 7 + 5, none⟩ = some (.int .i64 (l.getD i dC).cd) ∧
     w.cell? ⟨b, off + i * 7 + 6, none⟩ = some (.slice (l.getD i dC).ga (l.getD i dC).gn (l.getD i dC).gc)) := by
  obtain ⟨b, off, e, hb, hc⟩ := h.2.2 (by omega)
  exact ⟨b, off, e, hb, hc i 0 hi (by omega), hc i 1 hi (by omega), hc i 2 hi (by omega), hc i 3 hi (by omega), hc i 4 hi (by omega), hc i 5 hi (by omega), hc i 6 hi (by omega)⟩
theorem CSl.at_some {w : World} {B n i b off : Nat} {l : List CallR} (h : CSl w B (some ⟨b, off, none⟩) n l) (hi : i < n) {c : CallR} (hc : l.getD i dC = c) :
    w.cell? ⟨b, off + i * 7, none⟩ = some (.int .i64 c.op) ∧ w.cell? ⟨b, off + i * 7 + 1, none⟩ = some (.int .u32 c.ck) ∧ w.cell? ⟨b, off + i * 7 + 2, none⟩ = some (.slice c.da c.dn c.dc) ∧
     w.cell? ⟨b, off + i * 7 + 3, none⟩ = some (.int .i64 c.bg) ∧ w.cell? ⟨b, off + i * 7 + 4, none⟩ = some (.int .i64 c.en) ∧ w.cell? ⟨b, off + i * 7 + 5, none⟩ = some (.int .i64 c.cd) ∧
     w.cell? ⟨b, off + i * 7 + 6, none⟩ = some (.slice c.ga c.gn c.gc) := by
  obtain ⟨b', off', e, -, h⟩ := h.at_ hi
  injection e with e
  injection e with e1 e2
  subst e1 e2 hc
  exact h

theorem ofh_results {W : World} {B : Nat} {v0 v1 : Value} {a : Act} (h : Blk W B 120 #[v0, v1]) (h2 : a.tmps[2]?.getD undef = .pointer (some ⟨B, 0, none⟩)) :
    (results Try.f66 a.tmps).run Try.prog W = .ok (.agg #[v0, v1]) W := by
  have k0 : W.cell? ⟨B, 0, none⟩ = some v0 := h.cell 0
  have k1 : W.cell? ⟨B, 1, none⟩ = some v1 := h.cell 1
  simp [results, Try.results66, go_sem, h2, k0, k1]

set_option maxRecDepth 100000 in
set_option maxHeartbeats 1000000 in
theorem ofh_any (c : CallR) (w : World) : Calls Try.prog 66 #[c.vals] w fun e w' => e = .returned (.agg #[.int .i64 c.bg, .int .i64 (Hst.hi c)]) ∧ Below w.heap.size w w' := by
  have O := Lib.hid fun (W : World) => hopen_any c W
  have HT := Lib.hid (show Hst.hi c = if Hst.opn c = true then 9223372036854775807 else c.en from rfl)
  obtain ⟨op, ck, da, dn, dc, dl, bg, en, cd, ga, gn, gc, gl⟩ := c
  generalize Hst.opn ⟨op, ck, da, dn, dc, dl, bg, en, cd, ga, gn, gc, gl⟩ = o at *
  generalize Hst.hi ⟨op, ck, da, dn, dc, dl, bg, en, cd, ga, gn, gc, gl⟩ = t at *
  unfold CallR.vals at *
  dsimp only at *
  obtain ⟨W0, hW0⟩ : ∃ W0, (w.alloc (.cells #[.int .i64 op, .int .u32 ck, .slice da dn dc, .int .i64 bg, .int .i64 en, .int .i64 cd, .slice ga gn gc] 39)).alloc (.cells #[.int .i64 0, .int .i64 0] 120) = W0 := ⟨_, rfl⟩
  have hK : Blk W0 w.heap.size 39 #[.int .i64 op, .int .u32 ck, .slice da dn dc, .int .i64 bg, .int .i64 en, .int .i64 cd, .slice ga gn gc] := by rw [← hW0]; exact (Blk.made w _ _).alloc _
  have hR : Blk W0 (w.heap.size + 1) 120 #[.int .i64 0, .int .i64 0] := by
    rw [← hW0]
    have := Blk.made (w.alloc (.cells #[.int .i64 op, .int .u32 ck, .slice da dn dc, .int .i64 bg, .int .i64 en, .int .i64 cd, .slice ga gn gc] 39)) 120 #[.int .i64 0, .int .i64 0]
    simpa using this
  have BA : Below w.heap.size w W0 := by rw [← hW0]; exact ((Below.refl _ _).alloc (Nat.le_refl _) _).alloc (by simp) _
  have HK := Lib.hid fun (W : World) (B : Below W0.heap.size W0 W) => (hK.below B hK.lt).seven
  have HR := Lib.hid fun (W : World) (B : Below W0.heap.size W0 W) => hR.below B hR.lt
  have HB := Lib.hid fun (W : World) (B : Below W0.heap.size W0 W) => BA.trans (B.mono BA.size)
  obtain ⟨c0, c1, c2, c3, c4, c5, c6⟩ := HK.out W0 (Below.refl _ _)
  clear hK hR BA
  go_enter Try.func66, Try.ntmps66
  go_wp2_with fail
  clear hW0
  refine (O.out W0).mono ?_
  rintro e W1 ⟨rfl, B1⟩
  clear c0 c1 c2 c3 c4 c5 c6
  obtain ⟨c0, c1, c2, c3, c4, c5, c6⟩ := HK.out W1 B1
  have hr := HR.out W1 B1
  have k0 := hr.cell 0
  have k1 := hr.cell 1
  have f0 := hr.frozen 0
  have f1 := hr.frozen 1
  have HE := Lib.hid (HB.out W1 B1)
  have HRB := Lib.hid hr
  clear B1 hr
  cases o with
  | true =>
    go_wp2_with fail
    exact bodyPost_ret (ofh_results ((HRB.out.put 0 (.int .i64 bg)).put 1 (.int .i64 9223372036854775807)) rfl) rfl ⟨by rw [HT.out]; rfl, (HE.out.setCell (Nat.le_succ _) _).setCell (Nat.le_succ _) _⟩
  | false =>
    go_wp2_with fail
    exact bodyPost_ret (ofh_results ((HRB.out.put 0 (.int .i64 bg)).put 1 (.int .i64 en)) rfl) rfl ⟨by rw [HT.out]; rfl, (HE.out.setCell (Nat.le_succ _) _).setCell (Nat.le_succ _) _⟩

theorem run_succ {l : List CallR} {p : Nat} {d : Int} {i : Nat} {s : Hst.Sp} (h : Hst.runC l p d i = some s) : Hst.runC l p d (i + 1) = Hst.stepC l p d i s := by rw [Hst.runC, h, Option.bind_some]
theorem run_none {l : List CallR} {p : Nat} {d : Int} {i k : Nat} (h : Hst.runC l p d i = none) (hk : i ≤ k) : Hst.runC l p d k = none := by
  induction k with
  | zero => obtain rfl : i = 0 := by omega
            exact h
  | succ k ih =>
    by_cases e : i = k + 1
    · rw [← e]; exact h
    · rw [Hst.runC, ih (by omega)]; rfl
theorem chosen_none {l : List CallR} {p : Nat} {d : Int} {i : Nat} (h : Hst.runC l p d i = none) (hi : i ≤ l.length) : Hst.chosen l p d = false := by
  unfold Hst.chosen
  split
  · rfl
  · rw [run_none h hi]; rfl
theorem chosen_last {l : List CallR} {p : Nat} {d : Int} {s : Hst.Sp} (hc : 0 ≤ d → (l.getD d.toNat dC).ck = (l.getD p dC).ck) (h : Hst.runC l p d l.length = some s) : Hst.chosen l p d = (decide (s.pl ≤ s.ph) && decide (s.ql ≤ s.qh) && decide (s.pl ≤ s.qh)) := by
  unfold Hst.chosen
  rw [if_neg (fun q => q.2 (hc q.1)), h]; rfl
theorem chosen_ck {l : List CallR} {p : Nat} {d : Int} (h0 : 0 ≤ d) (hc : (l.getD d.toNat dC).ck ≠ (l.getD p dC).ck) : Hst.chosen l p d = false := by
  unfold Hst.chosen
  rw [if_pos ⟨h0, hc⟩]

/-- What the loop of chosen keeps. -/
def ChS (w : World) (l : List CallR) (p : Nat) (d : Int) (g7 g8 : Nat) (i : Nat) (W : World) : Prop :=
  ∃ s, Hst.runC l p d i = some s ∧ Blk W g7 120 #[.int .i64 s.pl, .int .i64 s.ph] ∧ Blk W g8 120 #[.int .i64 s.ql, .int .i64 s.qh] ∧ Below w.heap.size w W

theorem step_bad {l : List CallR} {p : Nat} {d : Int} {i : Nat} {s : Hst.Sp} {c : CallR} (hc : l.getD i dC = c) (h : (Hst.told c = 4 ∧ i ≠ p) ∨ (Hst.told c = 5 ∧ (i : Int) ≠ d) ∨ (Hst.told c = 3 ∧ d < 0)) : Hst.stepC l p d i s = none := by
  unfold Hst.stepC; rw [hc, if_pos h]
theorem step_0 {l : List CallR} {p : Nat} {d : Int} {i : Nat} {s : Hst.Sp} {c : CallR} (hc : l.getD i dC = c) (h : Hst.told c = 0 ∨ (Hst.told c = 4 ∧ i = p) ∨ (Hst.told c = 5 ∧ (i : Int) = d)) : Hst.stepC l p d i s = some s := by
  unfold Hst.stepC
  rw [hc, if_neg (by omega), if_neg (by omega), if_neg (by omega), if_neg (by omega)]
theorem step_1 {l : List CallR} {p : Nat} {d : Int} {i : Nat} {s : Hst.Sp} {c : CallR} (hc : l.getD i dC = c) (h : Hst.told c = 1) : Hst.stepC l p d i s = some ⟨max s.pl c.bg, s.ph, s.ql, s.qh⟩ := by
  unfold Hst.stepC
  rw [hc, if_neg (by omega), if_pos h]
theorem step_2 {l : List CallR} {p : Nat} {d : Int} {i : Nat} {s : Hst.Sp} {c b : CallR} (hc : l.getD i dC = c) (hb : l.getD p dC = b) (h : Hst.told c = 2) : Hst.stepC l p d i s = if Hst.fits c b = true then some ⟨s.pl, min s.ph c.en, max s.ql c.bg, s.qh⟩ else none := by
  unfold Hst.stepC
  rw [hc, hb, if_neg (by omega), if_neg (by omega), if_pos h]
theorem step_3 {l : List CallR} {p : Nat} {d : Int} {i : Nat} {s : Hst.Sp} {c : CallR} (hc : l.getD i dC = c) (h : Hst.told c = 3) (hd : 0 ≤ d) : Hst.stepC l p d i s = some ⟨s.pl, s.ph, s.ql, min s.qh c.en⟩ := by
  unfold Hst.stepC
  rw [hc, if_neg (by omega), if_neg (by omega), if_neg (by omega), if_pos h]

/-- A block of two cells. -/
theorem Blk.two {w : World} {g : Nat} {t : TypeId} {a b : Value} (k : Blk w g t #[a, b]) : w.cell? ⟨g, 0, none⟩ = some a ∧ w.cell? ⟨g, 1, none⟩ = some b := ⟨k.cell 0, k.cell 1⟩

set_option maxRecDepth 100000 in
set_option maxHeartbeats 1200000 in
theorem chosen_any (a : Option Addr) (n c : Nat) (l : List CallR) (p : Nat) (d : Int) (w : World) (h : CSl w w.heap.size a n l) (hp : p < n) (hd : d = -1 ∨ ∃ m : Nat, d = m ∧ m < n) (hn : n ≤ 1000000) :
    Calls Try.prog 51 #[.slice a n c, .int .i64 p, .int .i64 d] w fun e w' => e = .returned (.bool (Hst.chosen l p d)) ∧ Below w.heap.size w w' := by
  have HH := Lib.hid fun (W : World) (B : Below w.heap.size w W) => (h.below B).more B.size
  obtain ⟨b, off, rfl, hb, c0, c1, c2, c3, c4, c5, c6⟩ := h.at_ hp
  obtain ⟨cp, hcp⟩ : ∃ c, l.getD p dC = c := ⟨_, rfl⟩
  rw [hcp] at c0 c1 c2 c3 c4 c5 c6
  have hp0 : (0 : Int) ≤ p := by omega
  have hp1 : (p : Int) < n := by omega
  have HL := Lib.hid h.1
  have HCP := Lib.hid hcp
  have hokp := (h.2.1 p hp)
  rw [hcp] at hokp
  have HOKP := Lib.hid hokp
  clear hcp hokp
  rcases hd with rfl | ⟨m, rfl, hm⟩
  · clear h
    have HS := Lib.hid (show Hst.runC l p (-1) 0 = some ⟨cp.bg, Hst.hi cp, 0, 9223372036854775807⟩ from by rw [← HCP.out]; rfl)
    have HCK := Lib.hid (show (0 : Int) ≤ -1 → (l.getD (-1 : Int).toNat dC).ck = (l.getD p dC).ck from fun h => by omega)
    go_enter Try.func51, Try.ntmps51
    go_wp2_with fail
    refine (ofh_any cp w).mono ?_
    rintro e W1 ⟨rfl, B1⟩
    clear c0 c1 c2 c3 c4 c5 c6
    go_upto_region 6 with fail
    have h7 : Blk ((W1.alloc (.cells #[.int .i64 cp.bg, .int .i64 (Hst.hi cp)] 120)).alloc (.cells #[.int .i64 0, .int .i64 9223372036854775807] 120)) W1.heap.size 120 #[.int .i64 cp.bg, .int .i64 (Hst.hi cp)] := (Blk.made W1 _ _).alloc _
    have h8 : Blk ((W1.alloc (.cells #[.int .i64 cp.bg, .int .i64 (Hst.hi cp)] 120)).alloc (.cells #[.int .i64 0, .int .i64 9223372036854775807] 120)) (W1.heap.size + 1) 120 #[.int .i64 0, .int .i64 9223372036854775807] := by
      have := Blk.made (W1.alloc (.cells #[.int .i64 cp.bg, .int .i64 (Hst.hi cp)] 120)) 120 #[.int .i64 0, .int .i64 9223372036854775807]
      simpa using this
    have B2 := (B1.alloc B1.size (.cells #[.int .i64 cp.bg, .int .i64 (Hst.hi cp)] 120)).alloc (by have := B1.size; simp; omega) (.cells #[.int .i64 0, .int .i64 9223372036854775807] 120)
    have hb1 := B1.size
    clear B1
    generalize W1.heap.size = g7 at *
    generalize (W1.alloc (.cells #[.int .i64 cp.bg, .int .i64 (Hst.hi cp)] 120)).alloc (.cells #[.int .i64 0, .int .i64 9223372036854775807] 120) = W2 at *
    have HC0 := Lib.hid (show ChS w l p (-1) g7 (g7 + 1) 0 W2 from ⟨_, HS.out, h7, h8, B2⟩)
    clear h7 h8 B2
    go_wp2_with fail
    go_loopw [38] (fun iv wr => ∃ i : Nat, i ≤ n ∧ iv = .int .i64 i ∧ ChS w l p (-1) g7 (g7 + 1) i wr) (fun iv _ => n - (intOf iv).toNat)
    case atStart => exact ⟨0, by omega, rfl, HC0.out⟩
    case round =>
      clear HC0 HS W2
      obtain ⟨i, hi, rfl, s, hs, h7, h8, B⟩ := hrel
      by_cases hlt : i < n
      · obtain ⟨ci, hci⟩ : ∃ c, l.getD i dC = c := ⟨_, rfl⟩
        obtain ⟨k0, k1, k2, k3, k4, k5, k6⟩ := (HH.out wr B).at_some hlt hci
        have HCI := Lib.hid hci
        have hi0 : (0 : Int) ≤ i := by omega
        have hi1 : (i : Int) < n := by omega
        have hB2 := B.alloc B.size (.cells #[.int .i64 ci.op, .int .u32 ci.ck, .slice ci.da ci.dn ci.dc, .int .i64 ci.bg, .int .i64 ci.en, .int .i64 ci.cd, .slice ci.ga ci.gn ci.gc] 39)
        have h7 := h7.alloc (.cells #[.int .i64 ci.op, .int .u32 ci.ck, .slice ci.da ci.dn ci.dc, .int .i64 ci.bg, .int .i64 ci.en, .int .i64 ci.cd, .slice ci.ga ci.gn ci.gc] 39)
        have h8 := h8.alloc (.cells #[.int .i64 ci.op, .int .u32 ci.ck, .slice ci.da ci.dn ci.dc, .int .i64 ci.bg, .int .i64 ci.en, .int .i64 ci.cd, .slice ci.ga ci.gn ci.gc] 39)
        have hbx := Blk.made wr 39 #[.int .i64 ci.op, .int .u32 ci.ck, .slice ci.da ci.dn ci.dc, .int .i64 ci.bg, .int .i64 ci.en, .int .i64 ci.cd, .slice ci.ga ci.gn ci.gc]
        have HSTEP := Lib.hid (run_succ hs)
        have HS := Lib.hid hs
        clear hci hs B
        go_upto_region 9 with fail
        clear k0 k1 k2 k3 k4 k5 k6
        generalize wr.alloc (.cells #[.int .i64 ci.op, .int .u32 ci.ck, .slice ci.da ci.dn ci.dc, .int .i64 ci.bg, .int .i64 ci.en, .int .i64 ci.cd, .slice ci.ga ci.gn ci.gc] 39) = V at *
        generalize wr.heap.size = gx at *
        have HV := Lib.hid fun (W : World) (B : Below V.heap.size V W) => And.intro (hbx.below B hbx.lt).seven (And.intro (h7.below B h7.lt) (And.intro (h8.below B h8.lt) (hB2.trans (B.mono hB2.size))))
        have hgx := hbx.lt
        obtain ⟨⟨k0, k1, k2, k3, k4, k5, k6⟩, -⟩ := HV.out V (Below.refl _ _)
        have T := told_any ci V
        have ht5 := Hst.told_le ci
        obtain ⟨t, ht⟩ : ∃ t, Hst.told ci = t := ⟨_, rfl⟩
        rw [ht] at T ht5
        have HT := Lib.hid ht
        have T := Lib.hid T
        clear hbx h7 h8 hB2 ht
        go_wp2_with fail
        refine T.out.mono ?_
        rintro e V2 ⟨rfl, BV⟩
        obtain ⟨⟨k0, k1, k2, k3, k4, k5, k6⟩, h7, h8, BW⟩ := HV.out V2 BV
        have HBW := Lib.hid BW
        rcases (show t = 0 ∨ t = 1 ∨ t = 2 ∨ t = 3 ∨ t = 4 ∨ t = 5 by omega) with rfl | rfl | rfl | rfl | rfl | rfl
        · have HR := Lib.hid (HSTEP.out.trans (step_0 HCI.out (.inl HT.out)))
          have H7 := Lib.hid h7
          have H8 := Lib.hid h8
          clear h7 h8 BV BW
          go_wp2_with fail
          go_roundw
          case rel => exact ⟨i + 1, by omega, by go_num, s, HR.out, H7.out, H8.out, HBW.out⟩
          case measure => simp [intOf]; omega
        · have HR := Lib.hid (HSTEP.out.trans (step_1 HCI.out HT.out))
          clear BV BW
          go_wp2_with fail
          refine (from_any g7 s.pl s.ph ci.bg V2 h7).mono ?_
          rintro e w' ⟨rfl, rfl⟩
          have H7 := Lib.hid (h7.put 0 (.int .i64 (max s.pl ci.bg)))
          have H8 := Lib.hid (h8.far (p := ⟨g7, 0, none⟩) (by simp) (.int .i64 (max s.pl ci.bg)))
          clear h7 h8
          go_wp2_with fail
          go_roundw
          case rel => exact ⟨i + 1, by omega, by go_num, _, HR.out, H7.out, H8.out, HBW.out.setCell (by first | exact hb1 | (simp; omega)) _⟩
          case measure => simp [intOf]; omega
        · have H7 := Lib.hid fun (W : World) (B : Below V2.heap.size V2 W) => h7.below B h7.lt
          have H8 := Lib.hid fun (W : World) (B : Below V2.heap.size V2 W) => h8.below B h8.lt
          have HW := Lib.hid fun (W : World) (B : Below V2.heap.size V2 W) => BW.trans (B.mono BW.size)
          have HX := Lib.hid fun (W : World) (B : Below V2.heap.size V2 W) => And.intro (HV.out W (BV.trans (B.mono BV.size))).1 ((HH.out W (HW.out W B)).at_some hp HCP.out)
          have HF := Lib.hid fun (W : World) (B : Below V2.heap.size V2 W) => hfits_any ci cp W (by have := (HH.out W (HW.out W B)).2.1 i hlt; rw [HCI.out] at this; exact this.hg) ((HOKP.out.below (HW.out W B)).hd) (Nat.le_refl _) (HW.out W B).size
          have HR := HSTEP.out.trans (step_2 HCI.out HCP.out HT.out)
          generalize Hst.fits ci cp = r at *
          have HR := Lib.hid HR
          clear h7 h8 BV BW k0 k1 k2 k3 k4 k5 k6
          go_upto_region 15 with fail
          go_cut [85] (fun v wx => v = .bool (!r) ∧ Below V2.heap.size V2 wx)
          case first =>
            refine wp_region_held_drew (S := fun W => Below V2.heap.size V2 W) (by kernel_rfl) ((Below.refl _ _).drew) (fun hS => ?_)
            refine wpAnyH_take (i := 0) (v := ?_) rfl (by kernel_rfl) (by kernel_rfl) (by kernel_rfl) (fun _ _ _ h => h) (Or.inl ⟨by kernel_rfl, ?_⟩) hS ?_
            rotate_left
            · intro W hW; obtain ⟨⟨k0, k1, k2, k3, k4, k5, k6⟩, p0, p1, p2, p3, p4, p5, p6⟩ := HX.out W hW; go_simp; try with_reducible rfl
            refine wpAnyH_take (i := 1) (v := ?_) rfl (by kernel_rfl) (by kernel_rfl) (by kernel_rfl) (fun _ _ _ h => h) (Or.inl ⟨by kernel_rfl, ?_⟩) hS ?_
            rotate_left
            · intro W hW; go_simp; try with_reducible rfl
            refine wpAnyH_take (i := 2) (v := ?_) rfl (by kernel_rfl) (by kernel_rfl) (by kernel_rfl) (fun _ _ _ h => h) (Or.inl ⟨by kernel_rfl, ?_⟩) hS ?_
            rotate_left
            · intro W hW; go_simp; try with_reducible rfl
            refine wpAnyH_take (i := 3) (v := ?_) rfl (by kernel_rfl) (by kernel_rfl) (by kernel_rfl) (fun _ _ _ h => h) (Or.inl ⟨by kernel_rfl, ?_⟩) hS ?_
            rotate_left
            · intro W hW; go_simp; try with_reducible rfl
            refine wpAnyH_take (i := 4) (v := ?_) rfl (by kernel_rfl) (by kernel_rfl) (by kernel_rfl) (fun _ _ _ h => h) (Or.inl ⟨by kernel_rfl, ?_⟩) hS ?_
            rotate_left
            · intro W hW; obtain ⟨⟨k0, k1, k2, k3, k4, k5, k6⟩, p0, p1, p2, p3, p4, p5, p6⟩ := HX.out W hW; go_simp; try with_reducible rfl
            refine wpAnyH_ready (rs := [5]) (by kernel_rfl) (by simp) ?_
            refine AllReadyH.cons rfl (fun K hK => ?_) AllReadyH.nil
            go_simp
            refine (HF.out _ hS).mono ?_
            rintro e w3 ⟨rfl, B3⟩
            have hT := hS.trans (B3.mono hS.size)
            go_simp
            refine hK.out _ _ ?_ (fun hN => ?_)
            · first | exact hT | exact hS | exact hS.alloc hS.size _ | exact hS.drew
            clear hK K
            try clear hT
            clear hS
            have hS := hN
            clear hN
            refine wpAnyH_take (i := 6) (v := ?_) rfl (by kernel_rfl) (by kernel_rfl) (by kernel_rfl) (fun _ _ _ h => h) (Or.inl ⟨by kernel_rfl, ?_⟩) hS ?_
            rotate_left
            · intro W hW; go_simp; try with_reducible rfl
            refine wpAnyH_done (by kernel_rfl) ?_ _
            go_wp2_with fail
            go_meet
            exact ⟨rfl, hS⟩
          case rest =>
            obtain ⟨rfl, Bc⟩ := hcut
            cases r with
            | false =>
              have HX2 := Lib.hid (chosen_none HR.out (by rw [HL.out]; omega))
              have HB := Lib.hid (HW.out _ Bc)
              go_wp2_with fail
              go_ret
              exact ⟨by rw [HX2.out]; rfl, HB.out⟩
            | true =>
              have h7 := H7.out _ Bc
              have h8 := H8.out _ Bc
              obtain ⟨k0, k1, k2, k3, k4, k5, k6⟩ := (HX.out _ Bc).1
              have HB := Lib.hid (HW.out _ Bc)
              have HVB := Lib.hid Bc
              clear Bc
              go_wp2_with fail
              refine (till_any g7 s.pl s.ph ci.en _ h7).mono ?_
              rintro e w' ⟨rfl, rfl⟩
              have h7 := h7.put 1 (.int .i64 (min s.ph ci.en))
              have h8 := h8.far (p := ⟨g7, 1, none⟩) (by simp) (.int .i64 (min s.ph ci.en))
              go_wp2_with fail
              refine (from_any (g7 + 1) s.ql s.qh ci.bg _ h8).mono ?_
              rintro e w' ⟨rfl, rfl⟩
              have H7' := Lib.hid (h7.far (p := ⟨g7 + 1, 0, none⟩) (by simp) (.int .i64 (max s.ql ci.bg)))
              have H8' := Lib.hid (h8.put 0 (.int .i64 (max s.ql ci.bg)))
              clear h7 h8
              go_wp2_with fail
              go_roundw
              case rel => exact ⟨i + 1, by omega, by go_num, _, HR.out, H7'.out, H8'.out, (HB.out.setCell (by first | exact hb1 | (simp; omega)) _).setCell (by simp; omega) _⟩
              case measure => simp [intOf]; omega
        · have HX2 := Lib.hid (chosen_none (HSTEP.out.trans (step_bad HCI.out (.inr (.inr ⟨HT.out, by decide⟩)))) (by rw [HL.out]; omega))
          clear h7 h8 BV BW
          go_wp2_with fail
          go_ret
          exact ⟨by rw [HX2.out]; rfl, HBW.out⟩
        · by_cases hip : i = p
          · have hne := bne_f (show (i : Int) = p by omega)
            have HR := Lib.hid (HSTEP.out.trans (step_0 HCI.out (.inr (.inl ⟨HT.out, hip⟩))))
            have H7 := Lib.hid h7
            have H8 := Lib.hid h8
            clear h7 h8 BV BW hip
            go_wp2_with fail
            go_roundw
            case rel => exact ⟨i + 1, by omega, by go_num, s, HR.out, H7.out, H8.out, HBW.out⟩
            case measure => simp [intOf]; omega
          · have hne := bne_t (show (i : Int) ≠ p by omega)
            have HX2 := Lib.hid (chosen_none (HSTEP.out.trans (step_bad HCI.out (.inl ⟨HT.out, hip⟩))) (by rw [HL.out]; omega))
            clear h7 h8 BV BW hip
            go_wp2_with fail
            go_ret
            exact ⟨by rw [HX2.out]; rfl, HBW.out⟩
        · have hne := bne_t (show (i : Int) ≠ -1 by omega)
          have HX2 := Lib.hid (chosen_none (HSTEP.out.trans (step_bad HCI.out (.inr (.inl ⟨HT.out, by omega⟩)))) (by rw [HL.out]; omega))
          clear h7 h8 BV BW
          go_wp2_with fail
          go_ret
          exact ⟨by rw [HX2.out]; rfl, HBW.out⟩
      · obtain rfl : i = n := by omega
        have HLC := Lib.hid (chosen_last HCK.out (by rw [HL.out]; exact hs))
        have HB := Lib.hid B
        obtain ⟨q0, q1⟩ := h7.two
        obtain ⟨q2, q3⟩ := h8.two
        clear hs h7 h8 B
        obtain ⟨pl, ph, ql, qh⟩ := s
        dsimp only at *
        by_cases x1 : pl ≤ ph <;> by_cases x2 : ql ≤ qh <;> by_cases x3 : pl ≤ qh
        all_goals
          go_wp2_with fail
          go_ret
          exact ⟨by rw [HLC.out]; simp [*], HB.out⟩
  · obtain ⟨cd, hcd⟩ : ∃ c, l.getD m dC = c := ⟨_, rfl⟩
    have hm0 : (0 : Int) ≤ m := by omega
    have hm1 : (m : Int) < n := by omega
    have HHM := Lib.hid fun (W : World) (B : Below w.heap.size w W) => (HH.out W B).at_some hm hcd
    by_cases hck : cd.ck = cp.ck
    · have HS := Lib.hid (show Hst.runC l p (m : Nat) 0 = some ⟨cp.bg, Hst.hi cp, cd.bg, Hst.hi cd⟩ from by rw [← HCP.out, ← hcd, Hst.runC, Hst.start, if_pos hm0, Int.toNat_natCast])
      have HCK := Lib.hid (show (0 : Int) ≤ (m : Nat) → (l.getD ((m : Nat) : Int).toNat dC).ck = (l.getD p dC).ck from fun _ => by rw [Int.toNat_natCast, hcd, HCP.out]; exact hck)
      have hbne := bne_f hck
      clear h hcd hck
      go_enter Try.func51, Try.ntmps51
      go_wp2_with fail
      refine (ofh_any cp w).mono ?_
      rintro e W1 ⟨rfl, B1⟩
      clear c0 c1 c2 c3 c4 c5 c6
      go_upto_region 2 with fail
      have h7 : Blk ((W1.alloc (.cells #[.int .i64 cp.bg, .int .i64 (Hst.hi cp)] 120)).alloc (.cells #[.int .i64 0, .int .i64 9223372036854775807] 120)) W1.heap.size 120 #[.int .i64 cp.bg, .int .i64 (Hst.hi cp)] := (Blk.made W1 _ _).alloc _
      have h8 : Blk ((W1.alloc (.cells #[.int .i64 cp.bg, .int .i64 (Hst.hi cp)] 120)).alloc (.cells #[.int .i64 0, .int .i64 9223372036854775807] 120)) (W1.heap.size + 1) 120 #[.int .i64 0, .int .i64 9223372036854775807] := by
        have := Blk.made (W1.alloc (.cells #[.int .i64 cp.bg, .int .i64 (Hst.hi cp)] 120)) 120 #[.int .i64 0, .int .i64 9223372036854775807]
        simpa using this
      have B2 := (B1.alloc B1.size (.cells #[.int .i64 cp.bg, .int .i64 (Hst.hi cp)] 120)).alloc (by have := B1.size; simp; omega) (.cells #[.int .i64 0, .int .i64 9223372036854775807] 120)
      have hb1 := B1.size
      clear B1
      generalize W1.heap.size = g7 at *
      generalize (W1.alloc (.cells #[.int .i64 cp.bg, .int .i64 (Hst.hi cp)] 120)).alloc (.cells #[.int .i64 0, .int .i64 9223372036854775807] 120) = W2 at *
      obtain ⟨m0, m1, m2, m3, m4, m5, m6⟩ := HHM.out W2 B2
      obtain ⟨p0, p1, p2, p3, p4, p5, p6⟩ := (HH.out W2 B2).at_some hp HCP.out
      clear p0 p2 p3 p4 p5 p6
      go_upto_region 3 with fail
      go_quiet (fail)
      go_wp2_with fail
      refine (ofh_any cd _).mono ?_
      rintro e W3 ⟨rfl, B3⟩
      have B3 : Below W2.heap.size W2 W3 := ⟨B3.os, B3.tape, B3.output, B3.size, B3.block⟩
      have h7 := h7.below B3 h7.lt
      have h8 := h8.below B3 h8.lt
      have B3 := B2.trans (B3.mono B2.size)
      obtain ⟨q0, q1⟩ := h8.two
      have f0 := h8.frozen 0
      have f1 := h8.frozen 1
      clear m0 m1 m2 m3 m4 m5 m6 p1 B2
      go_upto_region 6 with fail
      have HC0 := Lib.hid (show ChS w l p (m : Nat) g7 (g7 + 1) 0 ((W3.setCell ⟨g7 + 1, 0, none⟩ (.int .i64 cd.bg)).setCell ⟨g7 + 1, 1, none⟩ (.int .i64 (Hst.hi cd))) from
        ⟨_, HS.out, (h7.far (by simp) _).far (by simp) _, (h8.put 0 _).put 1 _, (B3.setCell (by simp; omega) _).setCell (by simp; omega) _⟩)
      clear h7 h8 B3 q0 q1 f0 f1
      generalize (W3.setCell ⟨g7 + 1, 0, none⟩ (.int .i64 cd.bg)).setCell ⟨g7 + 1, 1, none⟩ (.int .i64 (Hst.hi cd)) = W2 at *
      go_wp2_with fail
      go_loopw [38] (fun iv wr => ∃ i : Nat, i ≤ n ∧ iv = .int .i64 i ∧ ChS w l p (m:Nat) g7 (g7 + 1) i wr) (fun iv _ => n - (intOf iv).toNat)
      case atStart => exact ⟨0, by omega, rfl, HC0.out⟩
      case round =>
        clear HC0 HS W2
        obtain ⟨i, hi, rfl, s, hs, h7, h8, B⟩ := hrel
        by_cases hlt : i < n
        · obtain ⟨ci, hci⟩ : ∃ c, l.getD i dC = c := ⟨_, rfl⟩
          obtain ⟨k0, k1, k2, k3, k4, k5, k6⟩ := (HH.out wr B).at_some hlt hci
          have HCI := Lib.hid hci
          have hi0 : (0 : Int) ≤ i := by omega
          have hi1 : (i : Int) < n := by omega
          have hB2 := B.alloc B.size (.cells #[.int .i64 ci.op, .int .u32 ci.ck, .slice ci.da ci.dn ci.dc, .int .i64 ci.bg, .int .i64 ci.en, .int .i64 ci.cd, .slice ci.ga ci.gn ci.gc] 39)
          have h7 := h7.alloc (.cells #[.int .i64 ci.op, .int .u32 ci.ck, .slice ci.da ci.dn ci.dc, .int .i64 ci.bg, .int .i64 ci.en, .int .i64 ci.cd, .slice ci.ga ci.gn ci.gc] 39)
          have h8 := h8.alloc (.cells #[.int .i64 ci.op, .int .u32 ci.ck, .slice ci.da ci.dn ci.dc, .int .i64 ci.bg, .int .i64 ci.en, .int .i64 ci.cd, .slice ci.ga ci.gn ci.gc] 39)
          have hbx := Blk.made wr 39 #[.int .i64 ci.op, .int .u32 ci.ck, .slice ci.da ci.dn ci.dc, .int .i64 ci.bg, .int .i64 ci.en, .int .i64 ci.cd, .slice ci.ga ci.gn ci.gc]
          have HSTEP := Lib.hid (run_succ hs)
          have HS := Lib.hid hs
          clear hci hs B
          go_upto_region 9 with fail
          clear k0 k1 k2 k3 k4 k5 k6
          generalize wr.alloc (.cells #[.int .i64 ci.op, .int .u32 ci.ck, .slice ci.da ci.dn ci.dc, .int .i64 ci.bg, .int .i64 ci.en, .int .i64 ci.cd, .slice ci.ga ci.gn ci.gc] 39) = V at *
          generalize wr.heap.size = gx at *
          have HV := Lib.hid fun (W : World) (B : Below V.heap.size V W) => And.intro (hbx.below B hbx.lt).seven (And.intro (h7.below B h7.lt) (And.intro (h8.below B h8.lt) (hB2.trans (B.mono hB2.size))))
          have hgx := hbx.lt
          obtain ⟨⟨k0, k1, k2, k3, k4, k5, k6⟩, -⟩ := HV.out V (Below.refl _ _)
          have T := told_any ci V
          have ht5 := Hst.told_le ci
          obtain ⟨t, ht⟩ : ∃ t, Hst.told ci = t := ⟨_, rfl⟩
          rw [ht] at T ht5
          have HT := Lib.hid ht
          have T := Lib.hid T
          clear hbx h7 h8 hB2 ht
          go_wp2_with fail
          refine T.out.mono ?_
          rintro e V2 ⟨rfl, BV⟩
          obtain ⟨⟨k0, k1, k2, k3, k4, k5, k6⟩, h7, h8, BW⟩ := HV.out V2 BV
          have HBW := Lib.hid BW
          rcases (show t = 0 ∨ t = 1 ∨ t = 2 ∨ t = 3 ∨ t = 4 ∨ t = 5 by omega) with rfl | rfl | rfl | rfl | rfl | rfl
          · have HR := Lib.hid (HSTEP.out.trans (step_0 HCI.out (.inl HT.out)))
            have H7 := Lib.hid h7
            have H8 := Lib.hid h8
            clear h7 h8 BV BW
            go_wp2_with fail
            go_roundw
            case rel => exact ⟨i + 1, by omega, by go_num, s, HR.out, H7.out, H8.out, HBW.out⟩
            case measure => simp [intOf]; omega
          · have HR := Lib.hid (HSTEP.out.trans (step_1 HCI.out HT.out))
            clear BV BW
            go_wp2_with fail
            refine (from_any g7 s.pl s.ph ci.bg V2 h7).mono ?_
            rintro e w' ⟨rfl, rfl⟩
            have H7 := Lib.hid (h7.put 0 (.int .i64 (max s.pl ci.bg)))
            have H8 := Lib.hid (h8.far (p := ⟨g7, 0, none⟩) (by simp) (.int .i64 (max s.pl ci.bg)))
            clear h7 h8
            go_wp2_with fail
            go_roundw
            case rel => exact ⟨i + 1, by omega, by go_num, _, HR.out, H7.out, H8.out, HBW.out.setCell (by first | exact hb1 | (simp; omega)) _⟩
            case measure => simp [intOf]; omega
          · have H7 := Lib.hid fun (W : World) (B : Below V2.heap.size V2 W) => h7.below B h7.lt
            have H8 := Lib.hid fun (W : World) (B : Below V2.heap.size V2 W) => h8.below B h8.lt
            have HW := Lib.hid fun (W : World) (B : Below V2.heap.size V2 W) => BW.trans (B.mono BW.size)
            have HX := Lib.hid fun (W : World) (B : Below V2.heap.size V2 W) => And.intro (HV.out W (BV.trans (B.mono BV.size))).1 ((HH.out W (HW.out W B)).at_some hp HCP.out)
            have HF := Lib.hid fun (W : World) (B : Below V2.heap.size V2 W) => hfits_any ci cp W (by have := (HH.out W (HW.out W B)).2.1 i hlt; rw [HCI.out] at this; exact this.hg) ((HOKP.out.below (HW.out W B)).hd) (Nat.le_refl _) (HW.out W B).size
            have HR := HSTEP.out.trans (step_2 HCI.out HCP.out HT.out)
            generalize Hst.fits ci cp = r at *
            have HR := Lib.hid HR
            clear h7 h8 BV BW k0 k1 k2 k3 k4 k5 k6
            go_upto_region 15 with fail
            go_cut [85] (fun v wx => v = .bool (!r) ∧ Below V2.heap.size V2 wx)
            case first =>
              refine wp_region_held_drew (S := fun W => Below V2.heap.size V2 W) (by kernel_rfl) ((Below.refl _ _).drew) (fun hS => ?_)
              refine wpAnyH_take (i := 0) (v := ?_) rfl (by kernel_rfl) (by kernel_rfl) (by kernel_rfl) (fun _ _ _ h => h) (Or.inl ⟨by kernel_rfl, ?_⟩) hS ?_
              rotate_left
              · intro W hW; obtain ⟨⟨k0, k1, k2, k3, k4, k5, k6⟩, p0, p1, p2, p3, p4, p5, p6⟩ := HX.out W hW; go_simp; try with_reducible rfl
              refine wpAnyH_take (i := 1) (v := ?_) rfl (by kernel_rfl) (by kernel_rfl) (by kernel_rfl) (fun _ _ _ h => h) (Or.inl ⟨by kernel_rfl, ?_⟩) hS ?_
              rotate_left
              · intro W hW; go_simp; try with_reducible rfl
              refine wpAnyH_take (i := 2) (v := ?_) rfl (by kernel_rfl) (by kernel_rfl) (by kernel_rfl) (fun _ _ _ h => h) (Or.inl ⟨by kernel_rfl, ?_⟩) hS ?_
              rotate_left
              · intro W hW; go_simp; try with_reducible rfl
              refine wpAnyH_take (i := 3) (v := ?_) rfl (by kernel_rfl) (by kernel_rfl) (by kernel_rfl) (fun _ _ _ h => h) (Or.inl ⟨by kernel_rfl, ?_⟩) hS ?_
              rotate_left
              · intro W hW; go_simp; try with_reducible rfl
              refine wpAnyH_take (i := 4) (v := ?_) rfl (by kernel_rfl) (by kernel_rfl) (by kernel_rfl) (fun _ _ _ h => h) (Or.inl ⟨by kernel_rfl, ?_⟩) hS ?_
              rotate_left
              · intro W hW; obtain ⟨⟨k0, k1, k2, k3, k4, k5, k6⟩, p0, p1, p2, p3, p4, p5, p6⟩ := HX.out W hW; go_simp; try with_reducible rfl
              refine wpAnyH_ready (rs := [5]) (by kernel_rfl) (by simp) ?_
              refine AllReadyH.cons rfl (fun K hK => ?_) AllReadyH.nil
              go_simp
              refine (HF.out _ hS).mono ?_
              rintro e w3 ⟨rfl, B3⟩
              have hT := hS.trans (B3.mono hS.size)
              go_simp
              refine hK.out _ _ ?_ (fun hN => ?_)
              · first | exact hT | exact hS | exact hS.alloc hS.size _ | exact hS.drew
              clear hK K
              try clear hT
              clear hS
              have hS := hN
              clear hN
              refine wpAnyH_take (i := 6) (v := ?_) rfl (by kernel_rfl) (by kernel_rfl) (by kernel_rfl) (fun _ _ _ h => h) (Or.inl ⟨by kernel_rfl, ?_⟩) hS ?_
              rotate_left
              · intro W hW; go_simp; try with_reducible rfl
              refine wpAnyH_done (by kernel_rfl) ?_ _
              go_wp2_with fail
              go_meet
              exact ⟨rfl, hS⟩
            case rest =>
              obtain ⟨rfl, Bc⟩ := hcut
              cases r with
              | false =>
                have HX2 := Lib.hid (chosen_none HR.out (by rw [HL.out]; omega))
                have HB := Lib.hid (HW.out _ Bc)
                go_wp2_with fail
                go_ret
                exact ⟨by rw [HX2.out]; rfl, HB.out⟩
              | true =>
                have h7 := H7.out _ Bc
                have h8 := H8.out _ Bc
                obtain ⟨k0, k1, k2, k3, k4, k5, k6⟩ := (HX.out _ Bc).1
                have HB := Lib.hid (HW.out _ Bc)
                have HVB := Lib.hid Bc
                clear Bc
                go_wp2_with fail
                refine (till_any g7 s.pl s.ph ci.en _ h7).mono ?_
                rintro e w' ⟨rfl, rfl⟩
                have h7 := h7.put 1 (.int .i64 (min s.ph ci.en))
                have h8 := h8.far (p := ⟨g7, 1, none⟩) (by simp) (.int .i64 (min s.ph ci.en))
                go_wp2_with fail
                refine (from_any (g7 + 1) s.ql s.qh ci.bg _ h8).mono ?_
                rintro e w' ⟨rfl, rfl⟩
                have H7' := Lib.hid (h7.far (p := ⟨g7 + 1, 0, none⟩) (by simp) (.int .i64 (max s.ql ci.bg)))
                have H8' := Lib.hid (h8.put 0 (.int .i64 (max s.ql ci.bg)))
                clear h7 h8
                go_wp2_with fail
                go_roundw
                case rel => exact ⟨i + 1, by omega, by go_num, _, HR.out, H7'.out, H8'.out, (HB.out.setCell (by first | exact hb1 | (simp; omega)) _).setCell (by simp; omega) _⟩
                case measure => simp [intOf]; omega
          · have HR := Lib.hid (HSTEP.out.trans (step_3 HCI.out HT.out hm0))
            clear BV BW
            go_wp2_with fail
            refine (till_any (g7 + 1) s.ql s.qh ci.en V2 h8).mono ?_
            rintro e w' ⟨rfl, rfl⟩
            have H7 := Lib.hid (h7.far (p := ⟨g7 + 1, 1, none⟩) (by simp) (.int .i64 (min s.qh ci.en)))
            have H8 := Lib.hid (h8.put 1 (.int .i64 (min s.qh ci.en)))
            clear h7 h8
            go_wp2_with fail
            go_roundw
            case rel => exact ⟨i + 1, by omega, by go_num, _, HR.out, H7.out, H8.out, HBW.out.setCell (by simp; omega) _⟩
            case measure => simp [intOf]; omega
          · by_cases hip : i = p
            · have hne := bne_f (show (i : Int) = p by omega)
              have HR := Lib.hid (HSTEP.out.trans (step_0 HCI.out (.inr (.inl ⟨HT.out, hip⟩))))
              have H7 := Lib.hid h7
              have H8 := Lib.hid h8
              clear h7 h8 BV BW hip
              go_wp2_with fail
              go_roundw
              case rel => exact ⟨i + 1, by omega, by go_num, s, HR.out, H7.out, H8.out, HBW.out⟩
              case measure => simp [intOf]; omega
            · have hne := bne_t (show (i : Int) ≠ p by omega)
              have HX2 := Lib.hid (chosen_none (HSTEP.out.trans (step_bad HCI.out (.inl ⟨HT.out, hip⟩))) (by rw [HL.out]; omega))
              clear h7 h8 BV BW hip
              go_wp2_with fail
              go_ret
              exact ⟨by rw [HX2.out]; rfl, HBW.out⟩
          · by_cases him : (i : Int) = m
            · have hne := bne_f him
              have HR := Lib.hid (HSTEP.out.trans (step_0 HCI.out (.inr (.inr ⟨HT.out, him⟩))))
              have H7 := Lib.hid h7
              have H8 := Lib.hid h8
              clear h7 h8 BV BW him
              go_wp2_with fail
              go_roundw
              case rel => exact ⟨i + 1, by omega, by go_num, s, HR.out, H7.out, H8.out, HBW.out⟩
              case measure => simp [intOf]; omega
            · have hne := bne_t him
              have HX2 := Lib.hid (chosen_none (HSTEP.out.trans (step_bad HCI.out (.inr (.inl ⟨HT.out, him⟩)))) (by rw [HL.out]; omega))
              clear h7 h8 BV BW him
              go_wp2_with fail
              go_ret
              exact ⟨by rw [HX2.out]; rfl, HBW.out⟩
        · obtain rfl : i = n := by omega
          have HLC := Lib.hid (chosen_last HCK.out (by rw [HL.out]; exact hs))
          have HB := Lib.hid B
          obtain ⟨q0, q1⟩ := h7.two
          obtain ⟨q2, q3⟩ := h8.two
          clear hs h7 h8 B
          obtain ⟨pl, ph, ql, qh⟩ := s
          dsimp only at *
          by_cases x1 : pl ≤ ph <;> by_cases x2 : ql ≤ qh <;> by_cases x3 : pl ≤ qh
          all_goals
            go_wp2_with fail
            go_ret
            exact ⟨by rw [HLC.out]; simp [*], HB.out⟩
    · have HX := Lib.hid (show Hst.chosen l p (m : Nat) = false from chosen_ck hm0 (by rw [Int.toNat_natCast, hcd, HCP.out]; exact hck))
      have hbne := bne_t hck
      clear h hcd hck
      go_enter Try.func51, Try.ntmps51
      go_wp2_with fail
      refine (ofh_any cp w).mono ?_
      rintro e W1 ⟨rfl, B1⟩
      clear c0 c1 c2 c3 c4 c5 c6
      go_upto_region 2 with fail
      have h7 : Blk ((W1.alloc (.cells #[.int .i64 cp.bg, .int .i64 (Hst.hi cp)] 120)).alloc (.cells #[.int .i64 0, .int .i64 9223372036854775807] 120)) W1.heap.size 120 #[.int .i64 cp.bg, .int .i64 (Hst.hi cp)] := (Blk.made W1 _ _).alloc _
      have h8 : Blk ((W1.alloc (.cells #[.int .i64 cp.bg, .int .i64 (Hst.hi cp)] 120)).alloc (.cells #[.int .i64 0, .int .i64 9223372036854775807] 120)) (W1.heap.size + 1) 120 #[.int .i64 0, .int .i64 9223372036854775807] := by
        have := Blk.made (W1.alloc (.cells #[.int .i64 cp.bg, .int .i64 (Hst.hi cp)] 120)) 120 #[.int .i64 0, .int .i64 9223372036854775807]
        simpa using this
      have B2 := (B1.alloc B1.size (.cells #[.int .i64 cp.bg, .int .i64 (Hst.hi cp)] 120)).alloc (by have := B1.size; simp; omega) (.cells #[.int .i64 0, .int .i64 9223372036854775807] 120)
      have hb1 := B1.size
      clear B1
      generalize W1.heap.size = g7 at *
      generalize (W1.alloc (.cells #[.int .i64 cp.bg, .int .i64 (Hst.hi cp)] 120)).alloc (.cells #[.int .i64 0, .int .i64 9223372036854775807] 120) = W2 at *
      obtain ⟨m0, m1, m2, m3, m4, m5, m6⟩ := HHM.out W2 B2
      obtain ⟨p0, p1, p2, p3, p4, p5, p6⟩ := (HH.out W2 B2).at_some hp HCP.out
      have HB2 := Lib.hid B2
      clear p0 p2 p3 p4 p5 p6 B2 h7 h8
      go_upto_region 3 with fail
      go_quiet (fail)
      go_wp2_with fail
      go_ret
      exact ⟨by rw [HX.out]; rfl, below_drewN HB2.out _⟩

end Go.Proofs.Ytboadalojimdlaa
