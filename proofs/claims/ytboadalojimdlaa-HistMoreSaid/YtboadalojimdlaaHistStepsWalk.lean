/-
  The walk of corncriblaw23.HistSteps.
-/
import Derived.Test.YtboadalojimdlaaHstAlive
import Derived.Test.YtboadalojimdlaaHstStep
namespace Go.Proofs.Ytboadalojimdlaa
open Go.RowKit

theorem stepK_same (k : Hst.KeyR) (c : CallR) : (Hst.stepK k c).2.op = c.op ∧ (Hst.stepK k c).2.ck = c.ck ∧ (Hst.stepK k c).2.da = c.da ∧ (Hst.stepK k c).2.dn = c.dn ∧ (Hst.stepK k c).2.dc = c.dc ∧ (Hst.stepK k c).2.dl = c.dl ∧ (Hst.stepK k c).2.bg = c.bg ∧ (Hst.stepK k c).2.en = c.en := by
  unfold Hst.stepK
  repeat' split
  all_goals exact ⟨rfl, rfl, rfl, rfl, rfl, rfl, rfl, rfl⟩

/-- What holds of a key in memory. -/
def KOk (w : World) (B : Nat) (k : Hst.KeyR) : Prop := BSl w B k.da k.dn k.dl ∧ 0 ≤ k.ck ∧ k.ck < 4294967296 ∧ (k.st = 0 ∨ k.st = 1 ∨ k.st = 2)
theorem stepK_ok {w : World} {B : Nat} {k : Hst.KeyR} {c : CallR} (hk : KOk w B k) (hc : COk w B c) : KOk w B (Hst.stepK k c).1 ∧ COk w B (Hst.stepK k c).2 := by
  obtain ⟨k1, k2, k3, k4⟩ := hk
  obtain ⟨c1, c2, c3, c4, c5, c6, c7, c8, c9, ca, cb, cc⟩ := hc
  unfold Hst.stepK
  split
  · split
    · exact ⟨⟨c1, c3, c4, .inr (.inl rfl)⟩, c1, BSl.nil _ _ _, c3, c4, c5, c6, c7, c8, c9, ca, by dsimp only; omega, by dsimp only; omega⟩
    · exact ⟨⟨k1, k2, k3, k4⟩, c1, BSl.nil _ _ _, c3, c4, c5, c6, c7, c8, c9, ca, by show _ ≤ 9 - k.st; omega, by show 9 - k.st ≤ _; omega⟩
  · split
    · exact ⟨⟨k1, k2, k3, k4⟩, c1, BSl.nil _ _ _, c3, c4, c5, c6, c7, c8, c9, ca, by dsimp only; omega, by dsimp only; omega⟩
    · split
      · exact ⟨⟨k1, k2, k3, k4⟩, c1, BSl.nil _ _ _, c3, c4, c5, c6, c7, c8, c9, ca, by dsimp only; omega, by dsimp only; omega⟩
      · split
        · exact ⟨⟨k1, k2, k3, k4⟩, c1, BSl.nil _ _ _, c3, c4, c5, c6, c7, c8, c9, ca, by dsimp only; omega, by dsimp only; omega⟩
        · split
          · exact ⟨⟨BSl.nil _ _ _, k2, k3, .inr (.inr rfl)⟩, c1, BSl.nil _ _ _, c3, c4, c5, c6, c7, c8, c9, ca, by dsimp only; omega, by dsimp only; omega⟩
          · exact ⟨⟨k1, k2, k3, k4⟩, c1, k1, c3, c4, c5, c6, c7, c8, c9, ca, by dsimp only; omega, by dsimp only; omega⟩
theorem timed_ok {w : World} {B : Nat} {c : CallR} (hc : COk w B c) {m : Nat} (hm : m ≤ 1000) : COk w B (Hst.timed c m) := by
  obtain ⟨c1, c2, c3, c4, c5, c6, c7, c8, c9, ca, cb, cc⟩ := hc
  exact ⟨c1, c2, c3, c4, c5, c6, by show _ ≤ 2 * (m : Int) + 1; omega, by show 2 * (m : Int) + 1 ≤ _; omega, by show _ ≤ 2 * (m : Int) + 2; omega, by show 2 * (m : Int) + 2 ≤ _; omega, cb, cc⟩
theorem simK_ok {w : World} {B n : Nat} {a : Option Addr} {l : List CallR} (h : CSl w B a n l) (hn : n ≤ 1000) (i : Nat) (hi : i ≤ n) : KOk w B (Hst.simK l i).1 ∧ ∀ j, j < (Hst.simK l i).2.length → COk w B ((Hst.simK l i).2.getD j dC) := by
  induction i with
  | zero => exact ⟨⟨BSl.nil _ _ _, by show (0 : Int) ≤ 0; omega, by show (0 : Int) < 4294967296; omega, .inl rfl⟩, fun j hj => absurd hj (by simp [Hst.simK])⟩
  | succ i ih =>
    obtain ⟨i1, i2⟩ := ih (by omega)
    rw [Hst.simK]
    split
    · have hlen := Hst.simK_le l i
      obtain ⟨s1, s2⟩ := stepK_ok i1 (timed_ok (h.2.1 i (by omega)) (m := (Hst.simK l i).2.length) (by omega))
      refine ⟨s1, fun j hj => ?_⟩
      dsimp only at hj ⊢
      rw [List.length_append, List.length_singleton] at hj
      by_cases e : j < (Hst.simK l i).2.length
      · rw [Hst.getD_append_lt e]; exact i2 j e
      · obtain rfl : j = (Hst.simK l i).2.length := by omega
        rw [Hst.getD_append_eq]; exact s2
    · exact ⟨i1, i2⟩

theorem own_form_any' {W : World} {base k size : Nat} {v : Value} {xs : List Value} {e : TypeId} (h : W.ownsRow base e size v k xs) : ∃ a c, v = .slice a k c ∧ k ≤ c := by
  rcases h.2 with ⟨rfl, rfl⟩ | ⟨g, cap, _, rfl, _, _, h1, _⟩
  · exact ⟨none, 0, rfl, Nat.le_refl _⟩
  · exact ⟨_, cap, rfl, h1⟩
theorem own_pos {W : World} {base k size c : Nat} {a : Option Addr} {xs : List Value} {e : TypeId} (h : W.ownsRow base e size (.slice a k c) k xs) (hk : 0 < k) : ∃ g, a = some ⟨g, 0, none⟩ ∧ base ≤ g ∧ g < W.heap.size := by
  rcases h.2 with ⟨e1, e2⟩ | ⟨g, cap, cur, e1, e2, e3, -⟩
  · omega
  · cases e1
    exact ⟨g, rfl, e2, (Array.getElem?_eq_some_iff.1 e3).1⟩
theorem CSl.at0 {w : World} {B n i g : Nat} {l : List CallR} (h : CSl w B (some ⟨g, 0, none⟩) n l) (hi : i < n) {c : CallR} (hc : l.getD i dC = c) :
    w.cell? ⟨g, i * 7, none⟩ = some (.int .i64 c.op) ∧ w.cell? ⟨g, i * 7 + 1, none⟩ = some (.int .u32 c.ck) ∧ w.cell? ⟨g, i * 7 + 2, none⟩ = some (.slice c.da c.dn c.dc) ∧
     w.cell? ⟨g, i * 7 + 3, none⟩ = some (.int .i64 c.bg) ∧ w.cell? ⟨g, i * 7 + 4, none⟩ = some (.int .i64 c.en) ∧ w.cell? ⟨g, i * 7 + 5, none⟩ = some (.int .i64 c.cd) ∧
     w.cell? ⟨g, i * 7 + 6, none⟩ = some (.slice c.ga c.gn c.gc) := by
  have := h.at_some hi hc
  simpa only [Nat.zero_add] using this
theorem csl_own2 {W : World} {base k c : Nat} {T : TypeId} {a : Option Addr} {l : List CallR} (h : W.ownsRow base T 7 (.slice a k c) k (flatC l)) (hl : l.length = k) (hok : ∀ i, i < k → COk W W.heap.size (l.getD i dC)) : CSl W W.heap.size a k l := by
  subst hl
  obtain ⟨a', c', e, -, hc⟩ := csl_own h hok
  injection e with e1 e2 e3
  subst e1
  exact hc
theorem info_rcall : (Try.prog.info? 30).map (fun i => (i.zero, i.size, i.bytes)) = some (some (.agg #[.int .i64 0, .int .u32 0, .slice none 0 0, .int .i64 0, .int .i64 0, .int .i64 0, .slice none 0 0]), 7, 88) := by kernel_rfl

theorem simK_no {l : List CallR} {i : Nat} {c : CallR} (hc : l.getD i dC = c) (hk : Hst.known c = false) : Hst.simK l (i + 1) = Hst.simK l i := by
  rw [Hst.simK, hc, if_neg (by rw [hk]; decide)]
theorem simK_yes {l : List CallR} {i : Nat} {c : CallR} (hc : l.getD i dC = c) (hk : Hst.known c = true) : Hst.simK l (i + 1) = ((Hst.stepK (Hst.simK l i).1 (Hst.timed c (Hst.simK l i).2.length)).1, (Hst.simK l i).2 ++ [(Hst.stepK (Hst.simK l i).1 (Hst.timed c (Hst.simK l i).2.length)).2]) := by
  rw [Hst.simK, hc, if_pos hk]

/-- What the loop keeps. -/
def StS (w : World) (l : List CallR) (gk : Nat) (i : Nat) (v : Value) (W : World) : Prop :=
  W.ownsRow (gk + 1) 30 7 v (Hst.simK l i).2.length (flatC (Hst.simK l i).2) ∧
  Blk W gk 28 #[.int .i64 (Hst.simK l i).1.st, .int .u32 (Hst.simK l i).1.ck, .slice (Hst.simK l i).1.da (Hst.simK l i).1.dn (Hst.simK l i).1.dc] ∧ Below w.heap.size w W

set_option maxRecDepth 100000 in
set_option maxHeartbeats 8000000 in
theorem steps_walk (a : Option Addr) (n c : Nat) (l : List CallR) (at_ code : Int) (w : World) (h : CSl w w.heap.size a n l) (hn : n ≤ 9223372036854775807) (ha0 : 0 ≤ at_) (ha1 : at_ ≤ 255) (hc0 : 0 ≤ code) (hc1 : code ≤ 255) :
    Calls Try.prog 3 #[.slice a n c, .int .u8 at_, .int .u8 code] w fun e w' => e = .returned (.bool true) ∧ Below w.heap.size w w' := by
  have HH := Lib.hid fun (W : World) (B : Below w.heap.size w W) => (h.below B).more B.size
  have HL := Lib.hid h.1
  have HC := Lib.hid h
  have HA := Lib.hid fun (hpos : 0 < n) => (h.at_ hpos).imp fun b h => h.imp fun off h => h.1
  have hl := h.1
  clear h
  go_enter Try.func3, Try.ntmps3
  go_wp2_with fail
  refine (hist_alive w).mono ?_
  rintro e w1 ⟨rfl, B1⟩
  have FA := far_any a n c l 30 w1 (HH.out w1 B1) (by decide) hn
  cases hf : far l 30 with
  | true =>
    rw [hf] at FA
    have FA := Lib.hid FA
    clear hf hl
    go_wp2_with fail
    refine FA.out.mono ?_
    rintro e w2 ⟨rfl, rfl⟩
    go_wp2_with fail
    go_ret
    exact ⟨rfl, B1⟩
  | false =>
    rw [hf] at FA
    have FA := Lib.hid FA
    have hn30 : n ≤ 30 := by
      unfold far at hf
      rw [Bool.or_eq_false_iff] at hf
      have := of_decide_eq_false hf.1
      omega
    obtain ⟨i0, hi, hz0, hz1, hz2⟩ := info_parts info_rcall
    have HI := Lib.hid hi
    have HZ0 := Lib.hid hz0
    have HZ1 := Lib.hid hz1
    have HZ2 := Lib.hid hz2
    have hgk := B1.size
    have HS0 := Lib.hid (show StS w l w1.heap.size 0 (.slice none 0 0) (w1.alloc (.cells #[.int .i64 0, .int .u32 0, .slice none 0 0] 28)) from ⟨⟨rfl, .inl ⟨rfl, rfl⟩⟩, Blk.made w1 _ _, B1.alloc B1.size _⟩)
    clear hf hl B1 hi hz0 hz1 hz2
    go_wp2_with fail
    refine FA.out.mono ?_
    rintro e w2 ⟨rfl, rfl⟩
    clear FA
    go_upto_region 6 with fail
    generalize w1.alloc (.cells #[.int .i64 0, .int .u32 0, .slice none 0 0] 28) = w2 at *
    generalize w1.heap.size = gk at *
    go_wp2_with fail
    go_loopw [8, 9] (fun v8 iw wr => ∃ i : Nat, i ≤ n ∧ iw = .int .i64 i ∧ StS w l gk i v8 wr) (fun _ iw _ => n - (intOf iw).toNat)
    case atStart => exact ⟨0, by omega, rfl, HS0.out⟩
    case round =>
      clear HS0
      obtain ⟨i, hi, rfl, hown, hkey, B⟩ := hrel
      by_cases hlt : i < n
      · obtain ⟨b, off, ha⟩ := HA.out (by omega)
        subst ha
        obtain ⟨ci, hci⟩ : ∃ c, l.getD i dC = c := ⟨_, rfl⟩
        obtain ⟨k0, k1, k2, k3, k4, k5, k6⟩ := (HH.out wr B).at_some hlt hci
        have hi0 : (0 : Int) ≤ i := by omega
        have hi1 : (i : Int) < n := by omega
        have hB2 := B.alloc B.size (.cells #[.int .i64 ci.op, .int .u32 ci.ck, .slice ci.da ci.dn ci.dc, .int .i64 ci.bg, .int .i64 ci.en, .int .i64 ci.cd, .slice ci.ga ci.gn ci.gc] 30)
        have ho2 := hown.alloc (.cells #[.int .i64 ci.op, .int .u32 ci.ck, .slice ci.da ci.dn ci.dc, .int .i64 ci.bg, .int .i64 ci.en, .int .i64 ci.cd, .slice ci.ga ci.gn ci.gc] 30)
        have hk2 := hkey.alloc (.cells #[.int .i64 ci.op, .int .u32 ci.ck, .slice ci.da ci.dn ci.dc, .int .i64 ci.bg, .int .i64 ci.en, .int .i64 ci.cd, .slice ci.ga ci.gn ci.gc] 30)
        have hbx := Blk.made wr 30 #[.int .i64 ci.op, .int .u32 ci.ck, .slice ci.da ci.dn ci.dc, .int .i64 ci.bg, .int .i64 ci.en, .int .i64 ci.cd, .slice ci.ga ci.gn ci.gc]
        have hgx := hkey.lt
        have hgg : ∀ q, u8.ownBlock = some q → gk + 1 ≤ q ∧ q < wr.heap.size := fun q e => hown.lt q e
        have HGG := Lib.hid hgg
        have HCI := Lib.hid hci
        have hno := fun e => Lib.hid (simK_no (l := l) (i := i) hci e)
        have hyes := fun e => Lib.hid (simK_yes (l := l) (i := i) hci e)
        have hkn : Hst.known ci = decide (ci.op = 1 ∨ ci.op = 3 ∨ ci.op = 4) := rfl
        clear hci B hown hkey hgg
        go_upto_region 11 with fail
        clear k0 k1 k2 k3 k4 k5 k6
        generalize wr.alloc (.cells #[.int .i64 ci.op, .int .u32 ci.ck, .slice ci.da ci.dn ci.dc, .int .i64 ci.bg, .int .i64 ci.en, .int .i64 ci.cd, .slice ci.ga ci.gn ci.gc] 30) = V at *
        generalize wr.heap.size = gx at *
        obtain ⟨k0, k1, k2, k3, k4, k5, k6⟩ := hbx.seven
        by_cases hop : ci.op = 1 ∨ ci.op = 3 ∨ ci.op = 4
        · have HY := hyes (by rw [hkn]; exact decide_eq_true hop)
          have hlen := Hst.simK_le l i
          have hst : (Hst.simK l i).1.st = 0 ∨ (Hst.simK l i).1.st = 1 ∨ (Hst.simK l i).1.st = 2 := (simK_ok HC.out (by omega) i (by omega)).1.2.2.2
          have HYY : ∃ K x, (Hst.simK l i).1 = K ∧ (Hst.simK l i).2 = x ∧ Hid (Hst.simK l (i + 1) = ((Hst.stepK K (Hst.timed ci x.length)).1, x ++ [(Hst.stepK K (Hst.timed ci x.length)).2])) := ⟨_, _, rfl, rfl, HY⟩
          obtain ⟨K, x, hKe, hXe, HYY⟩ := HYY
          rw [hXe] at hlen ho2
          rw [hKe] at hst hk2
          clear hno hyes hkn HY hKe hXe
          obtain ⟨m, hm⟩ : ∃ m, x.length = m := ⟨_, rfl⟩
          have HX := Lib.hid hm
          rw [hm] at ho2 hlen HYY
          obtain ⟨ax, cx, rfl, hcx⟩ := own_form_any' ho2
          have hm0 : (0 : Int) ≤ m := by omega
          have hm1 : (m : Int) ≤ 30 := by omega
          have HST := Lib.hid hst
          have hkx : gk < gx := hgx
          have f3 := hbx.frozen 3
          have f4 := hbx.frozen 4
          have hne1 : ¬ gx = gk := by omega
          have hne2 : ¬ gk = gx := by omega
          have hopb := Lib.hid hop
          have hown_ne : (Value.slice ax m cx).ownBlock ≠ some gx := fun e => by have := (HGG.out _ e).2; omega
          have hb2 := (hbx.put 3 (.int .i64 (2 * (m : Int) + 1))).put 4 (.int .i64 (2 * (m : Int) + 2))
          have hk2 := (hk2.far (p := ⟨gx, 3, none⟩) hne2 (.int .i64 (2 * (m : Int) + 1))).far (p := ⟨gx, 4, none⟩) hne2 (.int .i64 (2 * (m : Int) + 2))
          have ho2 := ownsRow_setCell_other (ownsRow_setCell_other ho2 (a := ⟨gx, 3, none⟩) hown_ne (.int .i64 (2 * (m : Int) + 1))) (a := ⟨gx, 4, none⟩) hown_ne (.int .i64 (2 * (m : Int) + 2))
          have hgw : w.heap.size ≤ gx := by have := hB2.size; omega
          have hB2 := (hB2.setCell (p := ⟨gx, 3, none⟩) hgw (.int .i64 (2 * (m : Int) + 1))).setCell (p := ⟨gx, 4, none⟩) hgw (.int .i64 (2 * (m : Int) + 2))
          clear hm hst hlen hop hbx
          -- the tests on the operation, by cases
          have hops : ((ci.op != 1) = false) ∨ ((ci.op != 1) = true ∧ (ci.op != 3) = false) ∨ ((ci.op != 1) = true ∧ (ci.op != 3) = true ∧ (ci.op != 4) = false) := by
            rcases hopb.out with h | h | h
            · exact .inl (bne_f h)
            · exact .inr (.inl ⟨bne_t (by omega), bne_f h⟩)
            · exact .inr (.inr ⟨bne_t (by omega), bne_t (by omega), bne_f h⟩)
          have hsame := stepK_same K (Hst.timed ci m)
          have SA := Lib.hid fun (W : World) => step_any K (Hst.timed ci m) W HST.out
          obtain ⟨r, hr⟩ : ∃ r, Hst.stepK K (Hst.timed ci m) = r := ⟨_, rfl⟩
          rw [hr] at hsame SA HYY
          obtain ⟨r1, r2⟩ := r
          have HRC := Lib.hid (show r2.cells = [.int .i64 ci.op, .int .u32 ci.ck, .slice ci.da ci.dn ci.dc, .int .i64 (2 * (m : Int) + 1), .int .i64 (2 * (m : Int) + 2), .int .i64 r2.cd, .slice r2.ga r2.gn r2.gc] from by
            obtain ⟨e1, e2, e3, e4, e5, e6, e7, e8⟩ := hsame
            unfold CallR.cells
            dsimp only at e1 e2 e3 e4 e5 e6 e7 e8
            rw [e1, e2, e3, e4, e5, e7, e8]; rfl)
          clear hr hsame
          rcases hops with hq | ⟨hq, hq2⟩ | ⟨hq, hq2, hq3⟩
          all_goals
            go_upto_region 14 with fail
            clear k0 k1 k2 k3 k4 k5 k6 f3 f4
            generalize (V.setCell ⟨gx, 3, none⟩ (.int .i64 (2 * (m : Int) + 1))).setCell ⟨gx, 4, none⟩ (.int .i64 (2 * (m : Int) + 2)) = V2 at *
            obtain ⟨k0, k1, k2, k3, k4, k5, k6⟩ := hb2.seven
            obtain ⟨y0, y1, y2⟩ := hk2.three
            go_wp2_with fail
            refine (SA.out V2).mono ?_
            rintro e V3 ⟨rfl, B3⟩
            have hb3 := hb2.below B3 hb2.lt
            have hk3 := hk2.below B3 hk2.lt
            have ho3 := own_belowH ho2 B3 (Nat.le_refl _)
            have hB3 := hB2.trans (B3.mono hB2.size)
            clear k0 k1 k2 k3 k4 k5 k6 y0 y1 y2 hb2 hk2 ho2 hB2 B3
            obtain ⟨k0, k1, k2, k3, k4, k5, k6⟩ := hb3.seven
            obtain ⟨y0, y1, y2⟩ := hk3.three
            have f5 := hb3.frozen 5
            have f6 := hb3.frozen 6
            have g0 := hk3.frozen 0
            have g1 := hk3.frozen 1
            have g2 := hk3.frozen 2
            have hown_ne2 : (Value.slice ax m cx).ownBlock ≠ some gk := fun e => by have := (HGG.out _ e).1; omega
            have hk4 := ((hk3.put3 (.int .i64 r1.st) (.int .u32 r1.ck) (.slice r1.da r1.dn r1.dc)).far (p := ⟨gx, 5, none⟩) hne2 (.int .i64 r2.cd)).far (p := ⟨gx, 6, none⟩) hne2 (.slice r2.ga r2.gn r2.gc)
            have hb4 := ((((hb3.far (p := ⟨gk, 0, none⟩) hne1 (.int .i64 r1.st)).far (p := ⟨gk, 1, none⟩) hne1 (.int .u32 r1.ck)).far (p := ⟨gk, 2, none⟩) hne1 (.slice r1.da r1.dn r1.dc)).put 5 (.int .i64 r2.cd)).put 6 (.slice r2.ga r2.gn r2.gc)
            have ho4 := ownsRow_setCell_other (ownsRow_setCell_other (ownsRow_setCell_other (ownsRow_setCell_other (ownsRow_setCell_other ho3 (a := ⟨gk, 0, none⟩) hown_ne2 (.int .i64 r1.st)) (a := ⟨gk, 1, none⟩) hown_ne2 (.int .u32 r1.ck)) (a := ⟨gk, 2, none⟩) hown_ne2 (.slice r1.da r1.dn r1.dc))
              (a := ⟨gx, 5, none⟩) hown_ne (.int .i64 r2.cd)) (a := ⟨gx, 6, none⟩) hown_ne (.slice r2.ga r2.gn r2.gc)
            have hB4 := ((below_put3 hB3 hgk (.int .i64 r1.st) (.int .u32 r1.ck) (.slice r1.da r1.dn r1.dc)).setCell (p := ⟨gx, 5, none⟩) hgw (.int .i64 r2.cd)).setCell (p := ⟨gx, 6, none⟩) hgw (.slice r2.ga r2.gn r2.gc)
            unfold Hst.KeyR.vals
            clear hb3 hk3 ho3 hB3
            go_upto_region 15 with fail
            clear k0 k1 k2 k3 k4 k5 k6 y0 y1 y2 f5 f6 g0 g1 g2
            generalize ((((V3.setCell ⟨gk, 0, none⟩ (.int .i64 r1.st)).setCell ⟨gk, 1, none⟩ (.int .u32 r1.ck)).setCell ⟨gk, 2, none⟩ (.slice r1.da r1.dn r1.dc)).setCell ⟨gx, 5, none⟩ (.int .i64 r2.cd)).setCell ⟨gx, 6, none⟩ (.slice r2.ga r2.gn r2.gc) = V4 at *
            obtain ⟨k0, k1, k2, k3, k4, k5, k6⟩ := hb4.seven
            obtain ⟨g2, cap2, W2, hr, ho, hg2, -, -⟩ := append_elem (P := Try.prog) Try.underlying22 HI.out HZ0.out HZ1.out HZ2.out rfl (by decide) ho4 r2.cells rfl (cells_one r2) (by omega) (by unfold maxLen; omega) (by have := hk4.lt; omega)
            have HB := Lib.hid (hB4.grown hg2 hB4.size (fun q e => by have := (ho4.lt q e).1; omega))
            have HK := Lib.hid (hk4.grown hg2 (fun e => hown_ne2 e.symm))
            rw [← flatC_snoc] at ho
            have HO := Lib.hid ho
            rw [HRC.out] at hr
            have hr : (Builtin.append_ #[22, 22] 22 #[.slice ax m cx, .slice (some ⟨V4.heap.size, 0, none⟩) 1 1]).run Try.prog (V4.alloc (.cells #[.int .i64 ci.op, .int .u32 ci.ck, .slice ci.da ci.dn ci.dc, .int .i64 (2 * (m : Int) + 1), .int .i64 (2 * (m : Int) + 2), .int .i64 r2.cd, .slice r2.ga r2.gn r2.gc] 30)) = .ok (.slice (some ⟨g2, 0, none⟩) (m + 1) cap2) W2 := hr
            have hxl : (x ++ [r2]).length = m + 1 := by rw [List.length_append, HX.out]; rfl
            have HXL := Lib.hid hxl
            clear hk4 hb4 ho4 hB4 hg2 ho hxl
            go_wp2_with (at_builtin; refine list_run (by rfl) _ _ rfl rfl rfl hr ?_; clear hr)
            go_roundw
            case rel => exact ⟨i + 1, by omega, by go_num, by unfold StS; rw [HYY.out]; dsimp only; rw [HXL.out]; exact ⟨HO.out, HK.out, HB.out⟩⟩
            case measure => simp [intOf]; omega
        · have HN := hno (by rw [hkn]; exact decide_eq_false hop)
          have b1 := bne_t (show ci.op ≠ 1 by omega)
          have b3 := bne_t (show ci.op ≠ 3 by omega)
          have b4 := bne_t (show ci.op ≠ 4 by omega)
          have HS := Lib.hid (show StS w l gk (i + 1) u8 V from by unfold StS; rw [HN.out]; exact ⟨ho2, hk2, hB2⟩)
          clear hno hyes hkn hop ho2 hk2 hB2 hbx
          go_wp2_with fail
          go_roundw
          case rel => exact ⟨i + 1, by omega, by go_num, HS.out⟩
          case measure => simp [intOf]; omega
      · obtain rfl : i = n := by omega
        have hlen := Hst.simK_le l i
        obtain ⟨p, d, hshape, -⟩ := Hst.sim_ok l i
        have hxok := (simK_ok HC.out (by omega) i (Nat.le_refl _)).2
        generalize (Hst.simK l i).2 = x at *
        have HOKX := Lib.hid hxok
        have HSH := Lib.hid hshape
        have hlin := Hst.linear_iff x |>.2 (Hst.shape_lin (by omega) hshape)
        have hxw := fun (W : World) (B : Below w.heap.size w W) (j : Nat) (hj : j < x.length) => ((HOKX.out j hj).below B).more B.size
        have HXW := Lib.hid hxw
        obtain ⟨ax, cx, rfl, hcx, hcsl⟩ := csl_own hown (fun j hj => HXW.out wr B j hj)
        have OF := of23_any ax x.length cx x wr hcsl (by omega)
        have HCS := Lib.hid fun (W : World) (B : Below wr.heap.size wr W) => hcsl.below B
        have HLIN := Lib.hid hlin
        have HOW := Lib.hid fun (W : World) (B : Below wr.heap.size wr W) => own_belowH hown B (Nat.le_refl _)
        have HBW := Lib.hid fun (W : World) (B' : Below wr.heap.size wr W) => B.trans (B'.mono B.size)
        obtain ⟨m, hm⟩ : ∃ m, x.length = m := ⟨_, rfl⟩
        have HX := Lib.hid hm
        rw [hm] at OF hlen
        have OF := Lib.hid OF
        clear hxok hshape hlin hxw hcsl hown hkey B
        rw [hm]
        clear hm
        go_wp2_with fail
        refine OF.out.mono ?_
        rintro e w3 ⟨v3, rfl, ho3, B3⟩
        have B3' : Below w.heap.size w w3 := HBW.out w3 B3
        have ho3' : w3.ownsRow wr.heap.size 39 7 v3 x.length (flatC x) := by rw [HX.out]; exact ho3
        obtain ⟨a3, c3, rfl, -, hc3⟩ := csl_own ho3' (fun j hj => HXW.out w3 B3' j hj)
        have LI := linear_any a3 x.length c3 x w3 hc3 (by rw [HX.out]; omega)
        rw [HLIN.out, HX.out] at LI
        have LI := Lib.hid LI
        have HB3 := Lib.hid B3
        rw [HX.out]
        clear ho3 ho3' hc3 B3 B3' OF
        go_wp2_with fail
        refine LI.out.mono ?_
        rintro e w4 ⟨rfl, B4⟩
        have HB4 := Lib.hid (HB3.out.trans (B4.mono HB3.out.size))
        clear B4 LI
        by_cases hm0 : m = 0
        · have bm := beq_t (show (m : Int) = 0 by omega)
          have HE := Lib.hid (HBW.out _ HB4.out)
          clear hm0
          go_wp2_with fail
          go_ret
          exact ⟨rfl, HE.out⟩
        · have bm := beq_f (show (m : Int) ≠ 0 by omega)
          obtain ⟨j, hj, hjm⟩ : ∃ j : Nat, at_ % (m : Int) = j ∧ j < m := by
            have h1 := Int.emod_nonneg at_ (show (m : Int) ≠ 0 by omega)
            have h2 := Int.emod_lt_of_pos at_ (show (0 : Int) < (m : Int) by omega)
            exact ⟨(at_ % (m : Int)).toNat, by omega, by omega⟩
          obtain ⟨q, hq, hq5⟩ : ∃ q : Nat, code % 5 = q ∧ q < 5 := ⟨(code % 5).toNat, by omega, by omega⟩
          obtain ⟨cv, hcv, hcv5⟩ : ∃ cv : Int, (#[.int .i64 0, .int .i64 6, .int .i64 7, .int .i64 8, .int .i64 9] : Array Value)[q]? = some (.int .i64 cv) ∧ (0 ≤ cv ∧ cv ≤ 9) := by
            rcases (show q = 0 ∨ q = 1 ∨ q = 2 ∨ q = 3 ∨ q = 4 by omega) with rfl | rfl | rfl | rfl | rfl
            · exact ⟨0, rfl, by omega⟩
            · exact ⟨6, rfl, by omega⟩
            · exact ⟨7, rfl, by omega⟩
            · exact ⟨8, rfl, by omega⟩
            · exact ⟨9, rfl, by omega⟩
          have ho4 := HOW.out w4 HB4.out
          rw [HX.out] at ho4
          obtain ⟨g, rfl, hgb, hgl⟩ := own_pos ho4 (by omega)
          obtain ⟨xj, hxj⟩ : ∃ c, x.getD j dC = c := ⟨_, rfl⟩
          have hcw := HCS.out w4 HB4.out
          rw [HX.out] at hcw
          obtain ⟨k0, k1, k2, k3, k4, k5, k6⟩ := hcw.at0 hjm hxj
          have hb5 := Blk.made w4 3 #[.int .i64 0, .int .i64 6, .int .i64 7, .int .i64 8, .int .i64 9]
          have hcq : (w4.alloc (.cells #[.int .i64 0, .int .i64 6, .int .i64 7, .int .i64 8, .int .i64 9] 3)).cell? ⟨w4.heap.size, q, none⟩ = some (.int .i64 cv) := by rw [hb5.cell, hcv]
          have ho5 := ho4.alloc (.cells #[.int .i64 0, .int .i64 6, .int .i64 7, .int .i64 8, .int .i64 9] 3)
          have f5 : (w4.alloc (.cells #[.int .i64 0, .int .i64 6, .int .i64 7, .int .i64 8, .int .i64 9] 3)).frozen? ⟨g, j * 7 + 5, none⟩ = false := own_frozen ho5
          have hgw : w.heap.size ≤ g := by have := (HBW.out wr (Below.refl _ _)).size; omega
          have hB5 := (HBW.out w4 HB4.out).setCell (p := ⟨g, j * 7 + 5, none⟩) hgw (.int .i64 cv)
          have hB5 := hB5.alloc hB5.size (.cells #[.int .i64 0, .int .i64 6, .int .i64 7, .int .i64 8, .int .i64 9] 3)
          have ho6 := (own_set (k := j * 7 + 5) ho4 (.int .i64 cv)).alloc (.cells #[.int .i64 0, .int .i64 6, .int .i64 7, .int .i64 8, .int .i64 9] 3)
          have hjx : j < x.length := by rw [HX.out]; exact hjm
          rw [flatC_set x j 5 { xj with cd := cv } (.int .i64 cv) hjx (by omega) (by rw [hxj]; rfl)] at ho6
          have HXJ := Lib.hid hxj
          have hj0 : (0 : Int) ≤ j := by omega
          have hj1 : (j : Int) < m := by omega
          have hq0 : (0 : Int) ≤ q := by omega
          have hq1 : (q : Int) < 5 := by omega
          have HCV := Lib.hid hcv5
          clear hm0 hcv hcw hb5 ho4 ho5 hxj hcv5
          go_upto_region 23 with fail
          clear hcq f5 k0 k1 k2 k3 k4 k5 k6
          generalize (w4.setCell ⟨g, j * 7 + 5, none⟩ (.int .i64 cv)).alloc (.cells #[.int .i64 0, .int .i64 6, .int .i64 7, .int .i64 8, .int .i64 9] 3) = w6 at *
          have hl' : (x.set j { xj with cd := cv }).length = m := by rw [List.length_set, HX.out]
          have hgj : (x.set j { xj with cd := cv }).getD j dC = { xj with cd := cv } := by rw [getD_set, if_pos ⟨rfl, hjx⟩]
          have hoth : ∀ k, k ≠ j → (x.set j { xj with cd := cv }).getD k dC = x.getD k dC := fun k hk => by rw [getD_set, if_neg (fun e => hk e.1.symm)]
          have hxjw := HXW.out w6 hB5 j hjx
          rw [HXJ.out] at hxjw
          have hok6 : ∀ k, k < m → COk w6 w6.heap.size ((x.set j { xj with cd := cv }).getD k dC) := by
            intro k hk
            by_cases e : k = j
            · rw [e, hgj]
              obtain ⟨c1, c2, c3, c4, c5, c6, c7, c8, c9, ca, cb, cc⟩ := hxjw
              have := HCV.out
              exact ⟨c1, c2, c3, c4, c5, c6, c7, c8, c9, ca, by dsimp only; omega, by dsimp only; omega⟩
            · rw [hoth k e]; exact HXW.out w6 hB5 k (by rw [HX.out]; exact hk)
          have hcs6 := csl_own2 ho6 hl' hok6
          obtain ⟨k0, k1, k2, k3, k4, k5, k6⟩ := hcs6.at0 hjm hgj
          dsimp only at k0 k1 k2 k3 k4 k5 k6
          have HT := Lib.hid fun (h1 : cv ≠ xj.cd) (h2 : asks { xj with cd := cv } = true) (h3 : ¬ (xj.op = 1 ∧ xj.cd = 0)) (h4 : ¬ (xj.op = 4 ∧ xj.cd = 0)) =>
            Hst.linear_false _ (Hst.shape_turned HSH.out hjx (x' := x.set j { xj with cd := cv }) (by rw [List.length_set]) hoth (by rw [hgj, HXJ.out]) (by rw [HXJ.out]; exact h1) (by rw [hgj]; exact of_decide_eq_true h2) (by rw [HXJ.out]; exact h3) (by rw [HXJ.out]; exact h4))
          have HAK := Lib.hid (asks_any { xj with cd := cv } w6)
          generalize x.set j { xj with cd := cv } = x' at *
          have HC6 := Lib.hid fun (W : World) (B : Below w6.heap.size w6 W) => hcs6.below B |>.more B.size
          have HB6 := Lib.hid fun (W : World) (B : Below w6.heap.size w6 W) => hB5.trans (B.mono hB5.size)
          have HL6 := Lib.hid hl'
          clear ho6 hl' hgj hoth hxjw hok6 hcs6 hB5
          by_cases hne : cv = xj.cd
          · have bne := beq_t hne
            have HE := Lib.hid (HB6.out w6 (Below.refl _ _))
            clear hne HT
            go_wp2_with fail
            go_ret
            exact ⟨rfl, HE.out⟩
          have bne := beq_f hne
          have HT := Lib.hid (HT.out hne)
          clear hne
          generalize asks { xj with cd := cv } = ak at *
          go_wp2_with fail
          refine HAK.out.mono ?_
          rintro e w7 ⟨rfl, B7⟩
          obtain ⟨k0, k1, k2, k3, k4, k5, k6⟩ : w7.cell? ⟨g, j * 7, none⟩ = some (.int .i64 xj.op) ∧ w7.cell? ⟨g, j * 7 + 1, none⟩ = some (.int .u32 xj.ck) ∧ True ∧ True ∧ True ∧ True ∧ True :=
            ⟨(B7.cell (p := ⟨g, j * 7, none⟩) (World.block_lt_of_cell? _ _ k0)).trans k0, (B7.cell (p := ⟨g, j * 7 + 1, none⟩) (World.block_lt_of_cell? _ _ k1)).trans k1, trivial, trivial, trivial, trivial, trivial⟩
          have HB7 := Lib.hid B7
          clear B7
          cases ak with
          | false =>
            have HE := Lib.hid (HB6.out _ HB7.out)
            clear HT
            go_wp2_with fail
            go_ret
            exact ⟨rfl, HE.out⟩
          | true =>
            have HT := Lib.hid (HT.out rfl)
            by_cases hc : (xj.op = 1 ∨ xj.op = 4) ∧ xj.cd = 0
            · have HE := Lib.hid (HB6.out _ HB7.out)
              obtain ⟨hop, hcd⟩ := hc
              have bcd := beq_t hcd
              clear HT hcd
              rcases hop with hop | hop
              · have b1 := beq_t hop
                clear hop
                go_wp2_with fail
                go_ret
                exact ⟨rfl, HE.out⟩
              · have b1 := beq_f (show xj.op ≠ 1 by omega)
                have b4 := beq_t hop
                clear hop
                go_wp2_with fail
                go_ret
                exact ⟨rfl, HE.out⟩
            · have HF := Lib.hid (HT.out (by omega) (by omega))
              have OF2 := of23_any (some ⟨g, 0, none⟩) m cx x' w7 (HC6.out _ HB7.out) (by omega)
              have OF2 := Lib.hid OF2
              have hts : ((xj.op == 1) = false ∧ (xj.op == 4) = false) ∨ ((xj.op == 1) = true ∧ (xj.op == 4) = false ∧ (xj.cd == 0) = false) ∨ ((xj.op == 1) = false ∧ (xj.op == 4) = true ∧ (xj.cd == 0) = false) := by
                by_cases h1 : xj.op = 1
                · exact .inr (.inl ⟨beq_t h1, beq_f (by omega), beq_f (by omega)⟩)
                · by_cases h4 : xj.op = 4
                  · exact .inr (.inr ⟨beq_f h1, beq_t h4, beq_f (by omega)⟩)
                  · exact .inl ⟨beq_f h1, beq_f h4⟩
              clear HT hc
              rcases hts with ⟨t1, t2⟩ | ⟨t1, t2, t3⟩ | ⟨t1, t2, t3⟩
              all_goals
                go_wp2_with fail
                refine OF2.out.mono ?_
                rintro e w8 ⟨v8, rfl, ho8, B8⟩
                have hb8 := HB7.out.trans (B8.mono HB7.out.size)
                have hl8 := HL6.out
                rw [← hl8] at ho8
                obtain ⟨a8, c8, rfl, -, hc8⟩ := csl_own ho8 (fun k hk => (HC6.out _ hb8).2.1 k (by rw [← hl8]; exact hk))
                rw [hl8] at hc8 ⊢
                have LI2 := linear_any a8 m c8 x' w8 hc8 (by omega)
                rw [HF.out] at LI2
                have LI2 := Lib.hid LI2
                have HB8 := Lib.hid hb8
                clear ho8 B8 hb8 hl8 hc8 k0 k1
                go_wp2_with fail
                refine LI2.out.mono ?_
                rintro e w9 ⟨rfl, B9⟩
                have HE := Lib.hid (HB6.out _ (HB8.out.trans (B9.mono HB8.out.size)))
                clear B9
                go_wp2_with fail
                go_ret
                exact ⟨rfl, HE.out⟩

end Go.Proofs.Ytboadalojimdlaa
