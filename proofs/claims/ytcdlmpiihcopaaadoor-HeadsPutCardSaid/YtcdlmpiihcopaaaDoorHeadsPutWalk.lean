/-
  The walk of corncriblaw04.HeadsPut.
-/
import Derived.Test.YtcdlmpiihcopaaaDoorHdAlive
import Derived.Test.YtcdlmpiihcopaaaDoorHdDigits
import Derived.Test.YtcdlmpiihcopaaaDoorHdRef
namespace Go.Proofs.YtcdlmpiihcopaaaDoor
open Go.RowKit
set_option linter.unusedVariables false

theorem pjA (d1 d2 : List UInt8) : (⟨#[118]⟩ : ByteArray) ++ bs d1 ++ ⟨#[46]⟩ ++ bs d2 = bs (lnA d1 d2) := by
  show bs [118] ++ bs d1 ++ bs [46] ++ bs d2 = _
  rw [bs_append, bs_append, bs_append, List.append_assoc, List.append_assoc]; rfl
theorem pjB (d1 d2 : List UInt8) : (⟨#[99]⟩ : ByteArray) ++ bs d1 ++ ⟨#[46]⟩ ++ bs d2 = bs (lnB d1 d2) := by
  show bs [99] ++ bs d1 ++ bs [46] ++ bs d2 = _
  rw [bs_append, bs_append, bs_append, List.append_assoc, List.append_assoc]; rfl
theorem pjC (d1 : List UInt8) : (⟨#[109]⟩ : ByteArray) ++ bs d1 = bs (lnC d1) := by
  show bs [109] ++ bs d1 = _
  rw [bs_append]; rfl
theorem pjD (d1 : List UInt8) : (⟨#[109]⟩ : ByteArray) ++ bs d1 ++ ⟨#[46, 116]⟩ = bs (lnD d1) := by
  show bs [109] ++ bs d1 ++ bs [46, 116] = _
  rw [bs_append, bs_append]; rfl
theorem PhP.isP {ws : List Nat} {w w' : World} {e : Ending} (h : PhP ws w e w') {n : Nat} (hn : 4 * ws.length + 4 = n) :
    Below w.heap.size w w' ∧ ∃ g cap, e = .returned (.tuple #[.slice (some ⟨g, 0, none⟩) n cap, .nilIface]) ∧ n ≤ cap ∧ w'.ownsRow w.heap.size 5 1 (.slice (some ⟨g, 0, none⟩) n cap) n ((hdBytes ws).map bv) := by
  subst hn
  exact h
/-- What the two puts hand back. -/
def SuP (v g : Int) (r : Bool) (w : World) (a : Option Addr) (n c : Nat) (ev : Value) : Prop :=
  (r = false ∧ a = none ∧ n = 0 ∧ c = 0 ∧ ev = er 1) ∨ (r = true ∧ n = 16 ∧ ev = .nilIface ∧ BSl w w.heap.size a n (hdBytes [1129466178, v.toNat, g.toNat]))
theorem psuper_both (v g : Int) (w : World) :
    Calls Tryd.prog 10 #[.agg #[.int .i64 v, .int .i64 g]] w fun e w' => Below w.heap.size w w' ∧ ∃ a n c ev, e = .returned (.tuple #[.slice a n c, ev]) ∧ SuP v g (hdRight v g 0) w' a n c ev := by
  cases h : hdRight v g 0 with
  | false =>
    refine (psuper_bad v g w h).mono ?_
    rintro e w' ⟨rfl, B⟩
    exact ⟨B, none, 0, 0, er 1, rfl, .inl ⟨rfl, rfl, rfl, rfl, rfl⟩⟩
  | true =>
    obtain ⟨h1, _, h3, _⟩ := hdRight_bounds h
    obtain ⟨vn, rfl⟩ : ∃ k : Nat, v = k := ⟨v.toNat, by omega⟩
    obtain ⟨gn, rfl⟩ : ∃ k : Nat, g = k := ⟨g.toNat, by omega⟩
    refine (psuper_ok vn gn w h).mono ?_
    intro e w' hp
    obtain ⟨B, q, cap, he, _, ho⟩ := hp.isP (n := 16) rfl
    refine ⟨B, _, 16, cap, .nilIface, he, .inr ⟨rfl, rfl, rfl, ?_⟩⟩
    rw [Int.toNat_natCast, Int.toNat_natCast]
    exact bsl_own ho
def MaP (v g u : Int) (sl r : Bool) (w : World) (a : Option Addr) (n c : Nat) (ev : Value) : Prop :=
  (r = false ∧ a = none ∧ n = 0 ∧ c = 0 ∧ ev = er 1) ∨ (r = true ∧ n = 24 ∧ ev = .nilIface ∧ BSl w w.heap.size a n (hdBytes [1296125513, v.toNat, g.toNat, u.toNat, if sl then 1 else 0]))
theorem pman_both (v g u : Int) (sl : Bool) (w : World) :
    Calls Tryd.prog 11 #[.agg #[.int .i64 v, .int .i64 g, .int .i64 u, .bool sl]] w fun e w' => Below w.heap.size w w' ∧ ∃ a n c ev, e = .returned (.tuple #[.slice a n c, ev]) ∧ MaP v g u sl (hdRight v g u) w' a n c ev := by
  cases h : hdRight v g u with
  | false =>
    refine (pman_bad v g u sl w h).mono ?_
    rintro e w' ⟨rfl, B⟩
    exact ⟨B, none, 0, 0, er 1, rfl, .inl ⟨rfl, rfl, rfl, rfl, rfl⟩⟩
  | true =>
    obtain ⟨h1, _, h3, _, h5, _⟩ := hdRight_bounds h
    obtain ⟨vn, rfl⟩ : ∃ k : Nat, v = k := ⟨v.toNat, by omega⟩
    obtain ⟨gn, rfl⟩ : ∃ k : Nat, g = k := ⟨g.toNat, by omega⟩
    obtain ⟨un, rfl⟩ : ∃ k : Nat, u = k := ⟨u.toNat, by omega⟩
    refine (pman_ok vn gn un sl w h).mono ?_
    intro e w' hp
    obtain ⟨B, q, cap, he, _, ho⟩ := hp.isP (n := 24) rfl
    refine ⟨B, _, 24, cap, .nilIface, he, .inr ⟨rfl, rfl, rfl, ?_⟩⟩
    rw [Int.toNat_natCast, Int.toNat_natCast, Int.toNat_natCast]
    exact bsl_own ho
/-- The document's words of numbers that may be. -/
theorem words_lit {w : World} {b : Nat} (ws : List Nat) {cs : Array Value} {n c : Nat} (K : Blk w b 3 cs) (he : cs.toList = ws.map iv) (hn : ws.length = n) (h1 : n ≤ 1000) (hx : ∀ x ∈ ws, x < 4294967296) {k : Nat} (hk : 4 * n + 4 = k) :
    Calls Tryd.prog 16 #[.slice (some ⟨b, 0, none⟩) n c] w fun e w' => ∃ av cv, e = .returned (.slice av k cv) ∧ Below w.heap.size w w' ∧ BSl w' w'.heap.size av k (hdBytes ws) := by
  subst hk
  refine (words_any _ n c ws w (isl_blk ws K he K.lt hn) h1 hx).mono ?_
  rintro e w' ⟨av, cv, rfl, B, _, ho⟩
  exact ⟨av, cv, rfl, B, bsl_own ho⟩
set_option maxRecDepth 100000 in
set_option maxHeartbeats 8000000 in
theorem hput_walk (v g u : Int) (sl : Bool) (w : World) (ht : Tab w) (v0 : -9223372036854775808 ≤ v) (v1 : v ≤ 9223372036854775807) (g0 : -9223372036854775808 ≤ g) (g1 : g ≤ 9223372036854775807) :
    Calls Tryd.prog 4 #[.int .i64 v, .int .i64 g, .int .i64 u, .bool sl] w fun e w' => e = .returned (.bool true) ∧ Below w.heap.size w w' := by
  have HT := Lib.hid ht
  have EN := Lib.hid fun (W : World) (hT : Tab W) => names_any v g v0 v1 g0 g1 W hT
  have D1 := Lib.hid fun (W : World) => digits_any v v0 v1 W
  have D2 := Lib.hid fun (W : World) => digits_any g g0 g1 W
  have l1 : (bs (Lib.itoa v)).size ≤ 21 := bs_size _ _ (Lib.itoa_length_le v v0 v1)
  have l2 : (bs (Lib.itoa g)).size ≤ 21 := bs_size _ _ (Lib.itoa_length_le g g0 g1)
  have jA := pjA (Lib.itoa v) (Lib.itoa g)
  have jB := pjB (Lib.itoa v) (Lib.itoa g)
  have jC := pjC (Lib.itoa v)
  have jD := pjD (Lib.itoa v)
  rw [jC] at jD
  have l3 : (bs (lnC (Lib.itoa v))).size ≤ 22 := bs_size _ _ (by unfold lnC; rw [List.length_cons]; have := Lib.itoa_length_le v v0 v1; omega)
  obtain ⟨r0, hr0⟩ : ∃ r0, hdRight v g 0 = r0 := ⟨_, rfl⟩
  obtain ⟨r1, hr1⟩ : ∃ r1, hdRight v g u = r1 := ⟨_, rfl⟩
  have HRR := Lib.hid (show r1 = true → r0 = true from fun h => by
    rw [← hr1] at h
    obtain ⟨h1, h2, h3, h4, -, -⟩ := hdRight_bounds h
    rw [← hr0]
    exact decide_eq_true ⟨h1, h2, h3, h4, by omega, by omega⟩)
  have HBD := Lib.hid (show r0 = true → 1 ≤ v ∧ v ≤ 65535 ∧ 1 ≤ g ∧ g ≤ 2147483647 from fun h => by rw [← hr0] at h; have := hdRight_bounds h; omega)
  have HBU := Lib.hid (show r1 = true → 0 ≤ u ∧ u ≤ 2147483647 from fun h => by rw [← hr1] at h; have := hdRight_bounds h; omega)
  have E1 := Lib.hid fun (W : World) => psuper_both v g W
  have E2 := Lib.hid fun (W : World) => pman_both v g u sl W
  have R1 := Lib.hid fun (W : World) => rright04_any v g 0 W
  have R2 := Lib.hid fun (W : World) => rright04_any v g u W
  rw [hr0] at E1 R1
  rw [hr1] at E2 R2
  clear ht v0 v1 g0 g1 hr0 hr1
  generalize bs (lnA (Lib.itoa v) (Lib.itoa g)) = s1 at *
  generalize bs (lnB (Lib.itoa v) (Lib.itoa g)) = s2 at *
  generalize bs (lnC (Lib.itoa v)) = s3 at *
  generalize bs (lnD (Lib.itoa v)) = s4 at *
  generalize bs (Lib.itoa v) = d1 at *
  generalize bs (Lib.itoa g) = d2 at *
  go_enter Tryd.func4, Tryd.ntmps4
  go_wp2_with fail
  refine (hd_alive _).mono ?_
  rintro e w1 ⟨rfl, B1⟩
  have HB1 := Lib.hid B1
  clear B1
  go_wp2_with fail
  refine (E1.out _).mono ?_
  rintro e w2 ⟨B2, a, n, c, ev, rfl, hsu⟩
  have HB2 := Lib.hid (HB1.out.trans (B2.mono HB1.out.size))
  have HSU := Lib.hid hsu
  clear hsu B2
  go_wp2_with fail
  refine (E2.out _).mono ?_
  rintro e w3 ⟨B3, a', n', c', ev', rfl, hma⟩
  have HB3 := Lib.hid (HB2.out.trans (B3.mono HB2.out.size))
  have HMA := Lib.hid hma
  have HX3 := Lib.hid B3
  clear hma B3
  go_wp2_with fail
  refine (EN.out _ (tab_on HT.out HB3.out)).mono ?_
  rintro e w4 ⟨rfl, B4⟩
  have HX4 := Lib.hid B4
  clear B4
  go_wp2_with fail
  refine (D1.out _).mono ?_
  rintro e w5 ⟨rfl, B5⟩
  have HX5 := Lib.hid (HX4.out.trans (B5.mono HX4.out.size))
  clear B5
  go_wp2_with fail
  refine (D2.out _).mono ?_
  rintro e w6 ⟨rfl, B6⟩
  have HX6 := Lib.hid (HX5.out.trans (B6.mono HX5.out.size))
  have HB6 := Lib.hid (HB3.out.trans (HX6.out.mono HB3.out.size))
  have HX26 := Lib.hid (HX3.out.trans (HX6.out.mono HX3.out.size))
  clear B6
  go_wp2_with fail
  refine (R1.out _).mono ?_
  rintro e w7 ⟨rfl, rfl⟩
  clear l1 l2 l3 jA jB jC jD HX4 HX5 D1 D2 EN E1 E2 R1
  cases r0 with
  | false =>
    rcases HSU.out with ⟨-, rfl, rfl, rfl, rfl⟩ | ⟨h, -⟩
    rotate_left
    · cases h
    rcases HMA.out with ⟨-, rfl, rfl, rfl, rfl⟩ | ⟨h, -⟩
    rotate_left
    · exact absurd (HRR.out h) (by decide)
    go_wp2_with fail
    refine (code_er 1 _ (by decide) (by decide)).mono ?_
    rintro e wx ⟨rfl, rfl⟩
    go_wp2_with fail
    refine (code_er 1 _ (by decide) (by decide)).mono ?_
    rintro e wx ⟨rfl, rfl⟩
    go_wp2_with fail
    go_ret
    exact ⟨rfl, HB6.out⟩
  | true =>
    rcases HSU.out with ⟨h, -⟩ | ⟨-, rfl, rfl, hbs⟩
    · cases h
    obtain ⟨vb0, vb1, gb0, gb1⟩ := HBD.out rfl
    obtain ⟨vn, rfl⟩ : ∃ k : Nat, v = k := ⟨v.toNat, by omega⟩
    obtain ⟨gn, rfl⟩ : ∃ k : Nat, g = k := ⟨g.toNat, by omega⟩
    rw [Int.toNat_natCast, Int.toNat_natCast] at hbs
    obtain ⟨wa, hwa, hKa, hBa⟩ : ∃ wa, w6.alloc (.cells #[.int .i64 1129466178, .int .i64 (vn : Int), .int .i64 (gn : Int)] 3) = wa ∧ Blk wa w6.heap.size 3 #[.int .i64 1129466178, .int .i64 (vn : Int), .int .i64 (gn : Int)] ∧ Below w6.heap.size w6 wa := ⟨_, rfl, Blk.made _ _ _, (Below.refl _ _).alloc (Nat.le_refl _) _⟩
    have EW := Lib.hid (words_lit [1129466178, vn, gn] (n := 3) (c := 3) hKa rfl rfl (by decide) (by intro x hx; simp at hx; omega) (k := 16) rfl)
    have HBa := Lib.hid (HB6.out.trans (hBa.mono HB6.out.size))
    have HS6 := Lib.hid fun (W : World) (B : Below wa.heap.size wa W) => (show BSl W W.heap.size a 16 (hdBytes [1129466178, vn, gn]) from by
      have hb := HX26.out.trans ((hBa.trans (B.mono hBa.size)).mono HX26.out.size)
      exact (hbs.below hb).more hb.size)
    have HVG := Lib.hid (And.intro (And.intro vb0 vb1) (And.intro gb0 gb1))
    have HXa := Lib.hid hBa
    clear hbs hKa hBa vb0 vb1 gb0 gb1
    go_wp2_with fail
    refine (code_nil _).mono ?_
    rintro e wx ⟨rfl, rfl⟩
    go_wp2_with fail
    refine EW.out.mono ?_
    rintro e wb ⟨av, cv, rfl, Bb, hbb⟩
    have ES := Lib.hid (same_any a av 16 16 c cv _ _ wb (HS6.out _ Bb) hbb (by decide))
    rw [decide_eq_true rfl] at ES
    have HBb := Lib.hid (HBa.out.trans (Bb.mono HBa.out.size))
    have HXb := Lib.hid (HXa.out.trans (Bb.mono HXa.out.size))
    clear hbb Bb EW hwa
    go_wp2_with fail
    refine ES.out.mono ?_
    rintro e wc ⟨rfl, qd, rfl⟩
    have HBc := Lib.hid (below_drewN HBb.out qd)
    have HXc := Lib.hid (below_drewN HXb.out qd)
    clear ES HBb HXb HBa HXa HS6
    generalize wb.drewN qd = wc at *
    go_wp2_with fail
    refine (R2.out _).mono ?_
    rintro e wd ⟨rfl, rfl⟩
    cases r1 with
    | false =>
      rcases HMA.out with ⟨-, rfl, rfl, rfl, rfl⟩ | ⟨h, -⟩
      rotate_left
      · cases h
      go_wp2_with fail
      refine (code_er 1 _ (by decide) (by decide)).mono ?_
      rintro e wx ⟨rfl, rfl⟩
      go_wp2_with fail
      go_ret
      exact ⟨rfl, HBc.out⟩
    | true =>
      rcases HMA.out with ⟨h, -⟩ | ⟨-, rfl, rfl, hbs⟩
      · cases h
      obtain ⟨ub0, ub1⟩ := HBU.out rfl
      obtain ⟨un, rfl⟩ : ∃ k : Nat, u = k := ⟨u.toNat, by omega⟩
      rw [Int.toNat_natCast, Int.toNat_natCast, Int.toNat_natCast] at hbs
      cases sl with
      | false =>
        obtain ⟨we, hwe, hKe, hBe⟩ : ∃ we, wc.alloc (.cells #[.int .i64 1296125513, .int .i64 (vn : Int), .int .i64 (gn : Int), .int .i64 (un : Int), .int .i64 0] 3) = we ∧ Blk we wc.heap.size 3 #[.int .i64 1296125513, .int .i64 (vn : Int), .int .i64 (gn : Int), .int .i64 (un : Int), .int .i64 0] ∧ Below wc.heap.size wc we := ⟨_, rfl, Blk.made _ _ _, (Below.refl _ _).alloc (Nat.le_refl _) _⟩
        have EW := Lib.hid (words_lit [1296125513, vn, gn, un, 0] (n := 5) (c := 5) hKe rfl rfl (by decide) (by intro x hx; have := HVG.out; simp at hx; omega) (k := 24) rfl)
        have HBe := Lib.hid (HBc.out.trans (hBe.mono HBc.out.size))
        have HS6 := Lib.hid fun (W : World) (B : Below we.heap.size we W) => (show BSl W W.heap.size a' 24 (hdBytes [1296125513, vn, gn, un, 0]) from by
          have hb := (HX6.out.trans ((HXc.out.trans ((hBe.trans (B.mono hBe.size)).mono HXc.out.size)).mono HX6.out.size))
          exact (hbs.below hb).more hb.size)
        clear hbs hKe hBe ub0 ub1
        go_wp2_with fail
        refine (code_nil _).mono ?_
        rintro e wx ⟨rfl, rfl⟩
        go_wp2_with fail
        refine EW.out.mono ?_
        rintro e wf ⟨av, cv, rfl, Bf, hbf⟩
        have ES := Lib.hid (same_any a' av 24 24 c' cv _ _ wf (HS6.out _ Bf) hbf (by decide))
        rw [decide_eq_true rfl] at ES
        have HBf := Lib.hid (HBe.out.trans (Bf.mono HBe.out.size))
        clear hbf Bf EW hwe
        go_wp2_with fail
        refine ES.out.mono ?_
        rintro e wh ⟨rfl, qd, rfl⟩
        go_wp2_with fail
        go_ret
        exact ⟨rfl, below_drewN HBf.out _⟩
      | true =>
        obtain ⟨we, hwe, hKe, hBe⟩ : ∃ we, wc.alloc (.cells #[.int .i64 1296125513, .int .i64 (vn : Int), .int .i64 (gn : Int), .int .i64 (un : Int), .int .i64 1] 3) = we ∧ Blk we wc.heap.size 3 #[.int .i64 1296125513, .int .i64 (vn : Int), .int .i64 (gn : Int), .int .i64 (un : Int), .int .i64 1] ∧ Below wc.heap.size wc we := ⟨_, rfl, Blk.made _ _ _, (Below.refl _ _).alloc (Nat.le_refl _) _⟩
        have EW := Lib.hid (words_lit [1296125513, vn, gn, un, 1] (n := 5) (c := 5) hKe rfl rfl (by decide) (by intro x hx; have := HVG.out; simp at hx; omega) (k := 24) rfl)
        have HBe := Lib.hid (HBc.out.trans (hBe.mono HBc.out.size))
        have HS6 := Lib.hid fun (W : World) (B : Below we.heap.size we W) => (show BSl W W.heap.size a' 24 (hdBytes [1296125513, vn, gn, un, 1]) from by
          have hb := (HX6.out.trans ((HXc.out.trans ((hBe.trans (B.mono hBe.size)).mono HXc.out.size)).mono HX6.out.size))
          exact (hbs.below hb).more hb.size)
        clear hbs hKe hBe ub0 ub1
        go_wp2_with fail
        refine (code_nil _).mono ?_
        rintro e wx ⟨rfl, rfl⟩
        go_wp2_with fail
        refine EW.out.mono ?_
        rintro e wf ⟨av, cv, rfl, Bf, hbf⟩
        have ES := Lib.hid (same_any a' av 24 24 c' cv _ _ wf (HS6.out _ Bf) hbf (by decide))
        rw [decide_eq_true rfl] at ES
        have HBf := Lib.hid (HBe.out.trans (Bf.mono HBe.out.size))
        clear hbf Bf EW hwe
        go_wp2_with fail
        refine ES.out.mono ?_
        rintro e wh ⟨rfl, qd, rfl⟩
        go_wp2_with fail
        go_ret
        exact ⟨rfl, below_drewN HBf.out _⟩
end Go.Proofs.YtcdlmpiihcopaaaDoor
