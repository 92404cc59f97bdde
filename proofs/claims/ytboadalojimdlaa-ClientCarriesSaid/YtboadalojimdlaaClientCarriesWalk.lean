/-
  The walk of corncriblaw21.ClientCarries.
-/
import Derived.Test.YtboadalojimdlaaClLaw
import Derived.Test.YtboadalojimdlaaClRight
namespace Go.Proofs.Ytboadalojimdlaa
open Go.RowKit

theorem msg_nob (v0 v1 v2 v3 v4 v6 : Int) (v5 : Nat) (v7 : Bool) (v8 v9 : Nat) (v10 : Bool) (a : Option Addr) (n c : Nat) : NoB #[.int .i64 v0, .int .i64 v1, .int .i64 v2, .int .i64 v3, .int .i64 v4, .int .u64 v5, .int .i64 v6, .bool v7, .int .u64 v8, .int .u32 v9, .bool v10, .slice a n c] := by
  intro i x
  match i with
  | 0 => intro e; cases e
  | 1 => intro e; cases e
  | 2 => intro e; cases e
  | 3 => intro e; cases e
  | 4 => intro e; cases e
  | 5 => intro e; cases e
  | 6 => intro e; cases e
  | 7 => intro e; cases e
  | 8 => intro e; cases e
  | 9 => intro e; cases e
  | 10 => intro e; cases e
  | 11 => intro e; cases e
  | i + 12 => intro e; cases e
/-- At the loop's heads. -/
def CarL (W : World) (B M : Nat) (ms : Array Value) (oc : OpR) (y : NdC) (c k : Int) (wr : World) : Prop :=
  Below W.heap.size W wr ∧ Blk wr M 53 ms ∧ ∃ av cv, RBl wr B ⟨oc, k, true, false, { y with a := av, c := cv }, c, ndN⟩

set_option maxRecDepth 100000 in
set_option maxHeartbeats 8000000 in
theorem carries_walk (o : OpR) (code : Int) (y : NdC) (w : World) (ho : BSl w w.heap.size o.a o.n o.l) (hoc : o.n ≤ o.c) (hy : BSl w w.heap.size y.a y.n y.l) (hyc : y.n ≤ y.c) (h0 : 0 ≤ code) (h1 : code ≤ 255) :
    Calls Try.prog 10 #[o.vals, .int .u8 code, y.vals] w fun e w' => e = .returned (.bool true) ∧ Below w.heap.size w w' := by
  unfold OpR.vals NdC.vals
  obtain ⟨W2, hW2⟩ : ∃ W, (w.alloc (.cells #[.int .i64 o.kd, .int .i64 o.fr, .int .i64 o.vol, .int .i64 o.a0, .int .i64 o.a1, .int .i64 o.a2, .int .u64 o.id, .int .i64 o.l0, .int .i64 o.l1, .int .i64 o.l2, .int .u64 o.key, .int .u32 o.ck, .bool o.g, .slice o.a o.n o.c] 75)).alloc (.cells #[.int .u64 y.key, .int .u32 y.ck, .bool y.g, .slice y.a y.n y.c] 58) = W := ⟨_, rfl⟩
  have HBW := Lib.hid (show Below w.heap.size w W2 from by rw [← hW2]; exact ((Below.refl _ _).alloc (Nat.le_refl _) _).alloc (by simp) _)
  have hm := made_two w 75 58 #[.int .i64 o.kd, .int .i64 o.fr, .int .i64 o.vol, .int .i64 o.a0, .int .i64 o.a1, .int .i64 o.a2, .int .u64 o.id, .int .i64 o.l0, .int .i64 o.l1, .int .i64 o.l2, .int .u64 o.key, .int .u32 o.ck, .bool o.g, .slice o.a o.n o.c] #[.int .u64 y.key, .int .u32 y.ck, .bool y.g, .slice y.a y.n y.c]
  rw [hW2] at hm
  have HCO := Lib.hid fun (W : World) (B0 : Below W2.heap.size W2 W) => op14 (hm.1.below B0 hm.1.lt)
  have HCN := Lib.hid fun (W : World) (B0 : Below W2.heap.size W2 W) => (hm.2.below B0 hm.2.lt).four
  have HS2 := Lib.hid (show W2.heap.size = w.heap.size + 1 + 1 from by rw [← hW2]; simp)
  clear hm
  by_cases hbig : 300 < o.n
  · have b0 : decide (300 < (o.n : Int)) = true := decide_eq_true (by omega)
    clear ho hoc hy hyc hbig h0 h1
    go_enter Try.func10, Try.ntmps10
    go_wp2_with fail
    refine (client_alive _).mono ?_
    rintro e w3 ⟨rfl, B3⟩
    have HB3 := Lib.hid B3
    obtain ⟨-, -, -, -, -, -, -, -, -, -, -, -, -, k13⟩ := HCO.out _ B3
    try clear hW2
    clear B3
    go_wp2_with fail
    go_ret
    exact ⟨rfl, HBW.out.trans (HB3.out.mono HBW.out.size)⟩
  have b0 : decide (300 < (o.n : Int)) = false := decide_eq_false (by omega)
  have HON := Lib.hid (show o.n ≤ 300 from by omega)
  have HBO := Lib.hid fun (W : World) (B0 : Below W2.heap.size W2 W) => (⟨(ho.below (HBW.out.trans (B0.mono HBW.out.size))).more (HBW.out.trans (B0.mono HBW.out.size)).size, hoc, by have := HON.out; omega⟩ : BOk W o.a o.n o.c o.l)
  clear ho hoc hbig
  by_cases hbig : 300 < y.n
  · have b1 : decide (300 < (y.n : Int)) = true := decide_eq_true (by omega)
    clear hy hyc hbig h0 h1
    go_enter Try.func10, Try.ntmps10
    go_wp2_with fail
    refine (client_alive _).mono ?_
    rintro e w3 ⟨rfl, B3⟩
    have HB3 := Lib.hid B3
    obtain ⟨-, -, -, -, -, -, -, -, -, -, -, -, -, k13⟩ := HCO.out _ B3
    obtain ⟨-, -, -, n3⟩ := HCN.out _ B3
    try clear hW2
    clear B3
    go_wp2_with fail
    go_ret
    exact ⟨rfl, HBW.out.trans (HB3.out.mono HBW.out.size)⟩
  have b1 : decide (300 < (y.n : Int)) = false := decide_eq_false (by omega)
  have HYN := Lib.hid (show y.n ≤ 300 from by omega)
  have HBY := Lib.hid fun (W : World) (B0 : Below W2.heap.size W2 W) => (⟨(hy.below (HBW.out.trans (B0.mono HBW.out.size))).more (HBW.out.trans (B0.mono HBW.out.size)).size, hyc, by have := HYN.out; omega⟩ : BOk W y.a y.n y.c y.l)
  clear hy hyc hbig
  obtain ⟨q, hq⟩ : ∃ q, chk y.g y.n = q := ⟨_, rfl⟩
  have EC := Lib.hid fun (W : World) => ref3_check y.key y.ck y.g y.a y.n y.c W (by have := HYN.out; omega)
  rw [hq] at EC
  clear hq
  go_enter Try.func10, Try.ntmps10
  go_wp2_with fail
  refine (client_alive _).mono ?_
  rintro e w3 ⟨rfl, B3⟩
  have HB3 := Lib.hid B3
  obtain ⟨-, -, -, -, -, -, -, -, -, -, -, -, -, k13⟩ := HCO.out _ B3
  obtain ⟨n0, n1, n2, n3⟩ := HCN.out _ B3
  try clear hW2
  clear B3
  go_wp2_with fail
  refine (EC.out _).mono ?_
  rintro e w4 ⟨rfl, B4⟩
  have HB4 := Lib.hid (HB3.out.trans (B4.mono HB3.out.size))
  clear k13 n0 n1 n2 n3 B4 EC HB3
  by_cases hq0 : q = 0
  rotate_left
  · have b2 : ((q : Int) != 0) = true := ne_t (by omega)
    clear hq0
    go_wp2_with fail
    go_ret
    exact ⟨rfl, HBW.out.trans (HB4.out.mono HBW.out.size)⟩
  subst hq0
  obtain ⟨k0, k1, k2, k3, k4, k5, k6, k7, k8, k9, k10, k11, k12, k13⟩ := HCO.out _ HB4.out
  have ER := Lib.hid (right21 o w4 (HBO.out _ HB4.out).b (HBO.out _ HB4.out).le)
  unfold OpR.vals at ER
  go_wp2_with fail
  refine ER.out.mono ?_
  rintro e w5 ⟨b, rfl, hRt, B5⟩
  have HB5 := Lib.hid (HB4.out.trans (B5.mono HB4.out.size))
  clear k0 k1 k2 k3 k4 k5 k6 k7 k8 k9 k10 k11 k12 k13 B5 ER HB4
  cases b with
  | false =>
    clear hRt
    go_wp2_with fail
    go_ret
    exact ⟨rfl, HBW.out.trans (HB5.out.mono HBW.out.size)⟩
  | true =>
  have HRT := Lib.hid (hRt rfl)
  clear hRt
  obtain ⟨k0, -, -, -, -, -, -, -, -, -, -, -, -, -⟩ := HCO.out _ HB5.out
  by_cases hk3 : o.kd = 3
  · have b3 : (o.kd == 3) = true := eq_t hk3
    clear hk3
    go_wp2_with fail
    go_ret
    exact ⟨rfl, HBW.out.trans (HB5.out.mono HBW.out.size)⟩
  have b3 : (o.kd == 3) = false := eq_f hk3
  have HK3 := Lib.hid hk3
  clear hk3
  go_upto_region 5 with fail
  clear k0
  have h4 : code % 3 = 0 ∨ code % 3 = 1 ∨ code % 3 = 2 := by omega
  have H4 := Lib.hid h4
  clear h4
  go_cut [7] (fun v wx => ∃ c : Int, (c = 7 ∨ c = 8 ∨ c = 9) ∧ v = .int .i64 c ∧ Below W2.heap.size W2 wx)
  case first =>
    rcases H4.out with h4 | h4 | h4
    · go_wp2_with fail
      go_meet
      exact ⟨7, by omega, rfl, HB5.out.alloc HB5.out.size _⟩
    · go_wp2_with fail
      go_meet
      exact ⟨8, by omega, rfl, HB5.out.alloc HB5.out.size _⟩
    · go_wp2_with fail
      go_meet
      exact ⟨9, by omega, rfl, HB5.out.alloc HB5.out.size _⟩
  case rest =>
    obtain ⟨c, hc, rfl, hB6⟩ := hcut
    have HC := Lib.hid hc
    have HB6 := Lib.hid hB6
    clear hc hB6 HB5 H4 h0 h1 b0 b1 b3
    obtain ⟨k0, k1, k2, k3, k4, k5, k6, k7, k8, k9, k10, k11, k12, k13⟩ := HCO.out _ HB6.out
    have EO := Lib.hid (ofop_any o wc)
    unfold OpR.vals at EO
    go_wp2_with fail
    refine EO.out.mono ?_
    rintro e w7 ⟨rfl, B7⟩
    have HB7 := Lib.hid (HB6.out.trans (B7.mono HB6.out.size))
    clear k0 k1 k2 k3 k4 k5 k6 k7 k8 k9 k10 k11 k12 k13 B7 EO HB6
    have EN := Lib.hid (cnew_ok w7 HRT.out (HBO.out _ HB7.out))
    unfold OpR.vals at EN
    go_wp2_with fail
    refine EN.out.mono ?_
    rintro e w8 ⟨B, av, cv, rfl, hB, hR, B8⟩
    have HB8 := Lib.hid (HB7.out.trans (B8.mono HB7.out.size))
    have HBB := Lib.hid (Nat.le_trans HB7.out.size hB)
    have E9 := Lib.hid (show Calls Try.prog 40 #[.pointer (some ⟨B, 0, none⟩)] w8 (fun e w' => ∃ a2 c2, e = .returned (.tuple #[.agg #[.int .i64 o.fr, .int .i64 o.a0, .int .i64 o.kd, .int .i64 o.vol, .int .i64 o.l0, .int .u64 o.id, .int .i64 0, .bool true, .int .u64 o.key, .int .u32 o.ck, .bool o.g, .slice a2 o.n c2], errc 0]) ∧ BOk w' a2 o.n c2 o.l ∧ RBl w' B ⟨atC o av cv, 0, true, false, ndN, 0, ndN⟩ ∧ w8.grownBy w' (some B)) from next_put w8 hR HK3.out rfl)
    clear hB hR B8 EN HB7
    go_wp2_with fail
    refine E9.out.mono ?_
    rintro e w9 ⟨a2, c2, rfl, hb9, hR9, hg9⟩
    have HB9 := Lib.hid (HB8.out.grown hg9 HB8.out.size (fun k e => by injection e with e; have := HBB.out; omega))
    have HR9 := Lib.hid hR9
    clear hb9 hR9 hg9 E9 HB8
    go_upto_region 8 with fail
    obtain ⟨w10, hw10, hM10, hB10⟩ : ∃ X, w9.alloc (.cells #[.int .i64 o.fr, .int .i64 o.a0, .int .i64 o.kd, .int .i64 o.vol, .int .i64 o.l0, .int .u64 o.id, .int .i64 0, .bool true, .int .u64 o.key, .int .u32 o.ck, .bool o.g, .slice a2 o.n c2] 53) = X ∧ Blk X w9.heap.size 53 #[.int .i64 o.fr, .int .i64 o.a0, .int .i64 o.kd, .int .i64 o.vol, .int .i64 o.l0, .int .u64 o.id, .int .i64 0, .bool true, .int .u64 o.key, .int .u32 o.ck, .bool o.g, .slice a2 o.n c2] ∧ Below w9.heap.size w9 X := ⟨_, rfl, Blk.made _ _ _, (Below.refl _ _).alloc (Nat.le_refl _) _⟩
    have HR10 := Lib.hid (HR9.out.on hB10)
    have HB10 := Lib.hid (HB9.out.trans (hB10.mono HB9.out.size))
    have HM10 := Lib.hid hM10
    have HBM := Lib.hid (show B < w9.heap.size ∧ W2.heap.size ≤ w9.heap.size ∧ w9.heap.size < w10.heap.size from ⟨HR9.out.k.lt, HB9.out.size, hM10.lt⟩)
    obtain ⟨m0, m1, m2, m3, m4, m5, m6, m7, m8, m9, m10, m11⟩ := hM10.twelve
    rw [hw10]
    clear hw10 hM10 hB10 HR9 HB9
    generalize w9.heap.size = M at *
    obtain ⟨n0, n1, n2, n3⟩ := HCN.out _ HB10.out
    have E11 := Lib.hid (x_reply o.fr o.a0 o.kd o.vol o.l0 o.id 0 true o.key o.ck o.g a2 o.n c2 c true y.key y.ck y.g y.a y.n y.c w10)
    go_wp2_with fail
    refine E11.out.mono ?_
    rintro e w11 ⟨rfl, B11⟩
    have HR11 := Lib.hid (HR10.out.on B11)
    have HB11 := Lib.hid (HB10.out.trans (B11.mono HB10.out.size))
    have HM11 := Lib.hid (HM10.out.below B11 HM10.out.lt)
    have E12 := Lib.hid (show Calls Try.prog 41 #[.pointer (some ⟨B, 0, none⟩), .agg #[.int .i64 o.a0, .int .i64 o.fr, .int .i64 5, .int .i64 o.vol, .int .i64 o.l0, .int .u64 o.id, .int .i64 c, .bool true, .int .u64 y.key, .int .u32 y.ck, .bool y.g, .slice y.a y.n y.c]] w11 (fun e w' => ∃ a5 c5, e = .returned (errc 0) ∧ RBl w' B ⟨atC o av cv, 1, true, false, { y with a := a5, c := c5 }, c, ndN⟩ ∧ w11.grownBy w' (some B)) from x_met w11 HR11.out y (HBY.out _ HB11.out) HK3.out rfl c HC.out rfl)
    clear m0 m1 m2 m3 m4 m5 m6 m7 m8 m9 m10 m11 n0 n1 n2 n3 B11 E11 HR10 HB10 HM10
    go_wp2_with fail
    refine E12.out.mono ?_
    rintro e w12 ⟨a5, c5, rfl, hR12, hg12⟩
    have HL12 := Lib.hid (show CarL W2 B M #[.int .i64 o.fr, .int .i64 o.a0, .int .i64 o.kd, .int .i64 o.vol, .int .i64 o.l0, .int .u64 o.id, .int .i64 0, .bool true, .int .u64 o.key, .int .u32 o.ck, .bool o.g, .slice a2 o.n c2] (atC o av cv) y c 1 w12 from ⟨HB11.out.grown hg12 HB11.out.size (fun k e => by injection e with e; have := HBB.out; omega), HM11.out.grown hg12 (by intro e; injection e with e; have := HBM.out; omega), a5, c5, hR12⟩)
    clear hR12 hg12 E12 HR11 HB11 HM11
    go_wp2_with fail
    refine (code_c 0 _ (by decide)).mono ?_
    rintro e w13 ⟨rfl, rfl⟩
    go_wp2_with fail
    go_loopw [12] (fun iv wr => ∃ k : Int, 1 ≤ k ∧ k ≤ 3 ∧ iv = .int .i64 k ∧ CarL W2 B M #[.int .i64 o.fr, .int .i64 o.a0, .int .i64 o.kd, .int .i64 o.vol, .int .i64 o.l0, .int .u64 o.id, .int .i64 0, .bool true, .int .u64 o.key, .int .u32 o.ck, .bool o.g, .slice a2 o.n c2] (atC o av cv) y c k wr) (fun iv _ => (3 - intOf iv).toNat)
    case atStart => exact ⟨1, by omega, by omega, rfl, HL12.out⟩
    case round =>
      obtain ⟨k, hk1, hk3, rfl, hBr, hMr, a6, c6, hRr⟩ := hrel
      have HBr := Lib.hid hBr
      have HMr := Lib.hid hMr
      have HRr := Lib.hid hRr
      clear hBr hMr hRr HL12
      have h4 : k = 1 ∨ k = 2 ∨ k = 3 := by omega
      clear hk1 hk3
      rcases h4 with rfl | rfl | rfl
      · have EN := Lib.hid (show Calls Try.prog 40 #[.pointer (some ⟨B, 0, none⟩)] wr (fun e w' => ∃ a7 c7, e = .returned (.tuple #[.agg #[.int .i64 o.fr, .int .i64 o.a1, .int .i64 2, .int .i64 o.vol, .int .i64 o.l1, .int .u64 o.id, .int .i64 0, .bool true, .int .u64 y.key, .int .u32 y.ck, .bool y.g, .slice a7 y.n c7], errc 0]) ∧ BOk w' a7 y.n c7 y.l ∧ RBl w' B ⟨atC o av cv, 1, true, false, { y with a := a6, c := c6 }, c, ndN⟩ ∧ wr.grownBy w' (some B)) from next_1 wr HRr.out rfl)
        go_wp2_with fail
        refine EN.out.mono ?_
        rintro e w13 ⟨a7, c7, rfl, hb13, hR13, hg13⟩
        have HB13 := Lib.hid (HBr.out.grown hg13 HBr.out.size (fun k e => by injection e with e; have := HBB.out; omega))
        have HM13 := Lib.hid (HMr.out.grown hg13 (by intro e; injection e with e; have := HBM.out; omega))
        have HR13 := Lib.hid hR13
        have HQ13 := Lib.hid hb13
        clear hb13 hR13 hg13 EN HBr HMr HRr
        go_upto_region 14 with fail
        obtain ⟨w14, hw14, hX14, hB14⟩ : ∃ X, w13.alloc (.cells #[.int .i64 o.fr, .int .i64 o.a1, .int .i64 2, .int .i64 o.vol, .int .i64 o.l1, .int .u64 o.id, .int .i64 0, .bool true, .int .u64 y.key, .int .u32 y.ck, .bool y.g, .slice a7 y.n c7] 53) = X ∧ Blk X w13.heap.size 53 #[.int .i64 o.fr, .int .i64 o.a1, .int .i64 2, .int .i64 o.vol, .int .i64 o.l1, .int .u64 o.id, .int .i64 0, .bool true, .int .u64 y.key, .int .u32 y.ck, .bool y.g, .slice a7 y.n c7] ∧ Below w13.heap.size w13 X := ⟨_, rfl, Blk.made _ _ _, (Below.refl _ _).alloc (Nat.le_refl _) _⟩
        have HB14 := Lib.hid (HB13.out.trans (hB14.mono HB13.out.size))
        have HM14 := Lib.hid (HM13.out.below hB14 HM13.out.lt)
        have HR14 := Lib.hid (HR13.out.on hB14)
        have HQ14 := Lib.hid (HQ13.out.on hB14)
        have HX14 := Lib.hid hX14
        rw [hw14]
        clear hw14 hX14 hB14 HB13 HM13 HR13 HQ13
        have HCX := Lib.hid fun (W : World) (B0 : Below w14.heap.size w14 W) => (HX14.out.below B0 HX14.out.lt).twelve
        have ES := Lib.hid fun (W : World) (B0 : Below w14.heap.size w14 W) => (show Calls Try.prog 43 #[.pointer (some ⟨B, 0, none⟩)] W (fun e w' => e = .returned (.int .i64 1) ∧ W = w') from stage_any W (HR14.out.on B0).k)
        have EQ := Lib.hid fun (W : World) (B0 : Below w14.heap.size w14 W) => ref3_same y.key y.ck y.g a7 y.n c7 y.l y.key y.ck y.g y.a y.n y.c y.l W (HQ14.out.on B0).b (HBY.out _ (HB14.out.trans (B0.mono HB14.out.size))).b HQ14.out.le
        rw [show ndSame y.key y.ck y.g y.l y.key y.ck y.g y.l = true from by simp [ndSame]] at EQ
        refine wp_region_held_drew (S := fun W => Below w14.heap.size w14 W) (by kernel_rfl) ((Below.refl _ _).drew) (fun hS => ?_)
        refine wpAnyH_take (i := 0) (v := ?_) rfl (by kernel_rfl) (by kernel_rfl) (by kernel_rfl) (fun _ _ _ h => h) (Or.inl ⟨by kernel_rfl, ?_⟩) hS ?_
        rotate_left
        · intro W hW; go_simp; try with_reducible rfl
        refine wpAnyH_ready (rs := [1]) (by kernel_rfl) (by simp) ?_
        go_simp
        refine AllReadyH.cons (i := 1) rfl ?_ AllReadyH.nil
        intro K hK
        go_simp
        refine (code_c 0 _ (by decide)).mono ?_
        rintro e w6 ⟨rfl, rfl⟩
        have hT := hS
        go_simp
        refine hK.out _ _ ?_ (fun hN => ?_)
        · first | exact hT | exact hS | exact hS.alloc hS.size _ | exact hS.drew
        clear hK K
        try clear hT
        clear hS
        have hS := hN
        clear hN
        refine wpAnyH_take (i := 2) (v := ?_) rfl (by kernel_rfl) (by kernel_rfl) (by kernel_rfl) (fun _ _ _ h => h) (Or.inl ⟨by kernel_rfl, ?_⟩) hS ?_
        rotate_left
        · intro W hW; go_simp; try with_reducible rfl
        refine wpAnyH_take (i := 3) (v := ?_) rfl (by kernel_rfl) (by kernel_rfl) (by kernel_rfl) (fun _ _ _ h => h) (Or.inl ⟨by kernel_rfl, ?_⟩) hS ?_
        rotate_left
        · intro W hW; go_simp; try with_reducible rfl
        refine wpAnyH_take (i := 4) (v := ?_) rfl (by kernel_rfl) (by kernel_rfl) (by kernel_rfl) (fun _ _ _ h => h) (Or.inl ⟨by kernel_rfl, ?_⟩) hS ?_
        rotate_left
        · intro W hW; go_simp; try with_reducible rfl
        refine wpAnyH_take (i := 6) (v := ?_) rfl (by kernel_rfl) (by kernel_rfl) (by kernel_rfl) (fun _ _ _ h => h) (Or.inl ⟨by kernel_rfl, ?_⟩) hS ?_
        rotate_left
        · intro W hW; go_simp; try with_reducible rfl
        refine wpAnyH_ready (rs := [5]) (by kernel_rfl) (by simp) ?_
        go_simp
        refine AllReadyH.cons (i := 5) rfl ?_ AllReadyH.nil
        intro K hK
        go_simp
        refine (ES.out _ hS).mono ?_
        rintro e w6 ⟨rfl, rfl⟩
        have hT := hS
        go_simp
        refine hK.out _ _ ?_ (fun hN => ?_)
        · first | exact hT | exact hS | exact hS.alloc hS.size _ | exact hS.drew
        clear hK K
        try clear hT
        clear hS
        have hS := hN
        clear hN
        refine wpAnyH_take (i := 7) (v := ?_) rfl (by kernel_rfl) (by kernel_rfl) (by kernel_rfl) (fun _ _ _ h => h) (Or.inl ⟨by kernel_rfl, ?_⟩) hS ?_
        rotate_left
        · intro W hW; go_simp; try with_reducible rfl
        refine wpAnyH_take (i := 8) (v := ?_) rfl (by kernel_rfl) (by kernel_rfl) (by kernel_rfl) (fun _ _ _ h => h) (Or.inl ⟨by kernel_rfl, ?_⟩) hS ?_
        rotate_left
        · intro W hW; go_simp; try with_reducible rfl
        refine wpAnyH_take (i := 9) (v := ?_) rfl (by kernel_rfl) (by kernel_rfl) (by kernel_rfl) (fun _ _ _ h => h) (Or.inl ⟨by kernel_rfl, ?_⟩) hS ?_
        rotate_left
        · intro W hW; go_simp; try with_reducible rfl
        refine wpAnyH_take (i := 10) (v := ?_) rfl (by kernel_rfl) (by kernel_rfl) (by kernel_rfl) (fun _ _ _ h => h) (Or.inl ⟨by kernel_rfl, ?_⟩) hS ?_
        rotate_left
        · intro W hW; go_simp; try with_reducible rfl
        refine wpAnyH_take (i := 11) (v := ?_) rfl (by kernel_rfl) (by kernel_rfl) (by kernel_rfl) (fun _ _ _ h => h) (Or.inl ⟨by kernel_rfl, ?_⟩) hS ?_
        rotate_left
        · intro W hW; obtain ⟨x0, x1, x2, x3, x4, x5, x6, x7, x8, x9, x10, x11⟩ := HCX.out W hW; obtain ⟨k0, k1, k2, k3, k4, k5, k6, k7, k8, k9, k10, k11, k12, k13⟩ := HCO.out W (HB14.out.trans (hW.mono HB14.out.size)); obtain ⟨n0, n1, n2, n3⟩ := HCN.out W (HB14.out.trans (hW.mono HB14.out.size)); go_simp; try with_reducible rfl
        refine wpAnyH_take (i := 12) (v := ?_) rfl (by kernel_rfl) (by kernel_rfl) (by kernel_rfl) (fun _ _ _ h => h) (Or.inl ⟨by kernel_rfl, ?_⟩) hS ?_
        rotate_left
        · intro W hW; go_simp; try with_reducible rfl
        refine wpAnyH_take (i := 13) (v := ?_) rfl (by kernel_rfl) (by kernel_rfl) (by kernel_rfl) (fun _ _ _ h => h) (Or.inl ⟨by kernel_rfl, ?_⟩) hS ?_
        rotate_left
        · intro W hW; go_simp; try with_reducible rfl
        refine wpAnyH_take (i := 14) (v := ?_) rfl (by kernel_rfl) (by kernel_rfl) (by kernel_rfl) (fun _ _ _ h => h) (Or.inl ⟨by kernel_rfl, ?_⟩) hS ?_
        rotate_left
        · intro W hW; go_simp; try with_reducible rfl
        refine wpAnyH_take (i := 15) (v := ?_) rfl (by kernel_rfl) (by kernel_rfl) (by kernel_rfl) (fun _ _ _ h => h) (Or.inl ⟨by kernel_rfl, ?_⟩) hS ?_
        rotate_left
        · intro W hW; obtain ⟨x0, x1, x2, x3, x4, x5, x6, x7, x8, x9, x10, x11⟩ := HCX.out W hW; obtain ⟨k0, k1, k2, k3, k4, k5, k6, k7, k8, k9, k10, k11, k12, k13⟩ := HCO.out W (HB14.out.trans (hW.mono HB14.out.size)); obtain ⟨n0, n1, n2, n3⟩ := HCN.out W (HB14.out.trans (hW.mono HB14.out.size)); go_simp; try with_reducible rfl
        refine wpAnyH_take (i := 16) (v := ?_) rfl (by kernel_rfl) (by kernel_rfl) (by kernel_rfl) (fun _ _ _ h => h) (Or.inl ⟨by kernel_rfl, ?_⟩) hS ?_
        rotate_left
        · intro W hW; go_simp; try with_reducible rfl
        refine wpAnyH_take (i := 17) (v := ?_) rfl (by kernel_rfl) (by kernel_rfl) (by kernel_rfl) (fun _ _ _ h => h) (Or.inl ⟨by kernel_rfl, ?_⟩) hS ?_
        rotate_left
        · intro W hW; go_simp; try with_reducible rfl
        refine wpAnyH_take (i := 18) (v := ?_) rfl (by kernel_rfl) (by kernel_rfl) (by kernel_rfl) (fun _ _ _ h => h) (Or.inl ⟨by kernel_rfl, ?_⟩) hS ?_
        rotate_left
        · intro W hW; go_simp; try with_reducible rfl
        refine wpAnyH_take (i := 19) (v := ?_) rfl (by kernel_rfl) (by kernel_rfl) (by kernel_rfl) (fun _ _ _ h => h) (Or.inl ⟨by kernel_rfl, ?_⟩) hS ?_
        rotate_left
        · intro W hW; go_simp; try with_reducible rfl
        refine wpAnyH_take (i := 20) (v := ?_) rfl (by kernel_rfl) (by kernel_rfl) (by kernel_rfl) (fun _ _ _ h => h) (Or.inl ⟨by kernel_rfl, ?_⟩) hS ?_
        rotate_left
        · intro W hW; obtain ⟨x0, x1, x2, x3, x4, x5, x6, x7, x8, x9, x10, x11⟩ := HCX.out W hW; obtain ⟨k0, k1, k2, k3, k4, k5, k6, k7, k8, k9, k10, k11, k12, k13⟩ := HCO.out W (HB14.out.trans (hW.mono HB14.out.size)); obtain ⟨n0, n1, n2, n3⟩ := HCN.out W (HB14.out.trans (hW.mono HB14.out.size)); go_simp; try with_reducible rfl
        refine wpAnyH_take (i := 21) (v := ?_) rfl (by kernel_rfl) (by kernel_rfl) (by kernel_rfl) (fun _ _ _ h => h) (Or.inl ⟨by kernel_rfl, ?_⟩) hS ?_
        rotate_left
        · intro W hW; go_simp; try with_reducible rfl
        refine wpAnyH_take (i := 22) (v := ?_) rfl (by kernel_rfl) (by kernel_rfl) (by kernel_rfl) (fun _ _ _ h => h) (Or.inl ⟨by kernel_rfl, ?_⟩) hS ?_
        rotate_left
        · intro W hW; go_simp; try with_reducible rfl
        refine wpAnyH_take (i := 23) (v := ?_) rfl (by kernel_rfl) (by kernel_rfl) (by kernel_rfl) (fun _ _ _ h => h) (Or.inl ⟨by kernel_rfl, ?_⟩) hS ?_
        rotate_left
        · intro W hW; go_simp; try with_reducible rfl
        refine wpAnyH_take (i := 24) (v := ?_) rfl (by kernel_rfl) (by kernel_rfl) (by kernel_rfl) (fun _ _ _ h => h) (Or.inl ⟨by kernel_rfl, ?_⟩) hS ?_
        rotate_left
        · intro W hW; go_simp; try with_reducible rfl
        refine wpAnyH_take (i := 25) (v := ?_) rfl (by kernel_rfl) (by kernel_rfl) (by kernel_rfl) (fun _ _ _ h => h) (Or.inl ⟨by kernel_rfl, ?_⟩) hS ?_
        rotate_left
        · intro W hW; obtain ⟨x0, x1, x2, x3, x4, x5, x6, x7, x8, x9, x10, x11⟩ := HCX.out W hW; obtain ⟨k0, k1, k2, k3, k4, k5, k6, k7, k8, k9, k10, k11, k12, k13⟩ := HCO.out W (HB14.out.trans (hW.mono HB14.out.size)); obtain ⟨n0, n1, n2, n3⟩ := HCN.out W (HB14.out.trans (hW.mono HB14.out.size)); go_simp; try with_reducible rfl
        refine wpAnyH_take (i := 26) (v := ?_) rfl (by kernel_rfl) (by kernel_rfl) (by kernel_rfl) (fun _ _ _ h => h) (Or.inl ⟨by kernel_rfl, ?_⟩) hS ?_
        rotate_left
        · intro W hW; go_simp; try with_reducible rfl
        refine wpAnyH_take (i := 27) (v := ?_) rfl (by kernel_rfl) (by kernel_rfl) (by kernel_rfl) (fun _ _ _ h => h) (Or.inl ⟨by kernel_rfl, ?_⟩) hS ?_
        rotate_left
        · intro W hW; obtain ⟨x0, x1, x2, x3, x4, x5, x6, x7, x8, x9, x10, x11⟩ := HCX.out W hW; obtain ⟨k0, k1, k2, k3, k4, k5, k6, k7, k8, k9, k10, k11, k12, k13⟩ := HCO.out W (HB14.out.trans (hW.mono HB14.out.size)); obtain ⟨n0, n1, n2, n3⟩ := HCN.out W (HB14.out.trans (hW.mono HB14.out.size)); go_simp; try with_reducible rfl
        refine wpAnyH_take (i := 28) (v := ?_) rfl (by kernel_rfl) (by kernel_rfl) (by kernel_rfl) (fun _ _ _ h => h) (Or.inl ⟨by kernel_rfl, ?_⟩) hS ?_
        rotate_left
        · intro W hW; go_simp; try with_reducible rfl
        refine wpAnyH_take (i := 29) (v := ?_) rfl (by kernel_rfl) (by kernel_rfl) (by kernel_rfl) (fun _ _ _ h => h) (Or.inl ⟨by kernel_rfl, ?_⟩) hS ?_
        rotate_left
        · intro W hW; go_simp; try with_reducible rfl
        refine wpAnyH_take (i := 30) (v := ?_) rfl (by kernel_rfl) (by kernel_rfl) (by kernel_rfl) (fun _ _ _ h => h) (Or.inl ⟨by kernel_rfl, ?_⟩) hS ?_
        rotate_left
        · intro W hW; go_simp; try with_reducible rfl
        refine wpAnyH_take (i := 31) (v := ?_) rfl (by kernel_rfl) (by kernel_rfl) (by kernel_rfl) (fun _ _ _ h => h) (Or.inl ⟨by kernel_rfl, ?_⟩) hS ?_
        rotate_left
        · intro W hW; go_simp; try with_reducible rfl
        refine wpAnyH_take (i := 32) (v := ?_) rfl (by kernel_rfl) (by kernel_rfl) (by kernel_rfl) (fun _ _ _ h => h) (Or.inl ⟨by kernel_rfl, ?_⟩) hS ?_
        rotate_left
        · intro W hW; obtain ⟨x0, x1, x2, x3, x4, x5, x6, x7, x8, x9, x10, x11⟩ := HCX.out W hW; obtain ⟨k0, k1, k2, k3, k4, k5, k6, k7, k8, k9, k10, k11, k12, k13⟩ := HCO.out W (HB14.out.trans (hW.mono HB14.out.size)); obtain ⟨n0, n1, n2, n3⟩ := HCN.out W (HB14.out.trans (hW.mono HB14.out.size)); go_simp; try with_reducible rfl
        refine wpAnyH_take (i := 33) (v := ?_) rfl (by kernel_rfl) (by kernel_rfl) (by kernel_rfl) (fun _ _ _ h => h) (Or.inl ⟨by kernel_rfl, ?_⟩) hS ?_
        rotate_left
        · intro W hW; obtain ⟨x0, x1, x2, x3, x4, x5, x6, x7, x8, x9, x10, x11⟩ := HCX.out W hW; obtain ⟨k0, k1, k2, k3, k4, k5, k6, k7, k8, k9, k10, k11, k12, k13⟩ := HCO.out W (HB14.out.trans (hW.mono HB14.out.size)); obtain ⟨n0, n1, n2, n3⟩ := HCN.out W (HB14.out.trans (hW.mono HB14.out.size)); go_simp; try with_reducible rfl
        refine wpAnyH_ready (rs := [34]) (by kernel_rfl) (by simp) ?_
        go_simp
        refine AllReadyH.cons (i := 34) rfl ?_ AllReadyH.nil
        intro K hK
        go_simp
        refine (EQ.out _ hS).mono ?_
        rintro e w6 ⟨rfl, B6⟩
        have hT := hS.trans (B6.mono hS.size)
        go_simp
        refine hK.out _ _ ?_ (fun hN => ?_)
        · first | exact hT | exact hS | exact hS.alloc hS.size _ | exact hS.drew
        clear hK K
        try clear hT
        clear hS
        have hS := hN
        clear hN
        refine wpAnyH_take (i := 35) (v := ?_) rfl (by kernel_rfl) (by kernel_rfl) (by kernel_rfl) (fun _ _ _ h => h) (Or.inl ⟨by kernel_rfl, ?_⟩) hS ?_
        rotate_left
        · intro W hW; go_simp; try with_reducible rfl
        refine wpAnyH_take (i := 36) (v := ?_) rfl (by kernel_rfl) (by kernel_rfl) (by kernel_rfl) (fun _ _ _ h => h) (Or.inl ⟨by kernel_rfl, ?_⟩) hS ?_
        rotate_left
        · intro W hW; go_simp; try with_reducible rfl
        refine wpAnyH_done (by kernel_rfl) ?_ _
        go_simp
        obtain ⟨x0, x1, x2, x3, x4, x5, x6, x7, x8, x9, x10, x11⟩ := HCX.out _ hS
        have HB15 := Lib.hid (HB14.out.trans (hS.mono HB14.out.size))
        have HM15 := Lib.hid (HM14.out.below hS HM14.out.lt)
        have HR15 := Lib.hid (HR14.out.on hS)
        have E16 := Lib.hid (x_reply0 o.fr o.a1 2 o.vol o.l1 o.id 0 true y.key y.ck y.g a7 y.n c7 0 false w6)
        clear hS HB14 HM14 HR14 HQ14 HX14 HCX ES EQ
        go_wp2_with fail
        refine E16.out.mono ?_
        rintro e w17 ⟨rfl, B17⟩
        have HB17 := Lib.hid (HB15.out.trans (B17.mono HB15.out.size))
        have HM17 := Lib.hid (HM15.out.below B17 HM15.out.lt)
        have HR17 := Lib.hid (HR15.out.on B17)
        have E17 := Lib.hid (show Calls Try.prog 41 #[.pointer (some ⟨B, 0, none⟩), .agg #[.int .i64 o.a1, .int .i64 o.fr, .int .i64 5, .int .i64 o.vol, .int .i64 o.l1, .int .u64 o.id, .int .i64 0, .bool false, .int .u64 0, .int .u32 0, .bool false, .slice none 0 0]] w17 (fun e w' => e = .returned (errc 0) ∧ RBl w' B ⟨atC o av cv, 2, true, false, { y with a := a6, c := c6 }, c, ndN⟩ ∧ w17.grownBy w' (some B)) from x_next_1 w17 HR17.out false ndN (BOk.nil _ _ _) rfl)
        clear x0 x1 x2 x3 x4 x5 x6 x7 x8 x9 x10 x11 B17 E16 HB15 HM15 HR15
        go_wp2_with fail
        refine E17.out.mono ?_
        rintro e w18 ⟨rfl, hR18, hg18⟩
        have HL := Lib.hid (show CarL W2 B M #[.int .i64 o.fr, .int .i64 o.a0, .int .i64 o.kd, .int .i64 o.vol, .int .i64 o.l0, .int .u64 o.id, .int .i64 0, .bool true, .int .u64 o.key, .int .u32 o.ck, .bool o.g, .slice a2 o.n c2] (atC o av cv) y c 2 w18 from ⟨HB17.out.grown hg18 HB17.out.size (fun k e => by injection e with e; have := HBB.out; omega), HM17.out.grown hg18 (by intro e; injection e with e; have := HBM.out; omega), a6, c6, hR18⟩)
        clear hR18 hg18 E17 HB17 HM17 HR17
        go_wp2_with fail
        go_roundw
        case rel => exact ⟨2, by omega, by omega, rfl, HL.out⟩
        case measure => simp [intOf]
      · have EN := Lib.hid (show Calls Try.prog 40 #[.pointer (some ⟨B, 0, none⟩)] wr (fun e w' => ∃ a7 c7, e = .returned (.tuple #[.agg #[.int .i64 o.fr, .int .i64 o.a2, .int .i64 2, .int .i64 o.vol, .int .i64 o.l2, .int .u64 o.id, .int .i64 0, .bool true, .int .u64 y.key, .int .u32 y.ck, .bool y.g, .slice a7 y.n c7], errc 0]) ∧ BOk w' a7 y.n c7 y.l ∧ RBl w' B ⟨atC o av cv, 2, true, false, { y with a := a6, c := c6 }, c, ndN⟩ ∧ wr.grownBy w' (some B)) from next_2 wr HRr.out rfl)
        go_wp2_with fail
        refine EN.out.mono ?_
        rintro e w13 ⟨a7, c7, rfl, hb13, hR13, hg13⟩
        have HB13 := Lib.hid (HBr.out.grown hg13 HBr.out.size (fun k e => by injection e with e; have := HBB.out; omega))
        have HM13 := Lib.hid (HMr.out.grown hg13 (by intro e; injection e with e; have := HBM.out; omega))
        have HR13 := Lib.hid hR13
        have HQ13 := Lib.hid hb13
        clear hb13 hR13 hg13 EN HBr HMr HRr
        go_upto_region 14 with fail
        obtain ⟨w14, hw14, hX14, hB14⟩ : ∃ X, w13.alloc (.cells #[.int .i64 o.fr, .int .i64 o.a2, .int .i64 2, .int .i64 o.vol, .int .i64 o.l2, .int .u64 o.id, .int .i64 0, .bool true, .int .u64 y.key, .int .u32 y.ck, .bool y.g, .slice a7 y.n c7] 53) = X ∧ Blk X w13.heap.size 53 #[.int .i64 o.fr, .int .i64 o.a2, .int .i64 2, .int .i64 o.vol, .int .i64 o.l2, .int .u64 o.id, .int .i64 0, .bool true, .int .u64 y.key, .int .u32 y.ck, .bool y.g, .slice a7 y.n c7] ∧ Below w13.heap.size w13 X := ⟨_, rfl, Blk.made _ _ _, (Below.refl _ _).alloc (Nat.le_refl _) _⟩
        have HB14 := Lib.hid (HB13.out.trans (hB14.mono HB13.out.size))
        have HM14 := Lib.hid (HM13.out.below hB14 HM13.out.lt)
        have HR14 := Lib.hid (HR13.out.on hB14)
        have HQ14 := Lib.hid (HQ13.out.on hB14)
        have HX14 := Lib.hid hX14
        rw [hw14]
        clear hw14 hX14 hB14 HB13 HM13 HR13 HQ13
        have HCX := Lib.hid fun (W : World) (B0 : Below w14.heap.size w14 W) => (HX14.out.below B0 HX14.out.lt).twelve
        have ES := Lib.hid fun (W : World) (B0 : Below w14.heap.size w14 W) => (show Calls Try.prog 43 #[.pointer (some ⟨B, 0, none⟩)] W (fun e w' => e = .returned (.int .i64 2) ∧ W = w') from stage_any W (HR14.out.on B0).k)
        have EQ := Lib.hid fun (W : World) (B0 : Below w14.heap.size w14 W) => ref3_same y.key y.ck y.g a7 y.n c7 y.l y.key y.ck y.g y.a y.n y.c y.l W (HQ14.out.on B0).b (HBY.out _ (HB14.out.trans (B0.mono HB14.out.size))).b HQ14.out.le
        rw [show ndSame y.key y.ck y.g y.l y.key y.ck y.g y.l = true from by simp [ndSame]] at EQ
        refine wp_region_held_drew (S := fun W => Below w14.heap.size w14 W) (by kernel_rfl) ((Below.refl _ _).drew) (fun hS => ?_)
        refine wpAnyH_take (i := 0) (v := ?_) rfl (by kernel_rfl) (by kernel_rfl) (by kernel_rfl) (fun _ _ _ h => h) (Or.inl ⟨by kernel_rfl, ?_⟩) hS ?_
        rotate_left
        · intro W hW; go_simp; try with_reducible rfl
        refine wpAnyH_ready (rs := [1]) (by kernel_rfl) (by simp) ?_
        go_simp
        refine AllReadyH.cons (i := 1) rfl ?_ AllReadyH.nil
        intro K hK
        go_simp
        refine (code_c 0 _ (by decide)).mono ?_
        rintro e w6 ⟨rfl, rfl⟩
        have hT := hS
        go_simp
        refine hK.out _ _ ?_ (fun hN => ?_)
        · first | exact hT | exact hS | exact hS.alloc hS.size _ | exact hS.drew
        clear hK K
        try clear hT
        clear hS
        have hS := hN
        clear hN
        refine wpAnyH_take (i := 2) (v := ?_) rfl (by kernel_rfl) (by kernel_rfl) (by kernel_rfl) (fun _ _ _ h => h) (Or.inl ⟨by kernel_rfl, ?_⟩) hS ?_
        rotate_left
        · intro W hW; go_simp; try with_reducible rfl
        refine wpAnyH_take (i := 3) (v := ?_) rfl (by kernel_rfl) (by kernel_rfl) (by kernel_rfl) (fun _ _ _ h => h) (Or.inl ⟨by kernel_rfl, ?_⟩) hS ?_
        rotate_left
        · intro W hW; go_simp; try with_reducible rfl
        refine wpAnyH_take (i := 4) (v := ?_) rfl (by kernel_rfl) (by kernel_rfl) (by kernel_rfl) (fun _ _ _ h => h) (Or.inl ⟨by kernel_rfl, ?_⟩) hS ?_
        rotate_left
        · intro W hW; go_simp; try with_reducible rfl
        refine wpAnyH_take (i := 6) (v := ?_) rfl (by kernel_rfl) (by kernel_rfl) (by kernel_rfl) (fun _ _ _ h => h) (Or.inl ⟨by kernel_rfl, ?_⟩) hS ?_
        rotate_left
        · intro W hW; go_simp; try with_reducible rfl
        refine wpAnyH_ready (rs := [5]) (by kernel_rfl) (by simp) ?_
        go_simp
        refine AllReadyH.cons (i := 5) rfl ?_ AllReadyH.nil
        intro K hK
        go_simp
        refine (ES.out _ hS).mono ?_
        rintro e w6 ⟨rfl, rfl⟩
        have hT := hS
        go_simp
        refine hK.out _ _ ?_ (fun hN => ?_)
        · first | exact hT | exact hS | exact hS.alloc hS.size _ | exact hS.drew
        clear hK K
        try clear hT
        clear hS
        have hS := hN
        clear hN
        refine wpAnyH_take (i := 7) (v := ?_) rfl (by kernel_rfl) (by kernel_rfl) (by kernel_rfl) (fun _ _ _ h => h) (Or.inl ⟨by kernel_rfl, ?_⟩) hS ?_
        rotate_left
        · intro W hW; go_simp; try with_reducible rfl
        refine wpAnyH_take (i := 8) (v := ?_) rfl (by kernel_rfl) (by kernel_rfl) (by kernel_rfl) (fun _ _ _ h => h) (Or.inl ⟨by kernel_rfl, ?_⟩) hS ?_
        rotate_left
        · intro W hW; go_simp; try with_reducible rfl
        refine wpAnyH_take (i := 9) (v := ?_) rfl (by kernel_rfl) (by kernel_rfl) (by kernel_rfl) (fun _ _ _ h => h) (Or.inl ⟨by kernel_rfl, ?_⟩) hS ?_
        rotate_left
        · intro W hW; go_simp; try with_reducible rfl
        refine wpAnyH_take (i := 10) (v := ?_) rfl (by kernel_rfl) (by kernel_rfl) (by kernel_rfl) (fun _ _ _ h => h) (Or.inl ⟨by kernel_rfl, ?_⟩) hS ?_
        rotate_left
        · intro W hW; go_simp; try with_reducible rfl
        refine wpAnyH_take (i := 11) (v := ?_) rfl (by kernel_rfl) (by kernel_rfl) (by kernel_rfl) (fun _ _ _ h => h) (Or.inl ⟨by kernel_rfl, ?_⟩) hS ?_
        rotate_left
        · intro W hW; obtain ⟨x0, x1, x2, x3, x4, x5, x6, x7, x8, x9, x10, x11⟩ := HCX.out W hW; obtain ⟨k0, k1, k2, k3, k4, k5, k6, k7, k8, k9, k10, k11, k12, k13⟩ := HCO.out W (HB14.out.trans (hW.mono HB14.out.size)); obtain ⟨n0, n1, n2, n3⟩ := HCN.out W (HB14.out.trans (hW.mono HB14.out.size)); go_simp; try with_reducible rfl
        refine wpAnyH_take (i := 12) (v := ?_) rfl (by kernel_rfl) (by kernel_rfl) (by kernel_rfl) (fun _ _ _ h => h) (Or.inl ⟨by kernel_rfl, ?_⟩) hS ?_
        rotate_left
        · intro W hW; go_simp; try with_reducible rfl
        refine wpAnyH_take (i := 13) (v := ?_) rfl (by kernel_rfl) (by kernel_rfl) (by kernel_rfl) (fun _ _ _ h => h) (Or.inl ⟨by kernel_rfl, ?_⟩) hS ?_
        rotate_left
        · intro W hW; go_simp; try with_reducible rfl
        refine wpAnyH_take (i := 14) (v := ?_) rfl (by kernel_rfl) (by kernel_rfl) (by kernel_rfl) (fun _ _ _ h => h) (Or.inl ⟨by kernel_rfl, ?_⟩) hS ?_
        rotate_left
        · intro W hW; go_simp; try with_reducible rfl
        refine wpAnyH_take (i := 15) (v := ?_) rfl (by kernel_rfl) (by kernel_rfl) (by kernel_rfl) (fun _ _ _ h => h) (Or.inl ⟨by kernel_rfl, ?_⟩) hS ?_
        rotate_left
        · intro W hW; obtain ⟨x0, x1, x2, x3, x4, x5, x6, x7, x8, x9, x10, x11⟩ := HCX.out W hW; obtain ⟨k0, k1, k2, k3, k4, k5, k6, k7, k8, k9, k10, k11, k12, k13⟩ := HCO.out W (HB14.out.trans (hW.mono HB14.out.size)); obtain ⟨n0, n1, n2, n3⟩ := HCN.out W (HB14.out.trans (hW.mono HB14.out.size)); go_simp; try with_reducible rfl
        refine wpAnyH_take (i := 16) (v := ?_) rfl (by kernel_rfl) (by kernel_rfl) (by kernel_rfl) (fun _ _ _ h => h) (Or.inl ⟨by kernel_rfl, ?_⟩) hS ?_
        rotate_left
        · intro W hW; go_simp; try with_reducible rfl
        refine wpAnyH_take (i := 17) (v := ?_) rfl (by kernel_rfl) (by kernel_rfl) (by kernel_rfl) (fun _ _ _ h => h) (Or.inl ⟨by kernel_rfl, ?_⟩) hS ?_
        rotate_left
        · intro W hW; go_simp; try with_reducible rfl
        refine wpAnyH_take (i := 18) (v := ?_) rfl (by kernel_rfl) (by kernel_rfl) (by kernel_rfl) (fun _ _ _ h => h) (Or.inl ⟨by kernel_rfl, ?_⟩) hS ?_
        rotate_left
        · intro W hW; go_simp; try with_reducible rfl
        refine wpAnyH_take (i := 19) (v := ?_) rfl (by kernel_rfl) (by kernel_rfl) (by kernel_rfl) (fun _ _ _ h => h) (Or.inl ⟨by kernel_rfl, ?_⟩) hS ?_
        rotate_left
        · intro W hW; go_simp; try with_reducible rfl
        refine wpAnyH_take (i := 20) (v := ?_) rfl (by kernel_rfl) (by kernel_rfl) (by kernel_rfl) (fun _ _ _ h => h) (Or.inl ⟨by kernel_rfl, ?_⟩) hS ?_
        rotate_left
        · intro W hW; obtain ⟨x0, x1, x2, x3, x4, x5, x6, x7, x8, x9, x10, x11⟩ := HCX.out W hW; obtain ⟨k0, k1, k2, k3, k4, k5, k6, k7, k8, k9, k10, k11, k12, k13⟩ := HCO.out W (HB14.out.trans (hW.mono HB14.out.size)); obtain ⟨n0, n1, n2, n3⟩ := HCN.out W (HB14.out.trans (hW.mono HB14.out.size)); go_simp; try with_reducible rfl
        refine wpAnyH_take (i := 21) (v := ?_) rfl (by kernel_rfl) (by kernel_rfl) (by kernel_rfl) (fun _ _ _ h => h) (Or.inl ⟨by kernel_rfl, ?_⟩) hS ?_
        rotate_left
        · intro W hW; go_simp; try with_reducible rfl
        refine wpAnyH_take (i := 22) (v := ?_) rfl (by kernel_rfl) (by kernel_rfl) (by kernel_rfl) (fun _ _ _ h => h) (Or.inl ⟨by kernel_rfl, ?_⟩) hS ?_
        rotate_left
        · intro W hW; go_simp; try with_reducible rfl
        refine wpAnyH_take (i := 23) (v := ?_) rfl (by kernel_rfl) (by kernel_rfl) (by kernel_rfl) (fun _ _ _ h => h) (Or.inl ⟨by kernel_rfl, ?_⟩) hS ?_
        rotate_left
        · intro W hW; go_simp; try with_reducible rfl
        refine wpAnyH_take (i := 24) (v := ?_) rfl (by kernel_rfl) (by kernel_rfl) (by kernel_rfl) (fun _ _ _ h => h) (Or.inl ⟨by kernel_rfl, ?_⟩) hS ?_
        rotate_left
        · intro W hW; go_simp; try with_reducible rfl
        refine wpAnyH_take (i := 25) (v := ?_) rfl (by kernel_rfl) (by kernel_rfl) (by kernel_rfl) (fun _ _ _ h => h) (Or.inl ⟨by kernel_rfl, ?_⟩) hS ?_
        rotate_left
        · intro W hW; obtain ⟨x0, x1, x2, x3, x4, x5, x6, x7, x8, x9, x10, x11⟩ := HCX.out W hW; obtain ⟨k0, k1, k2, k3, k4, k5, k6, k7, k8, k9, k10, k11, k12, k13⟩ := HCO.out W (HB14.out.trans (hW.mono HB14.out.size)); obtain ⟨n0, n1, n2, n3⟩ := HCN.out W (HB14.out.trans (hW.mono HB14.out.size)); go_simp; try with_reducible rfl
        refine wpAnyH_take (i := 26) (v := ?_) rfl (by kernel_rfl) (by kernel_rfl) (by kernel_rfl) (fun _ _ _ h => h) (Or.inl ⟨by kernel_rfl, ?_⟩) hS ?_
        rotate_left
        · intro W hW; go_simp; try with_reducible rfl
        refine wpAnyH_take (i := 27) (v := ?_) rfl (by kernel_rfl) (by kernel_rfl) (by kernel_rfl) (fun _ _ _ h => h) (Or.inl ⟨by kernel_rfl, ?_⟩) hS ?_
        rotate_left
        · intro W hW; obtain ⟨x0, x1, x2, x3, x4, x5, x6, x7, x8, x9, x10, x11⟩ := HCX.out W hW; obtain ⟨k0, k1, k2, k3, k4, k5, k6, k7, k8, k9, k10, k11, k12, k13⟩ := HCO.out W (HB14.out.trans (hW.mono HB14.out.size)); obtain ⟨n0, n1, n2, n3⟩ := HCN.out W (HB14.out.trans (hW.mono HB14.out.size)); go_simp; try with_reducible rfl
        refine wpAnyH_take (i := 28) (v := ?_) rfl (by kernel_rfl) (by kernel_rfl) (by kernel_rfl) (fun _ _ _ h => h) (Or.inl ⟨by kernel_rfl, ?_⟩) hS ?_
        rotate_left
        · intro W hW; go_simp; try with_reducible rfl
        refine wpAnyH_take (i := 29) (v := ?_) rfl (by kernel_rfl) (by kernel_rfl) (by kernel_rfl) (fun _ _ _ h => h) (Or.inl ⟨by kernel_rfl, ?_⟩) hS ?_
        rotate_left
        · intro W hW; go_simp; try with_reducible rfl
        refine wpAnyH_take (i := 30) (v := ?_) rfl (by kernel_rfl) (by kernel_rfl) (by kernel_rfl) (fun _ _ _ h => h) (Or.inl ⟨by kernel_rfl, ?_⟩) hS ?_
        rotate_left
        · intro W hW; go_simp; try with_reducible rfl
        refine wpAnyH_take (i := 31) (v := ?_) rfl (by kernel_rfl) (by kernel_rfl) (by kernel_rfl) (fun _ _ _ h => h) (Or.inl ⟨by kernel_rfl, ?_⟩) hS ?_
        rotate_left
        · intro W hW; go_simp; try with_reducible rfl
        refine wpAnyH_take (i := 32) (v := ?_) rfl (by kernel_rfl) (by kernel_rfl) (by kernel_rfl) (fun _ _ _ h => h) (Or.inl ⟨by kernel_rfl, ?_⟩) hS ?_
        rotate_left
        · intro W hW; obtain ⟨x0, x1, x2, x3, x4, x5, x6, x7, x8, x9, x10, x11⟩ := HCX.out W hW; obtain ⟨k0, k1, k2, k3, k4, k5, k6, k7, k8, k9, k10, k11, k12, k13⟩ := HCO.out W (HB14.out.trans (hW.mono HB14.out.size)); obtain ⟨n0, n1, n2, n3⟩ := HCN.out W (HB14.out.trans (hW.mono HB14.out.size)); go_simp; try with_reducible rfl
        refine wpAnyH_take (i := 33) (v := ?_) rfl (by kernel_rfl) (by kernel_rfl) (by kernel_rfl) (fun _ _ _ h => h) (Or.inl ⟨by kernel_rfl, ?_⟩) hS ?_
        rotate_left
        · intro W hW; obtain ⟨x0, x1, x2, x3, x4, x5, x6, x7, x8, x9, x10, x11⟩ := HCX.out W hW; obtain ⟨k0, k1, k2, k3, k4, k5, k6, k7, k8, k9, k10, k11, k12, k13⟩ := HCO.out W (HB14.out.trans (hW.mono HB14.out.size)); obtain ⟨n0, n1, n2, n3⟩ := HCN.out W (HB14.out.trans (hW.mono HB14.out.size)); go_simp; try with_reducible rfl
        refine wpAnyH_ready (rs := [34]) (by kernel_rfl) (by simp) ?_
        go_simp
        refine AllReadyH.cons (i := 34) rfl ?_ AllReadyH.nil
        intro K hK
        go_simp
        refine (EQ.out _ hS).mono ?_
        rintro e w6 ⟨rfl, B6⟩
        have hT := hS.trans (B6.mono hS.size)
        go_simp
        refine hK.out _ _ ?_ (fun hN => ?_)
        · first | exact hT | exact hS | exact hS.alloc hS.size _ | exact hS.drew
        clear hK K
        try clear hT
        clear hS
        have hS := hN
        clear hN
        refine wpAnyH_take (i := 35) (v := ?_) rfl (by kernel_rfl) (by kernel_rfl) (by kernel_rfl) (fun _ _ _ h => h) (Or.inl ⟨by kernel_rfl, ?_⟩) hS ?_
        rotate_left
        · intro W hW; go_simp; try with_reducible rfl
        refine wpAnyH_take (i := 36) (v := ?_) rfl (by kernel_rfl) (by kernel_rfl) (by kernel_rfl) (fun _ _ _ h => h) (Or.inl ⟨by kernel_rfl, ?_⟩) hS ?_
        rotate_left
        · intro W hW; go_simp; try with_reducible rfl
        refine wpAnyH_done (by kernel_rfl) ?_ _
        go_simp
        obtain ⟨x0, x1, x2, x3, x4, x5, x6, x7, x8, x9, x10, x11⟩ := HCX.out _ hS
        have HB15 := Lib.hid (HB14.out.trans (hS.mono HB14.out.size))
        have HM15 := Lib.hid (HM14.out.below hS HM14.out.lt)
        have HR15 := Lib.hid (HR14.out.on hS)
        have E16 := Lib.hid (x_reply0 o.fr o.a2 2 o.vol o.l2 o.id 0 true y.key y.ck y.g a7 y.n c7 0 false w6)
        clear hS HB14 HM14 HR14 HQ14 HX14 HCX ES EQ
        go_wp2_with fail
        refine E16.out.mono ?_
        rintro e w17 ⟨rfl, B17⟩
        have HB17 := Lib.hid (HB15.out.trans (B17.mono HB15.out.size))
        have HM17 := Lib.hid (HM15.out.below B17 HM15.out.lt)
        have HR17 := Lib.hid (HR15.out.on B17)
        have E17 := Lib.hid (show Calls Try.prog 41 #[.pointer (some ⟨B, 0, none⟩), .agg #[.int .i64 o.a2, .int .i64 o.fr, .int .i64 5, .int .i64 o.vol, .int .i64 o.l2, .int .u64 o.id, .int .i64 0, .bool false, .int .u64 0, .int .u32 0, .bool false, .slice none 0 0]] w17 (fun e w' => e = .returned (errc 0) ∧ RBl w' B ⟨atC o av cv, 3, true, false, { y with a := a6, c := c6 }, c, ndN⟩ ∧ w17.grownBy w' (some B)) from x_next_2 w17 HR17.out false ndN (BOk.nil _ _ _) rfl)
        clear x0 x1 x2 x3 x4 x5 x6 x7 x8 x9 x10 x11 B17 E16 HB15 HM15 HR15
        go_wp2_with fail
        refine E17.out.mono ?_
        rintro e w18 ⟨rfl, hR18, hg18⟩
        have HL := Lib.hid (show CarL W2 B M #[.int .i64 o.fr, .int .i64 o.a0, .int .i64 o.kd, .int .i64 o.vol, .int .i64 o.l0, .int .u64 o.id, .int .i64 0, .bool true, .int .u64 o.key, .int .u32 o.ck, .bool o.g, .slice a2 o.n c2] (atC o av cv) y c 3 w18 from ⟨HB17.out.grown hg18 HB17.out.size (fun k e => by injection e with e; have := HBB.out; omega), HM17.out.grown hg18 (by intro e; injection e with e; have := HBM.out; omega), a6, c6, hR18⟩)
        clear hR18 hg18 E17 HB17 HM17 HR17
        go_wp2_with fail
        go_roundw
        case rel => exact ⟨3, by omega, by omega, rfl, HL.out⟩
        case measure => simp [intOf]
      · have EV := Lib.hid (show Calls Try.prog 45 #[.pointer (some ⟨B, 0, none⟩)] wr (fun e w' => ∃ av cv, e = .returned (.tuple #[.agg #[.int .i64 c, .int .u64 0, .int .u32 0, .bool false, .slice av 0 cv], .bool true]) ∧ Below wr.heap.size wr w') from oend_yes wr HRr.out rfl)
        go_wp2_with fail
        refine EV.out.mono ?_
        rintro e w20 ⟨a20, c20, rfl, B20⟩
        have HB20 := Lib.hid (HBr.out.trans (B20.mono HBr.out.size))
        have HM20 := Lib.hid (HMr.out.below B20 HMr.out.lt)
        clear B20 EV HBr HMr HRr
        go_upto_region 18 with fail
        obtain ⟨w21, hw21, hE21, hB21⟩ : ∃ X, w20.alloc (.cells #[.int .i64 c, .int .u64 0, .int .u32 0, .bool false, .slice a20 0 c20] 88) = X ∧ Blk X w20.heap.size 88 #[.int .i64 c, .int .u64 0, .int .u32 0, .bool false, .slice a20 0 c20] ∧ Below w20.heap.size w20 X := ⟨_, rfl, Blk.made _ _ _, (Below.refl _ _).alloc (Nat.le_refl _) _⟩
        have HM21 := Lib.hid (HM20.out.below hB21 HM20.out.lt)
        have HB21 := Lib.hid (HB20.out.trans (hB21.mono HB20.out.size))
        have HE21 := Lib.hid hE21
        have HME := Lib.hid (show M < w20.heap.size ∧ W2.heap.size ≤ w20.heap.size from ⟨HM20.out.lt, HB20.out.size⟩)
        have e0 : w21.cell? ⟨w20.heap.size, 0, none⟩ = some (.int .i64 c) := hE21.cell 0
        obtain ⟨k0, k1, k2, k3, k4, k5, k6, k7, k8, k9, k10, k11, k12, k13⟩ := HCO.out _ HB21.out
        rw [hw21]
        clear hw21 hE21 hB21 HM20 HB20
        generalize w20.heap.size = EE at *
        have EO := Lib.hid (ofop_any o w21)
        unfold OpR.vals at EO
        go_wp2_with fail
        refine EO.out.mono ?_
        rintro e w22 ⟨rfl, B22⟩
        have HB22 := Lib.hid (HB21.out.trans (B22.mono HB21.out.size))
        have HM22 := Lib.hid (HM21.out.below B22 HM21.out.lt)
        have HE22 := Lib.hid (HE21.out.below B22 HE21.out.lt)
        clear k0 k1 k2 k3 k4 k5 k6 k7 k8 k9 k10 k11 k12 k13 e0 B22 EO HB21 HM21 HE21
        have EN := Lib.hid (cnew_ok w22 HRT.out (HBO.out _ HB22.out))
        unfold OpR.vals at EN
        go_wp2_with fail
        refine EN.out.mono ?_
        rintro e w23 ⟨B', av', cv', rfl, hB', hR', B23⟩
        have HB23 := Lib.hid (HB22.out.trans (B23.mono HB22.out.size))
        have HM23 := Lib.hid (HM22.out.below B23 HM22.out.lt)
        have HE23 := Lib.hid (HE22.out.below B23 HE22.out.lt)
        have HBB' := Lib.hid (show W2.heap.size ≤ B' ∧ M < B' ∧ EE < B' from ⟨Nat.le_trans HB22.out.size hB', Nat.lt_of_lt_of_le HM22.out.lt hB', Nat.lt_of_lt_of_le HE22.out.lt hB'⟩)
        have E9 := Lib.hid (show Calls Try.prog 40 #[.pointer (some ⟨B', 0, none⟩)] w23 (fun e w' => ∃ a2 c2, e = .returned (.tuple #[.agg #[.int .i64 o.fr, .int .i64 o.a0, .int .i64 o.kd, .int .i64 o.vol, .int .i64 o.l0, .int .u64 o.id, .int .i64 0, .bool true, .int .u64 o.key, .int .u32 o.ck, .bool o.g, .slice a2 o.n c2], errc 0]) ∧ BOk w' a2 o.n c2 o.l ∧ RBl w' B' ⟨atC o av' cv', 0, true, false, ndN, 0, ndN⟩ ∧ w23.grownBy w' (some B')) from next_put w23 hR' HK3.out rfl)
        clear hB' hR' B23 EN HB22 HM22 HE22
        go_wp2_with fail
        refine E9.out.mono ?_
        rintro e w24 ⟨a7, c7, rfl, hb24, hR24, hg24⟩
        have HB24 := Lib.hid (HB23.out.grown hg24 HB23.out.size (fun k e => by injection e with e; have := HBB'.out; omega))
        have HM24 := Lib.hid (HM23.out.grown hg24 (by intro e; injection e with e; have := HBB'.out; omega))
        have HE24 := Lib.hid (HE23.out.grown hg24 (by intro e; injection e with e; have := HBB'.out; omega))
        have HR24 := Lib.hid hR24
        obtain ⟨q0, q1, q2, q3, q4, q5, q6, q7, q8, q9, q10, q11⟩ := HM24.out.twelve
        obtain ⟨f0, f1, f2, f3, f4, f5, f6, f7, f8, f9, f10, f11⟩ := HM24.out.twelve_frozen
        clear hb24 hR24 hg24 E9 HB23 HM23 HE23
        go_upto_region 22 with fail
        obtain ⟨w25, hw25, hM25, hg25⟩ : ∃ X, ((((((((((((w24.setCell ⟨M, 0, none⟩ (.int .i64 o.fr)).setCell ⟨M, 1, none⟩ (.int .i64 o.a0)).setCell ⟨M, 2, none⟩ (.int .i64 o.kd)).setCell ⟨M, 3, none⟩ (.int .i64 o.vol)).setCell ⟨M, 4, none⟩ (.int .i64 o.l0)).setCell ⟨M, 5, none⟩ (.int .u64 o.id)).setCell ⟨M, 6, none⟩ (.int .i64 0)).setCell ⟨M, 7, none⟩ (.bool true)).setCell ⟨M, 8, none⟩ (.int .u64 o.key)).setCell ⟨M, 9, none⟩ (.int .u32 o.ck)).setCell ⟨M, 10, none⟩ (.bool o.g)).setCell ⟨M, 11, none⟩ (.slice a7 o.n c7)) = X ∧ Blk X M 53 #[.int .i64 o.fr, .int .i64 o.a0, .int .i64 o.kd, .int .i64 o.vol, .int .i64 o.l0, .int .u64 o.id, .int .i64 0, .bool true, .int .u64 o.key, .int .u32 o.ck, .bool o.g, .slice a7 o.n c7] ∧ w24.grownBy X (some M) := ⟨_, rfl, HM24.out.put12 _ _ _ _ _ _ _ _ _ _ _ _, grown_put12 (grown_refl _ _) _ _ _ _ _ _ _ _ _ _ _ _⟩
        rw [hw25]
        have HB25 := Lib.hid (HB24.out.grown hg25 HB24.out.size (fun k e => by injection e with e; have := HBM.out; omega))
        have HE25 := Lib.hid (HE24.out.grown hg25 (by intro e; injection e with e; have := HME.out; omega))
        have HR25 := Lib.hid (show RBl w25 B' ⟨atC o av' cv', 0, true, false, ndN, 0, ndN⟩ from ⟨HR24.out.k.grown hg25 (by intro e; injection e with e; have := HBB'.out; omega), ⟨(HR24.out.o.b.apart HM24.out (msg_nob _ _ _ _ _ _ _ _ _ _ _ _ _ _) hg25).more hg25.size, HR24.out.o.nc, HR24.out.o.le⟩, BOk.nil _ _ _, BOk.nil _ _ _⟩)
        clear q0 q1 q2 q3 q4 q5 q6 q7 q8 q9 q10 q11 f0 f1 f2 f3 f4 f5 f6 f7 f8 f9 f10 f11 hw25 hg25 HB24 HE24 HR24 HM24
        obtain ⟨q0, q1, q2, q3, q4, q5, q6, q7, q8, q9, q10, q11⟩ := hM25.twelve
        clear hM25
        have E26 := Lib.hid (x_reply0 o.fr o.a0 o.kd o.vol o.l0 o.id 0 true o.key o.ck o.g a7 o.n c7 c false w25)
        go_wp2_with fail
        refine E26.out.mono ?_
        rintro e w26 ⟨rfl, B26⟩
        have HB26 := Lib.hid (HB25.out.trans (B26.mono HB25.out.size))
        have HE26 := Lib.hid (HE25.out.below B26 HE25.out.lt)
        have HR26 := Lib.hid (HR25.out.on B26)
        have E27 := Lib.hid (show Calls Try.prog 41 #[.pointer (some ⟨B', 0, none⟩), .agg #[.int .i64 o.a0, .int .i64 o.fr, .int .i64 5, .int .i64 o.vol, .int .i64 o.l0, .int .u64 o.id, .int .i64 c, .bool false, .int .u64 0, .int .u32 0, .bool false, .slice none 0 0]] w26 (fun e w' => e = .returned (errc 0) ∧ RBl w' B' ⟨atC o av' cv', 3, true, false, ndN, 17, ndN⟩ ∧ w26.grownBy w' (some B')) from x_not w26 HR26.out ndN (BOk.nil _ _ _) HK3.out rfl c HC.out rfl)
        clear q0 q1 q2 q3 q4 q5 q6 q7 q8 q9 q10 q11 B26 E26 HB25 HE25 HR25
        go_wp2_with fail
        refine E27.out.mono ?_
        rintro e w27 ⟨rfl, hR27, hg27⟩
        have HB27 := Lib.hid (HB26.out.grown hg27 HB26.out.size (fun k e => by injection e with e; have := HBB'.out; omega))
        have HE27 := Lib.hid (HE26.out.grown hg27 (by intro e; injection e with e; have := HBB'.out; omega))
        have HR27 := Lib.hid hR27
        have EV := Lib.hid (show Calls Try.prog 45 #[.pointer (some ⟨B', 0, none⟩)] w27 (fun e w' => ∃ av cv, e = .returned (.tuple #[.agg #[.int .i64 17, .int .u64 0, .int .u32 0, .bool false, .slice av 0 cv], .bool true]) ∧ Below w27.heap.size w27 w') from oend_yes w27 hR27 rfl)
        clear hR27 hg27 E27 HB26 HE26 HR26
        go_wp2_with fail
        refine EV.out.mono ?_
        rintro e w28 ⟨a28, c28, rfl, B28⟩
        have HB28 := Lib.hid (HB27.out.trans (B28.mono HB27.out.size))
        have hE28 := HE27.out.below B28 HE27.out.lt
        obtain ⟨e0, e1, e2, e3, e4⟩ := hE28.five
        obtain ⟨f0, f1, f2, f3, f4⟩ := hE28.five_frozen
        have HF := Lib.hid (HBW.out.trans ((below_put5 HB28.out (B := EE) HME.out.2 (.int .i64 17) (.int .u64 0) (.int .u32 0) (.bool false) (.slice a28 0 c28)).mono HBW.out.size))
        clear B28 EV HB27 HE27 HR27 hE28
        go_wp2_with fail
        go_ret
        exact ⟨rfl, HF.out⟩
end Go.Proofs.Ytboadalojimdlaa
