/-
  The walk of corncriblaw14.WireReplies.
-/
import Derived.Test.YtpkfjnhjcdcoaaaWirAlive
import Derived.Test.YtpkfjnhjcdcoaaaWirLaw
import Derived.Test.YtpkfjnhjcdcoaaaWirReply
import Derived.Test.YtpkfjnhjcdcoaaaMsl
namespace Go.Proofs.Ytpkfjnhjcdcoaaa
open Go.RowKit
set_option linter.unusedVariables false

theorem smB_in {n : Int} (h : 0 ≤ n ∧ n ≤ 255) : smB n = true := decide_eq_true h
theorem mchk_reply (m : MsgR) (cd : Int) (hq : mchk m = 0) (hc : 0 ≤ cd ∧ cd ≤ 255) (has : Bool) (key ck : Nat) (g : Bool) (a : Option Addr) (n c : Nat) (l : List (BitVec 8)) (h1 : has = true → chk g n = 0) (h2 : has = false → ndSame key ck g l 0 0 false [] = true) :
    mchk ⟨m.tt, m.fr, 5, m.vol, m.life, m.id, cd, has, key, ck, g, a, n, c, l⟩ = 0 := by
  obtain ⟨b1, b2, b3, b4, -, -, -⟩ := mchk_ok hq
  unfold mchk
  dsimp only
  rw [if_pos ⟨smB_in b2, smB_in b1, b3.1, b3.2, b4.1, b4.2, by decide, by decide, fun h => absurd h (by decide), smB_in hc⟩]
  cases has
  · rw [if_neg (by decide), if_pos (h2 rfl)]
  · rw [if_pos rfl]
    exact h1 rfl
set_option maxRecDepth 100000 in
set_option maxHeartbeats 8000000 in
theorem replies_true (m : MsgR) (cd : Int) (key ck : Nat) (g : Bool) (a : Option Addr) (n c : Nat) (l : List (BitVec 8)) (w : World) (h : MIn w w.heap.size m) (h' : BSl w w.heap.size a n l) (hnm : n ≤ 9223372036854775807) (hc0 : 0 ≤ cd) (hc1 : cd ≤ 255) (hkey : key < 18446744073709551616) (hck : ck < 4294967296) :
    Calls Try.prog 6 #[m.vals, .int .u8 cd, .bool true, .agg #[.int .u64 key, .int .u32 ck, .bool g, .slice a n c]] w fun e w' => e = .returned (.bool true) ∧ Below w.heap.size w w' := by
  have HI := Lib.hid h
  have HI' := Lib.hid h'
  have HV := Lib.hid (show m.vals = .agg #[.int .i64 m.fr, .int .i64 m.tt, .int .i64 m.kd, .int .i64 m.vol, .int .i64 m.life, .int .u64 m.id, .int .i64 m.cd, .bool m.has, .int .u64 m.key, .int .u32 m.ck, .bool m.g, .slice m.a m.n m.c] from rfl)
  rw [HV.out]
  have HB0 := Lib.hid (((Below.refl w.heap.size w).alloc (Nat.le_refl _) (.cells #[.int .i64 m.fr, .int .i64 m.tt, .int .i64 m.kd, .int .i64 m.vol, .int .i64 m.life, .int .u64 m.id, .int .i64 m.cd, .bool m.has, .int .u64 m.key, .int .u32 m.ck, .bool m.g, .slice m.a m.n m.c] 36)).alloc (by simp) (.cells #[.int .u64 key, .int .u32 ck, .bool g, .slice a n c] 34))
  obtain ⟨hK, hJ⟩ := made_two w 36 34 #[.int .i64 m.fr, .int .i64 m.tt, .int .i64 m.kd, .int .i64 m.vol, .int .i64 m.life, .int .u64 m.id, .int .i64 m.cd, .bool m.has, .int .u64 m.key, .int .u32 m.ck, .bool m.g, .slice m.a m.n m.c] #[.int .u64 key, .int .u32 ck, .bool g, .slice a n c]
  have HK0 := Lib.hid hK
  have HJ0 := Lib.hid hJ
  have HCD := Lib.hid (And.intro hc0 hc1)
  have HWc := Lib.hid (show IntKind.i64.wrap cd = cd from IntWalk.i64_in _ (by omega))
  clear h h' hK hJ
  by_cases hbig : 300 < m.n
  · have z : decide ((300 : Int) < (m.n : Int)) = true := decide_eq_true (by omega)
    clear hbig
    go_enter Try.func6, Try.ntmps6
    go_upto_region 1 with fail
    generalize ((w.alloc (.cells #[.int .i64 m.fr, .int .i64 m.tt, .int .i64 m.kd, .int .i64 m.vol, .int .i64 m.life, .int .u64 m.id, .int .i64 m.cd, .bool m.has, .int .u64 m.key, .int .u32 m.ck, .bool m.g, .slice m.a m.n m.c] 36)).alloc (.cells #[.int .u64 key, .int .u32 ck, .bool g, .slice a n c] 34)) = W0 at *
    go_wp2_with fail
    refine (wire_alive _).mono ?_
    rintro e w1 ⟨rfl, B1⟩
    have HB1 := Lib.hid (HB0.out.trans (B1.mono HB0.out.size))
    have HK1 := Lib.hid (HK0.out.below B1 HK0.out.lt)
    have HJ1 := Lib.hid (HJ0.out.below B1 HJ0.out.lt)
    clear B1
    obtain ⟨k0, k1, k2, k3, k4, k5, k6, k7, k8, k9, k10, k11⟩ := HK1.out.twelve
    obtain ⟨j0, j1, j2, j3⟩ := HJ1.out.four
    go_wp2_with fail
    go_ret
    exact ⟨rfl, HB1.out⟩
  have z : decide ((300 : Int) < (m.n : Int)) = false := decide_eq_false (by omega)
  have HN := Lib.hid (show m.n ≤ 300 from by omega)
  clear hbig
  by_cases hbig : 300 < n
  · have z' : decide ((300 : Int) < (n : Int)) = true := decide_eq_true (by omega)
    clear hbig
    go_enter Try.func6, Try.ntmps6
    go_upto_region 1 with fail
    generalize ((w.alloc (.cells #[.int .i64 m.fr, .int .i64 m.tt, .int .i64 m.kd, .int .i64 m.vol, .int .i64 m.life, .int .u64 m.id, .int .i64 m.cd, .bool m.has, .int .u64 m.key, .int .u32 m.ck, .bool m.g, .slice m.a m.n m.c] 36)).alloc (.cells #[.int .u64 key, .int .u32 ck, .bool g, .slice a n c] 34)) = W0 at *
    go_wp2_with fail
    refine (wire_alive _).mono ?_
    rintro e w1 ⟨rfl, B1⟩
    have HB1 := Lib.hid (HB0.out.trans (B1.mono HB0.out.size))
    have HK1 := Lib.hid (HK0.out.below B1 HK0.out.lt)
    have HJ1 := Lib.hid (HJ0.out.below B1 HJ0.out.lt)
    clear B1
    obtain ⟨k0, k1, k2, k3, k4, k5, k6, k7, k8, k9, k10, k11⟩ := HK1.out.twelve
    obtain ⟨j0, j1, j2, j3⟩ := HJ1.out.four
    go_wp2_with fail
    go_ret
    exact ⟨rfl, HB1.out⟩
  have z' : decide ((300 : Int) < (n : Int)) = false := decide_eq_false (by omega)
  have HN' := Lib.hid (show n ≤ 300 from by omega)
  clear hbig
  obtain ⟨q, hq⟩ : ∃ q, mchk m = q := ⟨_, rfl⟩
  have EK := Lib.hid fun (W : World) (B : Below w.heap.size w W) => rcheck_any m W ((HI.out.hb.below B).more B.size) (by have := HN.out; omega)
  rw [hq, HV.out] at EK
  by_cases hq0 : q ≠ 0
  · have z2 : ((q : Int) != 0) = true := by rw [bne_iff_ne]; omega
    clear hq0 hq
    go_enter Try.func6, Try.ntmps6
    go_upto_region 1 with fail
    generalize ((w.alloc (.cells #[.int .i64 m.fr, .int .i64 m.tt, .int .i64 m.kd, .int .i64 m.vol, .int .i64 m.life, .int .u64 m.id, .int .i64 m.cd, .bool m.has, .int .u64 m.key, .int .u32 m.ck, .bool m.g, .slice m.a m.n m.c] 36)).alloc (.cells #[.int .u64 key, .int .u32 ck, .bool g, .slice a n c] 34)) = W0 at *
    go_wp2_with fail
    refine (wire_alive _).mono ?_
    rintro e w1 ⟨rfl, B1⟩
    have HB1 := Lib.hid (HB0.out.trans (B1.mono HB0.out.size))
    have HK1 := Lib.hid (HK0.out.below B1 HK0.out.lt)
    have HJ1 := Lib.hid (HJ0.out.below B1 HJ0.out.lt)
    clear B1
    obtain ⟨k0, k1, k2, k3, k4, k5, k6, k7, k8, k9, k10, k11⟩ := HK1.out.twelve
    obtain ⟨j0, j1, j2, j3⟩ := HJ1.out.four
    go_wp2_with fail
    refine (EK.out _ HB1.out).mono ?_
    rintro e w2 ⟨rfl, B2⟩
    have HB2 := Lib.hid (HB1.out.trans (B2.mono HB1.out.size))
    have HK2 := Lib.hid (HK1.out.below B2 HK1.out.lt)
    have HJ2 := Lib.hid (HJ1.out.below B2 HJ1.out.lt)
    clear B2 k0 k1 k2 k3 k4 k5 k6 k7 k8 k9 k10 k11 j0 j1 j2 j3
    obtain ⟨k0, k1, k2, k3, k4, k5, k6, k7, k8, k9, k10, k11⟩ := HK2.out.twelve
    obtain ⟨j0, j1, j2, j3⟩ := HJ2.out.four
    go_wp2_with fail
    go_ret
    exact ⟨rfl, HB2.out⟩
  obtain rfl : q = 0 := Decidable.not_not.1 hq0
  clear hq0
  have HQ := Lib.hid hq
  clear hq
  obtain ⟨q, hq⟩ : ∃ q, chk g n = q := ⟨_, rfl⟩
  have EK' := Lib.hid fun (W : World) => ref3_check key ck g a n c W hnm
  rw [hq] at EK'
  by_cases hq0 : q ≠ 0
  · have z2 : ((q : Int) != 0) = true := by rw [bne_iff_ne]; omega
    clear hq0 hq
    go_enter Try.func6, Try.ntmps6
    go_upto_region 1 with fail
    generalize ((w.alloc (.cells #[.int .i64 m.fr, .int .i64 m.tt, .int .i64 m.kd, .int .i64 m.vol, .int .i64 m.life, .int .u64 m.id, .int .i64 m.cd, .bool m.has, .int .u64 m.key, .int .u32 m.ck, .bool m.g, .slice m.a m.n m.c] 36)).alloc (.cells #[.int .u64 key, .int .u32 ck, .bool g, .slice a n c] 34)) = W0 at *
    go_wp2_with fail
    refine (wire_alive _).mono ?_
    rintro e w1 ⟨rfl, B1⟩
    have HB1 := Lib.hid (HB0.out.trans (B1.mono HB0.out.size))
    have HK1 := Lib.hid (HK0.out.below B1 HK0.out.lt)
    have HJ1 := Lib.hid (HJ0.out.below B1 HJ0.out.lt)
    clear B1
    obtain ⟨k0, k1, k2, k3, k4, k5, k6, k7, k8, k9, k10, k11⟩ := HK1.out.twelve
    obtain ⟨j0, j1, j2, j3⟩ := HJ1.out.four
    go_wp2_with fail
    refine (EK.out _ HB1.out).mono ?_
    rintro e w2 ⟨rfl, B2⟩
    have HB2 := Lib.hid (HB1.out.trans (B2.mono HB1.out.size))
    have HK2 := Lib.hid (HK1.out.below B2 HK1.out.lt)
    have HJ2 := Lib.hid (HJ1.out.below B2 HJ1.out.lt)
    clear B2 k0 k1 k2 k3 k4 k5 k6 k7 k8 k9 k10 k11 j0 j1 j2 j3
    obtain ⟨k0, k1, k2, k3, k4, k5, k6, k7, k8, k9, k10, k11⟩ := HK2.out.twelve
    obtain ⟨j0, j1, j2, j3⟩ := HJ2.out.four
    go_wp2_with fail
    refine (EK'.out _).mono ?_
    rintro e w3 ⟨rfl, B3⟩
    have HB3 := Lib.hid (HB2.out.trans (B3.mono HB2.out.size))
    have HK3 := Lib.hid (HK2.out.below B3 HK2.out.lt)
    have HJ3 := Lib.hid (HJ2.out.below B3 HJ2.out.lt)
    clear B3 k0 k1 k2 k3 k4 k5 k6 k7 k8 k9 k10 k11 j0 j1 j2 j3
    obtain ⟨k0, k1, k2, k3, k4, k5, k6, k7, k8, k9, k10, k11⟩ := HK3.out.twelve
    obtain ⟨j0, j1, j2, j3⟩ := HJ3.out.four
    go_wp2_with fail
    go_ret
    exact ⟨rfl, HB3.out⟩
  obtain rfl : q = 0 := Decidable.not_not.1 hq0
  clear hq0
  have HQR := Lib.hid (mchk_reply m cd HQ.out HCD.out true key ck g a n c l (fun e => hq) (fun e => by cases e))
  clear hq
  obtain ⟨k, hk⟩ : ∃ k, msLen (⟨m.tt, m.fr, 5, m.vol, m.life, m.id, cd, true, key, ck, g, a, n, c, l⟩ : MsgR) + 4 = k := ⟨_, rfl⟩
  have hk1 : 28 ≤ k := by rw [← hk]; unfold msLen; split <;> omega
  have hk2 : k ≤ 10000 := by rw [← hk]; unfold msLen padn; have := HN'.out; dsimp only; split <;> omega
  have hml : (⟨m.tt, m.fr, 5, m.vol, m.life, m.id, cd, true, key, ck, g, a, n, c, l⟩ : MsgR).l.length = (⟨m.tt, m.fr, 5, m.vol, m.life, m.id, cd, true, key, ck, g, a, n, c, l⟩ : MsgR).n := HI'.out.1
  have EP := Lib.hid fun (W : World) (B : Below w.heap.size w W) => wbytes_ok (⟨m.tt, m.fr, 5, m.vol, m.life, m.id, cd, true, key, ck, g, a, n, c, l⟩ : MsgR) W ((HI'.out.below B).more B.size) (by have := HN'.out; dsimp only; omega) HI.out.id1 (by dsimp only; omega) (by dsimp only; omega) HQR.out
  rw [hk, show MsgR.vals (⟨m.tt, m.fr, 5, m.vol, m.life, m.id, cd, true, key, ck, g, a, n, c, l⟩ : MsgR) = .agg #[.int .i64 m.tt, .int .i64 m.fr, .int .i64 5, .int .i64 m.vol, .int .i64 m.life, .int .u64 (m.id : Int), .int .i64 cd, .bool true, .int .u64 (key : Int), .int .u32 (ck : Int), .bool g, .slice a n c] from rfl] at EP
  have EO := Lib.hid fun (W : World) => ofm_any m W
  rw [HV.out] at EO
  have ERp := Lib.hid fun (W : World) => wreply_any m cd true key ck g a n c W
  have ERb := Lib.hid fun (W : World) => show Calls Try.prog 23 #[.agg #[.int .i64 m.tt, .int .i64 m.fr, .int .i64 5, .int .i64 m.vol, .int .i64 m.life, .int .u64 (m.id : Int), .int .i64 cd, .bool true, .int .u64 (key : Int), .int .u32 (ck : Int), .bool g, .slice a n c], .int .i64 0, .bool false, .agg #[.int .u64 0, .int .u32 0, .bool false, .slice none 0 0]] W fun e w' => e = .returned (.agg #[.int .i64 m.fr, .int .i64 m.tt, .int .i64 5, .int .i64 m.vol, .int .i64 m.life, .int .u64 (m.id : Int), .int .i64 0, .bool false, .int .u64 0, .int .u32 0, .bool false, .slice none 0 0]) ∧ Below W.heap.size W w' from wreply_any (⟨m.tt, m.fr, 5, m.vol, m.life, m.id, cd, true, key, ck, g, a, n, c, l⟩ : MsgR) 0 false 0 0 false none 0 0 W
  have HG := Lib.hid (msGet_bytes (⟨m.tt, m.fr, 5, m.vol, m.life, m.id, cd, true, key, ck, g, a, n, c, l⟩ : MsgR) hml HI.out.id1 (by dsimp only; omega) (by dsimp only; omega) HQR.out)
  have HSM := Lib.hid fun (a1 : Option Addr) (c1 : Nat) => show mSame (⟨m.tt, m.fr, 5, m.vol, m.life, m.id, cd, true, key, ck, g, a, n, c, l⟩ : MsgR) { (⟨m.tt, m.fr, 5, m.vol, m.life, m.id, cd, true, key, ck, g, a, n, c, l⟩ : MsgR).bare with a := a1, c := c1 } = true from mSame_of rfl
  generalize msBytes (⟨m.tt, m.fr, 5, m.vol, m.life, m.id, cd, true, key, ck, g, a, n, c, l⟩ : MsgR) = L at *
  clear hk hml
  go_enter Try.func6, Try.ntmps6
  go_upto_region 1 with fail
  generalize ((w.alloc (.cells #[.int .i64 m.fr, .int .i64 m.tt, .int .i64 m.kd, .int .i64 m.vol, .int .i64 m.life, .int .u64 m.id, .int .i64 m.cd, .bool m.has, .int .u64 m.key, .int .u32 m.ck, .bool m.g, .slice m.a m.n m.c] 36)).alloc (.cells #[.int .u64 key, .int .u32 ck, .bool g, .slice a n c] 34)) = W0 at *
  go_wp2_with fail
  refine (wire_alive _).mono ?_
  rintro e w1 ⟨rfl, B1⟩
  have HB1 := Lib.hid (HB0.out.trans (B1.mono HB0.out.size))
  have HK1 := Lib.hid (HK0.out.below B1 HK0.out.lt)
  have HJ1 := Lib.hid (HJ0.out.below B1 HJ0.out.lt)
  clear B1
  obtain ⟨k0, k1, k2, k3, k4, k5, k6, k7, k8, k9, k10, k11⟩ := HK1.out.twelve
  obtain ⟨j0, j1, j2, j3⟩ := HJ1.out.four
  go_wp2_with fail
  refine (EK.out _ HB1.out).mono ?_
  rintro e w2 ⟨rfl, B2⟩
  have HB2 := Lib.hid (HB1.out.trans (B2.mono HB1.out.size))
  have HK2 := Lib.hid (HK1.out.below B2 HK1.out.lt)
  have HJ2 := Lib.hid (HJ1.out.below B2 HJ1.out.lt)
  clear B2 k0 k1 k2 k3 k4 k5 k6 k7 k8 k9 k10 k11 j0 j1 j2 j3
  obtain ⟨k0, k1, k2, k3, k4, k5, k6, k7, k8, k9, k10, k11⟩ := HK2.out.twelve
  obtain ⟨j0, j1, j2, j3⟩ := HJ2.out.four
  go_wp2_with fail
  refine (EK'.out _).mono ?_
  rintro e w3 ⟨rfl, B3⟩
  have HB3 := Lib.hid (HB2.out.trans (B3.mono HB2.out.size))
  have HK3 := Lib.hid (HK2.out.below B3 HK2.out.lt)
  have HJ3 := Lib.hid (HJ2.out.below B3 HJ2.out.lt)
  clear B3 k0 k1 k2 k3 k4 k5 k6 k7 k8 k9 k10 k11 j0 j1 j2 j3
  obtain ⟨k0, k1, k2, k3, k4, k5, k6, k7, k8, k9, k10, k11⟩ := HK3.out.twelve
  obtain ⟨j0, j1, j2, j3⟩ := HJ3.out.four
  have BA := (Below.refl w3.heap.size w3).alloc (Nat.le_refl _) (.cells #[.int .u64 key, .int .u32 ck, .bool g, .slice a n c] 27)
  have HB4 := Lib.hid (HB3.out.trans (BA.mono HB3.out.size))
  have HK4 := Lib.hid (HK3.out.below BA HK3.out.lt)
  have HX4 := Lib.hid (Blk.made w3 27 #[.int .u64 key, .int .u32 ck, .bool g, .slice a n c])
  clear BA HB0 HK0 HJ0 HB1 HK1 HJ1 HB2 HK2 HJ2 HJ3
  go_upto_region 8 with fail
  generalize (w3.alloc (.cells #[.int .u64 key, .int .u32 ck, .bool g, .slice a n c] 27)) = W4 at *
  clear k0 k1 k2 k3 k4 k5 k6 k7 k8 k9 k10 k11 j0 j1 j2 j3
  have HC := Lib.hid fun (W : World) (B : Below W4.heap.size W4 W) => And.intro (HK4.out.below B HK4.out.lt).twelve (HX4.out.below B HX4.out.lt).four
  have HX4L := Lib.hid HX4.out.lt
  go_cut [10] (fun vv wx => ∃ M, vv = .pointer (some ⟨M, 0, none⟩) ∧ W4.heap.size ≤ M ∧ Blk wx M 29 #[.int .i64 m.tt, .int .i64 m.fr, .int .i64 5, .int .i64 m.vol, .int .i64 m.life, .int .u64 (m.id : Int), .int .i64 cd, .bool true, .int .u64 (key : Int), .int .u32 (ck : Int), .bool g, .slice a n c] ∧ Below W4.heap.size W4 wx)
  case first =>
    refine wp_region_held_drew (S := fun W => Below W4.heap.size W4 W) (by kernel_rfl) ((Below.refl _ _).drew) (fun hS => ?_)
    refine wpAnyH_take (i := 0) (v := ?_) rfl (by kernel_rfl) (by kernel_rfl) (by kernel_rfl) (fun _ _ _ h => h) (Or.inl ⟨by kernel_rfl, ?_⟩) hS ?_
    rotate_left
    · intro W hW; obtain ⟨⟨k0, k1, k2, k3, k4, k5, k6, k7, k8, k9, k10, k11⟩, q0, q1, q2, q3⟩ := HC.out W hW; go_simp; try with_reducible rfl
    refine wpAnyH_take (i := 2) (v := ?_) rfl (by kernel_rfl) (by kernel_rfl) (by kernel_rfl) (fun _ _ _ h => h) (Or.inl ⟨by kernel_rfl, ?_⟩) hS ?_
    rotate_left
    · intro W hW; go_simp; try with_reducible rfl
    refine wpAnyH_take (i := 3) (v := ?_) rfl (by kernel_rfl) (by kernel_rfl) (by kernel_rfl) (fun _ _ _ h => h) (Or.inl ⟨by kernel_rfl, ?_⟩) hS ?_
    rotate_left
    · intro W hW; first | (go_simp; rw [HWc.out]; with_reducible rfl) | (go_simp; with_reducible rfl) | go_simp
    refine wpAnyH_take (i := 4) (v := ?_) rfl (by kernel_rfl) (by kernel_rfl) (by kernel_rfl) (fun _ _ _ h => h) (Or.inl ⟨by kernel_rfl, ?_⟩) hS ?_
    rotate_left
    · intro W hW; go_simp; try with_reducible rfl
    refine wpAnyH_take (i := 5) (v := ?_) rfl (by kernel_rfl) (by kernel_rfl) (by kernel_rfl) (fun _ _ _ h => h) (Or.inl ⟨by kernel_rfl, ?_⟩) hS ?_
    rotate_left
    · intro W hW; obtain ⟨⟨k0, k1, k2, k3, k4, k5, k6, k7, k8, k9, k10, k11⟩, q0, q1, q2, q3⟩ := HC.out W hW; go_simp; try with_reducible rfl
    refine wpAnyH_ready (rs := [1, 7]) (by kernel_rfl) (by simp) ?_
    refine AllReadyH.cons (i := 1) rfl ?_ ?_
    · intro K hK
      go_simp
      refine (EO.out _).mono ?_
      rintro e wo ⟨rfl, Bo⟩
      have hT := hS.trans (Bo.mono hS.size)
      try replace hM := hM.below Bo hM.lt
      go_simp
      refine hK.out _ _ ?_ (fun hN => ?_)
      · first | exact hT | exact hS | exact hS.alloc hS.size _ | exact hS.drew
      clear hK K
      try clear hT
      clear hS
      have hS := hN
      clear hN
      refine wpAnyH_ready (rs := [6, 7]) (by kernel_rfl) (by simp) ?_
      refine AllReadyH.cons (i := 6) rfl ?_ ?_
      · intro K hK
        go_simp
        try rw [HWc.out]
        refine (ERp.out _).mono ?_
        rintro e wp ⟨rfl, Bp⟩
        have hT := hS.trans (Bp.mono hS.size)
        try replace hM := hM.below Bp hM.lt
        go_simp
        refine hK.out _ _ ?_ (fun hN => ?_)
        · first | exact hT | exact hS | exact hS.alloc hS.size _ | exact hS.drew
        clear hK K
        try clear hT
        clear hS
        have hS := hN
        clear hN
        refine wpAnyH_ready (rs := [7]) (by kernel_rfl) (by simp) ?_
        refine AllReadyH.cons (i := 7) rfl ?_ AllReadyH.nil
        intro K hK
        go_simp
        first | refine held_alloc (fun wa hM hBa => ?_) | refine held_alloc_drew (fun wa hM hBa => ?_)
        have hge := hS.size
        have hT : Below W4.heap.size W4 wa := by first | exact hS.trans (hBa.mono hS.size) | exact hBa
        clear hBa
        go_simp
        refine hK.out _ _ ?_ (fun hN => ?_)
        · first | exact hT | exact hS | exact hS.alloc hS.size _ | exact hS.drew
        clear hK K
        try clear hT
        clear hS
        have hS := hN
        clear hN
        refine wpAnyH_ready (rs := [8]) (by kernel_rfl) (by simp) ?_
        refine AllReadyH.cons (i := 8) rfl ?_ AllReadyH.nil
        intro K hK
        obtain ⟨m0, m1, m2, m3, m4, m5, m6, m7, m8, m9, m10, m11⟩ := hM.twelve
        obtain ⟨n0, n1, n2, n3, n4, n5, n6, n7, n8, n9, n10, n11⟩ := hM.twelve_frozen
        go_simp
        try rw [HWc.out]
        have hT := below_put12 hS hge (.int .i64 m.tt) (.int .i64 m.fr) (.int .i64 5) (.int .i64 m.vol) (.int .i64 m.life) (.int .u64 (m.id : Int)) (.int .i64 cd) (.bool true) (.int .u64 (key : Int)) (.int .u32 (ck : Int)) (.bool g) (.slice a n c)
        have hM' := Lib.hid (hM.put12 (.int .i64 m.tt) (.int .i64 m.fr) (.int .i64 5) (.int .i64 m.vol) (.int .i64 m.life) (.int .u64 (m.id : Int)) (.int .i64 cd) (.bool true) (.int .u64 (key : Int)) (.int .u32 (ck : Int)) (.bool g) (.slice a n c))
        refine hK.out _ _ ?_ (fun hN => ?_)
        · first | exact hT | exact hS | exact hS.alloc hS.size _ | exact hS.drew
        clear hK K
        try clear hT
        clear hS
        have hS := hN
        clear hN
        refine wpAnyH_done (by kernel_rfl) ?_ _
        have HSS := Lib.hid hS
        have HGM := Lib.hid hge
        clear hS hge m0 m1 m2 m3 m4 m5 m6 m7 m8 m9 m10 m11 n0 n1 n2 n3 n4 n5 n6 n7 n8 n9 n10 n11 hM
        go_simp
        go_wp2_with fail
        go_meet
        exact ⟨_, rfl, HGM.out, hM'.out, HSS.out⟩
      refine AllReadyH.cons (i := 7) rfl ?_ AllReadyH.nil
      intro K hK
      go_simp
      first | refine held_alloc (fun wa hM hBa => ?_) | refine held_alloc_drew (fun wa hM hBa => ?_)
      have hge := hS.size
      have hT : Below W4.heap.size W4 wa := by first | exact hS.trans (hBa.mono hS.size) | exact hBa
      clear hBa
      go_simp
      refine hK.out _ _ ?_ (fun hN => ?_)
      · first | exact hT | exact hS | exact hS.alloc hS.size _ | exact hS.drew
      clear hK K
      try clear hT
      clear hS
      have hS := hN
      clear hN
      refine wpAnyH_ready (rs := [6]) (by kernel_rfl) (by simp) ?_
      refine AllReadyH.cons (i := 6) rfl ?_ AllReadyH.nil
      intro K hK
      go_simp
      try rw [HWc.out]
      refine (ERp.out _).mono ?_
      rintro e wp ⟨rfl, Bp⟩
      have hT := hS.trans (Bp.mono hS.size)
      try replace hM := hM.below Bp hM.lt
      go_simp
      refine hK.out _ _ ?_ (fun hN => ?_)
      · first | exact hT | exact hS | exact hS.alloc hS.size _ | exact hS.drew
      clear hK K
      try clear hT
      clear hS
      have hS := hN
      clear hN
      refine wpAnyH_ready (rs := [8]) (by kernel_rfl) (by simp) ?_
      refine AllReadyH.cons (i := 8) rfl ?_ AllReadyH.nil
      intro K hK
      obtain ⟨m0, m1, m2, m3, m4, m5, m6, m7, m8, m9, m10, m11⟩ := hM.twelve
      obtain ⟨n0, n1, n2, n3, n4, n5, n6, n7, n8, n9, n10, n11⟩ := hM.twelve_frozen
      go_simp
      try rw [HWc.out]
      have hT := below_put12 hS hge (.int .i64 m.tt) (.int .i64 m.fr) (.int .i64 5) (.int .i64 m.vol) (.int .i64 m.life) (.int .u64 (m.id : Int)) (.int .i64 cd) (.bool true) (.int .u64 (key : Int)) (.int .u32 (ck : Int)) (.bool g) (.slice a n c)
      have hM' := Lib.hid (hM.put12 (.int .i64 m.tt) (.int .i64 m.fr) (.int .i64 5) (.int .i64 m.vol) (.int .i64 m.life) (.int .u64 (m.id : Int)) (.int .i64 cd) (.bool true) (.int .u64 (key : Int)) (.int .u32 (ck : Int)) (.bool g) (.slice a n c))
      refine hK.out _ _ ?_ (fun hN => ?_)
      · first | exact hT | exact hS | exact hS.alloc hS.size _ | exact hS.drew
      clear hK K
      try clear hT
      clear hS
      have hS := hN
      clear hN
      refine wpAnyH_done (by kernel_rfl) ?_ _
      have HSS := Lib.hid hS
      have HGM := Lib.hid hge
      clear hS hge m0 m1 m2 m3 m4 m5 m6 m7 m8 m9 m10 m11 n0 n1 n2 n3 n4 n5 n6 n7 n8 n9 n10 n11 hM
      go_simp
      go_wp2_with fail
      go_meet
      exact ⟨_, rfl, HGM.out, hM'.out, HSS.out⟩
    refine AllReadyH.cons (i := 7) rfl ?_ AllReadyH.nil
    intro K hK
    go_simp
    first | refine held_alloc (fun wa hM hBa => ?_) | refine held_alloc_drew (fun wa hM hBa => ?_)
    have hge := hS.size
    have hT : Below W4.heap.size W4 wa := by first | exact hS.trans (hBa.mono hS.size) | exact hBa
    clear hBa
    go_simp
    refine hK.out _ _ ?_ (fun hN => ?_)
    · first | exact hT | exact hS | exact hS.alloc hS.size _ | exact hS.drew
    clear hK K
    try clear hT
    clear hS
    have hS := hN
    clear hN
    refine wpAnyH_ready (rs := [1]) (by kernel_rfl) (by simp) ?_
    refine AllReadyH.cons (i := 1) rfl ?_ AllReadyH.nil
    intro K hK
    go_simp
    refine (EO.out _).mono ?_
    rintro e wo ⟨rfl, Bo⟩
    have hT := hS.trans (Bo.mono hS.size)
    try replace hM := hM.below Bo hM.lt
    go_simp
    refine hK.out _ _ ?_ (fun hN => ?_)
    · first | exact hT | exact hS | exact hS.alloc hS.size _ | exact hS.drew
    clear hK K
    try clear hT
    clear hS
    have hS := hN
    clear hN
    refine wpAnyH_ready (rs := [6]) (by kernel_rfl) (by simp) ?_
    refine AllReadyH.cons (i := 6) rfl ?_ AllReadyH.nil
    intro K hK
    go_simp
    try rw [HWc.out]
    refine (ERp.out _).mono ?_
    rintro e wp ⟨rfl, Bp⟩
    have hT := hS.trans (Bp.mono hS.size)
    try replace hM := hM.below Bp hM.lt
    go_simp
    refine hK.out _ _ ?_ (fun hN => ?_)
    · first | exact hT | exact hS | exact hS.alloc hS.size _ | exact hS.drew
    clear hK K
    try clear hT
    clear hS
    have hS := hN
    clear hN
    refine wpAnyH_ready (rs := [8]) (by kernel_rfl) (by simp) ?_
    refine AllReadyH.cons (i := 8) rfl ?_ AllReadyH.nil
    intro K hK
    obtain ⟨m0, m1, m2, m3, m4, m5, m6, m7, m8, m9, m10, m11⟩ := hM.twelve
    obtain ⟨n0, n1, n2, n3, n4, n5, n6, n7, n8, n9, n10, n11⟩ := hM.twelve_frozen
    go_simp
    try rw [HWc.out]
    have hT := below_put12 hS hge (.int .i64 m.tt) (.int .i64 m.fr) (.int .i64 5) (.int .i64 m.vol) (.int .i64 m.life) (.int .u64 (m.id : Int)) (.int .i64 cd) (.bool true) (.int .u64 (key : Int)) (.int .u32 (ck : Int)) (.bool g) (.slice a n c)
    have hM' := Lib.hid (hM.put12 (.int .i64 m.tt) (.int .i64 m.fr) (.int .i64 5) (.int .i64 m.vol) (.int .i64 m.life) (.int .u64 (m.id : Int)) (.int .i64 cd) (.bool true) (.int .u64 (key : Int)) (.int .u32 (ck : Int)) (.bool g) (.slice a n c))
    refine hK.out _ _ ?_ (fun hN => ?_)
    · first | exact hT | exact hS | exact hS.alloc hS.size _ | exact hS.drew
    clear hK K
    try clear hT
    clear hS
    have hS := hN
    clear hN
    refine wpAnyH_done (by kernel_rfl) ?_ _
    have HSS := Lib.hid hS
    have HGM := Lib.hid hge
    clear hS hge m0 m1 m2 m3 m4 m5 m6 m7 m8 m9 m10 m11 n0 n1 n2 n3 n4 n5 n6 n7 n8 n9 n10 n11 hM
    go_simp
    go_wp2_with fail
    go_meet
    exact ⟨_, rfl, HGM.out, hM'.out, HSS.out⟩
  case rest =>
    obtain ⟨M, rfl, hM0, hBM, hBc⟩ := hcut
    have HB5 := Lib.hid (HB4.out.trans (hBc.mono HB4.out.size))
    have HK5 := Lib.hid (HK4.out.below hBc HK4.out.lt)
    have HM5 := Lib.hid hBM
    clear hM0 hBM hBc HB4 HK4 HX4 HC HX4L ERp
    obtain ⟨m0, m1, m2, m3, m4, m5, m6, m7, m8, m9, m10, m11⟩ := HM5.out.twelve
    go_wp2_with fail
    refine (EP.out _ HB5.out).mono ?_
    rintro e w6 ⟨bb, cap, rfl, hcap, ho6, B6⟩
    have HB6 := Lib.hid (HB5.out.trans (B6.mono HB5.out.size))
    have HK6 := Lib.hid (HK5.out.below B6 HK5.out.lt)
    have HM6 := Lib.hid (HM5.out.below B6 HM5.out.lt)
    have ER := Lib.hid (wread_any (some ⟨bb, 0, none⟩) k cap L w6 (bsl_own ho6) hcap (by omega))
    clear m0 m1 m2 m3 m4 m5 m6 m7 m8 m9 m10 m11 B6 ho6 EP HM5 HK5 HB5
    go_wp2_with fail
    refine ER.out.mono ?_
    intro e w7 hms
    obtain ⟨B7, a1, c1, rfl, -, -, ho7⟩ := hms.is HG.out
    rw [show MsgR.vals { (⟨m.tt, m.fr, 5, m.vol, m.life, m.id, cd, true, key, ck, g, a, n, c, l⟩ : MsgR).bare with a := a1, c := c1 } = .agg #[.int .i64 m.tt, .int .i64 m.fr, .int .i64 5, .int .i64 m.vol, .int .i64 m.life, .int .u64 (m.id : Int), .int .i64 cd, .bool true, .int .u64 (key : Int), .int .u32 (ck : Int), .bool g, .slice a1 n c1] from rfl]
    have BA := (Below.refl w7.heap.size w7).alloc (Nat.le_refl _) (.cells #[.int .i64 m.tt, .int .i64 m.fr, .int .i64 5, .int .i64 m.vol, .int .i64 m.life, .int .u64 (m.id : Int), .int .i64 cd, .bool true, .int .u64 (key : Int), .int .u32 (ck : Int), .bool g, .slice a1 n c1] 29)
    have BB := B7.trans (BA.mono B7.size)
    have HB8 := Lib.hid (HB6.out.trans (BB.mono HB6.out.size))
    have HK8 := Lib.hid (HK6.out.below BB HK6.out.lt)
    have HM8 := Lib.hid (HM6.out.below BB HM6.out.lt)
    have HC8 := Lib.hid (Blk.made w7 29 #[.int .i64 m.tt, .int .i64 m.fr, .int .i64 5, .int .i64 m.vol, .int .i64 m.life, .int .u64 (m.id : Int), .int .i64 cd, .bool true, .int .u64 (key : Int), .int .u32 (ck : Int), .bool g, .slice a1 n c1])
    have HO8 := Lib.hid (own_below ho7 BA (Nat.le_refl _))
    clear hms B7 BA BB ho7 ER HM6 HK6 HB6 HG
    go_upto_region 11 with fail
    generalize (w7.alloc (.cells #[.int .i64 m.tt, .int .i64 m.fr, .int .i64 5, .int .i64 m.vol, .int .i64 m.life, .int .u64 (m.id : Int), .int .i64 cd, .bool true, .int .u64 (key : Int), .int .u32 (ck : Int), .bool g, .slice a1 n c1] 29)) = W8 at *
    obtain ⟨m0, m1, m2, m3, m4, m5, m6, m7, m8, m9, m10, m11⟩ := HM8.out.twelve
    go_wp2_with fail
    refine (ERb.out _).mono ?_
    rintro e w9 ⟨rfl, B9⟩
    have BA := (Below.refl w9.heap.size w9).alloc (Nat.le_refl _) (.cells #[.int .i64 m.fr, .int .i64 m.tt, .int .i64 5, .int .i64 m.vol, .int .i64 m.life, .int .u64 (m.id : Int), .int .i64 0, .bool false, .int .u64 0, .int .u32 0, .bool false, .slice none 0 0] 29)
    have BB := B9.trans (BA.mono B9.size)
    have HB10 := Lib.hid (HB8.out.trans (BB.mono HB8.out.size))
    have HK10 := Lib.hid (HK8.out.below BB HK8.out.lt)
    have HM10 := Lib.hid (HM8.out.below BB HM8.out.lt)
    have HC10 := Lib.hid (HC8.out.below BB HC8.out.lt)
    have HD10 := Lib.hid (Blk.made w9 29 #[.int .i64 m.fr, .int .i64 m.tt, .int .i64 5, .int .i64 m.vol, .int .i64 m.life, .int .u64 (m.id : Int), .int .i64 0, .bool false, .int .u64 0, .int .u32 0, .bool false, .slice none 0 0])
    have HO10 := Lib.hid (own_below HO8.out BB (Nat.le_refl _))
    clear B9 BA BB m0 m1 m2 m3 m4 m5 m6 m7 m8 m9 m10 m11 HB8 HK8 HM8 HC8 HO8
    go_upto_region 12 with fail
    generalize (w9.alloc (.cells #[.int .i64 m.fr, .int .i64 m.tt, .int .i64 5, .int .i64 m.vol, .int .i64 m.life, .int .u64 (m.id : Int), .int .i64 0, .bool false, .int .u64 0, .int .u32 0, .bool false, .slice none 0 0] 29)) = W10 at *
    have ES := Lib.hid (wsame_any (⟨m.tt, m.fr, 5, m.vol, m.life, m.id, cd, true, key, ck, g, a, n, c, l⟩ : MsgR) { (⟨m.tt, m.fr, 5, m.vol, m.life, m.id, cd, true, key, ck, g, a, n, c, l⟩ : MsgR).bare with a := a1, c := c1 } W10 ((HI'.out.below HB10.out).more HB10.out.size) (bsl_own HO10.out))
    rw [HSM.out] at ES
    rw [show MsgR.vals (⟨m.tt, m.fr, 5, m.vol, m.life, m.id, cd, true, key, ck, g, a, n, c, l⟩ : MsgR) = .agg #[.int .i64 m.tt, .int .i64 m.fr, .int .i64 5, .int .i64 m.vol, .int .i64 m.life, .int .u64 (m.id : Int), .int .i64 cd, .bool true, .int .u64 (key : Int), .int .u32 (ck : Int), .bool g, .slice a n c] from rfl, show MsgR.vals { (⟨m.tt, m.fr, 5, m.vol, m.life, m.id, cd, true, key, ck, g, a, n, c, l⟩ : MsgR).bare with a := a1, c := c1 } = .agg #[.int .i64 m.tt, .int .i64 m.fr, .int .i64 5, .int .i64 m.vol, .int .i64 m.life, .int .u64 (m.id : Int), .int .i64 cd, .bool true, .int .u64 (key : Int), .int .u32 (ck : Int), .bool g, .slice a1 n c1] from rfl] at ES
    clear HSM HO10
    obtain ⟨k0, k1, k2, k3, k4, k5, k6, k7, k8, k9, k10, k11⟩ := HK10.out.twelve
    obtain ⟨m0, m1, m2, m3, m4, m5, m6, m7, m8, m9, m10, m11⟩ := HM10.out.twelve
    obtain ⟨i0, i1, i2, i3, i4, i5, i6, i7, i8, i9, i10, i11⟩ := HC10.out.twelve
    obtain ⟨d0, d1, d2, d3, d4, d5, d6, d7, d8, d9, d10, d11⟩ := HD10.out.twelve
    go_wp2_with fail
    refine (code_c 0 _ (by decide)).mono ?_
    rintro e wa ⟨rfl, rfl⟩
    go_wp2_with fail
    refine (code_c 0 _ (by decide)).mono ?_
    rintro e wa ⟨rfl, rfl⟩
    go_wp2_with fail
    refine ES.out.mono ?_
    rintro e wb ⟨rfl, Bb⟩
    have HBF := Lib.hid (HB10.out.trans (Bb.mono HB10.out.size))
    have HK11 := Lib.hid (HK10.out.below Bb HK10.out.lt)
    have HM11 := Lib.hid (HM10.out.below Bb HM10.out.lt)
    have HD11 := Lib.hid (HD10.out.below Bb HD10.out.lt)
    clear Bb k0 k1 k2 k3 k4 k5 k6 k7 k8 k9 k10 k11 m0 m1 m2 m3 m4 m5 m6 m7 m8 m9 m10 m11 i0 i1 i2 i3 i4 i5 i6 i7 i8 i9 i10 i11 d0 d1 d2 d3 d4 d5 d6 d7 d8 d9 d10 d11
    obtain ⟨k0, k1, k2, k3, k4, k5, k6, k7, k8, k9, k10, k11⟩ := HK11.out.twelve
    obtain ⟨m0, m1, m2, m3, m4, m5, m6, m7, m8, m9, m10, m11⟩ := HM11.out.twelve
    obtain ⟨d0, d1, d2, d3, d4, d5, d6, d7, d8, d9, d10, d11⟩ := HD11.out.twelve
    go_wp2_with fail
    go_ret
    exact ⟨by simp, HBF.out⟩
set_option maxRecDepth 100000 in
set_option maxHeartbeats 8000000 in
theorem replies_false (m : MsgR) (cd : Int) (key ck : Nat) (g : Bool) (a : Option Addr) (n c : Nat) (l : List (BitVec 8)) (w : World) (h : MIn w w.heap.size m) (h' : BSl w w.heap.size a n l) (hnm : n ≤ 9223372036854775807) (hc0 : 0 ≤ cd) (hc1 : cd ≤ 255) (hkey : key < 18446744073709551616) (hck : ck < 4294967296) :
    Calls Try.prog 6 #[m.vals, .int .u8 cd, .bool false, .agg #[.int .u64 key, .int .u32 ck, .bool g, .slice a n c]] w fun e w' => e = .returned (.bool true) ∧ Below w.heap.size w w' := by
  have HI := Lib.hid h
  have HI' := Lib.hid h'
  have HV := Lib.hid (show m.vals = .agg #[.int .i64 m.fr, .int .i64 m.tt, .int .i64 m.kd, .int .i64 m.vol, .int .i64 m.life, .int .u64 m.id, .int .i64 m.cd, .bool m.has, .int .u64 m.key, .int .u32 m.ck, .bool m.g, .slice m.a m.n m.c] from rfl)
  rw [HV.out]
  have HB0 := Lib.hid (((Below.refl w.heap.size w).alloc (Nat.le_refl _) (.cells #[.int .i64 m.fr, .int .i64 m.tt, .int .i64 m.kd, .int .i64 m.vol, .int .i64 m.life, .int .u64 m.id, .int .i64 m.cd, .bool m.has, .int .u64 m.key, .int .u32 m.ck, .bool m.g, .slice m.a m.n m.c] 36)).alloc (by simp) (.cells #[.int .u64 key, .int .u32 ck, .bool g, .slice a n c] 34))
  obtain ⟨hK, hJ⟩ := made_two w 36 34 #[.int .i64 m.fr, .int .i64 m.tt, .int .i64 m.kd, .int .i64 m.vol, .int .i64 m.life, .int .u64 m.id, .int .i64 m.cd, .bool m.has, .int .u64 m.key, .int .u32 m.ck, .bool m.g, .slice m.a m.n m.c] #[.int .u64 key, .int .u32 ck, .bool g, .slice a n c]
  have HK0 := Lib.hid hK
  have HJ0 := Lib.hid hJ
  have HCD := Lib.hid (And.intro hc0 hc1)
  have HWc := Lib.hid (show IntKind.i64.wrap cd = cd from IntWalk.i64_in _ (by omega))
  clear h h' hK hJ
  by_cases hbig : 300 < m.n
  · have z : decide ((300 : Int) < (m.n : Int)) = true := decide_eq_true (by omega)
    clear hbig
    go_enter Try.func6, Try.ntmps6
    go_upto_region 1 with fail
    generalize ((w.alloc (.cells #[.int .i64 m.fr, .int .i64 m.tt, .int .i64 m.kd, .int .i64 m.vol, .int .i64 m.life, .int .u64 m.id, .int .i64 m.cd, .bool m.has, .int .u64 m.key, .int .u32 m.ck, .bool m.g, .slice m.a m.n m.c] 36)).alloc (.cells #[.int .u64 key, .int .u32 ck, .bool g, .slice a n c] 34)) = W0 at *
    go_wp2_with fail
    refine (wire_alive _).mono ?_
    rintro e w1 ⟨rfl, B1⟩
    have HB1 := Lib.hid (HB0.out.trans (B1.mono HB0.out.size))
    have HK1 := Lib.hid (HK0.out.below B1 HK0.out.lt)
    have HJ1 := Lib.hid (HJ0.out.below B1 HJ0.out.lt)
    clear B1
    obtain ⟨k0, k1, k2, k3, k4, k5, k6, k7, k8, k9, k10, k11⟩ := HK1.out.twelve
    obtain ⟨j0, j1, j2, j3⟩ := HJ1.out.four
    go_wp2_with fail
    go_ret
    exact ⟨rfl, HB1.out⟩
  have z : decide ((300 : Int) < (m.n : Int)) = false := decide_eq_false (by omega)
  have HN := Lib.hid (show m.n ≤ 300 from by omega)
  clear hbig
  by_cases hbig : 300 < n
  · have z' : decide ((300 : Int) < (n : Int)) = true := decide_eq_true (by omega)
    clear hbig
    go_enter Try.func6, Try.ntmps6
    go_upto_region 1 with fail
    generalize ((w.alloc (.cells #[.int .i64 m.fr, .int .i64 m.tt, .int .i64 m.kd, .int .i64 m.vol, .int .i64 m.life, .int .u64 m.id, .int .i64 m.cd, .bool m.has, .int .u64 m.key, .int .u32 m.ck, .bool m.g, .slice m.a m.n m.c] 36)).alloc (.cells #[.int .u64 key, .int .u32 ck, .bool g, .slice a n c] 34)) = W0 at *
    go_wp2_with fail
    refine (wire_alive _).mono ?_
    rintro e w1 ⟨rfl, B1⟩
    have HB1 := Lib.hid (HB0.out.trans (B1.mono HB0.out.size))
    have HK1 := Lib.hid (HK0.out.below B1 HK0.out.lt)
    have HJ1 := Lib.hid (HJ0.out.below B1 HJ0.out.lt)
    clear B1
    obtain ⟨k0, k1, k2, k3, k4, k5, k6, k7, k8, k9, k10, k11⟩ := HK1.out.twelve
    obtain ⟨j0, j1, j2, j3⟩ := HJ1.out.four
    go_wp2_with fail
    go_ret
    exact ⟨rfl, HB1.out⟩
  have z' : decide ((300 : Int) < (n : Int)) = false := decide_eq_false (by omega)
  have HN' := Lib.hid (show n ≤ 300 from by omega)
  clear hbig
  obtain ⟨q, hq⟩ : ∃ q, mchk m = q := ⟨_, rfl⟩
  have EK := Lib.hid fun (W : World) (B : Below w.heap.size w W) => rcheck_any m W ((HI.out.hb.below B).more B.size) (by have := HN.out; omega)
  rw [hq, HV.out] at EK
  by_cases hq0 : q ≠ 0
  · have z2 : ((q : Int) != 0) = true := by rw [bne_iff_ne]; omega
    clear hq0 hq
    go_enter Try.func6, Try.ntmps6
    go_upto_region 1 with fail
    generalize ((w.alloc (.cells #[.int .i64 m.fr, .int .i64 m.tt, .int .i64 m.kd, .int .i64 m.vol, .int .i64 m.life, .int .u64 m.id, .int .i64 m.cd, .bool m.has, .int .u64 m.key, .int .u32 m.ck, .bool m.g, .slice m.a m.n m.c] 36)).alloc (.cells #[.int .u64 key, .int .u32 ck, .bool g, .slice a n c] 34)) = W0 at *
    go_wp2_with fail
    refine (wire_alive _).mono ?_
    rintro e w1 ⟨rfl, B1⟩
    have HB1 := Lib.hid (HB0.out.trans (B1.mono HB0.out.size))
    have HK1 := Lib.hid (HK0.out.below B1 HK0.out.lt)
    have HJ1 := Lib.hid (HJ0.out.below B1 HJ0.out.lt)
    clear B1
    obtain ⟨k0, k1, k2, k3, k4, k5, k6, k7, k8, k9, k10, k11⟩ := HK1.out.twelve
    obtain ⟨j0, j1, j2, j3⟩ := HJ1.out.four
    go_wp2_with fail
    refine (EK.out _ HB1.out).mono ?_
    rintro e w2 ⟨rfl, B2⟩
    have HB2 := Lib.hid (HB1.out.trans (B2.mono HB1.out.size))
    have HK2 := Lib.hid (HK1.out.below B2 HK1.out.lt)
    have HJ2 := Lib.hid (HJ1.out.below B2 HJ1.out.lt)
    clear B2 k0 k1 k2 k3 k4 k5 k6 k7 k8 k9 k10 k11 j0 j1 j2 j3
    obtain ⟨k0, k1, k2, k3, k4, k5, k6, k7, k8, k9, k10, k11⟩ := HK2.out.twelve
    obtain ⟨j0, j1, j2, j3⟩ := HJ2.out.four
    go_wp2_with fail
    go_ret
    exact ⟨rfl, HB2.out⟩
  obtain rfl : q = 0 := Decidable.not_not.1 hq0
  clear hq0
  have HQ := Lib.hid hq
  clear hq
  obtain ⟨q, hq⟩ : ∃ q, chk g n = q := ⟨_, rfl⟩
  have EK' := Lib.hid fun (W : World) => ref3_check key ck g a n c W hnm
  rw [hq] at EK'
  by_cases hq0 : q ≠ 0
  · have z2 : ((q : Int) != 0) = true := by rw [bne_iff_ne]; omega
    clear hq0 hq
    go_enter Try.func6, Try.ntmps6
    go_upto_region 1 with fail
    generalize ((w.alloc (.cells #[.int .i64 m.fr, .int .i64 m.tt, .int .i64 m.kd, .int .i64 m.vol, .int .i64 m.life, .int .u64 m.id, .int .i64 m.cd, .bool m.has, .int .u64 m.key, .int .u32 m.ck, .bool m.g, .slice m.a m.n m.c] 36)).alloc (.cells #[.int .u64 key, .int .u32 ck, .bool g, .slice a n c] 34)) = W0 at *
    go_wp2_with fail
    refine (wire_alive _).mono ?_
    rintro e w1 ⟨rfl, B1⟩
    have HB1 := Lib.hid (HB0.out.trans (B1.mono HB0.out.size))
    have HK1 := Lib.hid (HK0.out.below B1 HK0.out.lt)
    have HJ1 := Lib.hid (HJ0.out.below B1 HJ0.out.lt)
    clear B1
    obtain ⟨k0, k1, k2, k3, k4, k5, k6, k7, k8, k9, k10, k11⟩ := HK1.out.twelve
    obtain ⟨j0, j1, j2, j3⟩ := HJ1.out.four
    go_wp2_with fail
    refine (EK.out _ HB1.out).mono ?_
    rintro e w2 ⟨rfl, B2⟩
    have HB2 := Lib.hid (HB1.out.trans (B2.mono HB1.out.size))
    have HK2 := Lib.hid (HK1.out.below B2 HK1.out.lt)
    have HJ2 := Lib.hid (HJ1.out.below B2 HJ1.out.lt)
    clear B2 k0 k1 k2 k3 k4 k5 k6 k7 k8 k9 k10 k11 j0 j1 j2 j3
    obtain ⟨k0, k1, k2, k3, k4, k5, k6, k7, k8, k9, k10, k11⟩ := HK2.out.twelve
    obtain ⟨j0, j1, j2, j3⟩ := HJ2.out.four
    go_wp2_with fail
    refine (EK'.out _).mono ?_
    rintro e w3 ⟨rfl, B3⟩
    have HB3 := Lib.hid (HB2.out.trans (B3.mono HB2.out.size))
    have HK3 := Lib.hid (HK2.out.below B3 HK2.out.lt)
    have HJ3 := Lib.hid (HJ2.out.below B3 HJ2.out.lt)
    clear B3 k0 k1 k2 k3 k4 k5 k6 k7 k8 k9 k10 k11 j0 j1 j2 j3
    obtain ⟨k0, k1, k2, k3, k4, k5, k6, k7, k8, k9, k10, k11⟩ := HK3.out.twelve
    obtain ⟨j0, j1, j2, j3⟩ := HJ3.out.four
    go_wp2_with fail
    go_ret
    exact ⟨rfl, HB3.out⟩
  obtain rfl : q = 0 := Decidable.not_not.1 hq0
  clear hq0
  have HQR := Lib.hid (mchk_reply m cd HQ.out HCD.out false 0 0 false none 0 0 [] (fun e => by cases e) (fun e => rfl))
  clear hq
  obtain ⟨k, hk⟩ : ∃ k, msLen (⟨m.tt, m.fr, 5, m.vol, m.life, m.id, cd, false, 0, 0, false, none, 0, 0, []⟩ : MsgR) + 4 = k := ⟨_, rfl⟩
  have hk1 : 28 ≤ k := by rw [← hk]; unfold msLen; split <;> omega
  have hk2 : k ≤ 10000 := by rw [← hk]; unfold msLen padn; have := HN'.out; dsimp only; split <;> omega
  have hml : (⟨m.tt, m.fr, 5, m.vol, m.life, m.id, cd, false, 0, 0, false, none, 0, 0, []⟩ : MsgR).l.length = (⟨m.tt, m.fr, 5, m.vol, m.life, m.id, cd, false, 0, 0, false, none, 0, 0, []⟩ : MsgR).n := rfl
  have EP := Lib.hid fun (W : World) (B : Below w.heap.size w W) => wbytes_ok (⟨m.tt, m.fr, 5, m.vol, m.life, m.id, cd, false, 0, 0, false, none, 0, 0, []⟩ : MsgR) W (BSl.nil _ _ none) (by have := HN'.out; dsimp only; omega) HI.out.id1 (by dsimp only; omega) (by dsimp only; omega) HQR.out
  rw [hk, show MsgR.vals (⟨m.tt, m.fr, 5, m.vol, m.life, m.id, cd, false, 0, 0, false, none, 0, 0, []⟩ : MsgR) = .agg #[.int .i64 m.tt, .int .i64 m.fr, .int .i64 5, .int .i64 m.vol, .int .i64 m.life, .int .u64 (m.id : Int), .int .i64 cd, .bool false, .int .u64 0, .int .u32 0, .bool false, .slice none 0 0] from rfl] at EP
  have EO := Lib.hid fun (W : World) => ofm_any m W
  rw [HV.out] at EO
  have ERp := Lib.hid fun (W : World) => wreply_any m cd false 0 0 false none 0 0 W
  have ERb := Lib.hid fun (W : World) => show Calls Try.prog 23 #[.agg #[.int .i64 m.tt, .int .i64 m.fr, .int .i64 5, .int .i64 m.vol, .int .i64 m.life, .int .u64 (m.id : Int), .int .i64 cd, .bool false, .int .u64 0, .int .u32 0, .bool false, .slice none 0 0], .int .i64 0, .bool false, .agg #[.int .u64 0, .int .u32 0, .bool false, .slice none 0 0]] W fun e w' => e = .returned (.agg #[.int .i64 m.fr, .int .i64 m.tt, .int .i64 5, .int .i64 m.vol, .int .i64 m.life, .int .u64 (m.id : Int), .int .i64 0, .bool false, .int .u64 0, .int .u32 0, .bool false, .slice none 0 0]) ∧ Below W.heap.size W w' from wreply_any (⟨m.tt, m.fr, 5, m.vol, m.life, m.id, cd, false, 0, 0, false, none, 0, 0, []⟩ : MsgR) 0 false 0 0 false none 0 0 W
  have HG := Lib.hid (msGet_bytes (⟨m.tt, m.fr, 5, m.vol, m.life, m.id, cd, false, 0, 0, false, none, 0, 0, []⟩ : MsgR) hml HI.out.id1 (by dsimp only; omega) (by dsimp only; omega) HQR.out)
  have HSM := Lib.hid fun (a1 : Option Addr) (c1 : Nat) => show mSame (⟨m.tt, m.fr, 5, m.vol, m.life, m.id, cd, false, 0, 0, false, none, 0, 0, []⟩ : MsgR) { (⟨m.tt, m.fr, 5, m.vol, m.life, m.id, cd, false, 0, 0, false, none, 0, 0, []⟩ : MsgR).bare with a := a1, c := c1 } = true from mSame_of rfl
  generalize msBytes (⟨m.tt, m.fr, 5, m.vol, m.life, m.id, cd, false, 0, 0, false, none, 0, 0, []⟩ : MsgR) = L at *
  clear hk hml
  go_enter Try.func6, Try.ntmps6
  go_upto_region 1 with fail
  generalize ((w.alloc (.cells #[.int .i64 m.fr, .int .i64 m.tt, .int .i64 m.kd, .int .i64 m.vol, .int .i64 m.life, .int .u64 m.id, .int .i64 m.cd, .bool m.has, .int .u64 m.key, .int .u32 m.ck, .bool m.g, .slice m.a m.n m.c] 36)).alloc (.cells #[.int .u64 key, .int .u32 ck, .bool g, .slice a n c] 34)) = W0 at *
  go_wp2_with fail
  refine (wire_alive _).mono ?_
  rintro e w1 ⟨rfl, B1⟩
  have HB1 := Lib.hid (HB0.out.trans (B1.mono HB0.out.size))
  have HK1 := Lib.hid (HK0.out.below B1 HK0.out.lt)
  have HJ1 := Lib.hid (HJ0.out.below B1 HJ0.out.lt)
  clear B1
  obtain ⟨k0, k1, k2, k3, k4, k5, k6, k7, k8, k9, k10, k11⟩ := HK1.out.twelve
  obtain ⟨j0, j1, j2, j3⟩ := HJ1.out.four
  go_wp2_with fail
  refine (EK.out _ HB1.out).mono ?_
  rintro e w2 ⟨rfl, B2⟩
  have HB2 := Lib.hid (HB1.out.trans (B2.mono HB1.out.size))
  have HK2 := Lib.hid (HK1.out.below B2 HK1.out.lt)
  have HJ2 := Lib.hid (HJ1.out.below B2 HJ1.out.lt)
  clear B2 k0 k1 k2 k3 k4 k5 k6 k7 k8 k9 k10 k11 j0 j1 j2 j3
  obtain ⟨k0, k1, k2, k3, k4, k5, k6, k7, k8, k9, k10, k11⟩ := HK2.out.twelve
  obtain ⟨j0, j1, j2, j3⟩ := HJ2.out.four
  go_wp2_with fail
  refine (EK'.out _).mono ?_
  rintro e w3 ⟨rfl, B3⟩
  have HB3 := Lib.hid (HB2.out.trans (B3.mono HB2.out.size))
  have HK3 := Lib.hid (HK2.out.below B3 HK2.out.lt)
  have HJ3 := Lib.hid (HJ2.out.below B3 HJ2.out.lt)
  clear B3 k0 k1 k2 k3 k4 k5 k6 k7 k8 k9 k10 k11 j0 j1 j2 j3
  obtain ⟨k0, k1, k2, k3, k4, k5, k6, k7, k8, k9, k10, k11⟩ := HK3.out.twelve
  obtain ⟨j0, j1, j2, j3⟩ := HJ3.out.four
  have BA := (Below.refl w3.heap.size w3).alloc (Nat.le_refl _) (.cells #[.int .u64 0, .int .u32 0, .bool false, .slice none 0 0] 27)
  have HB4 := Lib.hid (HB3.out.trans (BA.mono HB3.out.size))
  have HK4 := Lib.hid (HK3.out.below BA HK3.out.lt)
  have HX4 := Lib.hid (Blk.made w3 27 #[.int .u64 0, .int .u32 0, .bool false, .slice none 0 0])
  clear BA HB0 HK0 HJ0 HB1 HK1 HJ1 HB2 HK2 HJ2 HJ3
  go_upto_region 8 with fail
  generalize (w3.alloc (.cells #[.int .u64 0, .int .u32 0, .bool false, .slice none 0 0] 27)) = W4 at *
  clear k0 k1 k2 k3 k4 k5 k6 k7 k8 k9 k10 k11 j0 j1 j2 j3
  have HC := Lib.hid fun (W : World) (B : Below W4.heap.size W4 W) => And.intro (HK4.out.below B HK4.out.lt).twelve (HX4.out.below B HX4.out.lt).four
  have HX4L := Lib.hid HX4.out.lt
  go_cut [10] (fun vv wx => ∃ M, vv = .pointer (some ⟨M, 0, none⟩) ∧ W4.heap.size ≤ M ∧ Blk wx M 29 #[.int .i64 m.tt, .int .i64 m.fr, .int .i64 5, .int .i64 m.vol, .int .i64 m.life, .int .u64 (m.id : Int), .int .i64 cd, .bool false, .int .u64 0, .int .u32 0, .bool false, .slice none 0 0] ∧ Below W4.heap.size W4 wx)
  case first =>
    refine wp_region_held_drew (S := fun W => Below W4.heap.size W4 W) (by kernel_rfl) ((Below.refl _ _).drew) (fun hS => ?_)
    refine wpAnyH_take (i := 0) (v := ?_) rfl (by kernel_rfl) (by kernel_rfl) (by kernel_rfl) (fun _ _ _ h => h) (Or.inl ⟨by kernel_rfl, ?_⟩) hS ?_
    rotate_left
    · intro W hW; obtain ⟨⟨k0, k1, k2, k3, k4, k5, k6, k7, k8, k9, k10, k11⟩, q0, q1, q2, q3⟩ := HC.out W hW; go_simp; try with_reducible rfl
    refine wpAnyH_take (i := 2) (v := ?_) rfl (by kernel_rfl) (by kernel_rfl) (by kernel_rfl) (fun _ _ _ h => h) (Or.inl ⟨by kernel_rfl, ?_⟩) hS ?_
    rotate_left
    · intro W hW; go_simp; try with_reducible rfl
    refine wpAnyH_take (i := 3) (v := ?_) rfl (by kernel_rfl) (by kernel_rfl) (by kernel_rfl) (fun _ _ _ h => h) (Or.inl ⟨by kernel_rfl, ?_⟩) hS ?_
    rotate_left
    · intro W hW; first | (go_simp; rw [HWc.out]; with_reducible rfl) | (go_simp; with_reducible rfl) | go_simp
    refine wpAnyH_take (i := 4) (v := ?_) rfl (by kernel_rfl) (by kernel_rfl) (by kernel_rfl) (fun _ _ _ h => h) (Or.inl ⟨by kernel_rfl, ?_⟩) hS ?_
    rotate_left
    · intro W hW; go_simp; try with_reducible rfl
    refine wpAnyH_take (i := 5) (v := ?_) rfl (by kernel_rfl) (by kernel_rfl) (by kernel_rfl) (fun _ _ _ h => h) (Or.inl ⟨by kernel_rfl, ?_⟩) hS ?_
    rotate_left
    · intro W hW; obtain ⟨⟨k0, k1, k2, k3, k4, k5, k6, k7, k8, k9, k10, k11⟩, q0, q1, q2, q3⟩ := HC.out W hW; go_simp; try with_reducible rfl
    refine wpAnyH_ready (rs := [1, 7]) (by kernel_rfl) (by simp) ?_
    refine AllReadyH.cons (i := 1) rfl ?_ ?_
    · intro K hK
      go_simp
      refine (EO.out _).mono ?_
      rintro e wo ⟨rfl, Bo⟩
      have hT := hS.trans (Bo.mono hS.size)
      try replace hM := hM.below Bo hM.lt
      go_simp
      refine hK.out _ _ ?_ (fun hN => ?_)
      · first | exact hT | exact hS | exact hS.alloc hS.size _ | exact hS.drew
      clear hK K
      try clear hT
      clear hS
      have hS := hN
      clear hN
      refine wpAnyH_ready (rs := [6, 7]) (by kernel_rfl) (by simp) ?_
      refine AllReadyH.cons (i := 6) rfl ?_ ?_
      · intro K hK
        go_simp
        try rw [HWc.out]
        refine (ERp.out _).mono ?_
        rintro e wp ⟨rfl, Bp⟩
        have hT := hS.trans (Bp.mono hS.size)
        try replace hM := hM.below Bp hM.lt
        go_simp
        refine hK.out _ _ ?_ (fun hN => ?_)
        · first | exact hT | exact hS | exact hS.alloc hS.size _ | exact hS.drew
        clear hK K
        try clear hT
        clear hS
        have hS := hN
        clear hN
        refine wpAnyH_ready (rs := [7]) (by kernel_rfl) (by simp) ?_
        refine AllReadyH.cons (i := 7) rfl ?_ AllReadyH.nil
        intro K hK
        go_simp
        first | refine held_alloc (fun wa hM hBa => ?_) | refine held_alloc_drew (fun wa hM hBa => ?_)
        have hge := hS.size
        have hT : Below W4.heap.size W4 wa := by first | exact hS.trans (hBa.mono hS.size) | exact hBa
        clear hBa
        go_simp
        refine hK.out _ _ ?_ (fun hN => ?_)
        · first | exact hT | exact hS | exact hS.alloc hS.size _ | exact hS.drew
        clear hK K
        try clear hT
        clear hS
        have hS := hN
        clear hN
        refine wpAnyH_ready (rs := [8]) (by kernel_rfl) (by simp) ?_
        refine AllReadyH.cons (i := 8) rfl ?_ AllReadyH.nil
        intro K hK
        obtain ⟨m0, m1, m2, m3, m4, m5, m6, m7, m8, m9, m10, m11⟩ := hM.twelve
        obtain ⟨n0, n1, n2, n3, n4, n5, n6, n7, n8, n9, n10, n11⟩ := hM.twelve_frozen
        go_simp
        try rw [HWc.out]
        have hT := below_put12 hS hge (.int .i64 m.tt) (.int .i64 m.fr) (.int .i64 5) (.int .i64 m.vol) (.int .i64 m.life) (.int .u64 (m.id : Int)) (.int .i64 cd) (.bool false) (.int .u64 0) (.int .u32 0) (.bool false) (.slice none 0 0)
        have hM' := Lib.hid (hM.put12 (.int .i64 m.tt) (.int .i64 m.fr) (.int .i64 5) (.int .i64 m.vol) (.int .i64 m.life) (.int .u64 (m.id : Int)) (.int .i64 cd) (.bool false) (.int .u64 0) (.int .u32 0) (.bool false) (.slice none 0 0))
        refine hK.out _ _ ?_ (fun hN => ?_)
        · first | exact hT | exact hS | exact hS.alloc hS.size _ | exact hS.drew
        clear hK K
        try clear hT
        clear hS
        have hS := hN
        clear hN
        refine wpAnyH_done (by kernel_rfl) ?_ _
        have HSS := Lib.hid hS
        have HGM := Lib.hid hge
        clear hS hge m0 m1 m2 m3 m4 m5 m6 m7 m8 m9 m10 m11 n0 n1 n2 n3 n4 n5 n6 n7 n8 n9 n10 n11 hM
        go_simp
        go_wp2_with fail
        go_meet
        exact ⟨_, rfl, HGM.out, hM'.out, HSS.out⟩
      refine AllReadyH.cons (i := 7) rfl ?_ AllReadyH.nil
      intro K hK
      go_simp
      first | refine held_alloc (fun wa hM hBa => ?_) | refine held_alloc_drew (fun wa hM hBa => ?_)
      have hge := hS.size
      have hT : Below W4.heap.size W4 wa := by first | exact hS.trans (hBa.mono hS.size) | exact hBa
      clear hBa
      go_simp
      refine hK.out _ _ ?_ (fun hN => ?_)
      · first | exact hT | exact hS | exact hS.alloc hS.size _ | exact hS.drew
      clear hK K
      try clear hT
      clear hS
      have hS := hN
      clear hN
      refine wpAnyH_ready (rs := [6]) (by kernel_rfl) (by simp) ?_
      refine AllReadyH.cons (i := 6) rfl ?_ AllReadyH.nil
      intro K hK
      go_simp
      try rw [HWc.out]
      refine (ERp.out _).mono ?_
      rintro e wp ⟨rfl, Bp⟩
      have hT := hS.trans (Bp.mono hS.size)
      try replace hM := hM.below Bp hM.lt
      go_simp
      refine hK.out _ _ ?_ (fun hN => ?_)
      · first | exact hT | exact hS | exact hS.alloc hS.size _ | exact hS.drew
      clear hK K
      try clear hT
      clear hS
      have hS := hN
      clear hN
      refine wpAnyH_ready (rs := [8]) (by kernel_rfl) (by simp) ?_
      refine AllReadyH.cons (i := 8) rfl ?_ AllReadyH.nil
      intro K hK
      obtain ⟨m0, m1, m2, m3, m4, m5, m6, m7, m8, m9, m10, m11⟩ := hM.twelve
      obtain ⟨n0, n1, n2, n3, n4, n5, n6, n7, n8, n9, n10, n11⟩ := hM.twelve_frozen
      go_simp
      try rw [HWc.out]
      have hT := below_put12 hS hge (.int .i64 m.tt) (.int .i64 m.fr) (.int .i64 5) (.int .i64 m.vol) (.int .i64 m.life) (.int .u64 (m.id : Int)) (.int .i64 cd) (.bool false) (.int .u64 0) (.int .u32 0) (.bool false) (.slice none 0 0)
      have hM' := Lib.hid (hM.put12 (.int .i64 m.tt) (.int .i64 m.fr) (.int .i64 5) (.int .i64 m.vol) (.int .i64 m.life) (.int .u64 (m.id : Int)) (.int .i64 cd) (.bool false) (.int .u64 0) (.int .u32 0) (.bool false) (.slice none 0 0))
      refine hK.out _ _ ?_ (fun hN => ?_)
      · first | exact hT | exact hS | exact hS.alloc hS.size _ | exact hS.drew
      clear hK K
      try clear hT
      clear hS
      have hS := hN
      clear hN
      refine wpAnyH_done (by kernel_rfl) ?_ _
      have HSS := Lib.hid hS
      have HGM := Lib.hid hge
      clear hS hge m0 m1 m2 m3 m4 m5 m6 m7 m8 m9 m10 m11 n0 n1 n2 n3 n4 n5 n6 n7 n8 n9 n10 n11 hM
      go_simp
      go_wp2_with fail
      go_meet
      exact ⟨_, rfl, HGM.out, hM'.out, HSS.out⟩
    refine AllReadyH.cons (i := 7) rfl ?_ AllReadyH.nil
    intro K hK
    go_simp
    first | refine held_alloc (fun wa hM hBa => ?_) | refine held_alloc_drew (fun wa hM hBa => ?_)
    have hge := hS.size
    have hT : Below W4.heap.size W4 wa := by first | exact hS.trans (hBa.mono hS.size) | exact hBa
    clear hBa
    go_simp
    refine hK.out _ _ ?_ (fun hN => ?_)
    · first | exact hT | exact hS | exact hS.alloc hS.size _ | exact hS.drew
    clear hK K
    try clear hT
    clear hS
    have hS := hN
    clear hN
    refine wpAnyH_ready (rs := [1]) (by kernel_rfl) (by simp) ?_
    refine AllReadyH.cons (i := 1) rfl ?_ AllReadyH.nil
    intro K hK
    go_simp
    refine (EO.out _).mono ?_
    rintro e wo ⟨rfl, Bo⟩
    have hT := hS.trans (Bo.mono hS.size)
    try replace hM := hM.below Bo hM.lt
    go_simp
    refine hK.out _ _ ?_ (fun hN => ?_)
    · first | exact hT | exact hS | exact hS.alloc hS.size _ | exact hS.drew
    clear hK K
    try clear hT
    clear hS
    have hS := hN
    clear hN
    refine wpAnyH_ready (rs := [6]) (by kernel_rfl) (by simp) ?_
    refine AllReadyH.cons (i := 6) rfl ?_ AllReadyH.nil
    intro K hK
    go_simp
    try rw [HWc.out]
    refine (ERp.out _).mono ?_
    rintro e wp ⟨rfl, Bp⟩
    have hT := hS.trans (Bp.mono hS.size)
    try replace hM := hM.below Bp hM.lt
    go_simp
    refine hK.out _ _ ?_ (fun hN => ?_)
    · first | exact hT | exact hS | exact hS.alloc hS.size _ | exact hS.drew
    clear hK K
    try clear hT
    clear hS
    have hS := hN
    clear hN
    refine wpAnyH_ready (rs := [8]) (by kernel_rfl) (by simp) ?_
    refine AllReadyH.cons (i := 8) rfl ?_ AllReadyH.nil
    intro K hK
    obtain ⟨m0, m1, m2, m3, m4, m5, m6, m7, m8, m9, m10, m11⟩ := hM.twelve
    obtain ⟨n0, n1, n2, n3, n4, n5, n6, n7, n8, n9, n10, n11⟩ := hM.twelve_frozen
    go_simp
    try rw [HWc.out]
    have hT := below_put12 hS hge (.int .i64 m.tt) (.int .i64 m.fr) (.int .i64 5) (.int .i64 m.vol) (.int .i64 m.life) (.int .u64 (m.id : Int)) (.int .i64 cd) (.bool false) (.int .u64 0) (.int .u32 0) (.bool false) (.slice none 0 0)
    have hM' := Lib.hid (hM.put12 (.int .i64 m.tt) (.int .i64 m.fr) (.int .i64 5) (.int .i64 m.vol) (.int .i64 m.life) (.int .u64 (m.id : Int)) (.int .i64 cd) (.bool false) (.int .u64 0) (.int .u32 0) (.bool false) (.slice none 0 0))
    refine hK.out _ _ ?_ (fun hN => ?_)
    · first | exact hT | exact hS | exact hS.alloc hS.size _ | exact hS.drew
    clear hK K
    try clear hT
    clear hS
    have hS := hN
    clear hN
    refine wpAnyH_done (by kernel_rfl) ?_ _
    have HSS := Lib.hid hS
    have HGM := Lib.hid hge
    clear hS hge m0 m1 m2 m3 m4 m5 m6 m7 m8 m9 m10 m11 n0 n1 n2 n3 n4 n5 n6 n7 n8 n9 n10 n11 hM
    go_simp
    go_wp2_with fail
    go_meet
    exact ⟨_, rfl, HGM.out, hM'.out, HSS.out⟩
  case rest =>
    obtain ⟨M, rfl, hM0, hBM, hBc⟩ := hcut
    have HB5 := Lib.hid (HB4.out.trans (hBc.mono HB4.out.size))
    have HK5 := Lib.hid (HK4.out.below hBc HK4.out.lt)
    have HM5 := Lib.hid hBM
    clear hM0 hBM hBc HB4 HK4 HX4 HC HX4L ERp
    obtain ⟨m0, m1, m2, m3, m4, m5, m6, m7, m8, m9, m10, m11⟩ := HM5.out.twelve
    go_wp2_with fail
    refine (EP.out _ HB5.out).mono ?_
    rintro e w6 ⟨bb, cap, rfl, hcap, ho6, B6⟩
    have HB6 := Lib.hid (HB5.out.trans (B6.mono HB5.out.size))
    have HK6 := Lib.hid (HK5.out.below B6 HK5.out.lt)
    have HM6 := Lib.hid (HM5.out.below B6 HM5.out.lt)
    have ER := Lib.hid (wread_any (some ⟨bb, 0, none⟩) k cap L w6 (bsl_own ho6) hcap (by omega))
    clear m0 m1 m2 m3 m4 m5 m6 m7 m8 m9 m10 m11 B6 ho6 EP HM5 HK5 HB5
    go_wp2_with fail
    refine ER.out.mono ?_
    intro e w7 hms
    obtain ⟨B7, a1, c1, rfl, -, -, ho7⟩ := hms.is HG.out
    rw [show MsgR.vals { (⟨m.tt, m.fr, 5, m.vol, m.life, m.id, cd, false, 0, 0, false, none, 0, 0, []⟩ : MsgR).bare with a := a1, c := c1 } = .agg #[.int .i64 m.tt, .int .i64 m.fr, .int .i64 5, .int .i64 m.vol, .int .i64 m.life, .int .u64 (m.id : Int), .int .i64 cd, .bool false, .int .u64 0, .int .u32 0, .bool false, .slice a1 0 c1] from rfl]
    have BA := (Below.refl w7.heap.size w7).alloc (Nat.le_refl _) (.cells #[.int .i64 m.tt, .int .i64 m.fr, .int .i64 5, .int .i64 m.vol, .int .i64 m.life, .int .u64 (m.id : Int), .int .i64 cd, .bool false, .int .u64 0, .int .u32 0, .bool false, .slice a1 0 c1] 29)
    have BB := B7.trans (BA.mono B7.size)
    have HB8 := Lib.hid (HB6.out.trans (BB.mono HB6.out.size))
    have HK8 := Lib.hid (HK6.out.below BB HK6.out.lt)
    have HM8 := Lib.hid (HM6.out.below BB HM6.out.lt)
    have HC8 := Lib.hid (Blk.made w7 29 #[.int .i64 m.tt, .int .i64 m.fr, .int .i64 5, .int .i64 m.vol, .int .i64 m.life, .int .u64 (m.id : Int), .int .i64 cd, .bool false, .int .u64 0, .int .u32 0, .bool false, .slice a1 0 c1])
    have HO8 := Lib.hid (own_below ho7 BA (Nat.le_refl _))
    clear hms B7 BA BB ho7 ER HM6 HK6 HB6 HG
    go_upto_region 11 with fail
    generalize (w7.alloc (.cells #[.int .i64 m.tt, .int .i64 m.fr, .int .i64 5, .int .i64 m.vol, .int .i64 m.life, .int .u64 (m.id : Int), .int .i64 cd, .bool false, .int .u64 0, .int .u32 0, .bool false, .slice a1 0 c1] 29)) = W8 at *
    obtain ⟨m0, m1, m2, m3, m4, m5, m6, m7, m8, m9, m10, m11⟩ := HM8.out.twelve
    go_wp2_with fail
    refine (ERb.out _).mono ?_
    rintro e w9 ⟨rfl, B9⟩
    have BA := (Below.refl w9.heap.size w9).alloc (Nat.le_refl _) (.cells #[.int .i64 m.fr, .int .i64 m.tt, .int .i64 5, .int .i64 m.vol, .int .i64 m.life, .int .u64 (m.id : Int), .int .i64 0, .bool false, .int .u64 0, .int .u32 0, .bool false, .slice none 0 0] 29)
    have BB := B9.trans (BA.mono B9.size)
    have HB10 := Lib.hid (HB8.out.trans (BB.mono HB8.out.size))
    have HK10 := Lib.hid (HK8.out.below BB HK8.out.lt)
    have HM10 := Lib.hid (HM8.out.below BB HM8.out.lt)
    have HC10 := Lib.hid (HC8.out.below BB HC8.out.lt)
    have HD10 := Lib.hid (Blk.made w9 29 #[.int .i64 m.fr, .int .i64 m.tt, .int .i64 5, .int .i64 m.vol, .int .i64 m.life, .int .u64 (m.id : Int), .int .i64 0, .bool false, .int .u64 0, .int .u32 0, .bool false, .slice none 0 0])
    have HO10 := Lib.hid (own_below HO8.out BB (Nat.le_refl _))
    clear B9 BA BB m0 m1 m2 m3 m4 m5 m6 m7 m8 m9 m10 m11 HB8 HK8 HM8 HC8 HO8
    go_upto_region 12 with fail
    generalize (w9.alloc (.cells #[.int .i64 m.fr, .int .i64 m.tt, .int .i64 5, .int .i64 m.vol, .int .i64 m.life, .int .u64 (m.id : Int), .int .i64 0, .bool false, .int .u64 0, .int .u32 0, .bool false, .slice none 0 0] 29)) = W10 at *
    have ES := Lib.hid (wsame_any (⟨m.tt, m.fr, 5, m.vol, m.life, m.id, cd, false, 0, 0, false, none, 0, 0, []⟩ : MsgR) { (⟨m.tt, m.fr, 5, m.vol, m.life, m.id, cd, false, 0, 0, false, none, 0, 0, []⟩ : MsgR).bare with a := a1, c := c1 } W10 (BSl.nil _ _ none) (bsl_own HO10.out))
    rw [HSM.out] at ES
    rw [show MsgR.vals (⟨m.tt, m.fr, 5, m.vol, m.life, m.id, cd, false, 0, 0, false, none, 0, 0, []⟩ : MsgR) = .agg #[.int .i64 m.tt, .int .i64 m.fr, .int .i64 5, .int .i64 m.vol, .int .i64 m.life, .int .u64 (m.id : Int), .int .i64 cd, .bool false, .int .u64 0, .int .u32 0, .bool false, .slice none 0 0] from rfl, show MsgR.vals { (⟨m.tt, m.fr, 5, m.vol, m.life, m.id, cd, false, 0, 0, false, none, 0, 0, []⟩ : MsgR).bare with a := a1, c := c1 } = .agg #[.int .i64 m.tt, .int .i64 m.fr, .int .i64 5, .int .i64 m.vol, .int .i64 m.life, .int .u64 (m.id : Int), .int .i64 cd, .bool false, .int .u64 0, .int .u32 0, .bool false, .slice a1 0 c1] from rfl] at ES
    clear HSM HO10
    obtain ⟨k0, k1, k2, k3, k4, k5, k6, k7, k8, k9, k10, k11⟩ := HK10.out.twelve
    obtain ⟨m0, m1, m2, m3, m4, m5, m6, m7, m8, m9, m10, m11⟩ := HM10.out.twelve
    obtain ⟨i0, i1, i2, i3, i4, i5, i6, i7, i8, i9, i10, i11⟩ := HC10.out.twelve
    obtain ⟨d0, d1, d2, d3, d4, d5, d6, d7, d8, d9, d10, d11⟩ := HD10.out.twelve
    go_wp2_with fail
    refine (code_c 0 _ (by decide)).mono ?_
    rintro e wa ⟨rfl, rfl⟩
    go_wp2_with fail
    refine (code_c 0 _ (by decide)).mono ?_
    rintro e wa ⟨rfl, rfl⟩
    go_wp2_with fail
    refine ES.out.mono ?_
    rintro e wb ⟨rfl, Bb⟩
    have HBF := Lib.hid (HB10.out.trans (Bb.mono HB10.out.size))
    have HK11 := Lib.hid (HK10.out.below Bb HK10.out.lt)
    have HM11 := Lib.hid (HM10.out.below Bb HM10.out.lt)
    have HD11 := Lib.hid (HD10.out.below Bb HD10.out.lt)
    clear Bb k0 k1 k2 k3 k4 k5 k6 k7 k8 k9 k10 k11 m0 m1 m2 m3 m4 m5 m6 m7 m8 m9 m10 m11 i0 i1 i2 i3 i4 i5 i6 i7 i8 i9 i10 i11 d0 d1 d2 d3 d4 d5 d6 d7 d8 d9 d10 d11
    obtain ⟨k0, k1, k2, k3, k4, k5, k6, k7, k8, k9, k10, k11⟩ := HK11.out.twelve
    obtain ⟨m0, m1, m2, m3, m4, m5, m6, m7, m8, m9, m10, m11⟩ := HM11.out.twelve
    obtain ⟨d0, d1, d2, d3, d4, d5, d6, d7, d8, d9, d10, d11⟩ := HD11.out.twelve
    go_wp2_with fail
    go_ret
    exact ⟨by simp, HBF.out⟩
theorem replies_all (m : MsgR) (cd : Int) (has : Bool) (key ck : Nat) (g : Bool) (a : Option Addr) (n c : Nat) (l : List (BitVec 8)) (w : World) (h : MIn w w.heap.size m) (h' : BSl w w.heap.size a n l) (hnm : n ≤ 9223372036854775807) (hc0 : 0 ≤ cd) (hc1 : cd ≤ 255) (hkey : key < 18446744073709551616) (hck : ck < 4294967296) :
    Calls Try.prog 6 #[m.vals, .int .u8 cd, .bool has, .agg #[.int .u64 key, .int .u32 ck, .bool g, .slice a n c]] w fun e w' => e = .returned (.bool true) ∧ Below w.heap.size w w' := by
  cases has
  · exact replies_false m cd key ck g a n c l w h h' hnm hc0 hc1 hkey hck
  · exact replies_true m cd key ck g a n c l w h h' hnm hc0 hc1 hkey hck
end Go.Proofs.Ytpkfjnhjcdcoaaa
