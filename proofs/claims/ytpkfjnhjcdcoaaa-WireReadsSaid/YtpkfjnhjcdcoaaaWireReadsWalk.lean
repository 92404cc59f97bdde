/-
  The walk of corncriblaw14.WireReads.
-/
import Derived.Test.YtpkfjnhjcdcoaaaWirAlive
import Derived.Test.YtpkfjnhjcdcoaaaWirRef
import Derived.Test.YtpkfjnhjcdcoaaaWirLaw
namespace Go.Proofs.Ytpkfjnhjcdcoaaa
open Go.RowKit
set_option linter.unusedVariables false

set_option maxRecDepth 100000 in
set_option maxHeartbeats 4000000 in
theorem reads_all (a : Option Addr) (n c : Nat) (l : List (BitVec 8)) (w : World) (h : BSl w w.heap.size a n l) (hc : n ≤ c) :
    Calls Try.prog 3 #[.slice a n c] w fun e w' => e = .returned (.bool true) ∧ Below w.heap.size w w' := by
  by_cases hbig : 6000 < n
  · go_enter Try.func3, Try.ntmps3
    go_wp2_with fail
    refine (wire_alive _).mono ?_
    rintro e w1 ⟨rfl, B1⟩
    go_wp2_with fail
    go_ret
    exact ⟨rfl, B1⟩
  have hn : n ≤ 6000 := by omega
  clear hbig
  have hlen := h.1
  obtain ⟨g1, g2, -⟩ := msGet_le l
  have R1 := Lib.hid fun (W : World) (B : Below w.heap.size w W) => wread_any a n c l W ((h.below B).more B.size) hc (by omega)
  have R2 := Lib.hid fun (W : World) (B : Below w.heap.size w W) => rmread_any a n c l W ((h.below B).more B.size) hc (by omega)
  go_enter Try.func3, Try.ntmps3
  go_wp2_with fail
  refine (wire_alive _).mono ?_
  rintro e w1 ⟨rfl, B1⟩
  have HB1 := Lib.hid B1
  clear B1
  go_wp2_with fail
  refine (R1.out w1 HB1.out).mono ?_
  rintro e w2 ⟨B2, m, cf, hm, rfl, hml, -, ho2⟩
  have HB2 := Lib.hid (HB1.out.trans (B2.mono HB1.out.size))
  rw [hm] at g1 g2
  have HMN := Lib.hid (show m.n ≤ 1099511627776 from by
    have h6 : m.l.length ≤ l.length := g2
    omega)
  clear hml g2
  unfold MsgR.vals
  have HB3 := Lib.hid (HB2.out.alloc HB2.out.size (.cells #[.int .i64 m.fr, .int .i64 m.tt, .int .i64 m.kd, .int .i64 m.vol, .int .i64 m.life, .int .u64 m.id, .int .i64 m.cd, .bool m.has, .int .u64 m.key, .int .u32 m.ck, .bool m.g, .slice m.a m.n m.c] 29))
  have HM3 := Lib.hid (Blk.made w2 29 #[.int .i64 m.fr, .int .i64 m.tt, .int .i64 m.kd, .int .i64 m.vol, .int .i64 m.life, .int .u64 m.id, .int .i64 m.cd, .bool m.has, .int .u64 m.key, .int .u32 m.ck, .bool m.g, .slice m.a m.n m.c])
  have HS3 := Lib.hid ((bsl_own ho2).below ((Below.refl w2.heap.size w2).alloc (Nat.le_refl _) (.cells #[.int .i64 m.fr, .int .i64 m.tt, .int .i64 m.kd, .int .i64 m.vol, .int .i64 m.life, .int .u64 m.id, .int .i64 m.cd, .bool m.has, .int .u64 m.key, .int .u32 m.ck, .bool m.g, .slice m.a m.n m.c] 29)))
  clear B2 ho2 HB1 HB2
  go_upto_region 6 with fail
  generalize (w2.alloc (.cells #[.int .i64 m.fr, .int .i64 m.tt, .int .i64 m.kd, .int .i64 m.vol, .int .i64 m.life, .int .u64 m.id, .int .i64 m.cd, .bool m.has, .int .u64 m.key, .int .u32 m.ck, .bool m.g, .slice m.a m.n m.c] 29)) = w3 at *
  go_wp2_with fail
  refine (R2.out w3 HB3.out).mono ?_
  rintro e w4 ⟨B4, m', cf', hm', rfl, -, -, ho4⟩
  rw [hm] at hm'
  injection hm' with hbb hcf
  subst hcf
  have HB4 := Lib.hid (HB3.out.trans (B4.mono HB3.out.size))
  have HM4 := Lib.hid (HM3.out.below B4 HM3.out.lt)
  have HS4 := Lib.hid ((HS3.out.more (Nat.le_of_lt HM3.out.lt)).below B4)
  have HL3 := Lib.hid (show w3.heap.size ≤ w4.heap.size from B4.size)
  have BA := (Below.refl w4.heap.size w4).alloc (Nat.le_refl _) (.cells #[.int .i64 m'.fr, .int .i64 m'.tt, .int .i64 m'.kd, .int .i64 m'.vol, .int .i64 m'.life, .int .u64 m'.id, .int .i64 m'.cd, .bool m'.has, .int .u64 m'.key, .int .u32 m'.ck, .bool m'.g, .slice m'.a m'.n m'.c] 36)
  have HB5 := Lib.hid (HB4.out.trans (BA.mono HB4.out.size))
  have HM5 := Lib.hid (HM4.out.below BA HM4.out.lt)
  have HN5 := Lib.hid (Blk.made w4 36 #[.int .i64 m'.fr, .int .i64 m'.tt, .int .i64 m'.kd, .int .i64 m'.vol, .int .i64 m'.life, .int .u64 m'.id, .int .i64 m'.cd, .bool m'.has, .int .u64 m'.key, .int .u32 m'.ck, .bool m'.g, .slice m'.a m'.n m'.c])
  have HS5 := Lib.hid ((HS4.out.more HL3.out).below BA)
  have HT5 := Lib.hid ((bsl_own ho4).below BA)
  have HL5 := Lib.hid BA.size
  have hsame := Lib.hid (mSame_of hbb)
  clear B4 ho4 BA R1 R2 HB3 HM3 HS3 HB4 HM4 HS4 hm hbb
  unfold MsgR.vals
  go_upto_region 7 with fail
  generalize (w4.alloc (.cells #[.int .i64 m'.fr, .int .i64 m'.tt, .int .i64 m'.kd, .int .i64 m'.vol, .int .i64 m'.life, .int .u64 m'.id, .int .i64 m'.cd, .bool m'.has, .int .u64 m'.key, .int .u32 m'.ck, .bool m'.g, .slice m'.a m'.n m'.c] 36)) = W5 at *
  have HC := Lib.hid fun (W : World) (B : Below W5.heap.size W5 W) => And.intro (HM5.out.below B HM5.out.lt).twelve (HN5.out.below B HN5.out.lt).twelve
  have ES := Lib.hid fun (W : World) (B : Below W5.heap.size W5 W) => rsame_any m m' W ((((HS5.out.more HL5.out).below B).more B.size)) ((HT5.out.more HL5.out).below B |>.more B.size) HMN.out
  rw [hsame.out] at ES
  unfold MsgR.vals at ES
  have ET := Lib.hid fun (W : World) => tom_any m W
  unfold MsgR.vals at ET
  have z : ((cf : Int) == (cf : Int)) = true := beq_self_eq_true _
  refine wp_region_held_drew (S := fun W => Below W5.heap.size W5 W) (by kernel_rfl) ((Below.refl _ _).drew) (fun hS => ?_)
  refine wpAnyH_take (i := 0) (v := ?_) rfl (by kernel_rfl) (by kernel_rfl) (by kernel_rfl) (fun _ _ _ h => h) (Or.inl ⟨by kernel_rfl, ?_⟩) hS ?_
  rotate_left
  · intro W hW; go_simp; try with_reducible rfl
  refine wpAnyH_take (i := 2) (v := ?_) rfl (by kernel_rfl) (by kernel_rfl) (by kernel_rfl) (fun _ _ _ h => h) (Or.inl ⟨by kernel_rfl, ?_⟩) hS ?_
  rotate_left
  · intro W hW; go_simp; try with_reducible rfl
  refine wpAnyH_ready (rs := [1]) (by kernel_rfl) (by simp) ?_
  refine AllReadyH.cons (i := 1) rfl ?_ AllReadyH.nil
  intro K hK
  go_simp
  refine (code_c cf _ g1).mono ?_
  rintro e w6 ⟨rfl, rfl⟩
  go_simp
  refine hK.out _ _ ?_ (fun hN => ?_)
  · first | exact hT | exact hS | exact hS.alloc hS.size _ | exact hS.drew
  clear hK K
  try clear hT
  clear hS
  have hS := hN
  clear hN
  refine wpAnyH_take (i := 3) (v := ?_) rfl (by kernel_rfl) (by kernel_rfl) (by kernel_rfl) (fun _ _ _ h => h) (Or.inl ⟨by kernel_rfl, ?_⟩) hS ?_
  rotate_left
  · intro W hW; go_simp; try with_reducible rfl
  refine wpAnyH_take (i := 4) (v := ?_) rfl (by kernel_rfl) (by kernel_rfl) (by kernel_rfl) (fun _ _ _ h => h) (Or.inl ⟨by kernel_rfl, ?_⟩) hS ?_
  rotate_left
  · intro W hW; go_simp; try with_reducible rfl
  refine wpAnyH_take (i := 5) (v := ?_) rfl (by kernel_rfl) (by kernel_rfl) (by kernel_rfl) (fun _ _ _ h => h) (Or.inl ⟨by kernel_rfl, ?_⟩) hS ?_
  rotate_left
  · intro W hW; obtain ⟨⟨k0, k1, k2, k3, k4, k5, k6, k7, k8, k9, k10, k11⟩, j0, j1, j2, j3, j4, j5, j6, j7, j8, j9, j10, j11⟩ := HC.out W hW; go_simp; try with_reducible rfl
  refine wpAnyH_take (i := 7) (v := ?_) rfl (by kernel_rfl) (by kernel_rfl) (by kernel_rfl) (fun _ _ _ h => h) (Or.inl ⟨by kernel_rfl, ?_⟩) hS ?_
  rotate_left
  · intro W hW; obtain ⟨⟨k0, k1, k2, k3, k4, k5, k6, k7, k8, k9, k10, k11⟩, j0, j1, j2, j3, j4, j5, j6, j7, j8, j9, j10, j11⟩ := HC.out W hW; go_simp; try with_reducible rfl
  refine wpAnyH_ready (rs := [6]) (by kernel_rfl) (by simp) ?_
  refine AllReadyH.cons (i := 6) rfl ?_ AllReadyH.nil
  intro K hK
  go_simp
  refine (ET.out _).mono ?_
  rintro e w7 ⟨rfl, B7⟩
  have hT := hS.trans (B7.mono hS.size)
  go_simp
  refine hK.out _ _ ?_ (fun hN => ?_)
  · first | exact hT | exact hS | exact hS.alloc hS.size _ | exact hS.drew
  clear hK K
  try clear hT
  clear hS
  have hS := hN
  clear hN
  refine wpAnyH_ready (rs := [8]) (by kernel_rfl) (by simp) ?_
  refine AllReadyH.cons (i := 8) rfl ?_ AllReadyH.nil
  intro K hK
  go_simp
  refine (ES.out _ hS).mono ?_
  rintro e w8 ⟨rfl, B8⟩
  have hT := hS.trans (B8.mono hS.size)
  go_simp
  refine hK.out _ _ ?_ (fun hN => ?_)
  · first | exact hT | exact hS | exact hS.alloc hS.size _ | exact hS.drew
  clear hK K
  try clear hT
  clear hS
  have hS := hN
  clear hN
  refine wpAnyH_take (i := 9) (v := ?_) rfl (by kernel_rfl) (by kernel_rfl) (by kernel_rfl) (fun _ _ _ h => h) (Or.inl ⟨by kernel_rfl, ?_⟩) hS ?_
  rotate_left
  · intro W hW; go_simp; try with_reducible rfl
  refine wpAnyH_take (i := 10) (v := ?_) rfl (by kernel_rfl) (by kernel_rfl) (by kernel_rfl) (fun _ _ _ h => h) (Or.inl ⟨by kernel_rfl, ?_⟩) hS ?_
  rotate_left
  · intro W hW; go_simp; try with_reducible rfl
  refine wpAnyH_done (by kernel_rfl) ?_ _
  go_simp
  have HF := Lib.hid (HB5.out.trans (hS.mono HB5.out.size))
  clear hS
  go_wp2_with fail
  go_ret
  exact ⟨rfl, HF.out⟩
end Go.Proofs.Ytpkfjnhjcdcoaaa
