/-
  The document's Keep.
-/
import Derived.Test.YtboadalojimdlaaOnceRef
namespace Go.Proofs.Ytboadalojimdlaa
open Go.RowKit

set_option maxRecDepth 100000 in
set_option maxHeartbeats 2000000 in
theorem rkeep_any (a : Option Addr) (n c : Nat) (l : List MsgR) (most : Int) (m : MsgR) (w : World) (h : MSl w w.heap.size a n l) (hn : n ≤ 1000) (hb : BSl w w.heap.size m.a m.n m.l) (hs : m.n ≤ 1099511627776) :
    Calls Try.prog 32 #[.slice a n c, .int .i64 most, m.vals] w fun e w' =>
      (kpCode l most m ≠ 0 ∧ e = .returned (.tuple #[.slice a n c, .int .i64 (kpCode l most m : Nat)]) ∧ Below w.heap.size w w') ∨
      (kpCode l most m = 0 ∧ ∃ g cap, e = .returned (.tuple #[.slice (some ⟨g, 0, none⟩) (n + 1) cap, .int .i64 0]) ∧ w'.ownsRow w.heap.size 60 12 (.slice (some ⟨g, 0, none⟩) (n + 1) cap) (n + 1) (flatM (l ++ [m])) ∧ Below w.heap.size w w') := by
  have HC1 := Lib.hid fun (e : m.kd ≠ 5) => (show kpCode l most m = 1 from by unfold kpCode; rw [if_pos e])
  have HC2 := Lib.hid fun (e : m.kd = 5) (e2 : mchk m ≠ 0) => (show kpCode l most m = mchk m from by unfold kpCode; rw [if_neg (by simp [e]), if_pos e2])
  have HC3 := Lib.hid fun (e : m.kd = 5) (e2 : mchk m = 0) (e3 : (mFind l m.tt m.id).isSome = true) => (show kpCode l most m = 8 from by unfold kpCode; rw [if_neg (by simp [e]), if_neg (by simp [e2]), if_pos e3])
  have HC4 := Lib.hid fun (e : m.kd = 5) (e2 : mchk m = 0) (e3 : (mFind l m.tt m.id).isSome = false) (e4 : ¬ (n : Int) < most) => (show kpCode l most m = 11 from by unfold kpCode; rw [if_neg (by simp [e]), if_neg (by simp [e2]), if_neg (by simp [e3]), if_neg (by rw [h.1]; exact e4)])
  have HC5 := Lib.hid fun (e : m.kd = 5) (e2 : mchk m = 0) (e3 : (mFind l m.tt m.id).isSome = false) (e4 : (n : Int) < most) => (show kpCode l most m = 0 from by unfold kpCode; rw [if_neg (by simp [e]), if_neg (by simp [e2]), if_neg (by simp [e3]), if_pos (by rw [h.1]; exact e4)])
  have BA := (Below.refl w.heap.size w).alloc (Nat.le_refl _) (.cells m.cells.toArray 60)
  have E := rcheck_any m _ ((hb.below BA).more BA.size) hs
  have EF := Lib.hid fun (W : World) (B : Below w.heap.size w W) => rfind_any a n c l m.tt m.id W ((h.below B).more B.size) (by omega)
  have HFL := Lib.hid fun (x : MsgR) => flatM_snoc l x
  have HH := Lib.hid h
  have HK := Lib.hid (Blk.made w 60 m.cells.toArray)
  have HAP := Lib.hid fun (W : World) (base gb k : Nat) (v : Value) (xs : List Value) (ho : W.ownsRow base 60 12 v k xs) (hb : Blk W gb 60 m.cells.toArray) (hk : k + 1 ≤ 1000000) (hbase : base ≤ W.heap.size) => append_msg ho m hb hk hbase
  have HFM := Lib.hid (flatM_snoc l m)
  obtain ⟨fr, tt, kd, vol, life, id, cd, has, key, ck, g, ma, mn, mc, lm⟩ := m
  unfold MsgR.cells at BA E HK HAP HFM
  unfold MsgR.vals at E
  unfold MsgR.vals
  dsimp only at *
  generalize kpCode l most ⟨fr, tt, kd, vol, life, id, cd, has, key, ck, g, ma, mn, mc, lm⟩ = kp at *
  generalize mchk ⟨fr, tt, kd, vol, life, id, cd, has, key, ck, g, ma, mn, mc, lm⟩ = q at *
  have HB := Lib.hid BA
  have HE := Lib.hid E
  have HN := Lib.hid hn
  clear BA E h hb hs hn HFL
  by_cases h5 : kd = 5
  rotate_left
  · have HR := Lib.hid (HC1.out h5)
    have b0 : (kd != 5) = true := ne_t h5
    clear h5 HC1 HC2 HC3 HC4 HC5 EF HH HK HE HAP HFM
    go_enter Try.func32, Try.ntmps32
    go_wp2_with fail
    exact bodyPost_ret (v := .tuple #[.slice a n c, .int .i64 1]) (by simp [results, Try.results32, go_sem]) rfl (Or.inl ⟨by rw [HR.out]; decide, by rw [HR.out]; rfl, HB.out⟩)
  have b0 : (kd != 5) = false := ne_f h5
  have H5 := Lib.hid h5
  clear h5 HC1
  go_enter Try.func32, Try.ntmps32
  go_wp2_with fail
  refine HE.out.mono ?_
  rintro e w1 ⟨rfl, B1⟩
  have HB1 := Lib.hid (HB.out.trans (B1.mono HB.out.size))
  have HK1 := Lib.hid (HK.out.below B1 HK.out.lt)
  clear B1 HE HB HK
  by_cases hq : q = 0
  rotate_left
  · have HR := Lib.hid (HC2.out H5.out hq)
    have HQ := Lib.hid hq
    have b1 : ((q : Int) != 0) = true := ne_t (by omega)
    clear hq HC2 HC3 HC4 HC5 EF HH HAP HFM
    go_wp2_with fail
    exact bodyPost_ret (v := .tuple #[.slice a n c, .int .i64 q]) (by simp [results, Try.results32, go_sem]) rfl (Or.inl ⟨by rw [HR.out]; exact HQ.out, by rw [HR.out], HB1.out⟩)
  have b1 : ((q : Int) != 0) = false := ne_f (by omega)
  have HQ := Lib.hid hq
  clear hq HC2
  obtain ⟨k0, k1, k2, k3, k4, k5, k6, k7, k8, k9, k10, k11⟩ := HK1.out.twelve
  have E2 := Lib.hid (EF.out _ HB1.out)
  clear EF
  go_wp2_with fail
  refine E2.out.mono ?_
  rintro e w2 ⟨r, rfl, hr, rfl⟩
  rcases hr with ⟨rfl, hf⟩ | ⟨kk, rfl, hkk, hf⟩
  rotate_left
  · have HR := Lib.hid (HC3.out H5.out HQ.out (by rw [hf]; rfl))
    have b2 : decide (0 ≤ (kk : Int)) = true := decide_eq_true (by omega)
    clear HC3 HC4 HC5 HH hf hkk HAP HFM
    go_wp2_with fail
    exact bodyPost_ret (v := .tuple #[.slice a n c, .int .i64 8]) (by simp [results, Try.results32, go_sem]) rfl (Or.inl ⟨by rw [HR.out]; decide, by rw [HR.out]; rfl, HB1.out⟩)
  have HF := Lib.hid (show (mFind l tt id).isSome = false from by rw [hf]; rfl)
  clear hf HC3
  by_cases hl : (n : Int) < most
  rotate_left
  · have HR := Lib.hid (HC4.out H5.out HQ.out HF.out (by omega))
    have b2 : decide (most ≤ (n : Int)) = true := decide_eq_true (by omega)
    clear hl HC4 HC5 HH HAP HFM
    go_wp2_with fail
    exact bodyPost_ret (v := .tuple #[.slice a n c, .int .i64 11]) (by simp [results, Try.results32, go_sem]) rfl (Or.inl ⟨by rw [HR.out]; decide, by rw [HR.out]; rfl, HB1.out⟩)
  have HR := Lib.hid (HC5.out H5.out HQ.out HF.out hl)
  have b2 : decide (most ≤ (n : Int)) = false := decide_eq_false (by omega)
  clear hl HC4 HC5
  go_upto_region 10 with fail
  clear k0 k1 k2 k3 k4 k5 k6 k7 k8 k9 k10 k11
  have HC10 := Lib.hid fun (W : World) (B : Below w1.heap.size w1 W) => (HK1.out.below B HK1.out.lt).twelve
  have HM10 := Lib.hid fun (W : World) (B : Below w1.heap.size w1 W) => (HH.out.below (HB1.out.trans (B.mono HB1.out.size))).more (HB1.out.trans (B.mono HB1.out.size)).size
  have HAM := Lib.hid fun (W : World) (g0 cap0 : Nat) (ho : W.ownsRow w1.heap.size 60 12 (.slice (some ⟨g0, 0, none⟩) 0 cap0) 0 []) (B : Below w1.heap.size w1 W) => append_msgs ho c (HM10.out W B) (by have := HN.out; omega) B.size
  refine wp_region_held_drew (S := fun W => Below w1.heap.size w1 W) (by kernel_rfl) ((Below.refl _ _).drew) (fun hS => ?_)
  refine wpAnyH_take (i := 1) (v := ?_) rfl (by kernel_rfl) (by kernel_rfl) (by kernel_rfl) (fun _ _ _ h => h) (Or.inl ⟨by kernel_rfl, ?_⟩) hS ?_
  rotate_left
  · intro W hW; go_simp; try with_reducible rfl
  refine wpAnyH_take (i := 3) (v := ?_) rfl (by kernel_rfl) (by kernel_rfl) (by kernel_rfl) (fun _ _ _ h => h) (Or.inl ⟨by kernel_rfl, ?_⟩) hS ?_
  rotate_left
  · intro W hW; obtain ⟨k0, k1, k2, k3, k4, k5, k6, k7, k8, k9, k10, k11⟩ := HC10.out W hW; go_simp; try with_reducible rfl
  refine wpAnyH_ready (rs := [0, 4]) (by kernel_rfl) (by simp) ?_
  refine AllReadyH.cons rfl (fun K hK => ?_) ?_
  · go_simp
    first
    | have ho := ownsRow_new (s := w1.heap.size) hS 60 rfl
    | have ho := ownsRow_new (s := w1.heap.size + 1) hS 60 (by simp)
    try have hb := hb.alloc (.cells #[] 60)
    go_simp
    refine hK.out _ _ ?_ (fun hN => ?_)
    · first | exact hT | exact hS | exact hS.alloc hS.size _ | exact hS.drew
    clear hK K
    try clear hT
    clear hS
    have hS := hN
    clear hN
    refine wpAnyH_ready (rs := [2, 4]) (by kernel_rfl) (by simp) ?_
    refine AllReadyH.cons rfl (fun K hK => ?_) ?_
    · obtain ⟨g3, cap3, W3, hr3, ho3, hg3⟩ := HAM.out _ _ _ ho hS
      have hT := hS.grown hg3 hS.size (fun j e => (ho.lt j e).1)
      try have hb := hb.grown hg3 (by intro e; injection e with e; omega)
      rw [Nat.zero_add] at hr3 ho3
      rw [List.nil_append] at ho3
      refine step_run_g (by kernel_rfl) _ _ (by rfl) (by rfl) (by rfl) hr3 ?_
      clear hr3 hg3 ho
      refine hK.out _ _ ?_ (fun hN => ?_)
      · first | exact hT | exact hS | exact hS.alloc hS.size _ | exact hS.drew
      clear hK K
      try clear hT
      clear hS
      have hS := hN
      clear hN
      refine wpAnyH_ready (rs := [4]) (by kernel_rfl) (by simp) ?_
      refine AllReadyH.cons rfl (fun K hK => ?_) AllReadyH.nil
      go_simp
      first
      | have hb := made_at (s := w1.heap.size) hS 60 #[.int .i64 fr, .int .i64 tt, .int .i64 kd, .int .i64 vol, .int .i64 life, .int .u64 id, .int .i64 cd, .bool has, .int .u64 key, .int .u32 ck, .bool g, .slice ma mn mc] rfl
      | have hb := made_at (s := w1.heap.size + 1) hS 60 #[.int .i64 fr, .int .i64 tt, .int .i64 kd, .int .i64 vol, .int .i64 life, .int .u64 id, .int .i64 cd, .bool has, .int .u64 key, .int .u32 ck, .bool g, .slice ma mn mc] (by simp)
      | have hb := made_at hS 60 #[.int .i64 fr, .int .i64 tt, .int .i64 kd, .int .i64 vol, .int .i64 life, .int .u64 id, .int .i64 cd, .bool has, .int .u64 key, .int .u32 ck, .bool g, .slice ma mn mc] rfl
      try have ho := ho.alloc (.cells #[.int .i64 fr, .int .i64 tt, .int .i64 kd, .int .i64 vol, .int .i64 life, .int .u64 id, .int .i64 cd, .bool has, .int .u64 key, .int .u32 ck, .bool g, .slice ma mn mc] 60)
      try have ho3 := ho3.alloc (.cells #[.int .i64 fr, .int .i64 tt, .int .i64 kd, .int .i64 vol, .int .i64 life, .int .u64 id, .int .i64 cd, .bool has, .int .u64 key, .int .u32 ck, .bool g, .slice ma mn mc] 60)
      go_simp
      refine hK.out _ _ ?_ (fun hN => ?_)
      · first | exact hT | exact hS | exact hS.alloc hS.size _ | exact hS.drew
      clear hK K
      try clear hT
      clear hS
      have hS := hN
      clear hN
      refine wpAnyH_ready (rs := [5]) (by kernel_rfl) (by simp) ?_
      refine AllReadyH.cons rfl (fun K hK => ?_) AllReadyH.nil
      obtain ⟨g5, cap5, W5, hr5, ho5, hg5⟩ := HAP.out _ _ _ _ _ _ ho3 hb (by have := HN.out; omega) hS.size
      have hT := hS.grown hg5 hS.size (fun j e => (ho3.lt _ e).1)
      refine step_run_g (by kernel_rfl) _ _ (by rfl) (by rfl) (by rfl) hr5 ?_
      clear hr5 hg5 ho3 hb
      refine hK.out _ _ ?_ (fun hN => ?_)
      · first | exact hT | exact hS | exact hS.alloc hS.size _ | exact hS.drew
      clear hK K
      try clear hT
      clear hS
      have hS := hN
      clear hN
      refine wpAnyH_take (i := 6) (v := ?_) rfl (by kernel_rfl) (by kernel_rfl) (by kernel_rfl) (fun _ _ _ h => h) (Or.inl ⟨by kernel_rfl, ?_⟩) hS ?_
      rotate_left
      · intro W hW; go_simp; try with_reducible rfl
      refine wpAnyH_take (i := 7) (v := ?_) rfl (by kernel_rfl) (by kernel_rfl) (by kernel_rfl) (fun _ _ _ h => h) (Or.inl ⟨by kernel_rfl, ?_⟩) hS ?_
      rotate_left
      · intro W hW; go_simp; try with_reducible rfl
      refine wpAnyH_done (by kernel_rfl) ?_ _
      go_simp
      rw [← HFM.out] at ho5
      have HT := Lib.hid (HB1.out.trans (hS.mono HB1.out.size))
      have HO := Lib.hid (row_base ho5 HB1.out.size)
      go_wp2_with fail
      exact bodyPost_ret (v := .tuple #[.slice (some ⟨g5, 0, none⟩) (n + 1) cap5, .int .i64 0]) (by simp [results, Try.results32, go_sem]) rfl (Or.inr ⟨HR.out, g5, cap5, rfl, HO.out, HT.out⟩)
    refine AllReadyH.cons rfl (fun K hK => ?_) AllReadyH.nil
    go_simp
    first
    | have hb := made_at (s := w1.heap.size) hS 60 #[.int .i64 fr, .int .i64 tt, .int .i64 kd, .int .i64 vol, .int .i64 life, .int .u64 id, .int .i64 cd, .bool has, .int .u64 key, .int .u32 ck, .bool g, .slice ma mn mc] rfl
    | have hb := made_at (s := w1.heap.size + 1) hS 60 #[.int .i64 fr, .int .i64 tt, .int .i64 kd, .int .i64 vol, .int .i64 life, .int .u64 id, .int .i64 cd, .bool has, .int .u64 key, .int .u32 ck, .bool g, .slice ma mn mc] (by simp)
    | have hb := made_at hS 60 #[.int .i64 fr, .int .i64 tt, .int .i64 kd, .int .i64 vol, .int .i64 life, .int .u64 id, .int .i64 cd, .bool has, .int .u64 key, .int .u32 ck, .bool g, .slice ma mn mc] rfl
    try have ho := ho.alloc (.cells #[.int .i64 fr, .int .i64 tt, .int .i64 kd, .int .i64 vol, .int .i64 life, .int .u64 id, .int .i64 cd, .bool has, .int .u64 key, .int .u32 ck, .bool g, .slice ma mn mc] 60)
    try have ho3 := ho3.alloc (.cells #[.int .i64 fr, .int .i64 tt, .int .i64 kd, .int .i64 vol, .int .i64 life, .int .u64 id, .int .i64 cd, .bool has, .int .u64 key, .int .u32 ck, .bool g, .slice ma mn mc] 60)
    go_simp
    refine hK.out _ _ ?_ (fun hN => ?_)
    · first | exact hT | exact hS | exact hS.alloc hS.size _ | exact hS.drew
    clear hK K
    try clear hT
    clear hS
    have hS := hN
    clear hN
    refine wpAnyH_ready (rs := [2]) (by kernel_rfl) (by simp) ?_
    refine AllReadyH.cons rfl (fun K hK => ?_) AllReadyH.nil
    obtain ⟨g3, cap3, W3, hr3, ho3, hg3⟩ := HAM.out _ _ _ ho hS
    have hT := hS.grown hg3 hS.size (fun j e => (ho.lt j e).1)
    try have hb := hb.grown hg3 (by intro e; injection e with e; omega)
    rw [Nat.zero_add] at hr3 ho3
    rw [List.nil_append] at ho3
    refine step_run_g (by kernel_rfl) _ _ (by rfl) (by rfl) (by rfl) hr3 ?_
    clear hr3 hg3 ho
    refine hK.out _ _ ?_ (fun hN => ?_)
    · first | exact hT | exact hS | exact hS.alloc hS.size _ | exact hS.drew
    clear hK K
    try clear hT
    clear hS
    have hS := hN
    clear hN
    refine wpAnyH_ready (rs := [5]) (by kernel_rfl) (by simp) ?_
    refine AllReadyH.cons rfl (fun K hK => ?_) AllReadyH.nil
    obtain ⟨g5, cap5, W5, hr5, ho5, hg5⟩ := HAP.out _ _ _ _ _ _ ho3 hb (by have := HN.out; omega) hS.size
    have hT := hS.grown hg5 hS.size (fun j e => (ho3.lt _ e).1)
    refine step_run_g (by kernel_rfl) _ _ (by rfl) (by rfl) (by rfl) hr5 ?_
    clear hr5 hg5 ho3 hb
    refine hK.out _ _ ?_ (fun hN => ?_)
    · first | exact hT | exact hS | exact hS.alloc hS.size _ | exact hS.drew
    clear hK K
    try clear hT
    clear hS
    have hS := hN
    clear hN
    refine wpAnyH_take (i := 6) (v := ?_) rfl (by kernel_rfl) (by kernel_rfl) (by kernel_rfl) (fun _ _ _ h => h) (Or.inl ⟨by kernel_rfl, ?_⟩) hS ?_
    rotate_left
    · intro W hW; go_simp; try with_reducible rfl
    refine wpAnyH_take (i := 7) (v := ?_) rfl (by kernel_rfl) (by kernel_rfl) (by kernel_rfl) (fun _ _ _ h => h) (Or.inl ⟨by kernel_rfl, ?_⟩) hS ?_
    rotate_left
    · intro W hW; go_simp; try with_reducible rfl
    refine wpAnyH_done (by kernel_rfl) ?_ _
    go_simp
    rw [← HFM.out] at ho5
    have HT := Lib.hid (HB1.out.trans (hS.mono HB1.out.size))
    have HO := Lib.hid (row_base ho5 HB1.out.size)
    go_wp2_with fail
    exact bodyPost_ret (v := .tuple #[.slice (some ⟨g5, 0, none⟩) (n + 1) cap5, .int .i64 0]) (by simp [results, Try.results32, go_sem]) rfl (Or.inr ⟨HR.out, g5, cap5, rfl, HO.out, HT.out⟩)
  refine AllReadyH.cons rfl (fun K hK => ?_) AllReadyH.nil
  go_simp
  first
  | have hb := made_at (s := w1.heap.size) hS 60 #[.int .i64 fr, .int .i64 tt, .int .i64 kd, .int .i64 vol, .int .i64 life, .int .u64 id, .int .i64 cd, .bool has, .int .u64 key, .int .u32 ck, .bool g, .slice ma mn mc] rfl
  | have hb := made_at (s := w1.heap.size + 1) hS 60 #[.int .i64 fr, .int .i64 tt, .int .i64 kd, .int .i64 vol, .int .i64 life, .int .u64 id, .int .i64 cd, .bool has, .int .u64 key, .int .u32 ck, .bool g, .slice ma mn mc] (by simp)
  | have hb := made_at hS 60 #[.int .i64 fr, .int .i64 tt, .int .i64 kd, .int .i64 vol, .int .i64 life, .int .u64 id, .int .i64 cd, .bool has, .int .u64 key, .int .u32 ck, .bool g, .slice ma mn mc] rfl
  try have ho := ho.alloc (.cells #[.int .i64 fr, .int .i64 tt, .int .i64 kd, .int .i64 vol, .int .i64 life, .int .u64 id, .int .i64 cd, .bool has, .int .u64 key, .int .u32 ck, .bool g, .slice ma mn mc] 60)
  try have ho3 := ho3.alloc (.cells #[.int .i64 fr, .int .i64 tt, .int .i64 kd, .int .i64 vol, .int .i64 life, .int .u64 id, .int .i64 cd, .bool has, .int .u64 key, .int .u32 ck, .bool g, .slice ma mn mc] 60)
  go_simp
  refine hK.out _ _ ?_ (fun hN => ?_)
  · first | exact hT | exact hS | exact hS.alloc hS.size _ | exact hS.drew
  clear hK K
  try clear hT
  clear hS
  have hS := hN
  clear hN
  refine wpAnyH_ready (rs := [0]) (by kernel_rfl) (by simp) ?_
  refine AllReadyH.cons rfl (fun K hK => ?_) AllReadyH.nil
  go_simp
  first
  | have ho := ownsRow_new (s := w1.heap.size) hS 60 rfl
  | have ho := ownsRow_new (s := w1.heap.size + 1) hS 60 (by simp)
  try have hb := hb.alloc (.cells #[] 60)
  go_simp
  refine hK.out _ _ ?_ (fun hN => ?_)
  · first | exact hT | exact hS | exact hS.alloc hS.size _ | exact hS.drew
  clear hK K
  try clear hT
  clear hS
  have hS := hN
  clear hN
  refine wpAnyH_ready (rs := [2]) (by kernel_rfl) (by simp) ?_
  refine AllReadyH.cons rfl (fun K hK => ?_) AllReadyH.nil
  obtain ⟨g3, cap3, W3, hr3, ho3, hg3⟩ := HAM.out _ _ _ ho hS
  have hT := hS.grown hg3 hS.size (fun j e => (ho.lt j e).1)
  try have hb := hb.grown hg3 (by intro e; injection e with e; omega)
  rw [Nat.zero_add] at hr3 ho3
  rw [List.nil_append] at ho3
  refine step_run_g (by kernel_rfl) _ _ (by rfl) (by rfl) (by rfl) hr3 ?_
  clear hr3 hg3 ho
  refine hK.out _ _ ?_ (fun hN => ?_)
  · first | exact hT | exact hS | exact hS.alloc hS.size _ | exact hS.drew
  clear hK K
  try clear hT
  clear hS
  have hS := hN
  clear hN
  refine wpAnyH_ready (rs := [5]) (by kernel_rfl) (by simp) ?_
  refine AllReadyH.cons rfl (fun K hK => ?_) AllReadyH.nil
  obtain ⟨g5, cap5, W5, hr5, ho5, hg5⟩ := HAP.out _ _ _ _ _ _ ho3 hb (by have := HN.out; omega) hS.size
  have hT := hS.grown hg5 hS.size (fun j e => (ho3.lt _ e).1)
  refine step_run_g (by kernel_rfl) _ _ (by rfl) (by rfl) (by rfl) hr5 ?_
  clear hr5 hg5 ho3 hb
  refine hK.out _ _ ?_ (fun hN => ?_)
  · first | exact hT | exact hS | exact hS.alloc hS.size _ | exact hS.drew
  clear hK K
  try clear hT
  clear hS
  have hS := hN
  clear hN
  refine wpAnyH_take (i := 6) (v := ?_) rfl (by kernel_rfl) (by kernel_rfl) (by kernel_rfl) (fun _ _ _ h => h) (Or.inl ⟨by kernel_rfl, ?_⟩) hS ?_
  rotate_left
  · intro W hW; go_simp; try with_reducible rfl
  refine wpAnyH_take (i := 7) (v := ?_) rfl (by kernel_rfl) (by kernel_rfl) (by kernel_rfl) (fun _ _ _ h => h) (Or.inl ⟨by kernel_rfl, ?_⟩) hS ?_
  rotate_left
  · intro W hW; go_simp; try with_reducible rfl
  refine wpAnyH_done (by kernel_rfl) ?_ _
  go_simp
  rw [← HFM.out] at ho5
  have HT := Lib.hid (HB1.out.trans (hS.mono HB1.out.size))
  have HO := Lib.hid (row_base ho5 HB1.out.size)
  go_wp2_with fail
  exact bodyPost_ret (v := .tuple #[.slice (some ⟨g5, 0, none⟩) (n + 1) cap5, .int .i64 0]) (by simp [results, Try.results32, go_sem]) rfl (Or.inr ⟨HR.out, g5, cap5, rfl, HO.out, HT.out⟩)
end Go.Proofs.Ytboadalojimdlaa
