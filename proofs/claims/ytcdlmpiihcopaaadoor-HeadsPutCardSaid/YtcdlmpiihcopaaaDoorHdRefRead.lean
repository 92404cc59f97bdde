/-
  corncribref04.Read.
-/
import Derived.Test.YtcdlmpiihcopaaaDoorHdRef
namespace Go.Proofs.YtcdlmpiihcopaaaDoor
open Go.RowKit
set_option linter.unusedVariables false

/-- What the document's Read hands back. -/
def RdP (L : List (BitVec 8)) (k magic : Nat) (w : World) (e : Ending) (w' : World) : Prop :=
  Below w.heap.size w w' ∧ ∃ av m cv, e = .returned (.tuple #[.slice av m cv, .int .i64 (hdCode L k magic : Int)]) ∧ (hdCode L k magic = 0 → m = k ∧ ISl w' w'.heap.size av m (hdWs L k))
theorem rd_bad {L : List (BitVec 8)} {k magic : Nat} {w w' : World} {cf : Nat} (h : hdCode L k magic = cf) (h0 : cf ≠ 0) (B : Below w.heap.size w w') :
    RdP L k magic w (.returned (.tuple #[.slice none 0 0, .int .i64 (cf : Int)])) w' := by
  refine ⟨B, none, 0, 0, by rw [h], fun e => ?_⟩
  omega
set_option maxRecDepth 100000 in
set_option maxHeartbeats 4000000 in
theorem rread_any (a : Option Addr) (n c : Nat) (l : List (BitVec 8)) (k : Nat) (magic : Nat) (w : World) (h : BSl w w.heap.size a n l) (hc : n ≤ c) (hn : n ≤ 1099511627776) (hk : 1 ≤ k) (hk2 : k ≤ 100) (hmg : magic < 4294967296) :
    Calls Tryd.prog 18 #[.slice a n c, .int .i64 (k : Int), .int .i64 (magic : Int)] w (RdP l k magic w) := by
  have HL := Lib.hid h.1
  have HBS := Lib.hid fun (W : World) (B0 : Below w.heap.size w W) => (show BSl W W.heap.size a n l from (h.below B0).more B0.size)
  have HC := Lib.hid hc
  have HN := Lib.hid hn
  have HK := Lib.hid (And.intro hk hk2)
  have hkz : (k : Int) ≤ 100 := by omega
  clear h hc hn
  by_cases hsh : n < 4 * k + 4
  · have HX := Lib.hid (show hdCode l k magic = 3 from by unfold hdCode; rw [if_pos (by rw [HL.out]; omega)])
    have b0 : decide ((n : Int) < 4 * (k : Int) + 4) = true := decide_eq_true (by omega)
    clear hsh
    go_enter Tryd.func18, Tryd.ntmps18
    go_wp2_with fail
    go_ret2
    exact rd_bad HX.out (by decide) (Below.refl _ _)
  have b0 : decide ((n : Int) < 4 * (k : Int) + 4) = false := decide_eq_false (by omega)
  have HGE := Lib.hid (show 4 * k + 4 ≤ n from by omega)
  have hk0 : (0 : Int) < (k : Int) := by omega
  clear hsh
  go_enter Tryd.func18, Tryd.ntmps18
  go_wp2_with fail
  go_loopw [8, 9] (fun v av wr => ∃ i : Nat, i ≤ k ∧ av = .int .i64 (i : Int) ∧ wr.ownsRow w.heap.size 3 1 v (hdWs l i).length ((hdWs l i).map iv) ∧ Below w.heap.size w wr) (fun _ av _ => k - (intOf av).toNat)
  case atStart => exact ⟨0, Nat.zero_le _, rfl, World.ownsRow_nil _ _ _ _, Below.refl _ _⟩
  case round =>
    obtain ⟨i, hi, rfl, hrow, hB⟩ := hrel
    have HB := Lib.hid hB
    have HROW := Lib.hid hrow
    clear hrow hB
    by_cases hlt : i < k
    · have hltz : (i : Int) < (k : Int) := by omega
      obtain ⟨a5, s5, -, -, hb5⟩ := cut_bytes (HBS.out _ HB.out) HC.out (4 * i) 4 (by have := HGE.out; omega)
      have hs5 := fun W => s5 (4 * (i : Int)) (4 * (i : Int) + 4) W (by omega) (by omega)
      have EG := Lib.hid (number_any a5 4 (c - 4 * i) _ wr hb5 (by decide))
      have hx := word_lt l (4 * i)
      have hxe : Num.num ((l.drop (4 * i)).take 4) = nums l (4 * i) 4 := rfl
      rw [hxe] at EG
      have HWS := Lib.hid (hdWs_succ l i)
      clear hxe s5 hb5
      generalize nums l (4 * i) 4 = x at *
      have hxz : (x : Int) < 4294967296 := by omega
      go_wp2_with fail
      refine EG.out.mono ?_
      rintro e w2 ⟨rfl, rfl⟩
      obtain ⟨g, cap, W3, hr, ho, hB3, hcap⟩ := append_int HROW.out x (by rw [hdWs_length]; have := HK.out; omega) HB.out.size
      rw [← HWS.out] at ho
      obtain ⟨av3, cv3, hv, -⟩ := own_formI HROW.out
      subst hv
      have HO := Lib.hid ho
      have HB3 := Lib.hid (HB.out.trans hB3)
      clear EG ho hB3 hcap hs5
      go_wp2_with (at_builtin; refine list_run (by rfl) _ _ rfl rfl rfl hr ?_; clear hr)
      go_roundw
      case rel => exact ⟨i + 1, by omega, by go_num, by rw [show (hdWs l i).length + 1 = (hdWs l (i + 1)).length from by rw [hdWs_length, hdWs_length]] at *; exact HO.out, HB3.out⟩
      case measure => simp [intOf]; omega
    · obtain rfl : i = k := by omega
      obtain ⟨av3, cv3, hv, hcv⟩ := own_formI HROW.out
      subst hv
      have hkl : (hdWs l i).length = i := hdWs_length l i
      rw [hkl] at hcv
      have HROW := Lib.hid (show wr.ownsRow w.heap.size 3 1 (.slice av3 i cv3) i ((hdWs l i).map iv) from by have := HROW.out; rwa [hkl] at this)
      obtain ⟨g, rfl, -⟩ := own_someI HROW.out (by omega)
      have HIS := Lib.hid (isl_own HROW.out)
      obtain ⟨x, hx⟩ : ∃ x, nums l 0 4 = x := ⟨_, rfl⟩
      have c0 : wr.cell? ⟨g, 0, none⟩ = some (.int .i64 (x : Int)) := by
        have := HROW.out.cells (g := g) rfl 0 (iv x) (by rw [List.getElem?_map, hdWs_at l i 0 (by omega), Nat.mul_zero, hx]; rfl)
        simpa [Addr.add_lit, iv] using this
      rw [hkl]
      have HX0 := Lib.hid hx
      have hltz : ¬ ((i : Int) < (i : Int)) := by omega
      clear hx hkl
      by_cases hm : x = magic
      · have z0 : ((x : Int) != (magic : Int)) = false := by rw [hm]; exact bne_self_eq_false _
        obtain ⟨sz, hsz⟩ : ∃ sz, 4 * i + 4 = sz := ⟨_, rfl⟩
        obtain ⟨a5, hs5, hb5⟩ : ∃ a', (∀ W : World, (Instr.slice 27 (.slice a n c) none (some (.int .i64 (sz : Int))) none).run Tryd.prog W = .ok (.slice a' sz c) W) ∧ BSl wr wr.heap.size a' sz (l.take sz) := by
          obtain ⟨a', -, -, h2, h3⟩ := cut_bytes (HBS.out _ HB.out) HC.out 0 sz (by have := HGE.out; omega)
          exact ⟨a', fun W => h2 sz W rfl rfl, by simpa using h3⟩
        have H5 := Lib.hid fun (W : World) (B : Below wr.heap.size wr W) => (show BSl W W.heap.size a5 sz (l.take sz) from (hb5.below B).more B.size)
        have EW := Lib.hid fun (W : World) (B : Below wr.heap.size wr W) => words_any (some ⟨g, 0, none⟩) i cv3 (hdWs l i) W ((HIS.out.below B).more B.size) (by have := HK.out; omega) (fun x hx => by
          unfold hdWs at hx
          obtain ⟨j, -, rfl⟩ := List.mem_map.1 hx
          exact word_lt l _)
        rw [hsz] at EW
        obtain ⟨sb, hsb⟩ : ∃ sb, decide (hdBytes (hdWs l i) = l.take sz) = sb := ⟨_, rfl⟩
        have HM := Lib.hid hm
        have HW1 := Lib.hid (show IntKind.i64.wrap (4 * (i : Int)) = ((4 * i : Nat) : Int) from by have := HK.out; rw [IntWalk.i64_in _ (by omega)]; omega)
        obtain ⟨q4, hq4⟩ : ∃ q4, 4 * i = q4 := ⟨_, rfl⟩
        rw [hq4] at HW1
        have HW2 := Lib.hid (show IntKind.i64.wrap ((q4 : Int) + 4) = (sz : Int) from by have := HK.out; rw [IntWalk.i64_in _ (by omega)]; omega)
        have HSB := Lib.hid hsb
        have HCODE := Lib.hid (show hdCode l i magic = if sb then 0 else 5 from by
          unfold hdCode
          rw [if_neg (by rw [HL.out]; have := HGE.out; omega), if_neg (by rw [HX0.out, HM.out]; exact not_not_intro rfl)]
          have := hdBytes_ws l i (by rw [HL.out]; exact HGE.out)
          rw [hsz] at this
          cases hbb : sb with
          | true =>
            rw [hbb] at hsb
            rw [if_neg (not_not_intro (this.1 (of_decide_eq_true hsb)))]
            rfl
          | false =>
            rw [hbb] at hsb
            rw [if_pos (fun e => of_decide_eq_false hsb (this.2 e))]
            rfl)
        have HSL := Lib.hid (show sz ≤ 404 from by have := HK.out; omega)
        have hle : (sz : Int) ≤ (c : Int) := by have := HGE.out; have := HC.out; omega
        clear hb5 hm hsb hsz hq4
        go_upto_region 10 with fail
        refine wp_region_held_drew (S := fun W => Below wr.heap.size wr W) (by kernel_rfl) ((Below.refl _ _).drew) (fun hS => ?_)
        refine wpAnyH_take (i := 0) (v := ?_) rfl (by kernel_rfl) (by kernel_rfl) (by kernel_rfl) (fun _ _ _ h => h) (Or.inl ⟨by kernel_rfl, ?_⟩) hS ?_
        rotate_left
        · intro W hW; go_simp; try with_reducible rfl
        refine wpAnyH_take (i := 2) (v := ?_) rfl (by kernel_rfl) (by kernel_rfl) (by kernel_rfl) (fun _ _ _ h => h) (Or.inl ⟨by kernel_rfl, ?_⟩) hS ?_
        rotate_left
        · intro W hW; go_simp; try with_reducible rfl
        refine wpAnyH_take (i := 3) (v := ?_) rfl (by kernel_rfl) (by kernel_rfl) (by kernel_rfl) (fun _ _ _ h => h) (Or.inl ⟨by kernel_rfl, ?_⟩) hS ?_
        rotate_left
        · intro W hW; go_simp; try with_reducible rfl
        refine wpAnyH_take (i := 4) (v := ?_) rfl (by kernel_rfl) (by kernel_rfl) (by kernel_rfl) (fun _ _ _ h => h) (Or.inl ⟨by kernel_rfl, ?_⟩) hS ?_
        rotate_left
        · intro W hW; go_simp; rw [HW1.out]; try with_reducible rfl
        refine wpAnyH_take (i := 5) (v := ?_) rfl (by kernel_rfl) (by kernel_rfl) (by kernel_rfl) (fun _ _ _ h => h) (Or.inl ⟨by kernel_rfl, ?_⟩) hS ?_
        rotate_left
        · intro W hW; go_simp; rw [HW2.out]; try with_reducible rfl
        refine wpAnyH_take (i := 6) (v := ?_) rfl (by kernel_rfl) (by kernel_rfl) (by kernel_rfl) (fun _ _ _ h => h) (Or.inl ⟨by kernel_rfl, ?_⟩) hS ?_
        rotate_left
        · intro W hW; go_simp; try with_reducible rfl
        refine wpAnyH_ready (rs := [1]) (by kernel_rfl) (by simp) ?_
        refine AllReadyH.cons (i := 1) rfl ?_ AllReadyH.nil
        intro K hK
        go_simp
        refine (EW.out _ hS).mono ?_
        rintro e w7 ⟨av7, cv7, rfl, B7, hc7, ho7⟩
        have hT := hS.trans (B7.mono hS.size)
        have HO7 := Lib.hid ho7
        have HT7 := Lib.hid hT
        clear ho7 B7
        go_simp
        refine hK.out _ _ ?_ (fun hN => ?_)
        · first | exact hT | exact hS | exact hS.alloc hS.size _ | exact hS.drew
        clear hK K
        try clear hT
        clear hS
        have hS := hN
        clear hN
        refine wpAnyH_ready (rs := [7]) (by kernel_rfl) (by simp) ?_
        refine AllReadyH.cons (i := 7) rfl ?_ AllReadyH.nil
        intro K hK
        go_simp
        refine (same_any av7 a5 sz sz cv7 c (hdBytes (hdWs l i)) (l.take sz) _ (bsl_own HO7.out) (H5.out _ hS) (by have := HSL.out; omega)).mono ?_
        rintro e w8 ⟨rfl, qd, rfl⟩
        have hT := below_drewN hS qd
        rw [HSB.out]
        go_simp
        refine hK.out _ _ ?_ (fun hN => ?_)
        · first | exact hT | exact hS | exact hS.alloc hS.size _ | exact hS.drew
        clear hK K
        try clear hT
        clear hS
        have hS := hN
        clear hN
        refine wpAnyH_take (i := 8) (v := ?_) rfl (by kernel_rfl) (by kernel_rfl) (by kernel_rfl) (fun _ _ _ h => h) (Or.inl ⟨by kernel_rfl, ?_⟩) hS ?_
        rotate_left
        · intro W hW; go_simp; try with_reducible rfl
        refine wpAnyH_done (by kernel_rfl) ?_ _
        have HB2 := Lib.hid (HB.out.trans (hS.mono HB.out.size))
        have HIS2 := Lib.hid ((HIS.out.below hS).more hS.size)
        clear hS
        cases sb with
        | true =>
          go_simp
          go_wp2_with fail
          go_ret2
          have h0 : hdCode l i magic = 0 := HCODE.out
          refine ⟨HB2.out, some ⟨g, 0, none⟩, i, cv3, ?_, fun _ => ⟨rfl, HIS2.out⟩⟩
          rw [h0]
          rfl
        | false =>
          go_simp
          go_wp2_with fail
          go_ret2
          exact rd_bad (cf := 5) HCODE.out (by decide) HB2.out
      · have z0 : ((x : Int) != (magic : Int)) = true := by rw [bne_iff_ne]; omega
        have HX := Lib.hid (show hdCode l i magic = 4 from by unfold hdCode; rw [if_neg (by rw [HL.out]; have := HGE.out; omega), if_pos (by rw [HX0.out]; exact hm)])
        clear hm
        go_wp2_with fail
        go_ret2
        exact rd_bad (cf := 4) HX.out (by decide) HB.out
end Go.Proofs.YtcdlmpiihcopaaaDoor
