/-
  heads.read and heads.GetSuper.
-/
import Derived.Test.YtcdlmpiihcopaaaDoorHd
namespace Go.Proofs.YtcdlmpiihcopaaaDoor
open Go.RowKit
set_option linter.unusedVariables false

/-- What heads.read hands back. -/
def HdP (L : List (BitVec 8)) (k magic : Nat) (w : World) (e : Ending) (w' : World) : Prop :=
  Below w.heap.size w w' ∧ ∃ av n c, e = .returned (.tuple #[.slice av n c, errc (hdCode L k magic)]) ∧
    (hdCode L k magic = 0 → n = k - 1 ∧ n ≤ c ∧ ISl w' w'.heap.size av n ((hdWs L k).drop 1))
theorem hd_bad {L : List (BitVec 8)} {k magic : Nat} {w w' : World} {cf : Nat} (h : hdCode L k magic = cf) (h0 : cf ≠ 0) (B : Below w.heap.size w w') :
    HdP L k magic w (.returned (.tuple #[.slice none 0 0, errc cf])) w' := by
  refine ⟨B, none, 0, 0, by rw [h], fun e => ?_⟩
  omega
theorem isl_cut {w : World} {B g n : Nat} {ws : List Nat} (h : ISl w B (some ⟨g, 0, none⟩) n ws) (hn : 1 < n) : ISl w B (some ⟨g, 1, none⟩) (n - 1) (ws.drop 1) := by
  obtain ⟨hl, hc⟩ := h
  obtain ⟨b, off, e, hlt, hcell⟩ := hc (by omega)
  injection e with e
  injection e with e1 e2
  subst e1 e2
  refine ⟨by rw [List.length_drop, hl], fun _ => ⟨g, 1, rfl, hlt, fun i hi => ?_⟩⟩
  have := hcell (1 + i) (by omega)
  rw [Nat.zero_add] at this
  rw [this]
  simp [List.getD, Nat.add_comm]

theorem own_formI {W : World} {base k size : Nat} {T : TypeId} {v : Value} {xs : List Value} (h : W.ownsRow base T size v k xs) : ∃ a c, v = .slice a k c ∧ k ≤ c := by
  rcases h.2 with ⟨e1, e2⟩ | ⟨g, cap, cur, e1, _, _, e2, _⟩
  · exact ⟨none, 0, by rw [e1, e2], by omega⟩
  · exact ⟨_, _, e1, e2⟩
theorem own_someI {W : World} {base k c size : Nat} {T : TypeId} {a : Option Addr} {xs : List Value} (h : W.ownsRow base T size (.slice a k c) k xs) (hk : 0 < k) : ∃ b, a = some ⟨b, 0, none⟩ ∧ base ≤ b := by
  rcases h.2 with ⟨_, e2⟩ | ⟨b, cap, cur, e1, e2, -⟩
  · omega
  · cases e1
    exact ⟨b, rfl, e2⟩
theorem cut_one (g n c : Nat) (W : World) (hn : 1 < n) (hc : n ≤ c) : (Instr.slice 42 (.slice (some ⟨g, 0, none⟩) n c) (some (.int .i64 1)) none none).run Tryd.prog W = .ok (.slice (some ⟨g, 1, none⟩) (n - 1) (c - 1)) W := by
  have hs : ∀ W, (sizeOf (Tryd.prog.elem 42)).run Tryd.prog W = .ok 1 W := fun W => by kernel_rfl
  have hu : Tryd.prog.underlying 42 = some (.slice (Tryd.prog.elem 42)) := by kernel_rfl
  rw [run_slice_l _ _ _ _ _ hu _ _ (by omega) (by omega)]
  have h1 : ((1 : Int)).toNat = 1 := rfl
  simp only [hs, sliced, Result.andThen_ok, Nat.mul_one, h1]
  rw [if_neg (by omega)]
  rfl
set_option maxRecDepth 100000 in
set_option maxHeartbeats 4000000 in
theorem hread_any (a : Option Addr) (n c : Nat) (l : List (BitVec 8)) (k sz : Nat) (magic : Nat) (w : World) (h : BSl w w.heap.size a n l) (hc : n ≤ c) (hn : n ≤ 1099511627776) (hsz : sz = 4 * k + 4) (hk : 2 ≤ k) (hk2 : k ≤ 100) (hmg : magic < 4294967296) :
    Calls Tryd.prog 27 #[.slice a n c, .int .i64 (sz : Int), .int .i64 (magic : Int)] w (HdP l k magic w) := by
  have HL := Lib.hid h.1
  have HBS := Lib.hid fun (W : World) (B0 : Below w.heap.size w W) => (show BSl W W.heap.size a n l from (h.below B0).more B0.size)
  have HC := Lib.hid hc
  have HN := Lib.hid hn
  have HSZ := Lib.hid hsz
  have HK := Lib.hid (And.intro hk hk2)
  have hszz : (sz : Int) ≤ 404 := by omega
  have hsz4 : (4 : Int) ≤ (sz : Int) := by omega
  clear h hc hn
  by_cases hsh : n < sz
  · have HX := Lib.hid (show hdCode l k magic = 3 from by unfold hdCode; rw [if_pos (by rw [HL.out]; omega)])
    have b0 : decide (n < sz) = true := decide_eq_true hsh
    clear hsz hsh
    go_enter Tryd.func27, Tryd.ntmps27
    go_wp2_with fail
    go_ret2
    exact hd_bad HX.out (by decide) (Below.refl _ _)
  have b0 : decide (n < sz) = false := decide_eq_false hsh
  have HGE := Lib.hid (show 4 * k + 4 ≤ n from by omega)
  have hk0 : (0 : Int) < (k : Int) := by omega
  have hkz : (k : Int) ≤ 100 := by omega
  have hs4 : (sz : Int) - 4 = 4 * (k : Int) := by omega
  have HS4 := Lib.hid hs4
  clear hsz hsh hs4
  go_enter Tryd.func27, Tryd.ntmps27
  go_wp2_with fail
  go_loopw [8, 9] (fun v av wr => ∃ i : Nat, i ≤ k ∧ av = .int .i64 (4 * i : Nat) ∧ wr.ownsRow w.heap.size 3 1 v (hdWs l i).length ((hdWs l i).map iv) ∧ Below w.heap.size w wr) (fun _ av _ => 4 * k - (intOf av).toNat)
  case atStart => exact ⟨0, Nat.zero_le _, rfl, World.ownsRow_nil _ _ _ _, Below.refl _ _⟩
  case round =>
    obtain ⟨i, hi, rfl, hrow, hB⟩ := hrel
    have HB := Lib.hid hB
    have HROW := Lib.hid hrow
    clear hrow hB
    by_cases hlt : i < k
    · obtain ⟨p, hp⟩ : ∃ p, 4 * i = p := ⟨_, rfl⟩
      rw [hp]
      have hpz : decide ((p : Int) < (sz : Int) - 4) = true := decide_eq_true (by rw [HS4.out]; omega)
      have hpz2 : (p : Int) < (sz : Int) - 4 := by rw [HS4.out]; omega
      have EG := Lib.hid (get_ok a n c l p 4 wr (HBS.out _ HB.out) HC.out HN.out (by decide) (by have := HGE.out; omega))
      have hx := word_lt l p
      have hxe : Num.num ((l.drop p).take 4) = nums l p 4 := rfl
      rw [hxe] at EG
      have HWS := Lib.hid (show hdWs l (i + 1) = hdWs l i ++ [nums l p 4] from by rw [hdWs_succ, hp])
      have HPI := Lib.hid (show p + 4 = 4 * (i + 1) from by omega)
      have hpb : (p : Int) ≤ 400 := by omega
      clear hxe hp
      generalize nums l p 4 = x at *
      have hxz : (x : Int) < 4294967296 := by omega
      go_wp2_with fail
      refine EG.out.mono ?_
      rintro e w2 ⟨rfl, B2⟩
      have HB2 := Lib.hid (HB.out.trans (B2.mono HB.out.size))
      obtain ⟨g, cap, W3, hr, ho, hB3, hcap⟩ := append_int (own_belowH4 HROW.out B2 (Nat.le_refl _)) x (by rw [hdWs_length]; have := HK.out; omega) HB2.out.size
      rw [← HWS.out] at ho
      obtain ⟨av3, cv3, hv, -⟩ := own_formI HROW.out
      subst hv
      have HO := Lib.hid ho
      have HB3 := Lib.hid (HB2.out.trans hB3)
      clear B2 EG ho hB3 hcap
      go_wp2_with (at_builtin; refine list_run (by rfl) _ _ rfl rfl rfl hr ?_; clear hr)
      go_roundw
      case rel => exact ⟨i + 1, by omega, by have := HPI.out; rw [← this]; go_num, by rw [show (hdWs l i).length + 1 = (hdWs l (i + 1)).length from by rw [hdWs_length, hdWs_length]] at *; exact HO.out, HB3.out⟩
      case measure => have := HPI.out; simp [intOf]; omega
    · obtain rfl : i = k := by omega
      obtain ⟨av3, cv3, hv, hcv⟩ := own_formI HROW.out
      subst hv
      have hkl : (hdWs l i).length = i := hdWs_length l i
      rw [hkl] at hcv
      have HROW := Lib.hid (show wr.ownsRow w.heap.size 3 1 (.slice av3 i cv3) i ((hdWs l i).map iv) from by have := HROW.out; rwa [hkl] at this)
      obtain ⟨g, rfl, -⟩ := own_someI HROW.out (by omega)
      have HIS := Lib.hid (isl_own HROW.out)
      obtain ⟨x, hx⟩ : ∃ x, nums l 0 4 = x := ⟨_, rfl⟩
      have c0 : wr.cell? ⟨g, 0, none⟩ = some (.int .i64 (x : Int)) := by
        have := HROW.out.cells (g := g) rfl 0 (iv x) (by rw [List.getElem?_map, hdWs_at l i 0 (by omega), Nat.mul_zero, hx]; rfl)
        simpa [Addr.add_lit, iv] using this
      rw [hkl]
      have HX0 := Lib.hid hx
      have hend : decide (4 * (i : Int) < (sz : Int) - 4) = false := decide_eq_false (by rw [HS4.out]; omega)
      have hend2 : ¬ (4 * (i : Int) < (sz : Int) - 4) := by rw [HS4.out]; omega
      clear hx hkl
      by_cases hm : x = magic
      · have z0 : ((x : Int) != (magic : Int)) = false := by rw [hm]; exact bne_self_eq_false _
        obtain ⟨a5, hs5, hb5⟩ : ∃ a', (∀ W : World, (Instr.slice 27 (.slice a n c) none (some (.int .i64 (sz : Int))) none).run Tryd.prog W = .ok (.slice a' sz c) W) ∧ BSl wr wr.heap.size a' sz (l.take sz) := by
          obtain ⟨a', -, -, h2, h3⟩ := cut_bytes (HBS.out _ HB.out) HC.out 0 sz (by have := HGE.out; have := HSZ.out; omega)
          exact ⟨a', fun W => h2 sz W rfl rfl, by simpa using h3⟩
        have EO := Lib.hid (open_all a5 sz c (l.take sz) wr hb5 (by have := HGE.out; have := HC.out; have := HSZ.out; omega) (by have := HGE.out; have := HSZ.out; omega))
        have HM := Lib.hid hm
        clear hb5 hm
        go_wp2_with fail
        refine EO.out.mono ?_
        rintro e w2 ⟨av, kk, cv, cf, rfl, B2, -, -, -, lx, -, hop⟩
        have HB2 := Lib.hid (HB.out.trans (B2.mono HB.out.size))
        have HIS2 := Lib.hid ((HIS.out.below B2).more B2.size)
        have hdr : (l.take sz).drop (sz - 4) = (l.drop (4 * i)).take 4 := by rw [HSZ.out, List.drop_take, show 4 * i + 4 - 4 = 4 * i from by omega, show 4 * i + 4 - 4 * i = 4 from by omega]
        have htk : (l.take sz).take (sz - 4) = l.take (4 * i) := by rw [List.take_take, HSZ.out, show min (4 * i + 4 - 4) (4 * i + 4) = 4 * i from by omega]
        rw [hdr, htk, show Num.num ((l.drop (4 * i)).take 4) = nums l (4 * i) 4 from rfl] at hop
        have HCODE := Lib.hid (show hdCode l i magic = cf from by
          unfold hdCode
          rw [if_neg (by rw [HL.out]; have := HGE.out; omega), if_neg (by rw [HX0.out, HM.out]; exact not_not_intro rfl)]
          rcases hop with ⟨h1, -⟩ | ⟨h1, h2, _, h3⟩ | ⟨h1, h2, _, h3, _⟩
          · have := HSZ.out; omega
          · rw [if_pos h2, h3]
          · rw [if_neg (not_not_intro h2), h3])
        have hcf : cf = 0 ∨ cf = 5 := by
          rcases hop with ⟨h1, -⟩ | ⟨h1, h2, _, h3⟩ | ⟨h1, h2, _, h3, _⟩
          · have := HSZ.out; omega
          · exact .inr h3
          · exact .inl h3
        clear hop hdr htk B2 EO HIS
        rcases hcf with rfl | rfl
        · rw [show errc 0 = Value.nilIface from rfl]
          have hsl : ∀ W : World, (Instr.slice 42 (.slice (some ⟨g, 0, none⟩) i cv3) (some (.int .i64 1)) none none).run Tryd.prog W = .ok (.slice (some ⟨g, 1, none⟩) (i - 1) (cv3 - 1)) W := fun W => cut_one g i cv3 W (by have := HK.out; omega) hcv
          go_wp2_with fail
          go_ret2
          refine ⟨HB2.out, some ⟨g, 1, none⟩, i - 1, cv3 - 1, ?_, fun _ => ⟨rfl, by omega, isl_cut HIS2.out (by have := HK.out; omega)⟩⟩
          rw [HCODE.out]
          rfl
        · have e5 : errc 5 = er 5 := rfl
          rw [e5]
          clear e5
          go_wp2_with fail
          go_ret2
          exact hd_bad HCODE.out (by decide) HB2.out
      · have z0 : ((x : Int) != (magic : Int)) = true := by rw [bne_iff_ne]; omega
        have HX := Lib.hid (show hdCode l i magic = 4 from by unfold hdCode; rw [if_neg (by rw [HL.out]; have := HGE.out; omega), if_pos (by rw [HX0.out]; exact hm)])
        clear hm
        go_wp2_with fail
        go_ret2
        exact hd_bad HX.out (by decide) HB.out
end Go.Proofs.YtcdlmpiihcopaaaDoor
