/-
  The walk of corncriblaw16.OnceClears.
-/
import Derived.Test.YtboadalojimdlaaOnceAlive
import Derived.Test.YtboadalojimdlaaMsl
namespace Go.Proofs.Ytboadalojimdlaa
open Go.RowKit

set_option maxRecDepth 100000 in
set_option maxHeartbeats 4000000 in
theorem clears_walk (a : Option Addr) (n c : Nat) (l : List MsgR) (w : World) (h : MSl w w.heap.size a n l) (hn : n ≤ 9223372036854775807) :
    Calls Try.prog 8 #[.slice a n c] w fun e w' => e = .returned (.bool true) ∧ Below w.heap.size w w' := by
  by_cases hbig : 40 < n
  · clear h
    go_enter Try.func8, Try.ntmps8
    go_wp2_with fail
    refine (once_alive _).mono ?_
    rintro e w1 ⟨rfl, B1⟩
    have HB := Lib.hid B1
    clear B1
    go_wp2_with fail
    go_ret
    exact ⟨rfl, HB.out⟩
  have hn40 : n ≤ 40 := by omega
  have HH := Lib.hid h
  clear h hbig hn
  go_enter Try.func8, Try.ntmps8
  go_wp2_with fail
  refine (once_alive _).mono ?_
  rintro e w1 ⟨rfl, B1⟩
  have HB1 := Lib.hid B1
  clear B1
  go_wp2_with fail
  refine (new_ok 4 _ (by decide) (by decide)).mono ?_
  rintro e w2 ⟨rfl, hT2, B2⟩
  have HB2 := Lib.hid (HB1.out.trans (B2.mono HB1.out.size))
  have HG := Lib.hid HB1.out.size
  have HT2 := Lib.hid hT2
  clear B2 hT2 HB1
  generalize w1.heap.size = b at *
  go_wp2_with fail
  go_loopw [5, 6, 7, 8, 9] (fun rv _ _ _ _ wr => ∃ r : Nat, r ≤ 2 ∧ rv = .int .i64 r ∧ TBl wr (b + 1) b 4 [] ∧ Below w.heap.size w wr)
    (fun rv _ _ _ _ _ => 2 - (intOf rv).toNat)
  case atStart => exact ⟨0, by omega, rfl, HT2.out, HB2.out⟩
  case round =>
    obtain ⟨r, hr, rfl, hT, hB⟩ := hrel
    have HT := Lib.hid hT
    have HB := Lib.hid hB
    clear hT hB HT2 HB2
    by_cases hr2 : r < 2
    · have hd : decide ((r : Int) < 2) = true := decide_eq_true (by omega)
      have HR2 := Lib.hid hr2
      clear hr2
      go_wp2_with fail
      go_loopw [6, 7, 8, 9] (fun kv iv _ _ wr => ∃ (i : Nat) (L : List MsgR), i ≤ n ∧ iv = .int .i64 i ∧ kv = .int .i64 (L.length : Nat) ∧ L.length ≤ i ∧ TBl wr (b + 1) b 4 L ∧ Below w.heap.size w wr)
        (fun _ iv _ _ _ => n - (intOf iv).toNat)
      case atStart => exact ⟨0, [], by omega, rfl, rfl, Nat.le_refl _, HT.out, HB.out⟩
      case round =>
        obtain ⟨i, L, hi, rfl, rfl, hLi, hT, hB⟩ := hrel
        have HT := Lib.hid hT
        have HB := Lib.hid hB
        clear hT hB
        by_cases hlt : i < n
        · obtain ⟨m, hm⟩ : ∃ m, l.getD i mNone = m := ⟨_, rfl⟩
          have HM := Lib.hid (show MIn w w.heap.size m from by rw [← hm]; exact HH.out.2.1 i hlt)
          obtain ⟨ab, off, rfl, hab, k0, k1, k2, k3, k4, k5, k6, k7, k8, k9, k10, k11⟩ := (HH.out.below HB.out).at_ hlt hm
          have HAB := Lib.hid hab
          clear hab
          by_cases hbig : 300 < m.n
          · clear k0 k1 k2 k3 k4 k5 k6 k7 k8 k9 k10
            go_wp2_with fail
            go_ret
            exact ⟨rfl, HB.out⟩
          have hm300 : m.n ≤ 300 := by omega
          clear hbig
          have E1 := Lib.hid (fun (W : World) => ofm_any m W)
          have E2 := Lib.hid (fun (W : World) (hT : TBl W (b + 1) b 4 L) (h : BSl W W.heap.size m.a m.n m.l) => keep_any W m hT h HM.out.hc (by omega))
          have HKP := Lib.hid (kpCode_le L 4 m)
          generalize kpCode L 4 m = kp at *
          unfold MsgR.vals at E1 E2
          go_wp2_with fail
          refine (len_any _ HT.out).mono ?_
          rintro e w3 ⟨rfl, rfl⟩
          go_wp2_with fail
          refine (E1.out _).mono ?_
          rintro e w3 ⟨rfl, B3⟩
          have HB3 := Lib.hid (HB.out.trans (B3.mono HB.out.size))
          have HT3 := Lib.hid (HT.out.on B3)
          clear B3 HT HB E1 k0 k1 k2 k3 k4 k5 k6 k7 k8 k9 k10 k11
          go_wp2_with fail
          refine (E2.out _ HT3.out ((HM.out.hb.below HB3.out).more HB3.out.size)).mono ?_
          rintro e w4 (⟨hk, rfl, B4⟩ | ⟨hk, rfl, hg4, av, cv, _, _, hT4⟩)
          · have HB4 := Lib.hid (HB3.out.trans (B4.mono HB3.out.size))
            have HT4 := Lib.hid (HT3.out.on B4)
            have b0 : ((kp : Int) == 0) = false := eq_f (by omega)
            have b1 : ((kp : Int) != 0) = true := ne_t (by omega)
            clear B4 HT3 HB3 E2
            go_wp2_with fail
            refine (code_c kp _ HKP.out).mono ?_
            rintro e w5 ⟨rfl, rfl⟩
            clear HKP
            go_wp2_with fail
            refine (len_any _ HT4.out).mono ?_
            rintro e w5 ⟨rfl, rfl⟩
            go_wp2_with fail
            refine (len_any _ HT4.out).mono ?_
            rintro e w5 ⟨rfl, rfl⟩
            go_wp2_with fail
            go_roundw
            case rel => exact ⟨i + 1, L, by omega, by go_num, rfl, by omega, HT4.out, HB4.out⟩
            case measure => simp [intOf]; omega
          · have HB4 := Lib.hid (HB3.out.grown hg4 HB3.out.size (fun j e => by injection e with e; have := HG.out; omega))
            have HT4 := Lib.hid hT4
            have hlen : (L ++ [({ m with a := av, c := cv } : MsgR)]).length = L.length + 1 := by simp
            generalize L ++ [({ m with a := av, c := cv } : MsgR)] = L' at *
            have HLL := Lib.hid hlen
            have b2 : ((L.length : Int) + 1) = (L'.length : Int) := by omega
            have HB2' := Lib.hid b2
            have b3 : ((L'.length : Int) != (L.length : Int) + 1) = false := ne_f (by omega)
            clear hT4 hg4 HT3 HB3 E2 hlen b2
            go_wp2_with fail
            refine (code_c 0 _ (by decide)).mono ?_
            rintro e w5 ⟨rfl, rfl⟩
            clear HKP
            go_wp2_with fail
            refine (len_any _ HT4.out).mono ?_
            rintro e w5 ⟨rfl, rfl⟩
            go_wp2_with fail
            refine (len_any _ HT4.out).mono ?_
            rintro e w5 ⟨rfl, rfl⟩
            go_wp2_with fail
            go_roundw
            case rel => exact ⟨i + 1, L', by omega, by go_num, by have := HLL.out; go_num, by have := HLL.out; omega, HT4.out, HB4.out⟩
            case measure => simp [intOf]; omega
        · obtain rfl : i = n := by omega
          go_wp2_with fail
          refine (clear_any _ HT.out).mono ?_
          rintro e w3 ⟨rfl, hT3, hg3⟩
          have HB3 := Lib.hid (HB.out.grown hg3 HB.out.size (fun j e => by injection e with e; have := HG.out; omega))
          have HT3 := Lib.hid hT3
          clear hT3 hg3 HT HB
          go_wp2_with fail
          refine (len_any _ HT3.out).mono ?_
          rintro e w5 ⟨rfl, rfl⟩
          go_wp2_with fail
          refine (room_any _ HT3.out).mono ?_
          rintro e w5 ⟨rfl, B5⟩
          have HB5 := Lib.hid (HB3.out.trans (B5.mono HB3.out.size))
          have HT5 := Lib.hid (HT3.out.on B5)
          clear B5 HT3 HB3
          go_wp2_with fail
          go_roundw
          case rel => exact ⟨r + 1, by have := HR2.out; omega, by go_num, HT5.out, HB5.out⟩
          case measure => have := HR2.out; simp [intOf]; omega
    · obtain rfl : r = 2 := by omega
      go_wp2_with fail
      go_ret
      exact ⟨rfl, HB.out⟩
end Go.Proofs.Ytboadalojimdlaa
