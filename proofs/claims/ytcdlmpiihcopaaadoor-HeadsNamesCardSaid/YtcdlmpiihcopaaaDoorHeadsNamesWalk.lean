/-
  The walk of corncriblaw04.HeadsNames.
-/
import Derived.Test.YtcdlmpiihcopaaaDoorHdAlive
import Derived.Lib.ItoaMem
namespace Go.Proofs.YtcdlmpiihcopaaaDoor
open Go.RowKit
set_option linter.unusedVariables false

theorem names_nat (v g : Nat) (hv : v ≤ 65535) (hg : g ≤ 65535) (w : World) (ht : Tab w) :
    Calls Tryd.prog 9 #[.int .i64 (v : Int), .int .i64 (g : Int)] w fun e w' => e = .returned (.tuple #[.string (bs (nmA v g)), .string (bs (nmB v g)), .string (bs (nmC v)), .string (bs (nmD v))]) ∧ Below w.heap.size w w' := by
  have := names_any (v : Int) (g : Int) (by omega) (by omega) (by omega) (by omega) w ht
  rw [Lib.itoa_nonneg, Lib.itoa_nonneg] at this
  exact this
theorem bs_toList (l : List UInt8) : (bs l).toList = l := ByteArray.toList_mk l
theorem bs_ne {a b : List UInt8} (h : a ≠ b) : ((bs a).toList == (bs b).toList) = false := by rw [bs_toList, bs_toList, beq_eq_false_iff_ne]; exact h
theorem bs_beq {a b : List UInt8} {p : Bool} (h : a = b ↔ p = true) : ((bs a).toList == (bs b).toList) = p := by
  rw [bs_toList, bs_toList, Bool.eq_iff_iff, beq_iff_eq, h]
theorem nat_beq {a b : Nat} {p : Bool} (h : a = b ↔ p = true) : ((a : Int) == (b : Int)) = p := by
  rw [Bool.eq_iff_iff, beq_iff_eq, ← h]; omega
set_option maxRecDepth 100000 in
set_option maxHeartbeats 8000000 in
theorem hnames_walk (v g u h : Nat) (w : World) (ht : Tab w) (hv : v ≤ 65535) (hg : g ≤ 65535) (hu : u ≤ 65535) (hh : h ≤ 65535) :
    Calls Tryd.prog 3 #[.int .u16 (v : Int), .int .u16 (g : Int), .int .u16 (u : Int), .int .u16 (h : Int)] w fun e w' => e = .returned (.bool true) ∧ Below w.heap.size w w' := by
  obtain ⟨pv, hpv⟩ : ∃ pv : Bool, decide (v = u) = pv := ⟨_, rfl⟩
  obtain ⟨pg, hpg⟩ : ∃ pg : Bool, decide (g = h) = pg := ⟨_, rfl⟩
  have iv : v = u ↔ pv = true := by rw [← hpv, decide_eq_true_eq]
  have ig : g = h ↔ pg = true := by rw [← hpg, decide_eq_true_eq]
  have z1 := nat_beq iv
  have z2 := nat_beq ig
  have E1 := Lib.hid fun (W : World) (hT : Tab W) => names_nat v g hv hg W hT
  have E2 := Lib.hid fun (W : World) (hT : Tab W) => names_nat u h hu hh W hT
  have f1 := bs_ne (nm_AB v g v g)
  have f2 := bs_ne (nm_AC v g v)
  have f3 := bs_ne (nm_AD v g v)
  have f4 := bs_ne (nm_BC v g v)
  have f5 := bs_ne (nm_BD v g v)
  have f6 := bs_ne (nm_CD v v)
  have f7 : ((bs (nmA v g)).toList == (bs (nmA u h)).toList) = (pv && pg) := bs_beq (by rw [nm_A, iv, ig, Bool.and_eq_true])
  have f8 : ((bs (nmB v g)).toList == (bs (nmB u h)).toList) = (pv && pg) := bs_beq (by rw [nm_B, iv, ig, Bool.and_eq_true])
  have f9 : ((bs (nmC v)).toList == (bs (nmC u)).toList) = pv := bs_beq (by rw [nm_C, iv])
  have f10 : ((bs (nmD v)).toList == (bs (nmD u)).toList) = pv := bs_beq (by rw [nm_D, iv])
  have f11 := bs_ne (nm_AB v g u h)
  have f12 := bs_ne (fun e => nm_AB u h v g e.symm)
  have f13 := bs_ne (nm_CD v u)
  have hvz : (v : Int) ≤ 65535 := by omega
  have hgz : (g : Int) ≤ 65535 := by omega
  have huz : (u : Int) ≤ 65535 := by omega
  have hhz : (h : Int) ≤ 65535 := by omega
  have HT := Lib.hid ht
  generalize bs (nmA v g) = s1 at *
  generalize bs (nmB v g) = s2 at *
  generalize bs (nmC v) = s3 at *
  generalize bs (nmD v) = s4 at *
  generalize bs (nmA u h) = t1 at *
  generalize bs (nmB u h) = t2 at *
  generalize bs (nmC u) = t3 at *
  generalize bs (nmD u) = t4 at *
  clear hpv hpg iv ig hv hg hu hh ht
  cases pv <;> cases pg
  all_goals
    simp only [Bool.and_true, Bool.and_false] at f7 f8
    go_enter Tryd.func3, Tryd.ntmps3
    go_wp2_with fail
    refine (hd_alive _).mono ?_
    rintro e w1 ⟨rfl, B1⟩
    have HB1 := Lib.hid B1
    have HT1 := Lib.hid (tab_on HT.out B1)
    clear B1
    go_wp2_with fail
    refine (E1.out _ HT1.out).mono ?_
    rintro e w2 ⟨rfl, B2⟩
    have HB2 := Lib.hid (HB1.out.trans (B2.mono HB1.out.size))
    have HT2 := Lib.hid (tab_on HT1.out B2)
    clear B2
    go_wp2_with fail
    refine (E2.out _ HT2.out).mono ?_
    rintro e w3 ⟨rfl, B3⟩
    have HB3 := Lib.hid (HB2.out.trans (B3.mono HB2.out.size))
    clear B3
    go_wp2_with fail
    go_ret
    exact ⟨rfl, HB3.out⟩
theorem hnames_all (v g u h : Int) (w : World) (ht : Tab w) (v0 : 0 ≤ v) (v1 : v ≤ 65535) (g0 : 0 ≤ g) (g1 : g ≤ 65535) (u0 : 0 ≤ u) (u1 : u ≤ 65535) (h0 : 0 ≤ h) (h1 : h ≤ 65535) :
    Calls Tryd.prog 3 #[.int .u16 v, .int .u16 g, .int .u16 u, .int .u16 h] w fun e w' => e = .returned (.bool true) ∧ Below w.heap.size w w' := by
  obtain ⟨vn, rfl⟩ : ∃ n : Nat, v = n := ⟨v.toNat, by omega⟩
  obtain ⟨gn, rfl⟩ : ∃ n : Nat, g = n := ⟨g.toNat, by omega⟩
  obtain ⟨un, rfl⟩ : ∃ n : Nat, u = n := ⟨u.toNat, by omega⟩
  obtain ⟨hn, rfl⟩ : ∃ n : Nat, h = n := ⟨h.toNat, by omega⟩
  exact hnames_walk vn gn un hn w ht (by omega) (by omega) (by omega) (by omega)
end Go.Proofs.YtcdlmpiihcopaaaDoor
