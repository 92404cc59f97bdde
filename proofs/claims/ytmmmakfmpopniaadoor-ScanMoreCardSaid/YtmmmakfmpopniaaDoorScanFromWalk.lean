/-
  The walk of corncriblaw06.ScanFrom.
-/
import Derived.Test.YtmmmakfmpopniaaDoorScanAllWalk
namespace Go.Proofs.YtmmmakfmpopniaaDoor
open Go.RowKit
set_option linter.unusedVariables false

theorem needle_self (key ck : Nat) (g : Bool) (a a' : Option Addr) (n c c' : Nat) (l : List (BitVec 8)) (w : World) (h : BSl w w.heap.size a n l) (h' : BSl w w.heap.size a' n l) :
    Calls Tryd.prog 14 #[.agg #[.int .u64 key, .int .u32 ck, .bool g, .slice a n c], .agg #[.int .u64 key, .int .u32 ck, .bool g, .slice a' n c']] w fun e w' => e = .returned (.bool true) ∧ Below w.heap.size w w' := by
  have := needle_same key ck g a n c l key ck g a' n c' l w h h'
  rwa [ndSame_self] at this
/-- The bytes up to a place. -/
theorem cut_first {w : World} {B : Nat} {a : Option Addr} {n c : Nat} {l : List (BitVec 8)} (h : BSl w B a n l) (hc : n ≤ c) (k : Nat) (hk : k ≤ n) :
    ∃ a', (∀ W : World, (Instr.slice 22 (.slice a n c) none (some (.int .i64 (k : Int))) none).run Tryd.prog W = .ok (.slice a' k c) W) ∧ BSl w B a' k (l.take k) := by
  obtain ⟨a', -, -, h2, h3⟩ := cut_bytes h hc 0 k (by omega)
  exact ⟨a', fun W => h2 k W rfl rfl, by simpa using h3⟩
set_option maxRecDepth 100000 in
set_option maxHeartbeats 8000000 in
theorem sfrom_walk (a : Option Addr) (n c : Nat) (l : List (BitVec 8)) (m : Nat) (w : World) (hg : Laid w) (h : BSl w w.heap.size a n l) (hc : n ≤ c) (hm : m ≤ 255) :
    Calls Tryd.prog 4 #[.slice a n c, .int .u8 (m : Int)] w fun e w' => e = .returned (.bool true) ∧ Below w.heap.size w w' := by
  have EA := Lib.hid (scn_alive w hg)
  have HBS := Lib.hid fun (W : World) (B0 : Below w.heap.size w W) => (show BSl W W.heap.size a n l from (h.below B0).more B0.size)
  have HG := Lib.hid hg
  have HL := Lib.hid h.1
  have HC := Lib.hid hc
  clear hg h hc
  by_cases hbig : 3000 < n
  · have b0 : decide ((3000 : Int) < (n : Int)) = true := decide_eq_true (by omega)
    go_enter Tryd.func4, Tryd.ntmps4
    go_wp2_with fail
    refine EA.out.mono ?_
    rintro e w1 ⟨rfl, B1⟩
    have HB1 := Lib.hid B1
    clear B1
    go_wp2_with fail
    go_ret
    exact ⟨rfl, HB1.out⟩
  have b0 : decide ((3000 : Int) < (n : Int)) = false := decide_eq_false (by omega)
  have HN := Lib.hid (show n ≤ 3000 from by omega)
  clear hbig
  obtain ⟨⟨fs, o, cf⟩, hs⟩ : ∃ r, scn l 0 = r := ⟨_, rfl⟩
  have hall := scn_all l _ 0 (Nat.le_refl _) (Nat.zero_le _)
  rw [hs] at hall
  have HS := Lib.hid hs
  have HALL := Lib.hid hall
  have HLEN := Lib.hid (show fs.length ≤ 3000 from by have := HALL.out.1.len; rw [HL.out] at this; have := HN.out; dsimp only at *; omega)
  clear hs hall
  go_enter Tryd.func4, Tryd.ntmps4
  go_wp2_with fail
  refine EA.out.mono ?_
  rintro e w1 ⟨rfl, B1⟩
  have HB1 := Lib.hid B1
  have HG1 := Lib.hid (HG.out.on B1)
  have E1 := Lib.hid (scn_any ⟨#[102]⟩ a n c l 0 w1 (HBS.out _ B1) HC.out (by have := HN.out; omega) (Nat.zero_le _))
  clear B1 EA
  go_wp2_with fail
  refine E1.out.mono ?_
  intro e w2 hp
  obtain ⟨B2, a2, c2, ev, rfl, hc2, hrow2, hate2⟩ := hp.is HS.out
  have HB2 := Lib.hid (HB1.out.trans (B2.mono HB1.out.size))
  have HR2 := Lib.hid hrow2
  have HA2 := Lib.hid hate2
  have HC2 := Lib.hid hc2
  clear hp B2 hrow2 hate2 E1 HG1 HB1 HG hc2
  by_cases h0 : fs.length = 0
  · have z0 : ((fs.length : Int) == 0) = true := by rw [h0]; rfl
    clear h0
    go_wp2_with fail
    go_ret
    exact ⟨rfl, HB2.out⟩
  have z0 : ((fs.length : Int) == 0) = false := by rw [beq_eq_false_iff_ne]; omega
  have hpos : 0 < fs.length := by omega
  have hposz : (0 : Int) < (fs.length : Int) := by omega
  obtain ⟨k, hk⟩ : ∃ k, m % fs.length = k := ⟨_, rfl⟩
  have hkl : k < fs.length := by rw [← hk]; exact Nat.mod_lt _ hpos
  have hmz : (m : Int) ≤ 255 := by omega
  have hkz : (m : Int) % (fs.length : Int) = (k : Int) := by rw [← hk]; omega
  have hkt : (m : Int).tmod (fs.length : Int) = (k : Int) := by rw [Int.tmod_eq_emod_of_nonneg (by omega)]; exact hkz
  obtain ⟨f, hf⟩ : ∃ f, fs[k]? = some f := ⟨fs[k], List.getElem?_eq_getElem hkl⟩
  obtain ⟨g1, g2, g3, g4, -, -, -⟩ := HALL.out.1.at_ k f hf
  obtain ⟨b, av, cv, rfl, hl2⟩ := HR2.out.later k hkl f hf
  have hd := scn_drop l k 0 (by rw [HS.out]; exact Nat.le_of_lt hkl)
  rw [HS.out, ← g1] at hd
  have HD := Lib.hid hd
  obtain ⟨d, hdd⟩ : ∃ d, f.off + f.sz = d := ⟨_, rfl⟩
  rw [HL.out] at g4
  have hdn : d ≤ n := by omega
  obtain ⟨f3, hf3⟩ : ∃ f3, fs.take (k + 1) = f3 := ⟨_, rfl⟩
  have hf3l : f3.length = k + 1 := by rw [← hf3, List.length_take]; omega
  have hcut := scn_local l (l.take d) (k + 1) 0 (by rw [HS.out]; exact hkl) (by rw [HS.out, ← g2, hdd, List.take_take, Nat.min_self])
  rw [HS.out, ← g2, hdd, hf3, scn_end (at_ := d) (by rw [List.length_take]; omega), List.append_nil] at hcut
  have HCUT := Lib.hid hcut
  have hoff : f.off ≤ n := by omega
  have E3 := Lib.hid (scn_any ⟨#[102]⟩ a n c l f.off w2 (HBS.out _ HB2.out) HC.out (by have := HN.out; omega) hoff)
  have HX := Lib.hid fun (W : World) (B : Below w2.heap.size w2 W) => hl2 W B
  have HKL := Lib.hid hkl
  have HF := Lib.hid hf
  have hw2 : IntKind.i64.wrap ((f.off : Int) + (f.sz : Int)) = (d : Int) := by rw [IntWalk.i64_in _ (by have := HN.out; omega)]; omega
  have HW2 := Lib.hid hw2
  have hklz : (k : Int) < (fs.length : Int) := by omega
  obtain ⟨p0, p1, p2, p3, p4, p5⟩ := (hl2 w2 (Below.refl _ _)).1
  have HH := Lib.hid (And.intro hdn hf3l)
  clear hk hd g1 g2 g3 g4 hdd hf3 hf3l hcut hw2 hf hl2 hoff hdn h0 hpos
  have HDL := Lib.hid (show (fs.drop k).length = fs.length - k from List.length_drop ..)
  have HDA := Lib.hid (show ∀ i, i < (fs.drop k).length → (fs.drop k)[i]? = fs[k + i]? from fun i _ => List.getElem?_drop)
  generalize fs.drop k = fd at *
  go_wp2_with fail
  refine E3.out.mono ?_
  intro e w3 hp
  obtain ⟨B3, a3, c3, ev3, rfl, hc3, hrow3, hate3⟩ := hp.is HD.out
  have HB3 := Lib.hid (HB2.out.trans (B3.mono HB2.out.size))
  have HR3 := Lib.hid hrow3
  have HX3 := Lib.hid B3
  have HRL := Lib.hid (HR2.out.below B3 (Nat.le_refl _))
  have EC1 := Lib.hid (code_ate (HA2.out.below B3 (Nat.le_refl _)) (by have := HALL.out.2.2.1; omega))
  have EC2 := Lib.hid (code_ate hate3 (by have := HALL.out.2.2.1; omega))
  have z1 : ((fd.length : Int) != (fs.length : Int) - (k : Int)) = false := by
    have := HDL.out; have := HKL.out
    rw [bne_eq_false_iff_eq]; omega
  have hflz : (fs.length : Int) ≤ 3000 := by have := HLEN.out; omega
  clear hp B3 hrow3 hate3 hc3 p0 p1 p2 p3 p4 p5 E3 HA2 HR2
  go_wp2_with fail
  refine EC1.out.mono ?_
  rintro e w4 ⟨rfl, rfl⟩
  go_wp2_with fail
  refine EC2.out.mono ?_
  rintro e w4 ⟨rfl, rfl⟩
  clear EC1 EC2
  go_wp2_with fail
  clear z1 hflz
  have E5 := Lib.hid fun (W : World) (B : Below w3.heap.size w3 W) => cut_first (HBS.out W (HB3.out.trans (B.mono HB3.out.size))) HC.out d HH.out.1
  go_loopw [12] (fun iv wr => ∃ i : Nat, i ≤ fd.length ∧ iv = .int .i64 i ∧ Below w3.heap.size w3 wr) (fun iv _ => fd.length - (intOf iv).toNat)
  case atStart => exact ⟨0, Nat.zero_le _, rfl, Below.refl _ _⟩
  case round =>
    obtain ⟨i, hi, rfl, hB⟩ := hrel
    have HB := Lib.hid hB
    clear hB
    by_cases hlt : i < fd.length
    · have hki : k + i < fs.length := by have := HDL.out; omega
      obtain ⟨f1, hf1⟩ : ∃ f1, fd[i]? = some f1 := ⟨fd[i], List.getElem?_eq_getElem hlt⟩
      have hf2 : fs[k + i]? = some f1 := by rw [← HDA.out i hlt]; exact hf1
      obtain ⟨j, hj⟩ : ∃ j, k + i = j := ⟨_, rfl⟩
      rw [hj] at hki hf2
      obtain ⟨b1, av1, cv1, rfl, hl6⟩ := HR3.out.later i hlt f1 hf1
      obtain ⟨b2, av2, cv2, hb2, hr6⟩ := HRL.out.later j hki f1 hf2
      injection hb2 with hb2
      injection hb2 with hb2
      subst hb2
      have HLf := Lib.hid fun (W : World) (B : Below wr.heap.size wr W) => hl6 W (HB.out.trans (B.mono HB.out.size))
      have HRf := Lib.hid fun (W : World) (B : Below wr.heap.size wr W) => hr6 W (HB.out.trans (B.mono HB.out.size))
      have HSM := Lib.hid fun (W : World) (B : Below wr.heap.size wr W) => needle_self f1.key f1.ck f1.g av1 av2 f1.l.length cv1 cv2 f1.l W (HLf.out W B).2 (HRf.out W B).2
      have hltz : (i : Int) < (fd.length : Int) := by omega
      have hiz : (i : Int) < 3000 := by have := HDL.out; have := HLEN.out; omega
      have hk0 : (j : Int) < (fs.length : Int) := by omega
      have HW := Lib.hid (show IntKind.i64.wrap ((k : Int) + (i : Int)) = (j : Int) from by have := HLEN.out; rw [IntWalk.i64_in _ (by omega)]; omega)
      clear hl6 hr6 hf1 hf2 hki hj
      go_upto_region 15 with fail
      refine wp_region_held_drew (S := fun W => Below wr.heap.size wr W) (by kernel_rfl) ((Below.refl _ _).drew) (fun hS => ?_)
      refine wpAnyH_take (i := 0) (v := ?_) rfl (by kernel_rfl) (by kernel_rfl) (by kernel_rfl) (fun _ _ _ h => h) (Or.inl ⟨by kernel_rfl, ?_⟩) hS ?_
      rotate_left
      · intro W hW; go_simp; try with_reducible rfl
      refine wpAnyH_take (i := 1) (v := ?_) rfl (by kernel_rfl) (by kernel_rfl) (by kernel_rfl) (fun _ _ _ h => h) (Or.inl ⟨by kernel_rfl, ?_⟩) hS ?_
      rotate_left
      · intro W hW; go_simp; try with_reducible rfl
      refine wpAnyH_take (i := 2) (v := ?_) rfl (by kernel_rfl) (by kernel_rfl) (by kernel_rfl) (fun _ _ _ h => h) (Or.inl ⟨by kernel_rfl, ?_⟩) hS ?_
      rotate_left
      · intro W hW; go_simp; try with_reducible rfl
      refine wpAnyH_take (i := 3) (v := ?_) rfl (by kernel_rfl) (by kernel_rfl) (by kernel_rfl) (fun _ _ _ h => h) (Or.inl ⟨by kernel_rfl, ?_⟩) hS ?_
      rotate_left
      · intro W hW; go_simp; try with_reducible rfl
      refine wpAnyH_take (i := 4) (v := ?_) rfl (by kernel_rfl) (by kernel_rfl) (by kernel_rfl) (fun _ _ _ h => h) (Or.inl ⟨by kernel_rfl, ?_⟩) hS ?_
      rotate_left
      · intro W hW; obtain ⟨p0, p1, p2, p3, p4, p5⟩ := (HLf.out W hW).1; obtain ⟨q0, q1, q2, q3, q4, q5⟩ := (HRf.out W hW).1; go_simp; try with_reducible rfl
      refine wpAnyH_take (i := 5) (v := ?_) rfl (by kernel_rfl) (by kernel_rfl) (by kernel_rfl) (fun _ _ _ h => h) (Or.inl ⟨by kernel_rfl, ?_⟩) hS ?_
      rotate_left
      · intro W hW; go_simp; try with_reducible rfl
      refine wpAnyH_take (i := 6) (v := ?_) rfl (by kernel_rfl) (by kernel_rfl) (by kernel_rfl) (fun _ _ _ h => h) (Or.inl ⟨by kernel_rfl, ?_⟩) hS ?_
      rotate_left
      · intro W hW; go_simp; try with_reducible rfl
      refine wpAnyH_take (i := 7) (v := ?_) rfl (by kernel_rfl) (by kernel_rfl) (by kernel_rfl) (fun _ _ _ h => h) (Or.inl ⟨by kernel_rfl, ?_⟩) hS ?_
      rotate_left
      · intro W hW; go_simp; try with_reducible rfl
      refine wpAnyH_take (i := 8) (v := ?_) rfl (by kernel_rfl) (by kernel_rfl) (by kernel_rfl) (fun _ _ _ h => h) (Or.inl ⟨by kernel_rfl, ?_⟩) hS ?_
      rotate_left
      · intro W hW; go_simp; rw [HW.out]; try with_reducible rfl
      refine wpAnyH_take (i := 9) (v := ?_) rfl (by kernel_rfl) (by kernel_rfl) (by kernel_rfl) (fun _ _ _ h => h) (Or.inl ⟨by kernel_rfl, ?_⟩) hS ?_
      rotate_left
      · intro W hW; go_simp; try with_reducible rfl
      refine wpAnyH_take (i := 10) (v := ?_) rfl (by kernel_rfl) (by kernel_rfl) (by kernel_rfl) (fun _ _ _ h => h) (Or.inl ⟨by kernel_rfl, ?_⟩) hS ?_
      rotate_left
      · intro W hW; go_simp; try with_reducible rfl
      refine wpAnyH_take (i := 11) (v := ?_) rfl (by kernel_rfl) (by kernel_rfl) (by kernel_rfl) (fun _ _ _ h => h) (Or.inl ⟨by kernel_rfl, ?_⟩) hS ?_
      rotate_left
      · intro W hW; obtain ⟨p0, p1, p2, p3, p4, p5⟩ := (HLf.out W hW).1; obtain ⟨q0, q1, q2, q3, q4, q5⟩ := (HRf.out W hW).1; go_simp; try with_reducible rfl
      refine wpAnyH_take (i := 12) (v := ?_) rfl (by kernel_rfl) (by kernel_rfl) (by kernel_rfl) (fun _ _ _ h => h) (Or.inl ⟨by kernel_rfl, ?_⟩) hS ?_
      rotate_left
      · intro W hW; go_simp; try with_reducible rfl
      refine wpAnyH_take (i := 13) (v := ?_) rfl (by kernel_rfl) (by kernel_rfl) (by kernel_rfl) (fun _ _ _ h => h) (Or.inl ⟨by kernel_rfl, ?_⟩) hS ?_
      rotate_left
      · intro W hW; go_simp; try with_reducible rfl
      refine wpAnyH_take (i := 14) (v := ?_) rfl (by kernel_rfl) (by kernel_rfl) (by kernel_rfl) (fun _ _ _ h => h) (Or.inl ⟨by kernel_rfl, ?_⟩) hS ?_
      rotate_left
      · intro W hW; go_simp; try with_reducible rfl
      refine wpAnyH_take (i := 15) (v := ?_) rfl (by kernel_rfl) (by kernel_rfl) (by kernel_rfl) (fun _ _ _ h => h) (Or.inl ⟨by kernel_rfl, ?_⟩) hS ?_
      rotate_left
      · intro W hW; go_simp; try with_reducible rfl
      refine wpAnyH_take (i := 16) (v := ?_) rfl (by kernel_rfl) (by kernel_rfl) (by kernel_rfl) (fun _ _ _ h => h) (Or.inl ⟨by kernel_rfl, ?_⟩) hS ?_
      rotate_left
      · intro W hW; go_simp; try with_reducible rfl
      refine wpAnyH_take (i := 17) (v := ?_) rfl (by kernel_rfl) (by kernel_rfl) (by kernel_rfl) (fun _ _ _ h => h) (Or.inl ⟨by kernel_rfl, ?_⟩) hS ?_
      rotate_left
      · intro W hW; go_simp; try with_reducible rfl
      refine wpAnyH_take (i := 18) (v := ?_) rfl (by kernel_rfl) (by kernel_rfl) (by kernel_rfl) (fun _ _ _ h => h) (Or.inl ⟨by kernel_rfl, ?_⟩) hS ?_
      rotate_left
      · intro W hW; obtain ⟨p0, p1, p2, p3, p4, p5⟩ := (HLf.out W hW).1; obtain ⟨q0, q1, q2, q3, q4, q5⟩ := (HRf.out W hW).1; go_simp; try with_reducible rfl
      refine wpAnyH_take (i := 19) (v := ?_) rfl (by kernel_rfl) (by kernel_rfl) (by kernel_rfl) (fun _ _ _ h => h) (Or.inl ⟨by kernel_rfl, ?_⟩) hS ?_
      rotate_left
      · intro W hW; go_simp; try with_reducible rfl
      refine wpAnyH_take (i := 20) (v := ?_) rfl (by kernel_rfl) (by kernel_rfl) (by kernel_rfl) (fun _ _ _ h => h) (Or.inl ⟨by kernel_rfl, ?_⟩) hS ?_
      rotate_left
      · intro W hW; go_simp; try with_reducible rfl
      refine wpAnyH_take (i := 21) (v := ?_) rfl (by kernel_rfl) (by kernel_rfl) (by kernel_rfl) (fun _ _ _ h => h) (Or.inl ⟨by kernel_rfl, ?_⟩) hS ?_
      rotate_left
      · intro W hW; go_simp; try with_reducible rfl
      refine wpAnyH_take (i := 22) (v := ?_) rfl (by kernel_rfl) (by kernel_rfl) (by kernel_rfl) (fun _ _ _ h => h) (Or.inl ⟨by kernel_rfl, ?_⟩) hS ?_
      rotate_left
      · intro W hW; go_simp; rw [HW.out]; try with_reducible rfl
      refine wpAnyH_take (i := 23) (v := ?_) rfl (by kernel_rfl) (by kernel_rfl) (by kernel_rfl) (fun _ _ _ h => h) (Or.inl ⟨by kernel_rfl, ?_⟩) hS ?_
      rotate_left
      · intro W hW; go_simp; try with_reducible rfl
      refine wpAnyH_take (i := 24) (v := ?_) rfl (by kernel_rfl) (by kernel_rfl) (by kernel_rfl) (fun _ _ _ h => h) (Or.inl ⟨by kernel_rfl, ?_⟩) hS ?_
      rotate_left
      · intro W hW; go_simp; try with_reducible rfl
      refine wpAnyH_take (i := 25) (v := ?_) rfl (by kernel_rfl) (by kernel_rfl) (by kernel_rfl) (fun _ _ _ h => h) (Or.inl ⟨by kernel_rfl, ?_⟩) hS ?_
      rotate_left
      · intro W hW; obtain ⟨p0, p1, p2, p3, p4, p5⟩ := (HLf.out W hW).1; obtain ⟨q0, q1, q2, q3, q4, q5⟩ := (HRf.out W hW).1; go_simp; try with_reducible rfl
      refine wpAnyH_ready (rs := [26]) (by kernel_rfl) (by simp) ?_
      refine AllReadyH.cons (i := 26) rfl ?_ AllReadyH.nil
      intro K hK
      go_simp
      refine (HSM.out _ hS).mono ?_
      rintro e w7 ⟨rfl, B7⟩
      have hT := hS.trans (B7.mono hS.size)
      go_simp
      refine hK.out _ _ ?_ (fun hN => ?_)
      · first | exact hT | exact hS | exact hS.alloc hS.size _ | exact hS.drew
      clear hK K
      try clear hT
      clear hS
      have hS := hN
      clear hN
      refine wpAnyH_take (i := 27) (v := ?_) rfl (by kernel_rfl) (by kernel_rfl) (by kernel_rfl) (fun _ _ _ h => h) (Or.inl ⟨by kernel_rfl, ?_⟩) hS ?_
      rotate_left
      · intro W hW; go_simp; try with_reducible rfl
      refine wpAnyH_take (i := 28) (v := ?_) rfl (by kernel_rfl) (by kernel_rfl) (by kernel_rfl) (fun _ _ _ h => h) (Or.inl ⟨by kernel_rfl, ?_⟩) hS ?_
      rotate_left
      · intro W hW; go_simp; try with_reducible rfl
      refine wpAnyH_done (by kernel_rfl) ?_ _
      have HF := Lib.hid (HB.out.trans (hS.mono HB.out.size))
      clear hS
      go_wp2_with fail
      go_roundw
      case rel => exact ⟨i + 1, by omega, by go_num, HF.out⟩
      case measure => simp [intOf]; omega
    · obtain rfl : i = fd.length := by omega
      obtain ⟨k1, hk1⟩ : ∃ k1, k + 1 = k1 := ⟨_, rfl⟩
      have HW1 := Lib.hid (show IntKind.i64.wrap ((k : Int) + 1) = (k1 : Int) from by have := HLEN.out; have := HKL.out; rw [IntWalk.i64_in _ (by omega)]; omega)
      have HF3 := Lib.hid (show f3.length = k1 from by rw [← hk1]; exact HH.out.2)
      clear hk1
      have HX2 := Lib.hid (show ∀ W, Below wr.heap.size wr W → _ from fun W B => (HX.out W ((HX3.out.trans (HB.out.mono HX3.out.size)).trans (B.mono (Nat.le_trans HX3.out.size HB.out.size)))).1)
      obtain ⟨a5, hs5, hb5⟩ := E5.out wr HB.out
      have HB5 := Lib.hid hb5
      have E6 := Lib.hid fun (W : World) (B : Below wr.heap.size wr W) => scn_any ⟨#[102]⟩ a5 d c (l.take d) 0 W ((hb5.below (B.mono (Nat.le_refl _))).more B.size) (by have := HC.out; have := HH.out; omega) (by have := HN.out; have := HH.out; omega) (Nat.zero_le _)
      have HBX := Lib.hid (HB3.out.trans (HB.out.mono HB3.out.size))
      clear hb5 E5 HRL HR3 HDL HDA HD
      go_upto_region 17 with fail
      refine wp_region_held_drew (S := fun W => Below wr.heap.size wr W) (by kernel_rfl) ((Below.refl _ _).drew) (fun hS => ?_)
      refine wpAnyH_take (i := 0) (v := ?_) rfl (by kernel_rfl) (by kernel_rfl) (by kernel_rfl) (fun _ _ _ h => h) (Or.inl ⟨by kernel_rfl, ?_⟩) hS ?_
      rotate_left
      · intro W hW; go_simp; try with_reducible rfl
      refine wpAnyH_take (i := 1) (v := ?_) rfl (by kernel_rfl) (by kernel_rfl) (by kernel_rfl) (fun _ _ _ h => h) (Or.inl ⟨by kernel_rfl, ?_⟩) hS ?_
      rotate_left
      · intro W hW; go_simp; try with_reducible rfl
      refine wpAnyH_take (i := 2) (v := ?_) rfl (by kernel_rfl) (by kernel_rfl) (by kernel_rfl) (fun _ _ _ h => h) (Or.inl ⟨by kernel_rfl, ?_⟩) hS ?_
      rotate_left
      · intro W hW; go_simp; try with_reducible rfl
      refine wpAnyH_take (i := 3) (v := ?_) rfl (by kernel_rfl) (by kernel_rfl) (by kernel_rfl) (fun _ _ _ h => h) (Or.inl ⟨by kernel_rfl, ?_⟩) hS ?_
      rotate_left
      · intro W hW; go_simp; try with_reducible rfl
      refine wpAnyH_take (i := 4) (v := ?_) rfl (by kernel_rfl) (by kernel_rfl) (by kernel_rfl) (fun _ _ _ h => h) (Or.inl ⟨by kernel_rfl, ?_⟩) hS ?_
      rotate_left
      · intro W hW; go_simp; try with_reducible rfl
      refine wpAnyH_take (i := 5) (v := ?_) rfl (by kernel_rfl) (by kernel_rfl) (by kernel_rfl) (fun _ _ _ h => h) (Or.inl ⟨by kernel_rfl, ?_⟩) hS ?_
      rotate_left
      · intro W hW; obtain ⟨p0, p1, p2, p3, p4, p5⟩ := HX2.out W hW; go_simp; try with_reducible rfl
      refine wpAnyH_take (i := 6) (v := ?_) rfl (by kernel_rfl) (by kernel_rfl) (by kernel_rfl) (fun _ _ _ h => h) (Or.inl ⟨by kernel_rfl, ?_⟩) hS ?_
      rotate_left
      · intro W hW; go_simp; try with_reducible rfl
      refine wpAnyH_take (i := 7) (v := ?_) rfl (by kernel_rfl) (by kernel_rfl) (by kernel_rfl) (fun _ _ _ h => h) (Or.inl ⟨by kernel_rfl, ?_⟩) hS ?_
      rotate_left
      · intro W hW; go_simp; try with_reducible rfl
      refine wpAnyH_take (i := 8) (v := ?_) rfl (by kernel_rfl) (by kernel_rfl) (by kernel_rfl) (fun _ _ _ h => h) (Or.inl ⟨by kernel_rfl, ?_⟩) hS ?_
      rotate_left
      · intro W hW; go_simp; try with_reducible rfl
      refine wpAnyH_take (i := 9) (v := ?_) rfl (by kernel_rfl) (by kernel_rfl) (by kernel_rfl) (fun _ _ _ h => h) (Or.inl ⟨by kernel_rfl, ?_⟩) hS ?_
      rotate_left
      · intro W hW; go_simp; try with_reducible rfl
      refine wpAnyH_take (i := 10) (v := ?_) rfl (by kernel_rfl) (by kernel_rfl) (by kernel_rfl) (fun _ _ _ h => h) (Or.inl ⟨by kernel_rfl, ?_⟩) hS ?_
      rotate_left
      · intro W hW; obtain ⟨p0, p1, p2, p3, p4, p5⟩ := HX2.out W hW; go_simp; try with_reducible rfl
      refine wpAnyH_take (i := 11) (v := ?_) rfl (by kernel_rfl) (by kernel_rfl) (by kernel_rfl) (fun _ _ _ h => h) (Or.inl ⟨by kernel_rfl, ?_⟩) hS ?_
      rotate_left
      · intro W hW; go_simp; rw [HW2.out]; try with_reducible rfl
      refine wpAnyH_take (i := 12) (v := ?_) rfl (by kernel_rfl) (by kernel_rfl) (by kernel_rfl) (fun _ _ _ h => h) (Or.inl ⟨by kernel_rfl, ?_⟩) hS ?_
      rotate_left
      · intro W hW; go_simp; try with_reducible rfl
      refine wpAnyH_ready (rs := [13]) (by kernel_rfl) (by simp) ?_
      refine AllReadyH.cons (i := 13) rfl ?_ AllReadyH.nil
      intro K hK
      go_simp
      refine (E6.out _ hS).mono ?_
      intro e w7 hp7
      obtain ⟨B7, a7, c7, ev7, rfl, hc7, hrow7, hate7⟩ := hp7.is HCUT.out
      have hT := hS.trans (B7.mono hS.size)
      have EC := Lib.hid fun (W : World) (B : Below w7.heap.size w7 W) => code_ate (hate7.below B (Nat.le_refl _)) (by decide)
      have HB7 := Lib.hid hT
      clear hp7 hrow7 hate7 B7
      go_simp
      refine hK.out _ _ ?_ (fun hN => ?_)
      · first | exact hT | exact hS | exact hS.alloc hS.size _ | exact hS.drew
      clear hK K
      try clear hT
      clear hS
      have hS := hN
      clear hN
      refine wpAnyH_take (i := 14) (v := ?_) rfl (by kernel_rfl) (by kernel_rfl) (by kernel_rfl) (fun _ _ _ h => h) (Or.inl ⟨by kernel_rfl, ?_⟩) hS ?_
      rotate_left
      · intro W hW; go_simp; try with_reducible rfl
      refine wpAnyH_take (i := 15) (v := ?_) rfl (by kernel_rfl) (by kernel_rfl) (by kernel_rfl) (fun _ _ _ h => h) (Or.inl ⟨by kernel_rfl, ?_⟩) hS ?_
      rotate_left
      · intro W hW; go_simp; try with_reducible rfl
      refine wpAnyH_take (i := 16) (v := ?_) rfl (by kernel_rfl) (by kernel_rfl) (by kernel_rfl) (fun _ _ _ h => h) (Or.inl ⟨by kernel_rfl, ?_⟩) hS ?_
      rotate_left
      · intro W hW; go_simp; try with_reducible rfl
      refine wpAnyH_take (i := 17) (v := ?_) rfl (by kernel_rfl) (by kernel_rfl) (by kernel_rfl) (fun _ _ _ h => h) (Or.inl ⟨by kernel_rfl, ?_⟩) hS ?_
      rotate_left
      · intro W hW; go_simp; try with_reducible rfl
      refine wpAnyH_take (i := 18) (v := ?_) rfl (by kernel_rfl) (by kernel_rfl) (by kernel_rfl) (fun _ _ _ h => h) (Or.inl ⟨by kernel_rfl, ?_⟩) hS ?_
      rotate_left
      · intro W hW; go_simp; try with_reducible rfl
      refine wpAnyH_take (i := 19) (v := ?_) rfl (by kernel_rfl) (by kernel_rfl) (by kernel_rfl) (fun _ _ _ h => h) (Or.inl ⟨by kernel_rfl, ?_⟩) hS ?_
      rotate_left
      · intro W hW; go_simp; try with_reducible rfl
      refine wpAnyH_take (i := 20) (v := ?_) rfl (by kernel_rfl) (by kernel_rfl) (by kernel_rfl) (fun _ _ _ h => h) (Or.inl ⟨by kernel_rfl, ?_⟩) hS ?_
      rotate_left
      · intro W hW; go_simp; try with_reducible rfl
      refine wpAnyH_done (by kernel_rfl) ?_ _
      rw [HF3.out]
      clear hS
      go_upto_region 18 with fail
      refine wp_region_held_drew (S := fun W => Below w7.heap.size w7 W) (by kernel_rfl) ((Below.refl _ _).drew) (fun hS => ?_)
      refine wpAnyH_take (i := 0) (v := ?_) rfl (by kernel_rfl) (by kernel_rfl) (by kernel_rfl) (fun _ _ _ h => h) (Or.inl ⟨by kernel_rfl, ?_⟩) hS ?_
      rotate_left
      · intro W hW; go_simp; try with_reducible rfl
      refine wpAnyH_ready (rs := [1]) (by kernel_rfl) (by simp) ?_
      refine AllReadyH.cons (i := 1) rfl ?_ AllReadyH.nil
      intro K hK
      go_simp
      refine (EC.out _ hS).mono ?_
      rintro e w8 ⟨rfl, rfl⟩
      go_simp
      refine hK.out _ _ ?_ (fun hN => ?_)
      · first | exact hT | exact hS | exact hS.alloc hS.size _ | exact hS.drew
      clear hK K
      try clear hT
      clear hS
      have hS := hN
      clear hN
      refine wpAnyH_take (i := 2) (v := ?_) rfl (by kernel_rfl) (by kernel_rfl) (by kernel_rfl) (fun _ _ _ h => h) (Or.inl ⟨by kernel_rfl, ?_⟩) hS ?_
      rotate_left
      · intro W hW; go_simp; try with_reducible rfl
      refine wpAnyH_take (i := 3) (v := ?_) rfl (by kernel_rfl) (by kernel_rfl) (by kernel_rfl) (fun _ _ _ h => h) (Or.inl ⟨by kernel_rfl, ?_⟩) hS ?_
      rotate_left
      · intro W hW; go_simp; try with_reducible rfl
      refine wpAnyH_take (i := 4) (v := ?_) rfl (by kernel_rfl) (by kernel_rfl) (by kernel_rfl) (fun _ _ _ h => h) (Or.inl ⟨by kernel_rfl, ?_⟩) hS ?_
      rotate_left
      · intro W hW; go_simp; try with_reducible rfl
      refine wpAnyH_take (i := 5) (v := ?_) rfl (by kernel_rfl) (by kernel_rfl) (by kernel_rfl) (fun _ _ _ h => h) (Or.inl ⟨by kernel_rfl, ?_⟩) hS ?_
      rotate_left
      · intro W hW; go_simp; try with_reducible rfl
      refine wpAnyH_take (i := 6) (v := ?_) rfl (by kernel_rfl) (by kernel_rfl) (by kernel_rfl) (fun _ _ _ h => h) (Or.inl ⟨by kernel_rfl, ?_⟩) hS ?_
      rotate_left
      · intro W hW; go_simp; try with_reducible rfl
      refine wpAnyH_take (i := 7) (v := ?_) rfl (by kernel_rfl) (by kernel_rfl) (by kernel_rfl) (fun _ _ _ h => h) (Or.inl ⟨by kernel_rfl, ?_⟩) hS ?_
      rotate_left
      · intro W hW; go_simp; rw [HW1.out]; try with_reducible rfl
      refine wpAnyH_take (i := 8) (v := ?_) rfl (by kernel_rfl) (by kernel_rfl) (by kernel_rfl) (fun _ _ _ h => h) (Or.inl ⟨by kernel_rfl, ?_⟩) hS ?_
      rotate_left
      · intro W hW; go_simp; try with_reducible rfl
      refine wpAnyH_take (i := 9) (v := ?_) rfl (by kernel_rfl) (by kernel_rfl) (by kernel_rfl) (fun _ _ _ h => h) (Or.inl ⟨by kernel_rfl, ?_⟩) hS ?_
      rotate_left
      · intro W hW; go_simp; try with_reducible rfl
      refine wpAnyH_take (i := 10) (v := ?_) rfl (by kernel_rfl) (by kernel_rfl) (by kernel_rfl) (fun _ _ _ h => h) (Or.inl ⟨by kernel_rfl, ?_⟩) hS ?_
      rotate_left
      · intro W hW; go_simp; try with_reducible rfl
      refine wpAnyH_take (i := 11) (v := ?_) rfl (by kernel_rfl) (by kernel_rfl) (by kernel_rfl) (fun _ _ _ h => h) (Or.inl ⟨by kernel_rfl, ?_⟩) hS ?_
      rotate_left
      · intro W hW; go_simp; try with_reducible rfl
      refine wpAnyH_take (i := 12) (v := ?_) rfl (by kernel_rfl) (by kernel_rfl) (by kernel_rfl) (fun _ _ _ h => h) (Or.inl ⟨by kernel_rfl, ?_⟩) hS ?_
      rotate_left
      · intro W hW; go_simp; try with_reducible rfl
      refine wpAnyH_take (i := 13) (v := ?_) rfl (by kernel_rfl) (by kernel_rfl) (by kernel_rfl) (fun _ _ _ h => h) (Or.inl ⟨by kernel_rfl, ?_⟩) hS ?_
      rotate_left
      · intro W hW; go_simp; try with_reducible rfl
      refine wpAnyH_take (i := 14) (v := ?_) rfl (by kernel_rfl) (by kernel_rfl) (by kernel_rfl) (fun _ _ _ h => h) (Or.inl ⟨by kernel_rfl, ?_⟩) hS ?_
      rotate_left
      · intro W hW; go_simp; try with_reducible rfl
      refine wpAnyH_take (i := 15) (v := ?_) rfl (by kernel_rfl) (by kernel_rfl) (by kernel_rfl) (fun _ _ _ h => h) (Or.inl ⟨by kernel_rfl, ?_⟩) hS ?_
      rotate_left
      · intro W hW; go_simp; try with_reducible rfl
      refine wpAnyH_take (i := 16) (v := ?_) rfl (by kernel_rfl) (by kernel_rfl) (by kernel_rfl) (fun _ _ _ h => h) (Or.inl ⟨by kernel_rfl, ?_⟩) hS ?_
      rotate_left
      · intro W hW; obtain ⟨p0, p1, p2, p3, p4, p5⟩ := HX2.out W (HB7.out.trans (hW.mono HB7.out.size)); go_simp; try with_reducible rfl
      refine wpAnyH_take (i := 17) (v := ?_) rfl (by kernel_rfl) (by kernel_rfl) (by kernel_rfl) (fun _ _ _ h => h) (Or.inl ⟨by kernel_rfl, ?_⟩) hS ?_
      rotate_left
      · intro W hW; go_simp; try with_reducible rfl
      refine wpAnyH_take (i := 18) (v := ?_) rfl (by kernel_rfl) (by kernel_rfl) (by kernel_rfl) (fun _ _ _ h => h) (Or.inl ⟨by kernel_rfl, ?_⟩) hS ?_
      rotate_left
      · intro W hW; go_simp; try with_reducible rfl
      refine wpAnyH_take (i := 19) (v := ?_) rfl (by kernel_rfl) (by kernel_rfl) (by kernel_rfl) (fun _ _ _ h => h) (Or.inl ⟨by kernel_rfl, ?_⟩) hS ?_
      rotate_left
      · intro W hW; go_simp; try with_reducible rfl
      refine wpAnyH_take (i := 20) (v := ?_) rfl (by kernel_rfl) (by kernel_rfl) (by kernel_rfl) (fun _ _ _ h => h) (Or.inl ⟨by kernel_rfl, ?_⟩) hS ?_
      rotate_left
      · intro W hW; go_simp; try with_reducible rfl
      refine wpAnyH_take (i := 21) (v := ?_) rfl (by kernel_rfl) (by kernel_rfl) (by kernel_rfl) (fun _ _ _ h => h) (Or.inl ⟨by kernel_rfl, ?_⟩) hS ?_
      rotate_left
      · intro W hW; obtain ⟨p0, p1, p2, p3, p4, p5⟩ := HX2.out W (HB7.out.trans (hW.mono HB7.out.size)); go_simp; try with_reducible rfl
      refine wpAnyH_take (i := 22) (v := ?_) rfl (by kernel_rfl) (by kernel_rfl) (by kernel_rfl) (fun _ _ _ h => h) (Or.inl ⟨by kernel_rfl, ?_⟩) hS ?_
      rotate_left
      · intro W hW; go_simp; rw [HW2.out]; try with_reducible rfl
      refine wpAnyH_take (i := 23) (v := ?_) rfl (by kernel_rfl) (by kernel_rfl) (by kernel_rfl) (fun _ _ _ h => h) (Or.inl ⟨by kernel_rfl, ?_⟩) hS ?_
      rotate_left
      · intro W hW; go_simp; try with_reducible rfl
      refine wpAnyH_take (i := 24) (v := ?_) rfl (by kernel_rfl) (by kernel_rfl) (by kernel_rfl) (fun _ _ _ h => h) (Or.inl ⟨by kernel_rfl, ?_⟩) hS ?_
      rotate_left
      · intro W hW; go_simp; try with_reducible rfl
      refine wpAnyH_take (i := 25) (v := ?_) rfl (by kernel_rfl) (by kernel_rfl) (by kernel_rfl) (fun _ _ _ h => h) (Or.inl ⟨by kernel_rfl, ?_⟩) hS ?_
      rotate_left
      · intro W hW; go_simp; try with_reducible rfl
      refine wpAnyH_done (by kernel_rfl) ?_ _
      have HF := Lib.hid (HBX.out.trans ((HB7.out.trans (hS.mono HB7.out.size)).mono HBX.out.size))
      clear hS
      go_simp
      go_wp2_with fail
      go_ret
      exact ⟨rfl, HF.out⟩
theorem sfrom_all (a : Option Addr) (n c : Nat) (l : List (BitVec 8)) (m : Int) (w : World) (hg : Laid w) (h : BSl w w.heap.size a n l) (hc : n ≤ c) (h0 : 0 ≤ m) (h1 : m ≤ 255) :
    Calls Tryd.prog 4 #[.slice a n c, .int .u8 m] w fun e w' => e = .returned (.bool true) ∧ Below w.heap.size w w' := by
  obtain ⟨mn, rfl⟩ : ∃ mn : Nat, m = mn := ⟨m.toNat, by omega⟩
  exact sfrom_walk a n c l mn w hg h hc (by omega)
end Go.Proofs.YtmmmakfmpopniaaDoor
