/-
  The walk of corncriblaw03.NeedleRow.
-/
import Derived.Test.YtkmifimdjdjdpaaNdlAlive
import Derived.Test.YtkmifimdjdjdpaaElem
import Derived.Deep.RegionHeld3
namespace Go.Proofs.Ytkmifimdjdjdpaa
open Go.RowKit

/-- A needle as it came in. -/
structure NdR where
  key : Nat
  ck : Nat
  g : Bool
  a : Option Addr
  n : Nat
  c : Nat
  l : List (BitVec 8)
/-- A list of needles that came in. -/
def Nds (w : World) (B : Nat) (a : Option Addr) (n : Nat) (f : Nat → NdR) : Prop :=
  0 < n → ∃ b off, a = some ⟨b, off, none⟩ ∧ b < B ∧ ∀ i, i < n → w.cell? ⟨b, off + i * 4, none⟩ = some (.int .u64 ((f i).key : Nat)) ∧ w.cell? ⟨b, off + i * 4 + 1, none⟩ = some (.int .u32 ((f i).ck : Nat)) ∧
    w.cell? ⟨b, off + i * 4 + 2, none⟩ = some (.bool (f i).g) ∧ w.cell? ⟨b, off + i * 4 + 3, none⟩ = some (.slice (f i).a (f i).n (f i).c) ∧ BSl w B (f i).a (f i).n (f i).l ∧
    (f i).key < 18446744073709551616 ∧ (f i).ck < 4294967296 ∧ (f i).n ≤ 9223372036854775807

def ndB (d : NdR) : List (BitVec 8) := ndBytes d.key d.ck d.g d.l
/-- The bytes of k needles from the j-th on. -/
def sfx (f : Nat → NdR) : Nat → Nat → List (BitVec 8)
  | _, 0 => []
  | j, k + 1 => ndB (f j) ++ sfx f (j + 1) k
theorem sfx_snoc (f : Nat → NdR) (k : Nat) : ∀ j, sfx f j (k + 1) = sfx f j k ++ ndB (f (j + k)) := by
  induction k with
  | zero => intro j; simp [sfx]
  | succ k ih =>
    intro j
    rw [sfx, ih (j + 1), sfx, List.append_assoc, show j + 1 + k = j + (k + 1) from by omega]

/-- append(b, x...) onto a row of the call's own that may be nil. -/
theorem append_own_bytes {W : World} {base k : Nat} {v : Value} {xs : List Value} (hown : W.ownsRow base 5 1 v k xs) {B : Nat} {ad : Addr} {n : Nat} {l : List (BitVec 8)} (c : Nat) (h : BSl W B (some ad) n l) (h0 : 0 < n) (hs : k + n ≤ 2199023255552) (hbase : base ≤ W.heap.size) :
    ∃ g' cap' W', (Builtin.append_ #[22, 22] 22 #[v, .slice (some ad) n c]).run Try.prog W = .ok (.slice (some ⟨g', 0, none⟩) (k + n) cap') W' ∧
      W'.ownsRow base 5 1 (.slice (some ⟨g', 0, none⟩) (k + n) cap') (k + n) (xs ++ l.map bv) ∧ W.grownBy W' v.ownBlock := by
  obtain ⟨i0, hi, hz0, hz1, hz2⟩ := info_parts info_u8
  obtain ⟨g, cap, w', h1, h2, h3, -, -⟩ := run_append_lies (P := Try.prog) W 22 22 base 5 i0 (.int .u8 0) 1 1 Try.underlying22 hi hz0 hz1 hz2 rfl (by decide) v k xs hown ad n c (l.map bv) (by simp [h.1]) h.news (bv_one l) h0 (by unfold maxLen; omega) (by omega) hbase W.heap.size rfl
  exact ⟨g, cap, w', h1, h2, h3⟩

/-- What is so at each round's head: of the first loop. -/
def Row1 (W0 : World) (f : Nat → NdR) (i : Nat) (v : Value) (wr : World) : Prop :=
  ∃ av k cv, v = .slice av k cv ∧ k ≤ i * 5000 ∧ wr.ownsRow W0.heap.size 5 1 (.slice av k cv) k ((sfx f 0 i).map bv) ∧ Below W0.heap.size W0 wr ∧ (∀ j, j < i → chk (f j).g (f j).n = 0)
/-- .. of the second. -/
def Row2 (W0 : World) (f : Nat → NdR) (n j : Nat) (v : Value) (wr : World) : Prop :=
  ∃ av k cv, v = .slice av k cv ∧ k ≤ 100000 ∧ k ≤ cv ∧ BSl wr wr.heap.size av k (sfx f j (n - j)) ∧ Below W0.heap.size W0 wr

set_option maxRecDepth 100000 in
set_option maxHeartbeats 4000000 in
theorem nrow_walk (a : Option Addr) (n c : Nat) (f : Nat → NdR) (w : World) (h : Nds w w.heap.size a n f) :
    Calls Try.prog 11 #[.slice a n c] w fun e w' => e = .returned (.bool true) ∧ Below w.heap.size w w' := by
  by_cases hbig : 20 < n
  · go_enter Try.func11, Try.ntmps11
    go_wp2_with fail
    refine (needle_alive _).mono ?_
    rintro e w1 ⟨rfl, B1⟩
    go_wp2_with fail
    go_ret
    exact ⟨rfl, B1⟩
  have hn : n ≤ 20 := by omega
  clear hbig
  have HN := Lib.hid h
  clear h
  go_enter Try.func11, Try.ntmps11
  go_wp2_with fail
  refine (needle_alive _).mono ?_
  rintro e W0 ⟨rfl, B0⟩
  have BW := Lib.hid fun (W : World) (B : Below W0.heap.size W0 W) => B0.trans (B.mono B0.size)
  have HC := Lib.hid (show 0 < n → ∃ b off, a = some ⟨b, off, none⟩ ∧ ∀ i, i < n → ∀ W, Below W0.heap.size W0 W → W.cell? ⟨b, off + i * 4, none⟩ = some (.int .u64 ((f i).key : Nat)) ∧ W.cell? ⟨b, off + i * 4 + 1, none⟩ = some (.int .u32 ((f i).ck : Nat)) ∧
    W.cell? ⟨b, off + i * 4 + 2, none⟩ = some (.bool (f i).g) ∧ W.cell? ⟨b, off + i * 4 + 3, none⟩ = some (.slice (f i).a (f i).n (f i).c) ∧ BSl W W.heap.size (f i).a (f i).n (f i).l ∧
    (f i).key < 18446744073709551616 ∧ (f i).ck < 4294967296 ∧ (f i).n ≤ 9223372036854775807 from fun h0 => by
      obtain ⟨b, off, e, hb, hi⟩ := HN.out h0
      refine ⟨b, off, e, fun i hin W B => ?_⟩
      obtain ⟨c0, c1, c2, c3, hl, h1, h2, h3⟩ := hi i hin
      have BB := BW.out W B
      exact ⟨(BB.cell (p := ⟨b, off + i * 4, none⟩) hb).trans c0, (BB.cell (p := ⟨b, off + i * 4 + 1, none⟩) hb).trans c1, (BB.cell (p := ⟨b, off + i * 4 + 2, none⟩) hb).trans c2, (BB.cell (p := ⟨b, off + i * 4 + 3, none⟩) hb).trans c3, (hl.below BB).more BB.size, h1, h2, h3⟩)
  clear B0 HN
  go_wp2_with fail
  go_loopw [3, 4] (fun v iv wr => ∃ i : Nat, i ≤ n ∧ iv = .int .i64 i ∧ Row1 W0 f i v wr) (fun _ iv _ => n - (intOf iv).toNat)
  case atStart => exact ⟨0, by omega, rfl, none, 0, 0, rfl, by omega, ⟨rfl, .inl ⟨rfl, rfl⟩⟩, Below.refl _ _, fun j hj => absurd hj (by omega)⟩
  case round =>
    obtain ⟨i, hi, rfl, av, k, cv, rfl, hk, hown, B, hall⟩ := hrel
    by_cases hlt : i < n
    · obtain ⟨b, off, ha, hc⟩ := HC.out (by omega)
      subst ha
      have HCI := Lib.hid (hc i hlt)
      have HALL := Lib.hid hall
      have HOWN := Lib.hid hown
      have HSF := Lib.hid (sfx_snoc f i 0)
      rw [Nat.zero_add] at HSF
      obtain ⟨c0, c1, c2, c3, hl, x1, x2, x3⟩ := HCI.out wr B
      have hll := hl.1
      have hlt' : decide ((i : Int) < n) = true := by rw [decide_eq_true_eq]; omega
      have hi0 : (0 : Int) ≤ i := by omega
      have HFI := Lib.hid (show ndB (f i) = ndBytes (f i).key (f i).ck (f i).g (f i).l from rfl)
      have hkeep : ∀ j, j < i → chk (f j).g (f j).n = 0 := hall
      generalize hfi : f i = d at *
      obtain ⟨key, ck, g, da, dn, dc, dl⟩ := d
      dsimp only at *
      have HFF := Lib.hid hfi
      have HLL := Lib.hid hll
      have HL := Lib.hid hl
      clear hc hall hown hl hfi hll hkeep
      go_wp2_with fail
      refine (ref3_check key ck g da dn dc wr x3).mono ?_
      rintro e W1 ⟨rfl, B1⟩
      clear c0 c1 c2 c3
      have HO1 := Lib.hid (own_below HOWN.out B1 (Nat.le_refl _))
      have B1 := B.trans (B1.mono B.size)
      by_cases hok : chk g dn = 0
      · rw [hok]
        obtain ⟨c0, c1, c2, c3, hl, -⟩ := HCI.out W1 B1
        have P := Lib.hid (nput_ok key ck g da dn dc dl W1 hl x1 x2 hok)
        have hplen : 32 + dn + padn dn ≤ 5000 ∧ 32 ≤ 32 + dn + padn dn ∧ (32 + dn + padn dn) % 8 = 0 := by have := (chk_ok hok).1; unfold padn; omega
        have hszv : sizev (dn : Int) = ((32 + dn + padn dn : Nat) : Int) := by unfold sizev; rw [if_pos (by have := (chk_ok hok).1; omega), padv_nat]; omega
        have SZ := Lib.hid fun W => size_any (dn : Int) W (by omega) (by omega)
        rw [hszv] at SZ
        have HOK := Lib.hid hok
        generalize 32 + dn + padn dn = m at *
        obtain ⟨hm1, hm2, hm3⟩ := hplen
        have hm3' : (m : Int) % 8 = 0 := by omega
        clear hszv hl hok hm3
        go_wp2_with fail
        refine P.out.mono ?_
        rintro e W2 ⟨b2, cp2, rfl, ho2, B2⟩
        have HO2 := own_below HO1.out B2 (Nat.le_refl _)
        have B2 := B1.trans (B2.mono B1.size)
        clear c0 c1 c2 c3
        obtain ⟨c0, c1, c2, c3, -⟩ := HCI.out W2 B2
        obtain ⟨b3, cp3, W3, hr3, ho3, hg3⟩ := append_own_bytes HO2 cp2 (bsl_own ho2) (by omega) (by omega) B2.size
        have B3 := B2.grown hg3 B2.size (fun q e => (HO2.lt q e).1)
        rw [← List.map_append, ← HFI.out] at ho3
        have HO3 := Lib.hid ho3
        have HB3 := Lib.hid B3
        clear ho2 ho3 hg3 B3 HO2 HO1
        go_wp2_with fail
        refine (code_c 0 _ (by decide)).mono ?_
        rintro e w6 ⟨rfl, rfl⟩
        go_wp2_with fail
        refine (SZ.out _).mono ?_
        rintro e w6 ⟨rfl, rfl⟩
        go_wp2_with (at_builtin; refine list_run (by rfl) _ _ rfl rfl rfl hr3 ?_; clear hr3)
        go_roundw
        case rel =>
          refine ⟨i + 1, by omega, by go_num, some ⟨b3, 0, none⟩, k + m, cp3, rfl, by omega, ?_, HB3.out, fun j hj => ?_⟩
          · rw [HSF.out]
            exact HO3.out
          · rcases Nat.lt_or_ge j i with h1 | h1
            · exact HALL.out j h1
            · obtain rfl : j = i := by omega
              rw [HFF.out]
              exact HOK.out
        case measure => simp [intOf]; omega
      · have h12 : chk g dn = 1 ∨ chk g dn = 2 := by unfold chk at hok ⊢; split <;> (try split) <;> simp_all
        rcases h12 with h12 | h12
        all_goals
          rw [h12]
          clear h12 hok
          go_wp2_with fail
          go_ret
          exact ⟨rfl, BW.out _ B1⟩
    · obtain rfl : i = n := by omega
      have hlt' : decide ((i : Int) < i) = false := by simp
      have hb0 := Lib.hid (bsl_own hown)
      have hcv := own_cap hown
      have HALL := Lib.hid hall
      clear hown hall
      go_wp2_with fail
      go_loopw [3, 7] (fun v iv wr => ∃ j : Nat, j ≤ i ∧ iv = .int .i64 j ∧ Row2 W0 f i j v wr) (fun _ iv _ => i - (intOf iv).toNat)
      case atStart => exact ⟨0, by omega, rfl, av, k, cv, rfl, by omega, hcv, hb0.out, B⟩
      case round =>
        obtain ⟨j, hj, rfl, av2, k2, cv2, rfl, hk2, hkc2, hbs, B⟩ := hrel
        by_cases hlt : j < i
        · obtain ⟨b, off, ha, hc⟩ := HC.out (by omega)
          subst ha
          have HCI := Lib.hid (hc j hlt)
          have hokj := HALL.out j hlt
          have hlt' : decide ((j : Int) < i) = true := by rw [decide_eq_true_eq]; omega
          have hj0 : (0 : Int) ≤ j := by omega
          have hj1 : (j : Int) < i := by omega
          obtain ⟨c0, c1, c2, c3, hl, x1, x2, x3⟩ := HCI.out _ B
          have HS := Lib.hid (show sfx f j (i - j) = ndB (f j) ++ sfx f (j + 1) (i - (j + 1)) from by rw [show i - j = (i - (j + 1)) + 1 from by omega]; rfl)
          rw [HS.out] at hbs
          generalize hR : sfx f (j + 1) (i - (j + 1)) = R at *
          have HRR := Lib.hid hR
          clear hR
          have HBS := Lib.hid hbs
          have hkl := hbs.1
          have HFI := Lib.hid (show ndB (f j) = ndBytes (f j).key (f j).ck (f j).g (f j).l from rfl)
          generalize hfi : f j = d at *
          obtain ⟨key, ck, g, da, dn, dc, dl⟩ := d
          dsimp only at *
          have hll := hl.1
          have hG := ndGet_bytes key ck g dl R x1 x2 (by rw [hll]; exact hokj)
          rw [← HFI.out, hll] at hG
          have hbl : (ndB ⟨key, ck, g, da, dn, dc, dl⟩).length = 32 + dn + padn dn := by rw [HFI.out, ndBytes_length, hll]
          have HG := Lib.hid hG
          generalize ndB ⟨key, ck, g, da, dn, dc, dl⟩ = D at *
          have hn4 := (chk_ok hokj).1
          generalize 32 + dn + padn dn = m at *
          rw [List.length_append, hbl] at hkl
          have HLL := Lib.hid hll
          have HDL := Lib.hid hbl
          clear c0 c1 c2 c3 hc hl hG hbs hfi hll hbl hokj
          go_wp2_with fail
          refine (nget_any av2 k2 cv2 (D ++ R) _ HBS.out hkc2 (by omega)).mono ?_
          intro e W1 hgot
          obtain ⟨B1, avx, cvx, rfl, hcx, hox⟩ := hgot.is HG.out
          have HB1 := Lib.hid ((HBS.out.below B1).more B1.size)
          have B1 := B.trans (B1.mono B.size)
          rw [HLL.out] at hox ⊢
          clear hgot
          have B2 := B1.alloc B1.size (.cells #[.int .u64 key, .int .u32 ck, .bool g, .slice avx dn cvx] 27)
          have hK2 := Blk.made W1 27 #[.int .u64 key, .int .u32 ck, .bool g, .slice avx dn cvx]
          have hox2 := Lib.hid (hox.alloc (.cells #[.int .u64 key, .int .u32 ck, .bool g, .slice avx dn cvx] 27))
          have HBS2 := Lib.hid ((HB1.out.below ((Below.refl _ W1).alloc (Nat.le_refl _) (.cells #[.int .u64 key, .int .u32 ck, .bool g, .slice avx dn cvx] 27))).more ((Below.refl _ W1).alloc (Nat.le_refl _) (.cells #[.int .u64 key, .int .u32 ck, .bool g, .slice avx dn cvx] 27)).size)
          obtain ⟨a4, -, s2, -, hcut⟩ := cut_bytes HBS2.out hkc2 m (k2 - m) (by omega)
          rw [List.drop_left' HDL.out, List.take_of_length_le (by omega)] at hcut
          have hs2 := fun W => s2 (m : Int) W rfl (by omega)
          have HCUT := Lib.hid hcut
          have HK2 := Lib.hid hK2
          clear s2 hcut hox HBS2 hK2
          go_wp2_with fail
          generalize W1.alloc (.cells #[.int .u64 key, .int .u32 ck, .bool g, .slice avx dn cvx] 27) = W2 at *
          have HCL := Lib.hid fun (W : World) (B : Below W2.heap.size W2 W) => HCI.out W (B2.trans (B.mono B2.size))
          have HKL := Lib.hid fun (W : World) (B : Below W2.heap.size W2 W) => (HK2.out.below B HK2.out.lt).four
          refine wp_region_held_drew (S := fun W => Below W2.heap.size W2 W) (by kernel_rfl) ((Below.refl _ _).drew) (fun hS => ?_)
          refine wpAnyH_take (i := 0) (v := ?_) rfl (by kernel_rfl) (by kernel_rfl) (by kernel_rfl) (fun _ _ _ h => h) (Or.inl ⟨by kernel_rfl, ?_⟩) hS ?_
          rotate_left
          · intro W hW; go_simp; try with_reducible rfl
          refine wpAnyH_ready (rs := [1]) (by kernel_rfl) (by simp) ?_
          refine AllReadyH.cons rfl (fun K hK => ?_) AllReadyH.nil
          go_simp
          refine (code_c 0 _ (by decide)).mono ?_
          rintro e w6 ⟨rfl, rfl⟩
          go_simp
          refine hK.out _ _ ?_ (fun hN => ?_)
          · first | exact hT | exact hS | exact hS.alloc hS.size _ | exact hS.drew
          clear hK K
          try clear hT
          clear hS
          have hS := hN
          clear hN
          refine wpAnyH_take (i := 2) (v := ?_) rfl (by kernel_rfl) (by kernel_rfl) (by kernel_rfl) (fun _ _ _ h => h) (Or.inl ⟨by kernel_rfl, ?_⟩) hS ?_
          rotate_left
          · intro W hW; go_simp; try with_reducible rfl
          refine wpAnyH_take (i := 3) (v := ?_) rfl (by kernel_rfl) (by kernel_rfl) (by kernel_rfl) (fun _ _ _ h => h) (Or.inl ⟨by kernel_rfl, ?_⟩) hS ?_
          rotate_left
          · intro W hW; go_simp; try with_reducible rfl
          refine wpAnyH_take (i := 4) (v := ?_) rfl (by kernel_rfl) (by kernel_rfl) (by kernel_rfl) (fun _ _ _ h => h) (Or.inl ⟨by kernel_rfl, ?_⟩) hS ?_
          rotate_left
          · intro W hW; obtain ⟨c0, c1, c2, c3, -⟩ := HCL.out W hW; obtain ⟨k0, k1, k2, k3⟩ := HKL.out W hW; go_simp; try with_reducible rfl
          refine wpAnyH_take (i := 5) (v := ?_) rfl (by kernel_rfl) (by kernel_rfl) (by kernel_rfl) (fun _ _ _ h => h) (Or.inl ⟨by kernel_rfl, ?_⟩) hS ?_
          rotate_left
          · intro W hW; go_simp; try with_reducible rfl
          refine wpAnyH_take (i := 6) (v := ?_) rfl (by kernel_rfl) (by kernel_rfl) (by kernel_rfl) (fun _ _ _ h => h) (Or.inl ⟨by kernel_rfl, ?_⟩) hS ?_
          rotate_left
          · intro W hW; go_simp; try with_reducible rfl
          refine wpAnyH_take (i := 7) (v := ?_) rfl (by kernel_rfl) (by kernel_rfl) (by kernel_rfl) (fun _ _ _ h => h) (Or.inl ⟨by kernel_rfl, ?_⟩) hS ?_
          rotate_left
          · intro W hW; go_simp; try with_reducible rfl
          refine wpAnyH_take (i := 8) (v := ?_) rfl (by kernel_rfl) (by kernel_rfl) (by kernel_rfl) (fun _ _ _ h => h) (Or.inl ⟨by kernel_rfl, ?_⟩) hS ?_
          rotate_left
          · intro W hW; obtain ⟨c0, c1, c2, c3, -⟩ := HCL.out W hW; obtain ⟨k0, k1, k2, k3⟩ := HKL.out W hW; go_simp; try with_reducible rfl
          refine wpAnyH_ready (rs := [9]) (by kernel_rfl) (by simp) ?_
          refine AllReadyH.cons rfl (fun K hK => ?_) AllReadyH.nil
          go_simp
          refine (needle_same key ck g avx dn cvx dl key ck g da dn dc dl _ (bsl_own (own_below hox2.out hS (Nat.le_refl _))) (HCL.out _ hS).2.2.2.2.1).mono ?_
          rintro e w7 ⟨rfl, B7⟩
          have hT := hS.trans (B7.mono hS.size)
          rw [show ndSame key ck g dl key ck g dl = true from by unfold ndSame; simp]
          go_simp
          refine hK.out _ _ ?_ (fun hN => ?_)
          · first | exact hT | exact hS | exact hS.alloc hS.size _ | exact hS.drew
          clear hK K
          try clear hT
          clear hS
          have hS := hN
          clear hN
          refine wpAnyH_take (i := 10) (v := ?_) rfl (by kernel_rfl) (by kernel_rfl) (by kernel_rfl) (fun _ _ _ h => h) (Or.inl ⟨by kernel_rfl, ?_⟩) hS ?_
          rotate_left
          · intro W hW; go_simp; try with_reducible rfl
          refine wpAnyH_take (i := 11) (v := ?_) rfl (by kernel_rfl) (by kernel_rfl) (by kernel_rfl) (fun _ _ _ h => h) (Or.inl ⟨by kernel_rfl, ?_⟩) hS ?_
          rotate_left
          · intro W hW; go_simp; try with_reducible rfl
          refine wpAnyH_done (by kernel_rfl) ?_ _
          go_wp2_with fail
          go_roundw
          case rel => exact ⟨j + 1, by omega, by go_num, a4, k2 - m, cv2 - m, rfl, by omega, by omega, by rw [HRR.out]; exact (HCUT.out.below hS).more hS.size, B2.trans (hS.mono B2.size)⟩
          case measure => simp [intOf]; omega
        · obtain rfl : j = i := by omega
          have hlt' : decide ((j : Int) < j) = false := by simp
          have hkl := hbs.1
          rw [Nat.sub_self] at hkl
          have hk0 : k2 = 0 := by rw [← hkl]; rfl
          subst hk0
          clear hkl hbs
          go_wp2_with fail
          go_ret
          exact ⟨rfl, BW.out _ B⟩

end Go.Proofs.Ytkmifimdjdjdpaa
