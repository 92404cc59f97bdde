/-
  The walk of corncriblaw08.IndexOwn.
-/
import Derived.Test.YtmmmakfmpopniaaIdxOwnLaw
namespace Go.Proofs.Ytmmmakfmpopniaa
open Go.RowKit
set_option linter.unusedVariables false

theorem FindP.no {w : World} {e : Ending} {w' : World} (h : FindP w none e w') : e = .returned (.tuple #[.agg #[.int .u64 0, .int .i64 0, .int .i64 0, .int .u32 0, .bool false], errc 6]) ∧ Below w.heap.size w w' := by
  obtain ⟨p, cd, rfl, hp, hb⟩ := h
  rcases hp with ⟨e, _⟩ | ⟨_, rfl, rfl⟩
  · cases e
  · exact ⟨rfl, hb⟩
theorem own_tw {w w' : World} {base B n size : Nat} {v : Value} {e : TypeId} {xs : List Value} {r : Option Nat} (h : w.ownsRow base e size v n xs) (ht : Tw w w' B r) (h1 : v.ownBlock ≠ some B) (h2 : ∀ k, v.ownBlock = some k → r = some k → False) : w'.ownsRow base e size v n xs := by
  refine ⟨h.1, ?_⟩
  rcases h.2 with e | ⟨g, cap, cur, e1, hb, hg, rest⟩
  · exact .inl e
  · refine .inr ⟨g, cap, cur, e1, hb, ?_, rest⟩
    rw [ht.block g (Array.getElem?_eq_some_iff.1 hg).1 (fun e => h1 (by rw [e1, ← e]; rfl)) (fun e => h2 g (by rw [e1]; rfl) e.symm)]
    exact hg
theorem psl_none (w : World) (B : Nat) (a : Option Addr) : PSl w B a 0 [] := ⟨rfl, fun p hp => absurd hp (by simp), fun h => absurd h (by omega)⟩
theorem psl_at {w : World} {B n b off i : Nat} {L : List PosR} (h : PSl w B (some ⟨b, off, none⟩) n L) (hi : i < n) :
    w.cell? ⟨b, off + i * 5, none⟩ = some (.int .u64 (L.getD i dP).key) ∧ w.cell? ⟨b, off + i * 5 + 1, none⟩ = some (.int .i64 (L.getD i dP).off) ∧ w.cell? ⟨b, off + i * 5 + 2, none⟩ = some (.int .i64 (L.getD i dP).len) ∧ w.cell? ⟨b, off + i * 5 + 3, none⟩ = some (.int .u32 (L.getD i dP).ck) ∧ w.cell? ⟨b, off + i * 5 + 4, none⟩ = some (.bool (L.getD i dP).gone) := by
  obtain ⟨b', off', e, -, hc⟩ := h.2.2 (by omega)
  cases e
  exact psl_cells (B := 0) h.1 hc i hi rfl

set_option maxRecDepth 100000 in
set_option maxHeartbeats 8000000 in
theorem own_walk (a : Option Addr) (n c : Nat) (A : List PosR) (by_ : Nat) (w : World) (ha : PSl w w.heap.size a n A) (hn : n ≤ 9223372036854775807) (hby : by_ ≤ 255) :
    Calls Try.prog 6 #[.slice a n c, .int .u8 (by_ : Int)] w fun e w' => e = .returned (.bool true) ∧ Below w.heap.size w w' := by
  have HA := Lib.hid fun (W : World) (B0 : Below w.heap.size w W) => (show PSl W W.heap.size a n A from (ha.below B0).more B0.size)
  have hla := ha.1
  have HIN := Lib.hid ha.2.1
  clear ha
  by_cases hbig : 60 < n
  · have b0 : decide (60 < (n : Int)) = true := decide_eq_true (by omega)
    go_enter Try.func6, Try.ntmps6
    go_wp2_with fail
    refine (idx_alive _).mono ?_
    rintro e w1 ⟨rfl, B1⟩
    have HB1 := Lib.hid B1
    clear B1
    go_wp2_with fail
    go_ret
    exact ⟨rfl, HB1.out⟩
  have b0 : decide (60 < (n : Int)) = false := decide_eq_false (by omega)
  have hn60 : n ≤ 60 := by omega
  clear hbig hn
  have HN := Lib.hid hn60
  have HL := Lib.hid hla
  have hnz : (n : Int) ≤ 60 := by omega
  clear hla hn60
  go_enter Try.func6, Try.ntmps6
  go_wp2_with fail
  refine (idx_alive _).mono ?_
  rintro e w1 ⟨rfl, B1⟩
  have HB1 := Lib.hid B1
  clear B1
  go_wp2_with fail
  go_loopw [5] (fun iv wr => ∃ i : Nat, i ≤ n ∧ iv = .int .i64 i ∧ (∀ x, x < i → ∀ y, y < x → (A.getD x dP).key ≠ (A.getD y dP).key) ∧ Below w.heap.size w wr) (fun iv _ => n - (intOf iv).toNat)
  case atStart => exact ⟨0, by omega, rfl, fun x hx => absurd hx (by omega), HB1.out⟩
  case round =>
    obtain ⟨i, hi, rfl, hd, hB⟩ := hrel
    have HD := Lib.hid hd
    have HB := Lib.hid hB
    clear hd hB HB1 b0
    by_cases hin : i < n
    · have hiz : (i : Int) < (n : Int) := by omega
      obtain ⟨b, off, ha, -, -⟩ := (HA.out _ HB.out).2.2 (by omega)
      subst ha
      go_wp2_with fail
      go_loopw [6] (fun kv wx => ∃ k : Nat, k ≤ i ∧ kv = .int .i64 k ∧ (∀ y, y < k → (A.getD i dP).key ≠ (A.getD y dP).key) ∧ Below w.heap.size w wx) (fun kv _ => i - (intOf kv).toNat)
      case atStart => exact ⟨0, by omega, rfl, fun x hx => absurd hx (by omega), HB.out⟩
      case round =>
        obtain ⟨k, hk, rfl, hd2, hB⟩ := hrel
        have HD2 := Lib.hid hd2
        have HBk := Lib.hid hB
        clear hd2 hB HB
        by_cases hki : k < i
        · have hkz : (k : Int) < (i : Int) := by omega
          have hkn : (k : Int) < (n : Int) := by omega
          have HC1 := Lib.hid fun (W : World) (B0 : Below w.heap.size w W) => (psl_at (HA.out W B0) hin).1
          have HC2 := Lib.hid fun (W : World) (B0 : Below w.heap.size w W) => (psl_at (HA.out W B0) (show k < n by omega)).1
          have HX := Lib.hid fun (h : (A.getD i dP).key ≠ (A.getD k dP).key) => (show ∀ y, y < k + 1 → (A.getD i dP).key ≠ (A.getD y dP).key from fun y hy => by
            rcases Nat.lt_or_ge y k with h' | h'
            · exact HD2.out y h'
            · have : y = k := by omega
              subst this; exact h)
          generalize (A.getD i dP).key = x at *
          generalize (A.getD k dP).key = y at *
          go_upto_region 11 with fail
          refine wp_region_held_drew (S := fun W => Below wr.heap.size wr W) (by kernel_rfl) ((Below.refl _ _).drew) (fun hS => ?_)
          refine wpAnyH_take (i := 0) (v := ?_) rfl (by kernel_rfl) (by kernel_rfl) (by kernel_rfl) (fun _ _ _ h => h) (Or.inl ⟨by kernel_rfl, ?_⟩) hS ?_
          rotate_left
          · intro W hW; go_simp; try with_reducible rfl
          refine wpAnyH_take (i := 1) (v := ?_) rfl (by kernel_rfl) (by kernel_rfl) (by kernel_rfl) (fun _ _ _ h => h) (Or.inl ⟨by kernel_rfl, ?_⟩) hS ?_
          rotate_left
          · intro W hW; go_simp; try with_reducible rfl
          refine wpAnyH_take (i := 2) (v := ?_) rfl (by kernel_rfl) (by kernel_rfl) (by kernel_rfl) (fun _ _ _ h => h) (Or.inl ⟨by kernel_rfl, ?_⟩) hS ?_
          rotate_left
          · intro W hW; go_simp; try with_reducible rfl
          refine wpAnyH_take (i := 3) (v := ?_) rfl (by kernel_rfl) (by kernel_rfl) (by kernel_rfl) (fun _ _ _ h => h) (Or.inl ⟨by kernel_rfl, ?_⟩) hS ?_
          rotate_left
          · intro W hW; go_simp; try with_reducible rfl
          refine wpAnyH_take (i := 4) (v := ?_) rfl (by kernel_rfl) (by kernel_rfl) (by kernel_rfl) (fun _ _ _ h => h) (Or.inl ⟨by kernel_rfl, ?_⟩) hS ?_
          rotate_left
          · intro W hW; have x0 := HC1.out W (HBk.out.trans (hW.mono HBk.out.size)); have y0 := HC2.out W (HBk.out.trans (hW.mono HBk.out.size)); go_simp; try with_reducible rfl
          refine wpAnyH_take (i := 5) (v := ?_) rfl (by kernel_rfl) (by kernel_rfl) (by kernel_rfl) (fun _ _ _ h => h) (Or.inl ⟨by kernel_rfl, ?_⟩) hS ?_
          rotate_left
          · intro W hW; go_simp; try with_reducible rfl
          refine wpAnyH_take (i := 6) (v := ?_) rfl (by kernel_rfl) (by kernel_rfl) (by kernel_rfl) (fun _ _ _ h => h) (Or.inl ⟨by kernel_rfl, ?_⟩) hS ?_
          rotate_left
          · intro W hW; go_simp; try with_reducible rfl
          refine wpAnyH_take (i := 7) (v := ?_) rfl (by kernel_rfl) (by kernel_rfl) (by kernel_rfl) (fun _ _ _ h => h) (Or.inl ⟨by kernel_rfl, ?_⟩) hS ?_
          rotate_left
          · intro W hW; go_simp; try with_reducible rfl
          refine wpAnyH_take (i := 8) (v := ?_) rfl (by kernel_rfl) (by kernel_rfl) (by kernel_rfl) (fun _ _ _ h => h) (Or.inl ⟨by kernel_rfl, ?_⟩) hS ?_
          rotate_left
          · intro W hW; go_simp; try with_reducible rfl
          refine wpAnyH_take (i := 9) (v := ?_) rfl (by kernel_rfl) (by kernel_rfl) (by kernel_rfl) (fun _ _ _ h => h) (Or.inl ⟨by kernel_rfl, ?_⟩) hS ?_
          rotate_left
          · intro W hW; have x0 := HC1.out W (HBk.out.trans (hW.mono HBk.out.size)); have y0 := HC2.out W (HBk.out.trans (hW.mono HBk.out.size)); go_simp; try with_reducible rfl
          refine wpAnyH_take (i := 10) (v := ?_) rfl (by kernel_rfl) (by kernel_rfl) (by kernel_rfl) (fun _ _ _ h => h) (Or.inl ⟨by kernel_rfl, ?_⟩) hS ?_
          rotate_left
          · intro W hW; go_simp; try with_reducible rfl
          refine wpAnyH_done (by kernel_rfl) ?_ _
          go_simp
          have HB2 := Lib.hid (HBk.out.trans (hS.mono HBk.out.size))
          clear hS HBk
          by_cases he : x = y
          · have bq : ((x : Int) == (y : Int)) = true := by rw [he]; exact beq_self_eq_true _
            clear he
            go_wp2_with fail
            go_ret
            exact ⟨rfl, HB2.out⟩
          · have bq : ((x : Int) == (y : Int)) = false := by rw [beq_eq_false_iff_ne]; omega
            have HX2 := Lib.hid (HX.out he)
            clear he
            go_wp2_with fail
            go_roundw
            case rel => exact ⟨k + 1, by omega, by go_num, HX2.out, HB2.out⟩
            case measure => simp [intOf]; omega
        · obtain rfl : k = i := by omega
          have hkz : ¬ ((k : Int) < (k : Int)) := by omega
          go_wp2_with fail
          go_roundw
          case rel => exact ⟨k + 1, by omega, by go_num, fun x hx y hy => by
            rcases Nat.lt_or_ge x k with h' | h'
            · exact HD.out x h' y hy
            · have : x = k := by omega
              subst this; exact HD2.out y hy, HBk.out⟩
          case measure => simp [intOf]; omega
    · obtain rfl : i = n := by omega
      have hiz : ¬ ((i : Int) < (i : Int)) := by omega
      have HDS := Lib.hid (dst_of HL.out HD.out)
      clear HD
      have E2 := Lib.hid (of_any5 a i c A wr (HA.out _ HB.out) (by have := HN.out; omega))
      go_wp2_with fail
      refine E2.out.mono ?_
      rintro e w2 ⟨v2, rfl, ho2, B2⟩
      obtain ⟨a2, c2, rfl, -⟩ := own_form_any ho2
      have HB2 := Lib.hid (HB.out.trans (B2.mono HB.out.size))
      have E3 := Lib.hid (inew_any a2 i c2 A w2 (psl_own_same ho2 HIN.out) (by have := HN.out; omega))
      clear ho2 B2 E2 HB
      go_wp2_with fail
      refine E3.out.mono ?_
      rintro e w3 ⟨Bx, vx, rfl, hx, B3⟩
      have HB3 := Lib.hid (HB2.out.trans (B3.mono HB2.out.size))
      have HX3 := Lib.hid hx
      have E4 := Lib.hid (inew_any none 0 0 [] w3 (psl_none _ _ _) (by omega))
      clear hx B3 E3 HB2
      go_wp2_with fail
      refine E4.out.mono ?_
      rintro e w4 ⟨By, vy, rfl, hy, B4⟩
      have HX4 := Lib.hid (HX3.out.on B4)
      have HB4 := Lib.hid (HB3.out.trans (B4.mono HB3.out.size))
      have HS34 := Lib.hid B4.size
      have HB34 := Lib.hid B4
      have HY4 := Lib.hid (show IdR w4 w3.heap.size By vy (insAll PosR.key [] (rotL A by_ 0)) from hy)
      clear hy B4 E4
      go_wp2_with fail
      go_loopw [9] (fun jv wr => ∃ j : Nat, j ≤ i ∧ jv = .int .i64 j ∧ ∃ v, IdR wr w3.heap.size By v (insAll PosR.key [] (rotL A by_ j)) ∧ Below w3.heap.size w3 wr) (fun jv _ => i - (intOf jv).toNat)
      case atStart => exact ⟨0, by omega, rfl, vy, HY4.out, HB34.out⟩
      case round =>
        obtain ⟨j, hj, rfl, v, hY, hB3⟩ := hrel
        have HB := Lib.hid (HB3.out.trans (hB3.mono HB3.out.size))
        have HY := Lib.hid hY
        have HBB := Lib.hid hB3
        clear hY hB3 HB4 HX4 HY4 HB34
        by_cases hjn : j < i
        · have hjz : (j : Int) < (i : Int) := by omega
          obtain ⟨b, off, ha, -, -⟩ := (HA.out _ HB.out).2.2 (by omega)
          subst ha
          have hsg := sgI_lt (by_ := by_) (j := j) (show 0 < i by omega)
          obtain ⟨q0, q1, q2, q3, q4⟩ := psl_at (HA.out _ HB.out) hsg
          have HRT := Lib.hid (rotL_snoc A by_ j)
          rw [HL.out] at HRT
          have HQ := Lib.hid (getD_in (ps := A) (i := sgI i by_ j) (by rw [HL.out]; exact hsg) HIN.out)
          generalize A.getD (sgI i by_ j) dP = q at *
          have hixz : (i : Int) ≤ 60 := by have := HN.out; omega
          have hbz : (by_ : Int) ≤ 255 := by omega
          have hi0 : ¬ ((i : Int) = 0) := by omega
          have hsz : (((i : Int) - 1 - (j : Int) + (by_ : Int)).tmod (i : Int)) = (sgI i by_ j : Int) := by
            unfold sgI
            rw [show (i : Int) - 1 - (j : Int) + (by_ : Int) = ((i - 1 - j + by_ : Nat) : Int) from by omega]
            rfl
          have hsy : (((i : Int) - 1 - (j : Int) + (by_ : Int)) % (i : Int)) = (sgI i by_ j : Int) := by
            unfold sgI
            rw [show (i : Int) - 1 - (j : Int) + (by_ : Int) = ((i - 1 - j + by_ : Nat) : Int) from by omega]
            rfl
          have hsi : (sgI i by_ j : Int) < (i : Int) := by omega
          generalize sgI i by_ j = t at *
          have EPn := Lib.hid (iput_any HY.out q HQ.out (by have := insAll_len (ps := rotL A by_ j) (i := j) (rotL_len A by_ j) (Nat.le_refl _); rw [List.take_of_length_le (by rw [rotL_len]; exact Nat.le_refl _)] at this; have := HN.out; omega))
          rw [← insAll_snoc, ← HRT.out] at EPn
          go_wp2_with fail
          refine EPn.out.mono ?_
          rintro e w5 ⟨v5, rfl, hY5, ht5, -⟩
          have HY5 := Lib.hid hY5
          have HB5 := Lib.hid (HBB.out.trans (Tw.base HY.out ht5))
          clear hY5 ht5 EPn HY HBB HB q0 q1 q2 q3 q4
          go_wp2_with fail
          go_roundw
          case rel => exact ⟨j + 1, by omega, by go_num, v5, HY5.out, HB5.out⟩
          case measure => simp [intOf]; omega
        · obtain rfl : j = i := by omega
          have hjz : ¬ ((j : Int) < (j : Int)) := by omega
          have HLW := Lib.hid (own_law HDS.out by_)
          have HLN := Lib.hid (len_dst HDS.out)
          rw [HL.out] at HLW HLN
          rw [HLW.out] at HY
          have HXf := Lib.hid fun (W : World) (B0 : Below w3.heap.size w3 W) => HX3.out.on B0
          have EC := Lib.hid (iclone_any (HXf.out _ HBB.out))
          generalize insAll PosR.key [] A = X at *
          clear HLW HX3
          go_wp2_with fail
          refine EC.out.mono ?_
          rintro e w6 ⟨Bc, vc, rfl, hC, B6⟩
          have HB6 := Lib.hid (HBB.out.trans (B6.mono HBB.out.size))
          have HC6 := Lib.hid hC
          have HY6 := Lib.hid (HY.out.on B6)
          have HS6 := Lib.hid (Nat.le_trans HBB.out.size B6.size)
          have HSr := Lib.hid HBB.out.size
          have EA := Lib.hid (all_any (HXf.out _ HB6.out))
          clear hC B6 EC HBB HB HY
          go_wp2_with fail
          refine EA.out.mono ?_
          rintro e w7 ⟨v7, rfl, ho7, B7⟩
          obtain ⟨a7, c7, rfl, -⟩ := own_form_any ho7
          have HB7 := Lib.hid (HB6.out.trans (B7.mono HB6.out.size))
          have HC7 := Lib.hid (HC6.out.on B7)
          have HY7 := Lib.hid (HY6.out.on B7)
          have ET := Lib.hid (to_any5 a7 X.length c7 X w7 (psl_own_same ho7 HC6.out.inn) (by have := HC6.out.len; omega))
          clear ho7 B7 EA HC6 HY6 HB6
          go_wp2_with fail
          refine ET.out.mono ?_
          rintro e w8 ⟨v8, rfl, ho8, B8⟩
          obtain ⟨a8, c8, rfl, -⟩ := own_form_any ho8
          have HB8 := Lib.hid (HB7.out.trans (B8.mono HB7.out.size))
          have HC8 := Lib.hid (HC7.out.on B8)
          have HY8 := Lib.hid (HY7.out.on B8)
          have HO8 := Lib.hid ho8
          have EA := Lib.hid (all_any (HY7.out.on B8))
          clear ho8 B8 ET HC7 HY7 HB7
          go_wp2_with fail
          refine EA.out.mono ?_
          rintro e w9 ⟨v9, rfl, ho9, B9⟩
          obtain ⟨a9, c9, rfl, -⟩ := own_form_any ho9
          have HB9 := Lib.hid (HB8.out.trans (B9.mono HB8.out.size))
          have HC9 := Lib.hid (HC8.out.on B9)
          have HO9 := Lib.hid (own_belowI HO8.out B9 (Nat.le_refl _))
          have ET := Lib.hid (to_any5 a9 X.length c9 X w9 (psl_own_same ho9 HC8.out.inn) (by have := HC8.out.len; omega))
          clear ho9 B9 EA HC8 HY8 HB8 HO8
          go_wp2_with fail
          refine ET.out.mono ?_
          rintro e w10 ⟨v10, rfl, ho10, B10⟩
          obtain ⟨a10, c10, rfl, -⟩ := own_form_any ho10
          have HB10 := Lib.hid (HB9.out.trans (B10.mono HB9.out.size))
          have HC10 := Lib.hid (HC9.out.on B10)
          have HO10 := Lib.hid (own_belowI HO9.out B10 (Nat.le_refl _))
          have ES := Lib.hid (rsame_any a8 a10 X.length c8 X.length c10 X X w10 (psl_own_same HO10.out HC9.out.inn) (psl_own_same ho10 HC9.out.inn) (by have := HC9.out.len; omega))
          rw [decide_eq_true rfl] at ES
          clear ho10 B10 ET HC9 HB9 HO9
          go_wp2_with fail
          refine ES.out.mono ?_
          rintro e w11 ⟨rfl, qd, rfl⟩
          have hd11 : Below w10.heap.size w10 (w10.drewN qd) := below_drewN (Below.refl _ _) qd
          have HB11 := Lib.hid (HB10.out.trans (hd11.mono HB10.out.size))
          have HC11 := Lib.hid (HC10.out.on hd11)
          have HO11 := Lib.hid (own_belowI HO10.out hd11 (Nat.le_refl _))
          clear hd11 ES HC10 HB10 HO10
          generalize w10.drewN qd = w11 at *
          have hlx : (X.length : Int) = (j : Int) := by have := HLN.out; omega
          have hln : ((X.length : Int) != (j : Int)) = false := by rw [hlx]; exact bne_self_eq_false _
          have EPc := Lib.hid (iput_any HC11.out ⟨by_, 77, 0, 0, false⟩ (by unfold PosB; dsimp only; omega) (by have := HLN.out; have := HN.out; omega))
          go_wp2_with fail
          refine EPc.out.mono ?_
          rintro e w12 ⟨v12, rfl, -, ht12, -⟩
          have HB12 := Lib.hid (HB11.out.trans ((Tw.base HC11.out ht12).mono HSr.out))
          have HO12 := Lib.hid (own_tw HO11.out ht12 (by
            intro e
            obtain ⟨cs, hk⟩ := own_blk HO11.out e
            exact absurd (blk_types hk HC11.out.k) (by decide)) (by
            intro k hk hr
            obtain ⟨cs, h1⟩ := own_blk HO11.out hk
            obtain ⟨cs', h2⟩ := own_blk HC11.out.row hr
            exact absurd (blk_types h1 h2) (by decide)))
          have HINX := Lib.hid HC11.out.inn
          have HLE := Lib.hid HC11.out.len
          have EA := Lib.hid (all_any (HXf.out _ HB12.out))
          clear ht12 EPc HB11 HC11 HO11
          go_wp2_with fail
          refine EA.out.mono ?_
          rintro e w13 ⟨v13, rfl, ho13, B13⟩
          obtain ⟨a13, c13, rfl, -⟩ := own_form_any ho13
          have HB13 := Lib.hid (HB12.out.trans (B13.mono HB12.out.size))
          have HO13 := Lib.hid (own_belowI HO12.out B13 (Nat.le_refl _))
          have HR13 := Lib.hid ho13
          have HS12 := Lib.hid HB12.out.size
          have HOf := Lib.hid fun (W : World) (B0 : Below w12.heap.size w12 W) => own_belowI HO12.out B0 (Nat.le_refl _)
          have HB12' := Lib.hid B13
          clear ho13 B13 EA HO13 HO12
          go_wp2_with fail
          go_loopw [13] (fun tv wx => ∃ t : Nat, t ≤ X.length ∧ tv = .int .i64 t ∧ ∃ xs, wx.ownsRow w12.heap.size 32 5 (.slice a13 X.length c13) X.length xs ∧ Below w12.heap.size w12 wx) (fun tv _ => X.length - (intOf tv).toNat)
          case atStart => exact ⟨0, by omega, rfl, _, HR13.out, HB12'.out⟩
          case round =>
            obtain ⟨t, ht, rfl, xs, hR, hB⟩ := hrel
            have hlz : (X.length : Int) ≤ 4096 := by have := HLE.out; omega
            by_cases htn : t < X.length
            · have htz : (t : Int) < (X.length : Int) := by omega
              obtain ⟨g, rfl, hbg⟩ := own_some hR (by omega)
              have hlen := hR.1
              obtain ⟨u, hu⟩ : ∃ u, xs[t * 5 + 1]? = some u := ⟨_, List.getElem?_eq_getElem (show t * 5 + 1 < xs.length by omega)⟩
              have q0 : wr.cell? ⟨g, t * 5 + 1, none⟩ = some u := (hR.cellAt (t * 5 + 1) (by omega)).trans hu
              have f0 := own_frozen hR (t * 5 + 1)
              obtain ⟨hR2, hg2⟩ := hR.stored (t * 5 + 1) (.int .i64 99)
              have HR2 := Lib.hid hR2
              have HB2 := Lib.hid (hB.grown hg2 hB.size (fun k e => by injection e with e; omega))
              clear hR hB hR2 hg2 hu hlen
              go_wp2_with fail
              go_roundw
              case rel => exact ⟨t + 1, by omega, by go_num, _, HR2.out, HB2.out⟩
              case measure => simp [intOf]; omega
            · obtain rfl : t = X.length := by omega
              have htz : ¬ ((X.length : Int) < (X.length : Int)) := by omega
              have HB := Lib.hid hB
              have HBF := Lib.hid (HB12.out.trans (hB.mono HS12.out))
              clear hR hB HR13 HB12' HB13
              go_wp2_with fail
              refine (find_nil 1 _).mono ?_
              rintro e w14 hf
              obtain ⟨rfl, B14⟩ := hf.no
              have HB14 := Lib.hid (HB.out.trans (B14.mono HB.out.size))
              clear hf B14 HB HBF
              go_upto_region 30 with fail
              have HB15 := Lib.hid (HB14.out.alloc HB14.out.size (.cells #[.int .u64 0, .int .i64 0, .int .i64 0, .int .u32 0, .bool false] 32))
              clear HB14
              go_wp2_with fail
              refine (len_nil _).mono ?_
              rintro e w16 ⟨rfl, rfl⟩
              have EA := Lib.hid (all_any (HXf.out _ (HB12.out.trans (HB15.out.mono HS12.out))))
              go_wp2_with fail
              refine EA.out.mono ?_
              rintro e w17 ⟨v17, rfl, ho17, B17⟩
              obtain ⟨a17, c17, rfl, -⟩ := own_form_any ho17
              have HB17 := Lib.hid (HB15.out.trans (B17.mono HB15.out.size))
              have ET := Lib.hid (to_any5 a17 X.length c17 X w17 (psl_own_same ho17 HINX.out) (by have := HLE.out; omega))
              clear ho17 B17 EA HB15
              go_wp2_with fail
              refine ET.out.mono ?_
              rintro e w18 ⟨v18, rfl, ho18, B18⟩
              obtain ⟨a18, c18, rfl, -⟩ := own_form_any ho18
              have HB18 := Lib.hid (HB17.out.trans (B18.mono HB17.out.size))
              have ES := Lib.hid (rsame_any a8 a18 X.length c8 X.length c18 X X w18 (psl_own_same (HOf.out _ HB18.out) HINX.out) (psl_own_same ho18 HINX.out) (by have := HLE.out; omega))
              rw [decide_eq_true rfl] at ES
              clear ho18 B18 ET HB17
              go_wp2_with fail
              refine ES.out.mono ?_
              rintro e w19 ⟨rfl, qd2, rfl⟩
              have HB19 := Lib.hid (below_drewN HB18.out qd2)
              clear ES HB18
              generalize w18.drewN qd2 = w19 at *
              go_wp2_with fail
              refine (code_c 6 _ (by decide)).mono ?_
              rintro e w20 ⟨rfl, rfl⟩
              have EN := Lib.hid (show Calls Try.prog 13 #[.pointer none, .agg #[.int .u64 0, .int .i64 0, .int .i64 0, .int .u32 0, .bool false]] w19 (fun e w' => e = .returned (errc 11) ∧ Below w19.heap.size w19 w') from put_nil dP w19)
              go_wp2_with fail
              refine EN.out.mono ?_
              rintro e w21 ⟨rfl, B21⟩
              have HB21 := Lib.hid (HB19.out.trans (B21.mono HB19.out.size))
              clear B21 EN HB19
              go_wp2_with fail
              refine (code_c 11 _ (by decide)).mono ?_
              rintro e w22 ⟨rfl, rfl⟩
              go_wp2_with fail
              refine (all_nil _).mono ?_
              rintro e w23 ⟨rfl, rfl⟩
              go_wp2_with fail
              refine (from_nil 0 5 _).mono ?_
              rintro e w24 ⟨rfl, rfl⟩
              go_wp2_with fail
              refine (iclone_nil _).mono ?_
              rintro e w25 ⟨Bn, rfl, hn25, B25⟩
              have HB25 := Lib.hid (HB21.out.trans (B25.mono HB21.out.size))
              have EA := Lib.hid (all_any hn25)
              clear hn25 B25 HB21
              go_wp2_with fail
              refine EA.out.mono ?_
              rintro e w26 ⟨v26, rfl, ho26, B26⟩
              obtain ⟨a26, c26, rfl, -⟩ := own_form_any ho26
              have HB26 := Lib.hid (HB25.out.trans (B26.mono HB25.out.size))
              clear ho26 B26 EA HB25
              go_wp2_with fail
              go_ret
              exact ⟨rfl, HB3.out.trans ((HB12.out.trans (HB26.out.mono HS12.out)).mono HB3.out.size)⟩
theorem own_all8 (a : Option Addr) (n c : Nat) (A : List PosR) (b : Int) (w : World) (ha : PSl w w.heap.size a n A) (hn : n ≤ 9223372036854775807) (h0 : 0 ≤ b) (h1 : b ≤ 255) :
    Calls Try.prog 6 #[.slice a n c, .int .u8 b] w fun e w' => e = .returned (.bool true) ∧ Below w.heap.size w w' := by
  obtain ⟨bn, rfl⟩ : ∃ bn : Nat, b = bn := ⟨b.toNat, by omega⟩
  exact own_walk a n c A bn w ha hn (by omega)
end Go.Proofs.Ytmmmakfmpopniaa
