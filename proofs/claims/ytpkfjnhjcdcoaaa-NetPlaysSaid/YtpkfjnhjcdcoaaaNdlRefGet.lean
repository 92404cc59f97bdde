/-
  The document's needle of any bytes.
-/
import Derived.Test.YtpkfjnhjcdcoaaaNdlRefPut
namespace Go.Proofs.Ytpkfjnhjcdcoaaa
open Go.RowKit

/-- What the document's Get answers. -/
def RefGot (L : List (BitVec 8)) (w : World) (e : Ending) (w' : World) : Prop :=
  Below w.heap.size w w' ∧ ∃ key ck g lx all cf, ndGet L = (key, ck, g, lx, all, cf) ∧
    ∃ av cv, e = .returned (.tuple #[.agg #[.int .u64 (key : Nat), .int .u32 (ck : Nat), .bool g, .slice av lx.length cv], .int .i64 (all : Nat), .int .i64 (cf : Nat)]) ∧ lx.length ≤ cv ∧ BSl w' w'.heap.size av lx.length lx

/-- The same, the data's row being of the call's own. -/
def RefOwn (L : List (BitVec 8)) (w : World) (e : Ending) (w' : World) : Prop :=
  Below w.heap.size w w' ∧ ∃ key ck g lx all cf, ndGet L = (key, ck, g, lx, all, cf) ∧
    ∃ av cv, e = .returned (.tuple #[.agg #[.int .u64 (key : Nat), .int .u32 (ck : Nat), .bool g, .slice av lx.length cv], .int .i64 (all : Nat), .int .i64 (cf : Nat)]) ∧ lx.length ≤ cv ∧ w'.ownsRow w.heap.size 5 1 (.slice av lx.length cv) lx.length (lx.map bv)
theorem RefOwn.got {L : List (BitVec 8)} {w w' : World} {e : Ending} (h : RefOwn L w e w') : RefGot L w e w' := by
  obtain ⟨B, key, ck, g, lx, all, cf, he, av, cv, h1, h2, h3⟩ := h
  exact ⟨B, key, ck, g, lx, all, cf, he, av, cv, h1, h2, bsl_own h3⟩
theorem rgot_bad {L : List (BitVec 8)} {w w' : World} {cf : Nat} (h : ndGet L = ndBad cf) (B : Below w.heap.size w w') :
    RefOwn L w (.returned (.tuple #[.agg #[.int .u64 0, .int .u32 0, .bool false, .slice none 0 0], .int .i64 0, .int .i64 (cf : Nat)])) w' :=
  ⟨B, 0, 0, false, [], 0, cf, h, none, 0, rfl, Nat.le_refl _, rfl, .inl ⟨rfl, rfl⟩⟩

theorem rget_results {W : World} {B : Nat} {v0 v1 v2 v3 : Value} {a : Act} {x e : Value} (h : Blk W B 34 #[v0, v1, v2, v3]) (h2 : a.tmps[2]?.getD undef = .pointer (some ⟨B, 0, none⟩)) (h3 : a.tmps[3]?.getD undef = x) (h4 : a.tmps[4]?.getD undef = e) :
    (results Try.f43 a.tmps).run Try.prog W = .ok (.tuple #[.agg #[v0, v1, v2, v3], x, e]) W := by
  obtain ⟨k0, k1, k2, k3⟩ := h.four
  simp [results, Try.results43, go_sem, h2, h3, h4, k0, k1, k2, k3]

/-- append(v, b...) onto a row of the call's own that may be nil, whatever b is. -/
theorem append_any_bytes {W : World} {base k : Nat} {v : Value} {xs : List Value} (hown : W.ownsRow base 5 1 v k xs) {B : Nat} {a : Option Addr} {n : Nat} {l : List (BitVec 8)} (c : Nat) (h : BSl W B a n l) (hs : k + n ≤ 2199023255552) (hbase : base ≤ W.heap.size) :
    ∃ v' W', (Builtin.append_ #[22, 22] 22 #[v, .slice a n c]).run Try.prog W = .ok v' W' ∧
      W'.ownsRow base 5 1 v' (k + n) (xs ++ l.map bv) ∧ W.grownBy W' v.ownBlock ∧ (v'.ownBlock = v.ownBlock ∨ v'.ownBlock = some W.heap.size) := by
  cases a with
  | none =>
    obtain rfl := bsl_nil0 h rfl
    have hl : l = [] := List.eq_nil_of_length_eq_zero h.1
    subst hl
    exact ⟨v, W, append_nil_run hown, by simpa using hown, grown_refl W _, .inl rfl⟩
  | some ad =>
    obtain ⟨i0, hi, hz0, hz1, hz2⟩ := info_parts info_u8
    obtain ⟨v', w', hr, h2, h3, _, h5⟩ := run_append_own_at (P := Try.prog) W base 22 22 5 i0 (.int .u8 0) 1 1 Try.underlying22 hi hz0 hz1 hz2 rfl (by decide) v k xs hown ad n c (l.map bv) (by simp [h.1]) h.news (bv_one l) (by unfold maxLen; omega) (by omega) hbase
    exact ⟨v', w', hr, h2, h3, h5⟩
theorem own_form {W : World} {base k : Nat} {v : Value} {xs : List Value} {e : TypeId} (h : W.ownsRow base e 1 v k xs) : ∃ a c, v = .slice a k c ∧ k ≤ c := by
  rcases h.2 with ⟨rfl, rfl⟩ | ⟨g, cap, _, rfl, _, _, h1, _⟩
  · exact ⟨none, 0, rfl, Nat.le_refl _⟩
  · exact ⟨_, cap, rfl, h1⟩

set_option maxRecDepth 100000 in
set_option maxHeartbeats 2000000 in
theorem rget_own (a : Option Addr) (n c : Nat) (l : List (BitVec 8)) (w : World) (h : BSl w w.heap.size a n l) (hc : n ≤ c) (hn : n ≤ 1099511627776) :
    Calls Try.prog 43 #[.slice a n c] w (RefOwn l w) := by
  have hlen := h.1
  by_cases hlt : n < 32
  · go_enter Try.func43, Try.ntmps43
    go_wp2_with fail
    exact bodyPost_ret (v := .tuple #[.agg #[.int .u64 0, .int .u32 0, .bool false, .slice none 0 0], .int .i64 0, .int .i64 3]) (by simp [results, Try.results43, go_sem]) rfl (rgot_bad (cf := 3) (by unfold ndGet; rw [if_pos (by omega)]) ((Below.refl _ _).alloc (Nat.le_refl _) _))
  have hge : 32 ≤ n := by omega
  clear hlt
  obtain ⟨W0, hW0⟩ : ∃ W0, w.alloc (.cells #[.int .u64 0, .int .u32 0, .bool false, .slice none 0 0] 34) = W0 := ⟨_, rfl⟩
  have hKr : Blk W0 w.heap.size 34 #[.int .u64 0, .int .u32 0, .bool false, .slice none 0 0] := by rw [← hW0]; exact Blk.made w _ _
  have BA : Below w.heap.size w W0 := by rw [← hW0]; exact (Below.refl _ _).alloc (Nat.le_refl _) _
  have hbl : ∀ W, Below W0.heap.size W0 W → BSl W W.heap.size a n l := fun W B => (h.below (BA.trans (B.mono BA.size))).more (BA.trans (B.mono BA.size)).size
  have B0 : Below W0.heap.size W0 W0 := Below.refl _ _
  obtain ⟨a4, s4, -, -, hc4⟩ := cut_bytes (hbl W0 B0) hc 4 4 (by omega)
  obtain ⟨a20, s20, -, -, hc20⟩ := cut_bytes (hbl W0 B0) hc 20 4 (by omega)
  obtain ⟨a28, s28, -, -, hc28⟩ := cut_bytes (hbl W0 B0) hc 28 4 (by omega)
  obtain ⟨a8, s8, -, -, hc8⟩ := cut_bytes (hbl W0 B0) hc 8 8 (by omega)
  obtain ⟨a16, s16, -, -, hc16⟩ := cut_bytes (hbl W0 B0) hc 16 4 (by omega)
  obtain ⟨a24, s24, -, -, hc24⟩ := cut_bytes (hbl W0 B0) hc 24 4 (by omega)
  have hs4 := fun W => s4 (4 : Int) (8 : Int) W rfl rfl
  have hs20 := fun W => s20 (20 : Int) (24 : Int) W rfl rfl
  have hs28 := fun W => s28 (28 : Int) (32 : Int) W rfl rfl
  have hs8 := fun W => s8 (8 : Int) (16 : Int) W rfl rfl
  have hs16 := fun W => s16 (16 : Int) (20 : Int) W rfl rfl
  have hs24 := fun W => s24 (24 : Int) (28 : Int) W rfl rfl
  have N4 := Lib.hid fun (W : World) (B : Below W0.heap.size W0 W) => show Calls Try.prog 41 #[.slice a4 4 (c - 4)] W fun e w' => e = .returned (.int .u64 (nums l 4 4 : Nat)) ∧ W = w' from number_any a4 4 (c - 4) _ W (hc4.below B) (by decide)
  have N20 := Lib.hid fun (W : World) (B : Below W0.heap.size W0 W) => show Calls Try.prog 41 #[.slice a20 4 (c - 20)] W fun e w' => e = .returned (.int .u64 (nums l 20 4 : Nat)) ∧ W = w' from number_any a20 4 (c - 20) _ W (hc20.below B) (by decide)
  have N28 := Lib.hid fun (W : World) (B : Below W0.heap.size W0 W) => show Calls Try.prog 41 #[.slice a28 4 (c - 28)] W fun e w' => e = .returned (.int .u64 (nums l 28 4 : Nat)) ∧ W = w' from number_any a28 4 (c - 28) _ W (hc28.below B) (by decide)
  have N8 := Lib.hid fun (W : World) (B : Below W0.heap.size W0 W) => show Calls Try.prog 41 #[.slice a8 8 (c - 8)] W fun e w' => e = .returned (.int .u64 (nums l 8 8 : Nat)) ∧ W = w' from number_any a8 8 (c - 8) _ W (hc8.below B) (by decide)
  have N16 := Lib.hid fun (W : World) (B : Below W0.heap.size W0 W) => show Calls Try.prog 41 #[.slice a16 4 (c - 16)] W fun e w' => e = .returned (.int .u64 (nums l 16 4 : Nat)) ∧ W = w' from number_any a16 4 (c - 16) _ W (hc16.below B) (by decide)
  have N24 := Lib.hid fun (W : World) (B : Below W0.heap.size W0 W) => show Calls Try.prog 41 #[.slice a24 4 (c - 24)] W fun e w' => e = .returned (.int .u64 (nums l 24 4 : Nat)) ∧ W = w' from number_any a24 4 (c - 24) _ W (hc24.below B) (by decide)
  have N0 := Lib.hid fun (W : World) (B : Below W0.heap.size W0 W) => show Calls Try.prog 41 #[.slice a 4 c] W fun e w' => e = .returned (.int .u64 (nums l 0 4 : Nat)) ∧ W = w' from number_any a 4 c _ W ((hbl W B).prefix (by omega)) (by decide)
  have HFM := Lib.hid (show ndForm l ↔ (nums l 0 4 ≠ 1313162572 ∨ 1 < nums l 4 4 ∨ nums l 28 4 ≠ 0 ∨ 4096 < nums l 20 4 ∨ (nums l 4 4 = 1 ∧ 0 < nums l 20 4)) from Iff.rfl)
  have x0 : nums l 0 4 < 4294967296 := nums_lt l 0 4
  have x4 : nums l 4 4 < 4294967296 := nums_lt l 4 4
  have x28 : nums l 28 4 < 4294967296 := nums_lt l 28 4
  have x20 : nums l 20 4 < 4294967296 := nums_lt l 20 4
  have x24 : nums l 24 4 < 4294967296 := nums_lt l 24 4
  have x8 : nums l 8 8 < 18446744073709551616 := nums_lt l 8 8
  have x16 : nums l 16 4 < 4294967296 := nums_lt l 16 4
  have HBL := Lib.hid hbl
  have HL := Lib.hid hlen
  have hcc : (32 : Int) ≤ (c : Int) := by omega
  have hcc24 : (24 : Int) ≤ (c : Int) := by omega
  clear hbl hlen h s4 s20 s28 s8 s16 s24 hc4 hc20 hc28 hc8 hc16 hc24
  obtain ⟨m0, e0⟩ : ∃ m, nums l 0 4 = m := ⟨_, rfl⟩
  obtain ⟨m4, e4⟩ : ∃ m, nums l 4 4 = m := ⟨_, rfl⟩
  obtain ⟨m28, e28⟩ : ∃ m, nums l 28 4 = m := ⟨_, rfl⟩
  obtain ⟨s, e20⟩ : ∃ m, nums l 20 4 = m := ⟨_, rfl⟩
  obtain ⟨m24, e24⟩ : ∃ m, nums l 24 4 = m := ⟨_, rfl⟩
  obtain ⟨m8, e8⟩ : ∃ m, nums l 8 8 = m := ⟨_, rfl⟩
  obtain ⟨m16, e16⟩ : ∃ m, nums l 16 4 = m := ⟨_, rfl⟩
  rw [e0] at N0 HFM x0
  rw [e4] at N4 HFM x4
  rw [e28] at N28 HFM x28
  rw [e20] at N20 HFM x20
  rw [e24] at N24 x24
  rw [e8] at N8 x8
  rw [e16] at N16 x16
  have E4 := Lib.hid e4
  have E20 := Lib.hid e20
  have E24 := Lib.hid e24
  have E8 := Lib.hid e8
  have E16 := Lib.hid e16
  clear e0 e4 e28 e20 e24 e8 e16
  go_enter Try.func43, Try.ntmps43
  go_wp2_with fail
  clear hW0
  have B1 := B0.drew
  refine wp_region_any (by kernel_rfl) ?_
  change wpAny _ _ _ _ _ _ _ (World.drew _)
  refine wpAny_take (i := 0) (v := ?_) rfl (by kernel_rfl) (by kernel_rfl) (by kernel_rfl) (fun _ _ _ h => h) (Or.inl ⟨by kernel_rfl, ?_⟩) ?_
  rotate_left
  · intro w; go_simp; try with_reducible rfl
  refine wpAny_take (i := 1) (v := ?_) rfl (by kernel_rfl) (by kernel_rfl) (by kernel_rfl) (fun _ _ _ h => h) (Or.inl ⟨by kernel_rfl, ?_⟩) ?_
  rotate_left
  · intro w; go_simp; try with_reducible rfl
  refine wpAny_take (i := 3) (v := ?_) rfl (by kernel_rfl) (by kernel_rfl) (by kernel_rfl) (fun _ _ _ h => h) (Or.inl ⟨by kernel_rfl, ?_⟩) ?_
  rotate_left
  · intro w; go_simp; try with_reducible rfl
  refine wpAny_take (i := 4) (v := ?_) rfl (by kernel_rfl) (by kernel_rfl) (by kernel_rfl) (fun _ _ _ h => h) (Or.inl ⟨by kernel_rfl, ?_⟩) ?_
  rotate_left
  · intro w; go_simp; try with_reducible rfl
  refine wpAny_ready (rs := [2]) (by kernel_rfl) (by simp) ?_
  refine AllReady.cons (i := 2) rfl ?_ AllReady.nil
  intro K hK
  go_simp
  refine (N4.out _ B1).mono ?_
  rintro e w3 ⟨rfl, rfl⟩
  go_simp
  refine hK _ _ ?_
  clear hK K
  refine wpAny_ready (rs := [5]) (by kernel_rfl) (by simp) ?_
  refine AllReady.cons (i := 5) rfl ?_ AllReady.nil
  intro K hK
  go_simp
  refine (N20.out _ B1).mono ?_
  rintro e w3 ⟨rfl, rfl⟩
  go_simp
  refine hK _ _ ?_
  clear hK K
  refine wpAny_take (i := 6) (v := ?_) rfl (by kernel_rfl) (by kernel_rfl) (by kernel_rfl) (fun _ _ _ h => h) (Or.inl ⟨by kernel_rfl, ?_⟩) ?_
  rotate_left
  · intro w; go_simp; try with_reducible rfl
  refine wpAny_take (i := 7) (v := ?_) rfl (by kernel_rfl) (by kernel_rfl) (by kernel_rfl) (fun _ _ _ h => h) (Or.inl ⟨by kernel_rfl, ?_⟩) ?_
  rotate_left
  · intro w; go_simp; try with_reducible rfl
  refine wpAny_done (by kernel_rfl) ?_ _
  clear hs4 hs20
  go_simp
  go_upto_region 4 with fail
  go_cut [46] (fun v wx => v = .bool (decide (ndForm l)) ∧ Below W0.heap.size W0 wx)
  case first =>
    by_cases h0 : m0 = 1313162572
    · have h0' : ((m0 : Int) != 1313162572) = false := by rw [h0]; rfl
      by_cases h1 : 1 < m4
      · have hd := Lib.hid (show decide (ndForm l) = true from decide_eq_true (HFM.out.2 (.inr (.inl h1))))
        have h1' : decide ((1 : Int) < m4) = true := by rw [decide_eq_true_eq]; omega
        clear h0
        go_wp2_with fail
        refine (N0.out _ B1).mono ?_
        rintro e w3 ⟨rfl, rfl⟩
        go_wp2_with fail
        go_meet
        exact ⟨by rw [hd.out], B1⟩
      · have h1' : decide ((1 : Int) < m4) = false := by rw [decide_eq_false_iff_not]; omega
        by_cases h2 : m28 = 0
        · have h2' : ((m28 : Int) != 0) = false := by rw [h2]; rfl
          by_cases h3 : 4096 < s
          · have hd := Lib.hid (show decide (ndForm l) = true from decide_eq_true (HFM.out.2 (.inr (.inr (.inr (.inl h3))))))
            have h3' : decide ((4096 : Int) < s) = true := by rw [decide_eq_true_eq]; omega
            clear h0 h2
            go_wp2_with fail
            refine (N0.out _ B1).mono ?_
            rintro e w3 ⟨rfl, rfl⟩
            go_wp2_with fail
            refine (N28.out _ B1).mono ?_
            rintro e w4 ⟨rfl, rfl⟩
            go_wp2_with fail
            go_meet
            exact ⟨by rw [hd.out], B1⟩
          · have h3' : decide ((4096 : Int) < s) = false := by rw [decide_eq_false_iff_not]; omega
            by_cases h4 : m4 = 1
            · have h4' : ((m4 : Int) == 1) = true := by rw [h4]; rfl
              by_cases h5 : 0 < s
              · have hd := Lib.hid (show decide (ndForm l) = true from decide_eq_true (HFM.out.2 (.inr (.inr (.inr (.inr ⟨h4, h5⟩))))))
                have h5' : decide ((0 : Int) < s) = true := by rw [decide_eq_true_eq]; omega
                clear h0 h2 h4
                go_wp2_with fail
                refine (N0.out _ B1).mono ?_
                rintro e w3 ⟨rfl, rfl⟩
                go_wp2_with fail
                refine (N28.out _ B1).mono ?_
                rintro e w4 ⟨rfl, rfl⟩
                go_wp2_with fail
                go_meet
                exact ⟨by rw [hd.out], B1⟩
              · have hd := Lib.hid (show decide (ndForm l) = false from decide_eq_false (fun h => by have := HFM.out.1 h; omega))
                have h5' : decide ((0 : Int) < s) = false := by rw [decide_eq_false_iff_not]; omega
                clear h0 h2 h4
                go_wp2_with fail
                refine (N0.out _ B1).mono ?_
                rintro e w3 ⟨rfl, rfl⟩
                go_wp2_with fail
                refine (N28.out _ B1).mono ?_
                rintro e w4 ⟨rfl, rfl⟩
                go_wp2_with fail
                go_meet
                exact ⟨by rw [hd.out], B1⟩
            · have hd := Lib.hid (show decide (ndForm l) = false from decide_eq_false (fun h => by have := HFM.out.1 h; omega))
              have h4' : ((m4 : Int) == 1) = false := by rw [beq_eq_false_iff_ne]; omega
              clear h0 h2
              go_wp2_with fail
              refine (N0.out _ B1).mono ?_
              rintro e w3 ⟨rfl, rfl⟩
              go_wp2_with fail
              refine (N28.out _ B1).mono ?_
              rintro e w4 ⟨rfl, rfl⟩
              go_wp2_with fail
              go_meet
              exact ⟨by rw [hd.out], B1⟩
        · have hd := Lib.hid (show decide (ndForm l) = true from decide_eq_true (HFM.out.2 (.inr (.inr (.inl h2)))))
          have h2' : ((m28 : Int) != 0) = true := by rw [bne_iff_ne]; omega
          clear h0
          go_wp2_with fail
          refine (N0.out _ B1).mono ?_
          rintro e w3 ⟨rfl, rfl⟩
          go_wp2_with fail
          refine (N28.out _ B1).mono ?_
          rintro e w4 ⟨rfl, rfl⟩
          go_wp2_with fail
          go_meet
          exact ⟨by rw [hd.out], B1⟩
    · have hd := Lib.hid (show decide (ndForm l) = true from decide_eq_true (HFM.out.2 (.inl h0)))
      have h0' : ((m0 : Int) != 1313162572) = true := by rw [bne_iff_ne]; omega
      go_wp2_with fail
      refine (N0.out _ B1).mono ?_
      rintro e w3 ⟨rfl, rfl⟩
      go_wp2_with fail
      go_meet
      exact ⟨by rw [hd.out], B1⟩
  case rest =>
    obtain ⟨rfl, Bc⟩ := hcut
    obtain ⟨W1, rfl⟩ : ∃ W1 : World, W1 = wc := ⟨_, rfl⟩
    have hKr1 := hKr.below Bc hKr.lt
    by_cases hf : ndForm l
    · have hd : decide (ndForm l) = true := decide_eq_true hf
      obtain ⟨k0, k1, k2, k3⟩ := hKr1.four
      obtain ⟨f0, f1, f2, f3⟩ := hKr1.four_frozen
      rw [hd]
      go_wp2_with fail
      refine bodyPost_ret (v := .tuple #[.agg #[.int .u64 0, .int .u32 0, .bool false, .slice none 0 0], .int .i64 0, .int .i64 4]) (rget_results (hKr1.put4 _ _ _ _) rfl rfl rfl) rfl ?_
      exact (rgot_bad (cf := 4) (by unfold ndGet; rw [if_neg (by rw [HL.out]; omega), if_pos hf]) (below_put4 (BA.trans (Bc.mono BA.size)) (Nat.le_refl _) _ _ _ _))
    · have hd : decide (ndForm l) = false := decide_eq_false hf
      have hnf : ¬ (m0 ≠ 1313162572 ∨ 1 < m4 ∨ m28 ≠ 0 ∨ 4096 < s ∨ (m4 = 1 ∧ 0 < s)) := fun h => hf (HFM.out.2 h)
      have hs : s ≤ 4096 := by omega
      obtain ⟨gf, hgf⟩ : ∃ gf : Bool, decide (m4 = 1) = gf := ⟨_, rfl⟩
      have hflag : ((m4 : Int) == 1) = gf := by
        rw [← hgf, Bool.eq_iff_iff, beq_iff_eq, decide_eq_true_eq]
        omega
      have HGF := Lib.hid hgf
      have HF := Lib.hid hf
      have HW16 := Lib.hid (show IntKind.u32.wrap (m16 : Int) = m16 from IntWalk.u32_in _ (by omega))
      rw [hd]
      clear hd hnf hf hgf
      go_upto_region 6 with fail
      go_cut [7] (fun v wx => v = .pointer (some ⟨W1.heap.size, 0, none⟩) ∧ Blk wx W1.heap.size 34 #[.int .u64 m8, .int .u32 m16, .bool gf, .slice none 0 0] ∧ Below W0.heap.size W0 wx)
      case first =>
        refine wp_region_any (by kernel_rfl) ?_
        change wpAny _ _ _ _ _ _ _ (World.drew _)
        refine wpAny_take (i := 0) (v := ?_) rfl (by kernel_rfl) (by kernel_rfl) (by kernel_rfl) (fun _ _ _ h => h) (Or.inl ⟨by kernel_rfl, ?_⟩) ?_
        rotate_left
        · intro w; go_simp; try with_reducible rfl
        refine wpAny_take (i := 1) (v := ?_) rfl (by kernel_rfl) (by kernel_rfl) (by kernel_rfl) (fun _ _ _ h => h) (Or.inl ⟨by kernel_rfl, ?_⟩) ?_
        rotate_left
        · intro w; go_simp; try with_reducible rfl
        refine wpAny_take (i := 3) (v := ?_) rfl (by kernel_rfl) (by kernel_rfl) (by kernel_rfl) (fun _ _ _ h => h) (Or.inl ⟨by kernel_rfl, ?_⟩) ?_
        rotate_left
        · intro w; go_simp; try with_reducible rfl
        refine wpAny_take (i := 4) (v := ?_) rfl (by kernel_rfl) (by kernel_rfl) (by kernel_rfl) (fun _ _ _ h => h) (Or.inl ⟨by kernel_rfl, ?_⟩) ?_
        rotate_left
        · intro w; go_simp; try with_reducible rfl
        refine wpAny_take (i := 7) (v := ?_) rfl (by kernel_rfl) (by kernel_rfl) (by kernel_rfl) (fun _ _ _ h => h) (Or.inl ⟨by kernel_rfl, ?_⟩) ?_
        rotate_left
        · intro w; go_simp; try with_reducible rfl
        refine wpAny_take (i := 8) (v := ?_) rfl (by kernel_rfl) (by kernel_rfl) (by kernel_rfl) (fun _ _ _ h => h) (Or.inl ⟨by kernel_rfl, ?_⟩) ?_
        rotate_left
        · intro w; go_simp; try with_reducible rfl
        refine wpAny_ready (rs := [2, 10]) (by kernel_rfl) (by simp) ?_
        refine AllReady.cons (i := 2) rfl ?_ ?_
        · intro K hK
          go_simp
          refine (N8.out _ (by first | exact Bc.drew | exact Bc.drew.alloc Bc.drew.size _)).mono ?_
          rintro e w3 ⟨rfl, rfl⟩
          go_simp
          refine hK _ _ ?_
          clear hK K
          refine wpAny_ready (rs := [5, 10]) (by kernel_rfl) (by simp) ?_
          refine AllReady.cons (i := 5) rfl ?_ ?_
          · intro K hK
            go_simp
            refine (N16.out _ (by first | exact Bc.drew | exact Bc.drew.alloc Bc.drew.size _)).mono ?_
            rintro e w3 ⟨rfl, rfl⟩
            go_simp
            refine hK _ _ ?_
            clear hK K
            refine wpAny_take (i := 6) (v := ?_) rfl (by kernel_rfl) (by kernel_rfl) (by kernel_rfl) (fun _ _ _ h => h) (Or.inl ⟨by kernel_rfl, ?_⟩) ?_
            rotate_left
            · intro w; go_simp; rw [HW16.out]; try with_reducible rfl
            refine wpAny_take (i := 9) (v := ?_) rfl (by kernel_rfl) (by kernel_rfl) (by kernel_rfl) (fun _ _ _ h => h) (Or.inl ⟨by kernel_rfl, ?_⟩) ?_
            rotate_left
            · intro w; go_simp; try with_reducible rfl
            refine wpAny_ready (rs := [10]) (by kernel_rfl) (by simp) ?_
            refine AllReady.cons (i := 10) rfl ?_ AllReady.nil
            intro K hK
            go_simp
            refine hK _ _ ?_
            clear hK K
            refine wpAny_ready (rs := [11]) (by kernel_rfl) (by simp) ?_
            refine AllReady.cons (i := 11) rfl ?_ AllReady.nil
            intro K hK
            go_simp
            refine hK _ _ ?_
            clear hK K
            refine wpAny_done (by kernel_rfl) ?_ _
            go_wp2_with fail
            go_meet
            exact ⟨rfl, (Blk.made W1 _ _).drew, (Bc.alloc Bc.size _).drew⟩
          refine AllReady.cons (i := 10) rfl ?_ AllReady.nil
          intro K hK
          go_simp
          refine hK _ _ ?_
          clear hK K
          refine wpAny_ready (rs := [5]) (by kernel_rfl) (by simp) ?_
          refine AllReady.cons (i := 5) rfl ?_ AllReady.nil
          intro K hK
          go_simp
          refine (N16.out _ (by first | exact Bc.drew | exact Bc.drew.alloc Bc.drew.size _)).mono ?_
          rintro e w3 ⟨rfl, rfl⟩
          go_simp
          refine hK _ _ ?_
          clear hK K
          refine wpAny_take (i := 6) (v := ?_) rfl (by kernel_rfl) (by kernel_rfl) (by kernel_rfl) (fun _ _ _ h => h) (Or.inl ⟨by kernel_rfl, ?_⟩) ?_
          rotate_left
          · intro w; go_simp; rw [HW16.out]; try with_reducible rfl
          refine wpAny_take (i := 9) (v := ?_) rfl (by kernel_rfl) (by kernel_rfl) (by kernel_rfl) (fun _ _ _ h => h) (Or.inl ⟨by kernel_rfl, ?_⟩) ?_
          rotate_left
          · intro w; go_simp; try with_reducible rfl
          refine wpAny_ready (rs := [11]) (by kernel_rfl) (by simp) ?_
          refine AllReady.cons (i := 11) rfl ?_ AllReady.nil
          intro K hK
          go_simp
          refine hK _ _ ?_
          clear hK K
          refine wpAny_done (by kernel_rfl) ?_ _
          go_wp2_with fail
          go_meet
          exact ⟨rfl, (Blk.made W1 _ _).drew, (Bc.alloc Bc.size _).drew⟩
        refine AllReady.cons (i := 10) rfl ?_ AllReady.nil
        intro K hK
        go_simp
        refine hK _ _ ?_
        clear hK K
        refine wpAny_ready (rs := [2]) (by kernel_rfl) (by simp) ?_
        refine AllReady.cons (i := 2) rfl ?_ AllReady.nil
        intro K hK
        go_simp
        refine (N8.out _ (by first | exact Bc.drew | exact Bc.drew.alloc Bc.drew.size _)).mono ?_
        rintro e w3 ⟨rfl, rfl⟩
        go_simp
        refine hK _ _ ?_
        clear hK K
        refine wpAny_ready (rs := [5]) (by kernel_rfl) (by simp) ?_
        refine AllReady.cons (i := 5) rfl ?_ AllReady.nil
        intro K hK
        go_simp
        refine (N16.out _ (by first | exact Bc.drew | exact Bc.drew.alloc Bc.drew.size _)).mono ?_
        rintro e w3 ⟨rfl, rfl⟩
        go_simp
        refine hK _ _ ?_
        clear hK K
        refine wpAny_take (i := 6) (v := ?_) rfl (by kernel_rfl) (by kernel_rfl) (by kernel_rfl) (fun _ _ _ h => h) (Or.inl ⟨by kernel_rfl, ?_⟩) ?_
        rotate_left
        · intro w; go_simp; rw [HW16.out]; try with_reducible rfl
        refine wpAny_take (i := 9) (v := ?_) rfl (by kernel_rfl) (by kernel_rfl) (by kernel_rfl) (fun _ _ _ h => h) (Or.inl ⟨by kernel_rfl, ?_⟩) ?_
        rotate_left
        · intro w; go_simp; try with_reducible rfl
        refine wpAny_ready (rs := [11]) (by kernel_rfl) (by simp) ?_
        refine AllReady.cons (i := 11) rfl ?_ AllReady.nil
        intro K hK
        go_simp
        refine hK _ _ ?_
        clear hK K
        refine wpAny_done (by kernel_rfl) ?_ _
        go_wp2_with fail
        go_meet
        exact ⟨rfl, (Blk.made W1 _ _).drew, (Bc.alloc Bc.size _).drew⟩
      case rest =>
        obtain ⟨rfl, hX, BX⟩ := hcut
        have hKr2 := hKr.below BX hKr.lt
        have BW := BA.trans (BX.mono BA.size)
        obtain ⟨pn, hpn⟩ : ∃ q, padn s = q := ⟨_, rfl⟩
        have hp8 : pn < 8 := by rw [← hpn]; unfold padn; omega
        have hpv : padv (32 + (s : Int)) = (pn : Int) := by rw [← hpn]; unfold padv padn; rw [if_neg (by omega)]; omega
        have PD := Lib.hid (refpad_any (32 + (s : Int)) wc (by omega) (by omega))
        rw [hpv] at PD
        have HPN := Lib.hid hpn
        obtain ⟨al, hal⟩ : ∃ al, 32 + s + pn = al := ⟨_, rfl⟩
        have hall : 32 + (s : Int) + (pn : Int) = (al : Int) := by omega
        obtain ⟨k0, k1, k2, k3⟩ := hKr2.four
        obtain ⟨f0, f1, f2, f3⟩ := hKr2.four_frozen
        clear hpv hpn
        by_cases hsh : n < al
        · have HG := Lib.hid (show ndGet l = ndBad 3 from by unfold ndGet; rw [if_neg (by rw [HL.out]; omega), if_neg HF.out, if_pos (by rw [HL.out, E20.out, HPN.out]; omega)])
          have hdsh : decide ((n : Int) < al) = true := by rw [decide_eq_true_eq]; omega
          go_wp2_with fail
          refine PD.out.mono ?_
          rintro e W4 ⟨rfl, rfl⟩
          go_wp2_with fail
          refine bodyPost_ret (v := .tuple #[.agg #[.int .u64 0, .int .u32 0, .bool false, .slice none 0 0], .int .i64 0, .int .i64 3]) (rget_results (hKr2.put4 _ _ _ _) rfl rfl rfl) rfl ?_
          exact rgot_bad (cf := 3) HG.out (below_put4 BW (Nat.le_refl _) _ _ _ _)
        · have hdsh : decide ((n : Int) < al) = false := by rw [decide_eq_false_iff_not]; omega
          obtain ⟨a1, s1, -, -, hcut1⟩ := cut_bytes (HBL.out wc BX) hc 32 s (by omega)
          have hs1 := fun W => s1 (32 : Int) (32 + (s : Int)) W rfl (by omega)
          obtain ⟨v', W5, hr5, ho5, hg5, hat5⟩ := append_any_bytes (W := wc.drew) (base := wc.heap.size) (v := .slice none 0 0) (k := 0) (xs := []) ⟨rfl, .inl ⟨rfl, rfl⟩⟩ (c - 32) (hcut1.below ((Below.refl _ wc).drew)) (by omega) (Nat.le_refl _)
          simp only [Nat.zero_add, List.nil_append] at ho5
          obtain ⟨av, cv, rfl, hcv⟩ := own_form ho5
          have B5 : Below wc.heap.size wc W5 := ((Below.refl _ wc).drew).grown hg5 (Nat.le_refl _) (fun q e => by cases e)
          have hX5 := hX.below B5 hX.lt
          obtain ⟨g0, g1, g2, g3⟩ := hX.four
          obtain ⟨r0, r1, r2, r3⟩ := hX5.four
          obtain ⟨z0, z1, z2, z3⟩ := hX5.four_frozen
          have hX6 : Blk (W5.setCell ⟨W1.heap.size, 3, none⟩ (.slice av s cv)) W1.heap.size 34 #[.int .u64 m8, .int .u32 m16, .bool gf, .slice av s cv] := hX5.put 3 (.slice av s cv)
          have hXl := hX.lt
          have ho6 := ho5.kept (grown_put (grown_refl W5 (some W1.heap.size)) 3 (.slice av s cv)) (by
            rcases hat5 with e | e
            · exact .inl (e.trans rfl)
            · right
              intro e2
              rw [e] at e2
              have e2 : some wc.heap.size = some W1.heap.size := e2
              injection e2 with e2
              omega)
          have B6 : Below W0.heap.size W0 (W5.setCell ⟨W1.heap.size, 3, none⟩ (.slice av s cv)) := (BX.trans (B5.mono BX.size)).setCell (p := ⟨W1.heap.size, 3, none⟩) Bc.size _
          have HX6 := Lib.hid hX6
          have HO6 := Lib.hid ho6
          have HB6 := Lib.hid B6
          have HRR := Lib.hid hr5
          clear k0 k1 k2 k3 f0 f1 f2 f3 s1 hcut1 ho5 hg5 hat5 B5 hX5 hX6 ho6 B6 hX hr5
          go_wp2_with fail
          refine PD.out.mono ?_
          rintro e W4 ⟨rfl, rfl⟩
          go_wp2_with fail
          refine wp_region_any (by kernel_rfl) ?_
          change wpAny _ _ _ _ _ _ _ (World.drew _)
          refine wpAny_take (i := 0) (v := ?_) rfl (by kernel_rfl) (by kernel_rfl) (by kernel_rfl) (fun _ _ _ h => h) (Or.inl ⟨by kernel_rfl, ?_⟩) ?_
          rotate_left
          · intro w; go_simp; try with_reducible rfl
          refine wpAny_take (i := 2) (v := ?_) rfl (by kernel_rfl) (by kernel_rfl) (by kernel_rfl) (fun _ _ _ h => h) (Or.inl ⟨by kernel_rfl, ?_⟩) ?_
          rotate_left
          · intro w; go_simp; try with_reducible rfl
          refine wpAny_take (i := 3) (v := ?_) rfl (by kernel_rfl) (by kernel_rfl) (by kernel_rfl) (fun _ _ _ h => h) (Or.inl ⟨by kernel_rfl, ?_⟩) ?_
          rotate_left
          · intro w; go_simp; try with_reducible rfl
          refine wpAny_take (i := 4) (v := ?_) rfl (by kernel_rfl) (by kernel_rfl) (by kernel_rfl) (fun _ _ _ h => h) (Or.inl ⟨by kernel_rfl, ?_⟩) ?_
          rotate_left
          · intro w; go_simp; try with_reducible rfl
          refine wpAny_ready (rs := [1]) (by kernel_rfl) (by simp) ?_
          refine AllReady.cons (i := 1) rfl ?_ AllReady.nil
          intro K hK
          go_simp
          refine hK _ _ ?_
          clear hK K
          refine wpAny_ready (rs := [5]) (by kernel_rfl) (by simp) ?_
          refine AllReady.cons (i := 5) rfl ?_ AllReady.nil
          intro K hK
          refine step_run_g (by kernel_rfl) _ _ (by rfl) (by rfl) (by rfl) HRR.out ?_
          refine hK _ _ ?_
          clear hK K
          refine wpAny_take (i := 6) (v := ?_) rfl (by kernel_rfl) (by kernel_rfl) (by kernel_rfl) (fun _ _ _ h => h) (Or.inl ⟨by kernel_rfl, ?_⟩) ?_
          rotate_left
          · intro w; go_simp; try with_reducible rfl
          refine wpAny_ready (rs := [7]) (by kernel_rfl) (by simp) ?_
          refine AllReady.cons (i := 7) rfl ?_ AllReady.nil
          intro K hK
          go_simp
          refine hK _ _ ?_
          clear hK K
          refine wpAny_done (by kernel_rfl) ?_ _
          go_simp
          generalize W5.setCell ⟨W1.heap.size, 3, none⟩ (.slice av s cv) = W2 at *
          obtain ⟨D, hD⟩ : ∃ D, (l.drop 32).take s = D := ⟨_, rfl⟩
          rw [hD] at HO6
          have HD := Lib.hid hD
          obtain ⟨y, hy⟩ : ∃ y, (Crc.of (l.take 24 ++ D)).toNat = y := ⟨_, rfl⟩
          have hy32 : y < 4294967296 := by rw [← hy]; exact (Crc.of _).isLt
          have HY := Lib.hid hy
          have HWY := Lib.hid (show IntKind.u64.wrap (y : Int) = y from IntWalk.u64_in _ (by omega))
          have HXL := Lib.hid fun (W : World) (B : Below W2.heap.size W2 W) => (HX6.out.below B HX6.out.lt).four
          have H24 := Lib.hid fun (W : World) (B : Below W2.heap.size W2 W) => N24.out W (HB6.out.trans (B.mono HB6.out.size))
          have HLD := Lib.hid (show D.length = s from by rw [← hD, List.length_take, List.length_drop, HL.out]; omega)
          clear hy hD g0 g1 g2 g3 r0 r1 r2 r3 z0 z1 z2 z3 HRR
          go_upto_region 12 with fail
          go_cut [89] (fun v wx => v = .bool ((m24 : Int) != (y : Int)) ∧ Below W2.heap.size W2 wx)
          case first =>
            refine wp_region_held_drew (S := fun W => Below W2.heap.size W2 W) (by kernel_rfl) ((Below.refl _ _).drew) (fun hS => ?_)
            refine wpAnyH_take (i := 0) (v := ?_) rfl (by kernel_rfl) (by kernel_rfl) (by kernel_rfl) (fun _ _ _ h => h) (Or.inl ⟨by kernel_rfl, ?_⟩) hS ?_
            rotate_left
            · intro W hW; go_simp; try with_reducible rfl
            refine wpAnyH_take (i := 1) (v := ?_) rfl (by kernel_rfl) (by kernel_rfl) (by kernel_rfl) (fun _ _ _ h => h) (Or.inl ⟨by kernel_rfl, ?_⟩) hS ?_
            rotate_left
            · intro W hW; go_simp; try with_reducible rfl
            refine wpAnyH_take (i := 4) (v := ?_) rfl (by kernel_rfl) (by kernel_rfl) (by kernel_rfl) (fun _ _ _ h => h) (Or.inl ⟨by kernel_rfl, ?_⟩) hS ?_
            rotate_left
            · intro W hW; go_simp; try with_reducible rfl
            refine wpAnyH_take (i := 5) (v := ?_) rfl (by kernel_rfl) (by kernel_rfl) (by kernel_rfl) (fun _ _ _ h => h) (Or.inl ⟨by kernel_rfl, ?_⟩) hS ?_
            rotate_left
            · intro W hW; go_simp; try with_reducible rfl
            refine wpAnyH_take (i := 7) (v := ?_) rfl (by kernel_rfl) (by kernel_rfl) (by kernel_rfl) (fun _ _ _ h => h) (Or.inl ⟨by kernel_rfl, ?_⟩) hS ?_
            rotate_left
            · intro W hW; go_simp; try with_reducible rfl
            refine wpAnyH_take (i := 8) (v := ?_) rfl (by kernel_rfl) (by kernel_rfl) (by kernel_rfl) (fun _ _ _ h => h) (Or.inl ⟨by kernel_rfl, ?_⟩) hS ?_
            rotate_left
            · intro W hW; obtain ⟨g0, g1, g2, g3⟩ := HXL.out W hW; go_simp; try with_reducible rfl
            refine wpAnyH_ready (rs := [2, 3]) (by kernel_rfl) (by simp) ?_
            refine AllReadyH.cons (i := 2) rfl ?_ ?_
            · intro K hK
              go_simp
              refine (H24.out _ hS).mono ?_
              rintro e w3 ⟨rfl, rfl⟩
              go_simp
              refine hK.out _ _ ?_ (fun hN => ?_)
              · first | exact hT | exact hS | exact hS.alloc hS.size _ | exact hS.drew
              clear hK K
              try clear hT
              clear hS
              have hS := hN
              clear hN
              refine wpAnyH_ready (rs := [3]) (by kernel_rfl) (by simp) ?_
              refine AllReadyH.cons (i := 3) rfl ?_ AllReadyH.nil
              intro K hK
              go_simp
              refine hK.out _ _ ?_ (fun hN => ?_)
              · first | exact hT | exact hS | exact hS.alloc hS.size _ | exact hS.drew
              clear hK K
              try clear hT
              clear hS
              have hS := hN
              clear hN
              refine wpAnyH_ready (rs := [6]) (by kernel_rfl) (by simp) ?_
              refine AllReadyH.cons (i := 6) rfl ?_ AllReadyH.nil
              intro K hK
              obtain ⟨q1, cap1, V1, hr1, ho1, hg1, -⟩ := append_bytes (World.ownsRow_made (base := W2.heap.size) W2.drew #[] 0 (Nat.le_refl _) (Nat.zero_le _) rfl) c (((HBL.out W2 HB6.out).prefix (k := 24) (by omega)).below ((Below.refl _ W2).drew.alloc (Nat.le_refl _) _)) (fun e => by have := bsl_nil0 (HBL.out W2 HB6.out) e; omega) (by omega) (by simp)
              simp only [Nat.zero_add, List.nil_append] at hr1 ho1
              have hT : Below W2.heap.size W2 V1 := ((Below.refl _ W2).drew.alloc (Nat.le_refl _) _).grown hg1 (by simp) (fun k e => by injection e with e; have e : W2.heap.size = k := e; omega)
              refine step_run_g (by kernel_rfl) _ _ (by rfl) (by rfl) (by rfl) hr1 ?_
              clear hr1
              refine hK.out _ _ ?_ (fun hN => ?_)
              · first | exact hT | exact hS | exact hS.alloc hS.size _ | exact hS.drew
              clear hK K
              try clear hT
              clear hS
              have hS := hN
              clear hN
              refine wpAnyH_ready (rs := [9]) (by kernel_rfl) (by simp) ?_
              refine AllReadyH.cons (i := 9) rfl ?_ AllReadyH.nil
              intro K hK
              obtain ⟨q2, cap2, V2, hr2, ho2, hg2, -⟩ := append_bytes ho1 cv (bsl_own (own_below HO6.out hS (Nat.le_refl _))) (bsl_nil0 (bsl_own HO6.out)) (by omega) hS.size
              have hT : Below W2.heap.size W2 V2 := hS.grown hg2 hS.size (fun k e => by injection e with e; have := (ho1.lt q1 rfl).1; omega)
              rw [← List.map_append] at ho2
              refine step_run_g (by kernel_rfl) _ _ (by rfl) (by rfl) (by rfl) hr2 ?_
              clear hr2
              refine hK.out _ _ ?_ (fun hN => ?_)
              · first | exact hT | exact hS | exact hS.alloc hS.size _ | exact hS.drew
              clear hK K
              try clear hT
              clear hS
              have hS := hN
              clear hN
              refine wpAnyH_ready (rs := [10]) (by kernel_rfl) (by simp) ?_
              refine AllReadyH.cons (i := 10) rfl ?_ AllReadyH.nil
              intro K hK
              go_simp
              refine (of_ref (some ⟨q2, 0, none⟩) (24 + s) cap2 _ V2 (bsl_own ho2) (by omega)).mono ?_
              rintro e w11 ⟨rfl, rfl⟩
              rw [HY.out]
              go_simp
              refine hK.out _ _ ?_ (fun hN => ?_)
              · first | exact hT | exact hS | exact hS.alloc hS.size _ | exact hS.drew
              clear hK K
              try clear hT
              clear hS
              have hS := hN
              clear hN
              refine wpAnyH_take (i := 11) (v := ?_) rfl (by kernel_rfl) (by kernel_rfl) (by kernel_rfl) (fun _ _ _ h => h) (Or.inl ⟨by kernel_rfl, ?_⟩) hS ?_
              rotate_left
              · intro W hW; go_simp; rw [HWY.out]; try with_reducible rfl
              refine wpAnyH_take (i := 12) (v := ?_) rfl (by kernel_rfl) (by kernel_rfl) (by kernel_rfl) (fun _ _ _ h => h) (Or.inl ⟨by kernel_rfl, ?_⟩) hS ?_
              rotate_left
              · intro W hW; go_simp; try with_reducible rfl
              refine wpAnyH_done (by kernel_rfl) ?_ _
              go_wp2_with fail
              go_meet
              exact ⟨rfl, hS⟩
            refine AllReadyH.cons (i := 3) rfl ?_ AllReadyH.nil
            intro K hK
            go_simp
            refine hK.out _ _ ?_ (fun hN => ?_)
            · first | exact hT | exact hS | exact hS.alloc hS.size _ | exact hS.drew
            clear hK K
            try clear hT
            clear hS
            have hS := hN
            clear hN
            refine wpAnyH_ready (rs := [2]) (by kernel_rfl) (by simp) ?_
            refine AllReadyH.cons (i := 2) rfl ?_ AllReadyH.nil
            intro K hK
            go_simp
            refine (H24.out _ hS).mono ?_
            rintro e w3 ⟨rfl, rfl⟩
            go_simp
            refine hK.out _ _ ?_ (fun hN => ?_)
            · first | exact hT | exact hS | exact hS.alloc hS.size _ | exact hS.drew
            clear hK K
            try clear hT
            clear hS
            have hS := hN
            clear hN
            refine wpAnyH_ready (rs := [6]) (by kernel_rfl) (by simp) ?_
            refine AllReadyH.cons (i := 6) rfl ?_ AllReadyH.nil
            intro K hK
            obtain ⟨q1, cap1, V1, hr1, ho1, hg1, -⟩ := append_bytes (World.ownsRow_made (base := W2.heap.size) W2.drew #[] 0 (Nat.le_refl _) (Nat.zero_le _) rfl) c (((HBL.out W2 HB6.out).prefix (k := 24) (by omega)).below ((Below.refl _ W2).drew.alloc (Nat.le_refl _) _)) (fun e => by have := bsl_nil0 (HBL.out W2 HB6.out) e; omega) (by omega) (by simp)
            simp only [Nat.zero_add, List.nil_append] at hr1 ho1
            have hT : Below W2.heap.size W2 V1 := ((Below.refl _ W2).drew.alloc (Nat.le_refl _) _).grown hg1 (by simp) (fun k e => by injection e with e; have e : W2.heap.size = k := e; omega)
            refine step_run_g (by kernel_rfl) _ _ (by rfl) (by rfl) (by rfl) hr1 ?_
            clear hr1
            refine hK.out _ _ ?_ (fun hN => ?_)
            · first | exact hT | exact hS | exact hS.alloc hS.size _ | exact hS.drew
            clear hK K
            try clear hT
            clear hS
            have hS := hN
            clear hN
            refine wpAnyH_ready (rs := [9]) (by kernel_rfl) (by simp) ?_
            refine AllReadyH.cons (i := 9) rfl ?_ AllReadyH.nil
            intro K hK
            obtain ⟨q2, cap2, V2, hr2, ho2, hg2, -⟩ := append_bytes ho1 cv (bsl_own (own_below HO6.out hS (Nat.le_refl _))) (bsl_nil0 (bsl_own HO6.out)) (by omega) hS.size
            have hT : Below W2.heap.size W2 V2 := hS.grown hg2 hS.size (fun k e => by injection e with e; have := (ho1.lt q1 rfl).1; omega)
            rw [← List.map_append] at ho2
            refine step_run_g (by kernel_rfl) _ _ (by rfl) (by rfl) (by rfl) hr2 ?_
            clear hr2
            refine hK.out _ _ ?_ (fun hN => ?_)
            · first | exact hT | exact hS | exact hS.alloc hS.size _ | exact hS.drew
            clear hK K
            try clear hT
            clear hS
            have hS := hN
            clear hN
            refine wpAnyH_ready (rs := [10]) (by kernel_rfl) (by simp) ?_
            refine AllReadyH.cons (i := 10) rfl ?_ AllReadyH.nil
            intro K hK
            go_simp
            refine (of_ref (some ⟨q2, 0, none⟩) (24 + s) cap2 _ V2 (bsl_own ho2) (by omega)).mono ?_
            rintro e w11 ⟨rfl, rfl⟩
            rw [HY.out]
            go_simp
            refine hK.out _ _ ?_ (fun hN => ?_)
            · first | exact hT | exact hS | exact hS.alloc hS.size _ | exact hS.drew
            clear hK K
            try clear hT
            clear hS
            have hS := hN
            clear hN
            refine wpAnyH_take (i := 11) (v := ?_) rfl (by kernel_rfl) (by kernel_rfl) (by kernel_rfl) (fun _ _ _ h => h) (Or.inl ⟨by kernel_rfl, ?_⟩) hS ?_
            rotate_left
            · intro W hW; go_simp; rw [HWY.out]; try with_reducible rfl
            refine wpAnyH_take (i := 12) (v := ?_) rfl (by kernel_rfl) (by kernel_rfl) (by kernel_rfl) (fun _ _ _ h => h) (Or.inl ⟨by kernel_rfl, ?_⟩) hS ?_
            rotate_left
            · intro W hW; go_simp; try with_reducible rfl
            refine wpAnyH_done (by kernel_rfl) ?_ _
            go_wp2_with fail
            go_meet
            exact ⟨rfl, hS⟩
          case rest =>
            obtain ⟨rfl, B3⟩ := hcut
            obtain ⟨W3, rfl⟩ : ∃ W3 : World, W3 = wc := ⟨_, rfl⟩
            have hX3 := HX6.out.below B3 HX6.out.lt
            have HO3 := Lib.hid (own_below HO6.out B3 (Nat.le_refl _))
            have B03 := HB6.out.trans (B3.mono HB6.out.size)
            have BW3 := BA.trans (B03.mono BA.size)
            have hKr3 := hKr.below B03 hKr.lt
            have hXl2 := HX6.out.lt
            obtain ⟨k0, k1, k2, k3⟩ := hKr3.four
            obtain ⟨f0, f1, f2, f3⟩ := hKr3.four_frozen
            clear HO6 HX6
            by_cases hsum : m24 = y
            · have hsum' : ((m24 : Int) != (y : Int)) = false := by rw [hsum]; simp
              have HSUM := Lib.hid hsum
              have HBI := Lib.hid (HBL.out W3 B03)
              have hlen := HL.out
              have HLn := Lib.hid hlen
              rw [hsum']
              clear hsum hlen
              go_wp2_with fail
              go_loopw [10] (fun iv wr => ∃ j : Nat, j ≤ pn ∧ iv = .int .i64 ((32 + s + j : Nat) : Int) ∧ nz ((l.drop (32 + s)).take j) = false ∧ wr = W3) (fun iv _ => al - (intOf iv).toNat)
              case atStart => exact ⟨0, by omega, by congr 1, by rw [List.take_zero]; rfl, rfl⟩
              case round =>
                obtain ⟨j, hj, rfl, hz, rfl⟩ := hrel
                obtain ⟨i, hi⟩ : ∃ i, 32 + s + j = i := ⟨_, rfl⟩
                rw [hi]
                by_cases hlt : j < pn
                · have hial : i < al := by omega
                  obtain ⟨b, off, ha, -, hcell⟩ := HBI.out.at_ (show i < n by omega)
                  subst ha
                  have hnx := nz_next (l.drop (32 + s)) j (by rw [List.length_drop, HLn.out]; omega)
                  have hgd : (l.drop (32 + s)).getD j 0 = l.getD i 0 := by
                    simp only [List.getD, List.getElem?_drop]
                    rw [← hi]
                  rw [hz, Bool.false_or, hgd] at hnx
                  have htrue := nz_true (l.drop (32 + s)) j (by rw [List.length_drop, HLn.out]; omega)
                  rw [hgd] at htrue
                  generalize l.getD i 0 = x at *
                  unfold bv at hcell
                  have hi0 : (0 : Int) ≤ i := by omega
                  have hi1 : (i : Int) < n := by omega
                  by_cases hx : x = 0#8
                  · have hx' : ((x.toNat : Int) != 0) = false := by rw [hx]; rfl
                    have HNX := Lib.hid (show nz ((l.drop (32 + s)).take (j + 1)) = false from by rw [hnx, hx]; rfl)
                    have HI := Lib.hid hi
                    clear hx hnx htrue hgd hi hz
                    go_wp2_with fail
                    go_roundw
                    case rel => exact ⟨j + 1, by omega, by rw [show 32 + s + (j + 1) = i + 1 from by have := HI.out; omega]; go_num, HNX.out, trivial⟩
                    case measure => have := HI.out; simp [intOf]; omega
                  · have hx' : ((x.toNat : Int) != 0) = true := by
                      rw [bne_iff_ne]
                      intro e
                      exact hx (BitVec.eq_of_toNat_eq (by simpa using e))
                    have hnzp : nz ((l.drop (32 + s)).take pn) = true := by
                      refine nz_true _ j (by rw [List.length_take, List.length_drop, HLn.out]; omega) ?_
                      rw [show ((l.drop (32 + s)).take pn).getD j 0 = x from by rw [← hgd]; simp [List.getD, hlt]]
                      exact hx
                    have HG := Lib.hid (show ndGet l = ndBad 4 from by
                      unfold ndGet
                      rw [if_neg (by rw [HL.out]; omega), if_neg HF.out, if_neg (by rw [HL.out, E20.out, HPN.out]; omega), if_neg (by rw [E24.out, E20.out, HD.out, HY.out]; exact not_not_intro HSUM.out), if_pos (by rw [E20.out, HPN.out]; exact hnzp)])
                    clear hx hnx htrue hgd hi hz hnzp
                    go_wp2_with fail
                    refine bodyPost_ret (v := .tuple #[.agg #[.int .u64 0, .int .u32 0, .bool false, .slice none 0 0], .int .i64 0, .int .i64 4]) (rget_results (hKr3.put4 _ _ _ _) rfl rfl rfl) rfl ?_
                    exact rgot_bad (cf := 4) HG.out (below_put4 BW3 (Nat.le_refl _) _ _ _ _)
                · obtain rfl : j = pn := by omega
                  have hial : ¬ i < al := by omega
                  have HG := Lib.hid (show ndGet l = (m8, m16, gf, D, al, 0) from by
                    unfold ndGet
                    rw [if_neg (by rw [HL.out]; omega), if_neg HF.out, if_neg (by rw [HL.out, E20.out, HPN.out]; omega), if_neg (by rw [E24.out, E20.out, HD.out, HY.out]; exact not_not_intro HSUM.out), if_neg (by rw [E20.out, HPN.out, hz]; decide)]
                    rw [E8.out, E16.out, E4.out, E20.out, HPN.out, HGF.out, HD.out, hal])
                  obtain ⟨g0, g1, g2, g3⟩ := hX3.four
                  clear hz hi
                  go_wp2_with fail
                  refine bodyPost_ret (v := .tuple #[.agg #[.int .u64 m8, .int .u32 m16, .bool gf, .slice av s cv], .int .i64 al, .int .i64 0]) (rget_results (hKr3.put4 _ _ _ _) rfl rfl rfl) rfl ?_
                  refine ⟨below_put4 BW3 (Nat.le_refl _) _ _ _ _, m8, m16, gf, D, al, 0, HG.out, av, cv, ?_, ?_, ?_⟩
                  · rw [HLD.out]
                    rfl
                  · rw [HLD.out]
                    exact hcv
                  · rw [HLD.out]
                    refine own_more (HO3.out.kept (grown_put (grown_put (grown_put (grown_put (grown_refl _ (some w.heap.size)) 0 _) 1 _) 2 _) 3 _) ?_) BW.size
                    cases hb : (Value.slice av s cv).ownBlock with
                    | none => exact .inl rfl
                    | some q =>
                      right
                      intro e
                      injection e with e
                      have h1 := (HO3.out.lt q hb).1
                      have h2 := BX.size
                      have h3 := hKr.lt
                      omega
            · have hsum' : ((m24 : Int) != (y : Int)) = true := by rw [bne_iff_ne]; omega
              have HG := Lib.hid (show ndGet l = ndBad 5 from by
                unfold ndGet
                rw [if_neg (by rw [HL.out]; omega), if_neg HF.out, if_neg (by rw [HL.out, E20.out, HPN.out]; omega), if_pos (by rw [E24.out, E20.out, HD.out, HY.out]; exact hsum)])
              rw [hsum']
              go_wp2_with fail
              refine bodyPost_ret (v := .tuple #[.agg #[.int .u64 0, .int .u32 0, .bool false, .slice none 0 0], .int .i64 0, .int .i64 5]) (rget_results (hKr3.put4 _ _ _ _) rfl rfl rfl) rfl ?_
              exact rgot_bad (cf := 5) HG.out (below_put4 BW3 (Nat.le_refl _) _ _ _ _)

theorem rget_any (a : Option Addr) (n c : Nat) (l : List (BitVec 8)) (w : World) (h : BSl w w.heap.size a n l) (hc : n ≤ c) (hn : n ≤ 1099511627776) :
    Calls Try.prog 43 #[.slice a n c] w (RefGot l w) := (rget_own a n c l w h hc hn).mono fun _ _ h => h.got

end Go.Proofs.Ytpkfjnhjcdcoaaa
