/-
  needle.Get: the needle of any bytes.
-/
import Derived.Test.YtpkfjnhjcdcoaaaNdlPut
namespace Go.Proofs.Ytpkfjnhjcdcoaaa
open Go.RowKit

/-- A number among bytes. -/
def nums (L : List (BitVec 8)) (p k : Nat) : Nat := Num.num ((L.drop p).take k)
theorem nums_lt (L : List (BitVec 8)) (p k : Nat) : nums L p k < 256 ^ k := by
  refine Nat.lt_of_lt_of_le (Num.num_lt _) (Nat.pow_le_pow_right (by decide) ?_)
  rw [List.length_take]; omega
/-- What the bytes of a needle say: the key, the cookie, whether it is gone, the data, how many bytes, the error. -/
def ndBad (c : Nat) : Nat × Nat × Bool × List (BitVec 8) × Nat × Nat := (0, 0, false, [], 0, c)
def ndForm (L : List (BitVec 8)) : Prop := nums L 0 4 ≠ 1313162572 ∨ 1 < nums L 4 4 ∨ nums L 28 4 ≠ 0 ∨ 4096 < nums L 20 4 ∨ (nums L 4 4 = 1 ∧ 0 < nums L 20 4)
instance (L : List (BitVec 8)) : Decidable (ndForm L) := by unfold ndForm; infer_instance
def ndGet (L : List (BitVec 8)) : Nat × Nat × Bool × List (BitVec 8) × Nat × Nat :=
  if L.length < 32 then ndBad 3
  else if ndForm L then ndBad 4
  else if L.length < 32 + nums L 20 4 + padn (nums L 20 4) then ndBad 3
  else if nums L 24 4 ≠ (Crc.of (L.take 24 ++ (L.drop 32).take (nums L 20 4))).toNat then ndBad 5
  else if nz ((L.drop (32 + nums L 20 4)).take (padn (nums L 20 4))) = true then ndBad 4
  else (nums L 8 8, nums L 16 4, decide (nums L 4 4 = 1), (L.drop 32).take (nums L 20 4), 32 + nums L 20 4 + padn (nums L 20 4), 0)

theorem get1_any (a : Option Addr) (n c : Nat) (l : List (BitVec 8)) (B p k : Nat) (w : World) (hb : w.cell? ⟨B, 0, none⟩ = some (.slice a n c)) (h : BSl w w.heap.size a n l) (hc : n ≤ c) (hn : n ≤ 1099511627776) (hk : isSize (k : Int) = true) (hp : p + k ≤ n) :
    Calls Try.prog 62 #[.int .i64 p, .int .i64 k, .pointer (some ⟨B, 0, none⟩)] w fun e w' => e = .returned (.int .u64 (nums l p k : Nat)) ∧ Below w.heap.size w w' := by
  have G := Lib.hid (get_ok a n c l p k w h hc hn hk hp)
  have hk8 := isSize_le hk
  go_enter Try.func62, Try.ntmps62
  go_wp2_with fail
  refine G.out.mono ?_
  rintro e w1 ⟨rfl, B1⟩
  go_wp2_with fail
  go_ret
  exact ⟨rfl, B1⟩

theorem Blk.four_frozen {w : World} {B : Nat} {T : TypeId} {cs : Array Value} (h : Blk w B T cs) :
    w.frozen? ⟨B, 0, none⟩ = false ∧ w.frozen? ⟨B, 1, none⟩ = false ∧ w.frozen? ⟨B, 2, none⟩ = false ∧ w.frozen? ⟨B, 3, none⟩ = false :=
  ⟨h.frozen 0, h.frozen 1, h.frozen 2, h.frozen 3⟩
theorem Blk.put4 {w : World} {B : Nat} {T : TypeId} {v0 v1 v2 v3 : Value} (h : Blk w B T #[v0, v1, v2, v3]) (u0 u1 u2 u3 : Value) :
    Blk ((((w.setCell ⟨B, 0, none⟩ u0).setCell ⟨B, 1, none⟩ u1).setCell ⟨B, 2, none⟩ u2).setCell ⟨B, 3, none⟩ u3) B T #[u0, u1, u2, u3] :=
  (((h.put 0 u0).put 1 u1).put 2 u2).put 3 u3
theorem below_put4 {w : World} {X : World} {B : Nat} (h : Below X.heap.size X w) (hB : X.heap.size ≤ B) (u0 u1 u2 u3 : Value) :
    Below X.heap.size X ((((w.setCell ⟨B, 0, none⟩ u0).setCell ⟨B, 1, none⟩ u1).setCell ⟨B, 2, none⟩ u2).setCell ⟨B, 3, none⟩ u3) :=
  (((h.setCell (p := ⟨B, 0, none⟩) hB u0).setCell (p := ⟨B, 1, none⟩) hB u1).setCell (p := ⟨B, 2, none⟩) hB u2).setCell (p := ⟨B, 3, none⟩) hB u3

set_option maxRecDepth 100000 in
theorem bclone_any (a : Option Addr) (n c : Nat) (l : List (BitVec 8)) (w : World) (h : BSl w w.heap.size a n l) (hc : n ≤ c) (hn : n ≤ 1099511627776) :
    Calls Try.prog 66 #[.slice a n c] w fun e w' => ∃ av cv, e = .returned (.slice av n cv) ∧ n ≤ cv ∧ w'.ownsRow w.heap.size 5 1 (.slice av n cv) n (l.map bv) ∧ Below w.heap.size w w' := by
  have hlen := h.1
  have qT : ∀ (w : World) (a : Option Addr) (n c n' c' : Nat), (binOp .eql 22 (.slice a n c) (.slice none n' c')).run Try.prog w = .ok (.bool a.isNone) w := fun w a n c n' c' => Lib.run_eql_slice_nil w _ _ a n c n' c' Try.underlying22
  cases a with
  | none =>
    obtain rfl := bsl_nil0 h rfl
    have hl : l = [] := List.eq_nil_of_length_eq_zero hlen
    subst hl
    go_enter Try.func66, Try.ntmps66
    go_wp2_with fail
    go_ret
    exact ⟨none, 0, rfl, Nat.le_refl _, ⟨rfl, .inl ⟨rfl, rfl⟩⟩, Below.refl _ _⟩
  | some ad =>
    obtain ⟨g1, cap1, W1, hr1, ho1, hg1, -⟩ := append_bytes (World.ownsRow_made (base := w.heap.size) w #[] 0 (Nat.le_refl _) (Nat.zero_le _) rfl) c (h.below ((Below.refl _ w).alloc (Nat.le_refl _) _)) (fun e => by cases e) (by omega) (by simp)
    simp only [Nat.zero_add, List.nil_append] at hr1 ho1
    have B1 : Below w.heap.size w W1 := ((Below.refl _ w).alloc (Nat.le_refl _) _).grown hg1 (by simp) (fun k e => by injection e with e; omega)
    have HO := Lib.hid ho1
    have hc1 := own_cap ho1
    clear ho1 hg1 hlen
    go_enter Try.func66, Try.ntmps66
    go_wp2_with (at_builtin; refine list_run (by rfl) _ _ rfl rfl rfl hr1 ?_; clear hr1)
    go_ret
    exact ⟨some ⟨g1, 0, none⟩, cap1, rfl, hc1, HO.out, B1⟩

theorem nget_short (a : Option Addr) (n c : Nat) (w : World) (hlt : n < 32) :
    Calls Try.prog 39 #[.slice a n c] w fun e w' => e = .returned (.tuple #[.agg #[.int .u64 0, .int .u32 0, .bool false, .slice none 0 0], .int .i64 0, errc 3]) ∧ Below w.heap.size w w' := by
  go_enter Try.func39, Try.ntmps39
  go_wp2_with fail
  exact bodyPost_ret (v := .tuple #[.agg #[.int .u64 0, .int .u32 0, .bool false, .slice none 0 0], .int .i64 0, errc 3]) (by simp [results, Try.results39, go_sem, errc, er]) rfl ⟨rfl, ((Below.refl _ _).alloc (Nat.le_refl _) _).alloc (by simp) _⟩

/-- What needle.Get answers. -/
def NdGot (L : List (BitVec 8)) (w : World) (e : Ending) (w' : World) : Prop :=
  Below w.heap.size w w' ∧ ∃ key ck g lx all cf, ndGet L = (key, ck, g, lx, all, cf) ∧
    ∃ av cv, e = .returned (.tuple #[.agg #[.int .u64 (key : Nat), .int .u32 (ck : Nat), .bool g, .slice av lx.length cv], .int .i64 (all : Nat), errc cf]) ∧ lx.length ≤ cv ∧ w'.ownsRow w.heap.size 5 1 (.slice av lx.length cv) lx.length (lx.map bv)

theorem got_bad {L : List (BitVec 8)} {w w' : World} {cf : Nat} (h : ndGet L = ndBad cf) (B : Below w.heap.size w w') :
    NdGot L w (.returned (.tuple #[.agg #[.int .u64 0, .int .u32 0, .bool false, .slice none 0 0], .int .i64 0, errc cf])) w' :=
  ⟨B, 0, 0, false, [], 0, cf, h, none, 0, rfl, Nat.le_refl _, rfl, .inl ⟨rfl, rfl⟩⟩

theorem nget_results {W : World} {B : Nat} {v0 v1 v2 v3 : Value} {a : Act} {x e : Value} (h : Blk W B 27 #[v0, v1, v2, v3]) (h2 : a.tmps[2]?.getD undef = .pointer (some ⟨B, 0, none⟩)) (h3 : a.tmps[3]?.getD undef = x) (h4 : a.tmps[4]?.getD undef = e) :
    (results Try.f39 a.tmps).run Try.prog W = .ok (.tuple #[.agg #[v0, v1, v2, v3], x, e]) W := by
  obtain ⟨k0, k1, k2, k3⟩ := h.four
  simp [results, Try.results39, go_sem, h2, h3, h4, k0, k1, k2, k3]

set_option maxRecDepth 100000 in
set_option maxHeartbeats 2000000 in
theorem nget_any (a : Option Addr) (n c : Nat) (l : List (BitVec 8)) (w : World) (h : BSl w w.heap.size a n l) (hc : n ≤ c) (hn : n ≤ 1099511627776) :
    Calls Try.prog 39 #[.slice a n c] w (NdGot l w) := by
  have hlen := h.1
  by_cases hlt : n < 32
  · refine (nget_short a n c w hlt).mono ?_
    rintro e w' ⟨rfl, B⟩
    exact got_bad (by unfold ndGet; rw [if_pos (by omega)]) B
  have hge : 32 ≤ n := by omega
  clear hlt
  obtain ⟨W0, hW0⟩ : ∃ W0, (w.alloc (.cells #[.slice a n c] 22)).alloc (.cells #[.int .u64 0, .int .u32 0, .bool false, .slice none 0 0] 27) = W0 := ⟨_, rfl⟩
  have hKb : Blk W0 w.heap.size 22 #[.slice a n c] := by rw [← hW0]; exact (Blk.made w _ _).alloc _
  have hKr : Blk W0 (w.heap.size + 1) 27 #[.int .u64 0, .int .u32 0, .bool false, .slice none 0 0] := by
    rw [← hW0]
    have := Blk.made (w.alloc (.cells #[.slice a n c] 22)) 27 #[.int .u64 0, .int .u32 0, .bool false, .slice none 0 0]
    simpa using this
  have BA : Below w.heap.size w W0 := by rw [← hW0]; exact ((Below.refl _ _).alloc (Nat.le_refl _) _).alloc (by simp) _
  have hbl : ∀ W, Below W0.heap.size W0 W → BSl W W.heap.size a n l := fun W B => (h.below (BA.trans (B.mono BA.size))).more (BA.trans (B.mono BA.size)).size
  have hbc : ∀ W, Below W0.heap.size W0 W → W.cell? ⟨w.heap.size, 0, none⟩ = some (.slice a n c) := fun W B => (hKb.below B hKb.lt).cell 0
  have G := fun (p k : Nat) (hk : isSize (k : Int) = true) (hp : p + k ≤ n) (W : World) (B : Below W0.heap.size W0 W) => get1_any a n c l w.heap.size p k W (hbc W B) (hbl W B) hc hn hk hp
  have G4 := Lib.hid (G 4 4 rfl (by omega))
  have G20 := Lib.hid (G 20 4 rfl (by omega))
  have G0 := Lib.hid (G 0 4 rfl (by omega))
  have G28 := Lib.hid (G 28 4 rfl (by omega))
  have G24 := Lib.hid (G 24 4 rfl (by omega))
  have G8 := Lib.hid (G 8 8 rfl (by omega))
  have G16 := Lib.hid (G 16 4 rfl (by omega))
  have HFM := Lib.hid (show ndForm l ↔ (nums l 0 4 ≠ 1313162572 ∨ 1 < nums l 4 4 ∨ nums l 28 4 ≠ 0 ∨ 4096 < nums l 20 4 ∨ (nums l 4 4 = 1 ∧ 0 < nums l 20 4)) from Iff.rfl)
  have HGET := Lib.hid (show ndGet l = _ from rfl)
  have x0 := nums_lt l 0 4
  have x4 := nums_lt l 4 4
  have x28 := nums_lt l 28 4
  have x20 := nums_lt l 20 4
  have x24 := nums_lt l 24 4
  have x8 := nums_lt l 8 8
  have x16 := nums_lt l 16 4
  have HBL := Lib.hid hbl
  have HBC := Lib.hid hbc
  have HL := Lib.hid hlen
  have HH := Lib.hid h
  clear hbl hbc hlen h G
  obtain ⟨m0, e0⟩ : ∃ m, nums l 0 4 = m := ⟨_, rfl⟩
  obtain ⟨m4, e4⟩ : ∃ m, nums l 4 4 = m := ⟨_, rfl⟩
  obtain ⟨m28, e28⟩ : ∃ m, nums l 28 4 = m := ⟨_, rfl⟩
  obtain ⟨s, e20⟩ : ∃ m, nums l 20 4 = m := ⟨_, rfl⟩
  obtain ⟨m24, e24⟩ : ∃ m, nums l 24 4 = m := ⟨_, rfl⟩
  obtain ⟨m8, e8⟩ : ∃ m, nums l 8 8 = m := ⟨_, rfl⟩
  obtain ⟨m16, e16⟩ : ∃ m, nums l 16 4 = m := ⟨_, rfl⟩
  rw [e0] at G0 HFM x0
  rw [e4] at G4 HFM x4
  rw [e28] at G28 HFM x28
  rw [e20] at G20 HFM x20
  rw [e24] at G24 x24
  rw [e8] at G8 x8
  rw [e16] at G16 x16
  have E0 := Lib.hid e0
  have E4 := Lib.hid e4
  have E20 := Lib.hid e20
  have E24 := Lib.hid e24
  have E8 := Lib.hid e8
  have E16 := Lib.hid e16
  clear e0 e4 e28 e20 e24 e8 e16 HGET
  have B0 : Below W0.heap.size W0 W0 := Below.refl _ _
  have hb0 := HBC.out W0 B0
  go_enter Try.func39, Try.ntmps39
  go_wp2_with fail
  clear hW0 hb0
  refine (G4.out _ B0).mono ?_
  rintro e W1 ⟨rfl, B1⟩
  have B1 := B0.trans (B1.mono B0.size)
  go_wp2_with fail
  refine (G20.out _ B1).mono ?_
  rintro e W2 ⟨rfl, B2⟩
  have B2 := B1.trans (B2.mono B1.size)
  clear B1
  go_upto_region 5 with fail
  go_cut [43] (fun v wx => v = .bool (decide (ndForm l)) ∧ Below W0.heap.size W0 wx)
  case first =>
    by_cases h0 : m0 = 1313162572
    · have h0' : ((m0 : Int) != 1313162572) = false := by rw [h0]; rfl
      by_cases h1 : 1 < m4
      · have hd := Lib.hid (show decide (ndForm l) = true from decide_eq_true (HFM.out.2 (.inr (.inl h1))))
        have h1' : decide ((1 : Int) < m4) = true := by rw [decide_eq_true_eq]; omega
        clear h0
        go_wp2_with fail
        refine (G0.out _ B2).mono ?_
        rintro e W3 ⟨rfl, B3⟩
        go_wp2_with fail
        go_meet
        exact ⟨by rw [hd.out], B2.trans (B3.mono B2.size)⟩
      · have h1' : decide ((1 : Int) < m4) = false := by rw [decide_eq_false_iff_not]; omega
        by_cases h2 : m28 = 0
        · have h2' : ((m28 : Int) != 0) = false := by rw [h2]; rfl
          by_cases h3 : 4096 < s
          · have hd := Lib.hid (show decide (ndForm l) = true from decide_eq_true (HFM.out.2 (.inr (.inr (.inr (.inl h3))))))
            have h3' : decide ((4096 : Int) < s) = true := by rw [decide_eq_true_eq]; omega
            clear h0 h2
            go_wp2_with fail
            refine (G0.out _ B2).mono ?_
            rintro e W3 ⟨rfl, B3⟩
            have B3 := B2.trans (B3.mono B2.size)
            go_wp2_with fail
            refine (G28.out _ B3).mono ?_
            rintro e W4 ⟨rfl, B4⟩
            go_wp2_with fail
            go_meet
            exact ⟨by rw [hd.out], B3.trans (B4.mono B3.size)⟩
          · have h3' : decide ((4096 : Int) < s) = false := by rw [decide_eq_false_iff_not]; omega
            by_cases h4 : m4 = 1
            · have h4' : ((m4 : Int) == 1) = true := by rw [h4]; rfl
              by_cases h5 : 0 < s
              · have hd := Lib.hid (show decide (ndForm l) = true from decide_eq_true (HFM.out.2 (.inr (.inr (.inr (.inr ⟨h4, h5⟩))))))
                have h5' : decide ((0 : Int) < s) = true := by rw [decide_eq_true_eq]; omega
                clear h0 h2 h4
                go_wp2_with fail
                refine (G0.out _ B2).mono ?_
                rintro e W3 ⟨rfl, B3⟩
                have B3 := B2.trans (B3.mono B2.size)
                go_wp2_with fail
                refine (G28.out _ B3).mono ?_
                rintro e W4 ⟨rfl, B4⟩
                go_wp2_with fail
                go_meet
                exact ⟨by rw [hd.out], B3.trans (B4.mono B3.size)⟩
              · have hd := Lib.hid (show decide (ndForm l) = false from decide_eq_false (fun h => by have := HFM.out.1 h; omega))
                have h5' : decide ((0 : Int) < s) = false := by rw [decide_eq_false_iff_not]; omega
                clear h0 h2 h4
                go_wp2_with fail
                refine (G0.out _ B2).mono ?_
                rintro e W3 ⟨rfl, B3⟩
                have B3 := B2.trans (B3.mono B2.size)
                go_wp2_with fail
                refine (G28.out _ B3).mono ?_
                rintro e W4 ⟨rfl, B4⟩
                go_wp2_with fail
                go_meet
                exact ⟨by rw [hd.out], B3.trans (B4.mono B3.size)⟩
            · have hd := Lib.hid (show decide (ndForm l) = false from decide_eq_false (fun h => by have := HFM.out.1 h; omega))
              have h4' : ((m4 : Int) == 1) = false := by rw [beq_eq_false_iff_ne]; omega
              clear h0 h2
              go_wp2_with fail
              refine (G0.out _ B2).mono ?_
              rintro e W3 ⟨rfl, B3⟩
              have B3 := B2.trans (B3.mono B2.size)
              go_wp2_with fail
              refine (G28.out _ B3).mono ?_
              rintro e W4 ⟨rfl, B4⟩
              go_wp2_with fail
              go_meet
              exact ⟨by rw [hd.out], B3.trans (B4.mono B3.size)⟩
        · have hd := Lib.hid (show decide (ndForm l) = true from decide_eq_true (HFM.out.2 (.inr (.inr (.inl h2)))))
          have h2' : ((m28 : Int) != 0) = true := by rw [bne_iff_ne]; omega
          clear h0
          go_wp2_with fail
          refine (G0.out _ B2).mono ?_
          rintro e W3 ⟨rfl, B3⟩
          have B3 := B2.trans (B3.mono B2.size)
          go_wp2_with fail
          refine (G28.out _ B3).mono ?_
          rintro e W4 ⟨rfl, B4⟩
          go_wp2_with fail
          go_meet
          exact ⟨by rw [hd.out], B3.trans (B4.mono B3.size)⟩
    · have hd := Lib.hid (show decide (ndForm l) = true from decide_eq_true (HFM.out.2 (.inl h0)))
      have h0' : ((m0 : Int) != 1313162572) = true := by rw [bne_iff_ne]; omega
      go_wp2_with fail
      refine (G0.out _ B2).mono ?_
      rintro e W3 ⟨rfl, B3⟩
      go_wp2_with fail
      go_meet
      exact ⟨by rw [hd.out], B2.trans (B3.mono B2.size)⟩
  case rest =>
    obtain ⟨rfl, B3⟩ := hcut
    have hKr3 := hKr.below B3 hKr.lt
    by_cases hf : ndForm l
    · have hd : decide (ndForm l) = true := decide_eq_true hf
      obtain ⟨k0, k1, k2, k3⟩ := hKr3.four
      obtain ⟨f0, f1, f2, f3⟩ := hKr3.four_frozen
      rw [hd]
      go_wp2_with fail
      exact bodyPost_ret (nget_results (hKr3.put4 _ _ _ _) rfl rfl rfl) rfl (got_bad (by unfold ndGet; rw [if_neg (by rw [HL.out]; omega), if_pos hf]) (below_put4 (BA.trans (B3.mono BA.size)) (Nat.le_succ _) _ _ _ _))
    · have hd : decide (ndForm l) = false := decide_eq_false hf
      have hnf : ¬ (m0 ≠ 1313162572 ∨ 1 < m4 ∨ m28 ≠ 0 ∨ 4096 < s ∨ (m4 = 1 ∧ 0 < s)) := fun h => hf (HFM.out.2 h)
      have hs : s ≤ 4096 := by omega
      have BW := BA.trans (B3.mono BA.size)
      obtain ⟨pn, hpn⟩ : ∃ q, padn s = q := ⟨_, rfl⟩
      have hp8 : pn < 8 := by rw [← hpn]; unfold padn; omega
      have hsz : sizev (s : Int) = ((32 + s + pn : Nat) : Int) := by unfold sizev; rw [if_pos (by omega), padv_nat, hpn]; omega
      have SZ := Lib.hid (size_any (s : Int) wc (by omega) (by omega))
      rw [hsz] at SZ
      have HPN := Lib.hid hpn
      have HF := Lib.hid hf
      obtain ⟨al, hal⟩ : ∃ al, 32 + s + pn = al := ⟨_, rfl⟩
      rw [hal] at SZ
      have hb3 := HBC.out wc B3
      obtain ⟨k0, k1, k2, k3⟩ := hKr3.four
      obtain ⟨f0, f1, f2, f3⟩ := hKr3.four_frozen
      rw [hd]
      clear hd hsz hpn hf hnf
      by_cases hsh : n < al
      · have HG := Lib.hid (show ndGet l = ndBad 3 from by unfold ndGet; rw [if_neg (by rw [HL.out]; omega), if_neg HF.out, if_pos (by rw [HL.out, E20.out, HPN.out]; omega)])
        go_wp2_with fail
        refine SZ.out.mono ?_
        rintro e W4 ⟨rfl, rfl⟩
        go_wp2_with fail
        exact bodyPost_ret (nget_results (hKr3.put4 _ _ _ _) rfl rfl rfl) rfl (got_bad HG.out (below_put4 BW (Nat.le_succ _) _ _ _ _))
      · have hb := HBL.out wc B3
        obtain ⟨a1, s1, -, -, hcut1⟩ := cut_bytes hb hc 32 s (by omega)
        obtain ⟨a2, s2, -, -, hcut2⟩ := cut_bytes hb hc (32 + s) pn (by omega)
        have hs1 := fun W => s1 (32 : Int) (32 + (s : Int)) W rfl (by omega)
        have hs2 := fun W => s2 (32 + (s : Int)) (al : Int) W (by omega) (by omega)
        have hpre := hb.prefix (k := 24) (by omega)
        have O1 := Lib.hid fun (W : World) (B : Below wc.heap.size wc W) => of_any a 24 c (l.take 24) W ((hpre.below B).more B.size) (by decide)
        have O2 := Lib.hid fun (W : World) (B : Below wc.heap.size wc W) => more_any (Crc.of (l.take 24)) a1 s (c - 32) ((l.drop 32).take s) W ((hcut1.below B).more B.size) (by omega)
        have e1 : (Crc.more (Crc.of (l.take 24)) ((l.drop 32).take s)) = Crc.of (l.take 24 ++ (l.drop 32).take s) := Crc.more_append 0#32 _ _
        rw [e1] at O2
        obtain ⟨y, hy⟩ : ∃ y, (Crc.of (l.take 24 ++ (l.drop 32).take s)).toNat = y := ⟨_, rfl⟩
        have hy32 : y < 4294967296 := by rw [← hy]; exact (Crc.of _).isLt
        rw [hy] at O2
        have HY := Lib.hid hy
        have hx := (Crc.of (l.take 24)).isLt
        generalize (Crc.of (l.take 24)).toNat = x at *
        have HWY := Lib.hid (show IntKind.u64.wrap (y : Int) = y from IntWalk.u64_in _ (by omega))
        have HC := Lib.hid fun (W : World) (B : Below wc.heap.size wc W) => HBC.out W (B3.trans (B.mono B3.size))
        have H24 := Lib.hid fun (W : World) (B : Below wc.heap.size wc W) => G24.out W (B3.trans (B.mono B3.size))
        have hwr : IntKind.i64.wrap (32 + (s : Int)) = 32 + (s : Int) := IntWalk.i64_in _ (by omega)
        have HWR := Lib.hid hwr
        clear hb s1 s2 hpre e1 hy hwr
        have h24c : (24 : Int) ≤ (c : Int) := by omega
        have hdsh : decide ((n : Int) < al) = false := by rw [decide_eq_false_iff_not]; omega
        go_wp2_with fail
        refine SZ.out.mono ?_
        rintro e W4 ⟨rfl, rfl⟩
        go_wp2_with fail
        refine wp_region_held_drew (S := fun W => Below wc.heap.size wc W) (by kernel_rfl) ((Below.refl _ _).drew) (fun hS => ?_)
        refine wpAnyH_take (i := 0) (v := ?_) rfl (by kernel_rfl) (by kernel_rfl) (by kernel_rfl) (fun _ _ _ h => h) (Or.inl ⟨by kernel_rfl, ?_⟩) hS ?_
        rotate_left
        · intro W hW; go_simp; try with_reducible rfl
        refine wpAnyH_take (i := 2) (v := ?_) rfl (by kernel_rfl) (by kernel_rfl) (by kernel_rfl) (fun _ _ _ h => h) (Or.inl ⟨by kernel_rfl, ?_⟩) hS ?_
        rotate_left
        · intro W hW; have h0 := HC.out W hW; go_simp; try with_reducible rfl
        refine wpAnyH_take (i := 3) (v := ?_) rfl (by kernel_rfl) (by kernel_rfl) (by kernel_rfl) (fun _ _ _ h => h) (Or.inl ⟨by kernel_rfl, ?_⟩) hS ?_
        rotate_left
        · intro W hW; go_simp; try with_reducible rfl
        refine wpAnyH_take (i := 5) (v := ?_) rfl (by kernel_rfl) (by kernel_rfl) (by kernel_rfl) (fun _ _ _ h => h) (Or.inl ⟨by kernel_rfl, ?_⟩) hS ?_
        rotate_left
        · intro W hW; go_simp; try with_reducible rfl
        refine wpAnyH_ready (rs := [1]) (by kernel_rfl) (by simp) ?_
        refine AllReadyH.cons (i := 1) rfl ?_ AllReadyH.nil
        intro K hK
        go_simp
        refine (H24.out _ hS).mono ?_
        rintro e w3 ⟨rfl, B4⟩
        have hT := hS.trans (B4.mono hS.size)
        go_simp
        refine hK.out _ _ ?_ (fun hN => ?_)
        · first | exact hT | exact hS | exact hS.alloc hS.size _ | exact hS.drew
        clear hK K
        try clear hT
        clear hS
        have hS := hN
        clear hN
        refine wpAnyH_ready (rs := [4]) (by kernel_rfl) (by simp) ?_
        refine AllReadyH.cons (i := 4) rfl ?_ AllReadyH.nil
        intro K hK
        go_simp
        refine (O1.out _ hS).mono ?_
        rintro e w4 ⟨rfl, B4⟩
        have hT := hS.trans (B4.mono hS.size)
        go_simp
        refine hK.out _ _ ?_ (fun hN => ?_)
        · first | exact hT | exact hS | exact hS.alloc hS.size _ | exact hS.drew
        clear hK K
        try clear hT
        clear hS
        have hS := hN
        clear hN
        refine wpAnyH_ready (rs := [6]) (by kernel_rfl) (by simp) ?_
        refine AllReadyH.cons (i := 6) rfl ?_ AllReadyH.nil
        intro K hK
        go_simp
        refine (O2.out _ hS).mono ?_
        rintro e w5 ⟨rfl, B4⟩
        have hT := hS.trans (B4.mono hS.size)
        go_simp
        refine hK.out _ _ ?_ (fun hN => ?_)
        · first | exact hT | exact hS | exact hS.alloc hS.size _ | exact hS.drew
        clear hK K
        try clear hT
        clear hS
        have hS := hN
        clear hN
        refine wpAnyH_take (i := 7) (v := ?_) rfl (by kernel_rfl) (by kernel_rfl) (by kernel_rfl) (fun _ _ _ h => h) (Or.inl ⟨by kernel_rfl, ?_⟩) hS ?_
        rotate_left
        · intro W hW; go_simp; rw [HWY.out]; try with_reducible rfl
        refine wpAnyH_take (i := 8) (v := ?_) rfl (by kernel_rfl) (by kernel_rfl) (by kernel_rfl) (fun _ _ _ h => h) (Or.inl ⟨by kernel_rfl, ?_⟩) hS ?_
        rotate_left
        · intro W hW; go_simp; try with_reducible rfl
        refine wpAnyH_done (by kernel_rfl) ?_ _
        have BX := BW.trans (hS.mono BW.size)
        have hKx := hKr3.below hS hKr3.lt
        obtain ⟨q0, q1, q2, q3⟩ := hKx.four
        obtain ⟨r0, r1, r2, r3⟩ := hKx.four_frozen
        have hbx := HC.out _ hS
        clear k0 k1 k2 k3 f0 f1 f2 f3
        by_cases hsum : m24 = y
        · have hsum' : ((m24 : Int) != (y : Int)) = false := by rw [hsum]; simp
          have Z := Lib.hid (zero_any a2 pn (c - (32 + s)) _ _ (hcut2.below hS) (by omega))
          have HSUM := Lib.hid hsum
          clear hsum
          go_wp2_with fail
          refine Z.out.mono ?_
          rintro e w6 ⟨rfl, rfl⟩
          cases hnz : nz ((l.drop (32 + s)).take pn) with
          | true =>
            have HNZ := Lib.hid hnz
            clear hnz
            go_wp2_with fail
            exact bodyPost_ret (nget_results (hKx.put4 _ _ _ _) rfl rfl rfl) rfl (got_bad (by
              unfold ndGet
              rw [if_neg (by rw [HL.out]; omega), if_neg HF.out, if_neg (by rw [HL.out, E20.out, HPN.out]; omega), if_neg (by rw [E24.out, E20.out, HY.out]; exact not_not_intro HSUM.out), if_pos (by rw [E20.out, HPN.out]; exact HNZ.out)]) (below_put4 BX (Nat.le_succ _) _ _ _ _))
          | false =>
            have HNZ := Lib.hid hnz
            clear hnz q0 q1 q2 q3 r0 r1 r2 r3
            obtain ⟨gf, hgf⟩ : ∃ gf : Bool, decide (m4 = 1) = gf := ⟨_, rfl⟩
            have hflag : ((m4 : Int) == 1) = gf := by
              rw [← hgf, Bool.eq_iff_iff, beq_iff_eq, decide_eq_true_eq]
              omega
            have HGF := Lib.hid hgf
            have x16' : m16 < 4294967296 := x16
            have BY := B3.trans (hS.mono B3.size)
            clear hgf
            go_wp2_with fail
            refine (G8.out _ BY).mono ?_
            rintro e w6 ⟨rfl, B6⟩
            have B6 := BY.trans (B6.mono BY.size)
            go_wp2_with fail
            refine (G16.out _ B6).mono ?_
            rintro e w7 ⟨rfl, B7⟩
            have B7 := B6.trans (B7.mono B6.size)
            have hcut7 := (HBL.out w7 B7)
            obtain ⟨a3, s3, -, -, hcut3⟩ := cut_bytes hcut7 hc 32 s (by omega)
            have e3 : a3 = a1 := by
              have h1 := s3 (32 : Int) (32 + (s : Int)) w7 rfl (by omega)
              rw [hs1] at h1
              injection h1 with h1 _
              injection h1 with h1 _ _
              exact h1.symm
            subst e3
            have CL := Lib.hid (bclone_any a3 s (c - 32) _ w7 hcut3 (by omega) (by omega))
            have BW7 := Lib.hid (BA.trans (B7.mono BA.size))
            clear s3 hcut7 hcut3 B6
            go_wp2_with fail
            refine CL.out.mono ?_
            rintro e w8 ⟨a8, c8, rfl, hc8, ho8, B8⟩
            have BW8 := BW7.out.trans (B8.mono BW7.out.size)
            have hK8 := (hKr.below B7 hKr.lt).below B8 (hKr.below B7 hKr.lt).lt
            obtain ⟨q0, q1, q2, q3⟩ := hK8.four
            obtain ⟨r0, r1, r2, r3⟩ := hK8.four_frozen
            have HO8 := Lib.hid (own_more ho8 BW7.out.size)
            have hz8 := Lib.hid (fun q hq => (ho8.lt q hq).1)
            have hz7 := Lib.hid B7.size
            have hz0 := Lib.hid hKr.lt
            have hls := Lib.hid (show ((l.drop 32).take s).length = s from by rw [List.length_take, List.length_drop, HL.out]; omega)
            clear ho8 B8
            go_wp2_with fail
            refine bodyPost_ret (nget_results (hK8.put4 _ _ _ _) rfl rfl rfl) rfl ⟨below_put4 BW8 (Nat.le_succ _) _ _ _ _, m8, m16, gf, (l.drop 32).take s, al, 0, ?_, a8, c8, ?_, ?_, ?_⟩
            · unfold ndGet
              rw [if_neg (by rw [HL.out]; omega), if_neg HF.out, if_neg (by rw [HL.out, E20.out, HPN.out]; omega), if_neg (by rw [E24.out, E20.out, HY.out]; exact not_not_intro HSUM.out), if_neg (by rw [E20.out, HPN.out, HNZ.out]; decide)]
              rw [E8.out, E16.out, E4.out, E20.out, HPN.out, HGF.out, hal]
            · rw [hls.out]
              rfl
            · rw [hls.out]
              exact hc8
            · rw [hls.out]
              refine HO8.out.kept (grown_put (grown_put (grown_put (grown_put (grown_refl _ (some (w.heap.size + 1))) 0 _) 1 _) 2 _) 3 _) ?_
              cases hb : (Value.slice a8 s c8).ownBlock with
              | none => exact .inl rfl
              | some q =>
                right
                intro e
                injection e with e
                have h1 := hz8.out q hb
                have h2 := hz7.out
                have h3 := hz0.out
                omega
        · have hsum' : ((m24 : Int) != (y : Int)) = true := by rw [bne_iff_ne]; omega
          go_wp2_with fail
          exact bodyPost_ret (nget_results (hKx.put4 _ _ _ _) rfl rfl rfl) rfl (got_bad (by
            unfold ndGet
            rw [if_neg (by rw [HL.out]; omega), if_neg HF.out, if_neg (by rw [HL.out, E20.out, HPN.out]; omega), if_pos (by rw [E24.out, E20.out, HY.out]; exact hsum)]) (below_put4 BX (Nat.le_succ _) _ _ _ _))

end Go.Proofs.Ytpkfjnhjcdcoaaa
