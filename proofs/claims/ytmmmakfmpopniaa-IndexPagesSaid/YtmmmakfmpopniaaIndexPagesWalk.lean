/-
  The walk of corncriblaw08.IndexPages.
-/
import Derived.Test.YtmmmakfmpopniaaIdxPagesLaw
import Derived.Deep.CutBlock
import Derived.Deep.DeepCutAuto
namespace Go.Proofs.Ytmmmakfmpopniaa
open Go.RowKit
set_option linter.unusedVariables false

theorem ipos_neq (w : World) (p q : PosR) : (binOp .neq 32 (.agg #[.int .u64 p.key, .int .i64 p.off, .int .i64 p.len, .int .u32 p.ck, .bool p.gone]) (.agg #[.int .u64 q.key, .int .i64 q.off, .int .i64 q.len, .int .u32 q.ck, .bool q.gone])).run Try.prog w = .ok (.bool (!decide (p = q))) w := by
  obtain ⟨k, o, l, c, g⟩ := p
  obtain ⟨k', o', l', c', g'⟩ := q
  simp only [PosR.mk.injEq]
  simp [go_sem]
  by_cases h1 : k = k' <;> by_cases h2 : o = o' <;> by_cases h3 : l = l' <;> by_cases h4 : c = c' <;> by_cases h5 : g = g' <;> simp [h1, h2, h3, h4, h5, Int.ofNat_inj]
theorem ipos_same (w : World) (p : PosR) : (binOp .neq 32 (.agg #[.int .u64 p.key, .int .i64 p.off, .int .i64 p.len, .int .u32 p.ck, .bool p.gone]) (.agg #[.int .u64 p.key, .int .i64 p.off, .int .i64 p.len, .int .u32 p.ck, .bool p.gone])).run Try.prog w = .ok (.bool false) w := by
  rw [ipos_neq, decide_eq_true rfl]; rfl
theorem iappend_nil {W : World} {v : Value} {base k c : Nat} {xs : List Value} (hown : W.ownsRow base 32 5 v k xs) :
    (Builtin.append_ #[26, 26] 26 #[v, .slice none 0 c]).run Try.prog W = .ok v W := by
  obtain ⟨i0, hi, hz0, hz1, hz2⟩ := info_parts info_pos
  rcases hown.2 with ⟨rfl, rfl⟩ | ⟨g, cap, cur, rfl, _, _, hnc, _⟩
  · simp [Builtin.append_, run_underlying Try.underlying26, sizeOf, typeInfo, hi, Builtin.lenOf, Builtin.firstCells]
  · simp [Builtin.append_, run_underlying Try.underlying26, sizeOf, typeInfo, hi, Builtin.lenOf, Builtin.firstCells, hnc, storeCells]
/-- append of two rows of positions, the first one of one's own. -/
theorem iappend_any {W : World} {base k : Nat} {v : Value} {xs : List Value} (hown : W.ownsRow base 32 5 v k xs) {B : Nat} {a : Option Addr} {n : Nat} {ps : List PosR} (c : Nat) (h : PSl W B a n ps) (h0 : a = none → n = 0) (hs : k + n ≤ 4398046510976) (hbase : base ≤ W.heap.size) :
    ∃ v' W', (Builtin.append_ #[26, 26] 26 #[v, .slice a n c]).run Try.prog W = .ok v' W' ∧ W'.ownsRow base 32 5 v' (k + n) (xs ++ flatP ps) ∧ W.grownBy W' v.ownBlock := by
  cases a with
  | none =>
    obtain rfl := h0 rfl
    have hp : ps = [] := List.eq_nil_of_length_eq_zero h.1
    subst hp
    exact ⟨v, W, iappend_nil hown, by simpa [flatP] using hown, grown_refl W _⟩
  | some ad =>
    obtain ⟨i0, hi, hz0, hz1, hz2⟩ := info_parts info_pos
    have hnews : ∀ j u, (flatP ps)[j]? = some u → W.cell? (ad.add j) = some u := by
      intro j u hj
      have hjl : j < n * 5 := by
        have := (List.getElem?_eq_some_iff.1 hj).1
        rw [flatP_length, h.1] at this
        exact this
      obtain ⟨b, off, e, -, hc⟩ := h.2.2 (by omega)
      cases e
      have := hc (j / 5) (j % 5) (by omega) (by omega)
      rw [show j / 5 * 5 + j % 5 = j from by omega, hj] at this
      rw [Addr.add_lit, ← this]
      congr 2
      omega
    obtain ⟨v', w', hr, h2, h3, _, _⟩ := run_append_own_at (P := Try.prog) W base 26 26 32 i0 _ 5 32 Try.underlying26 hi hz0 hz1 hz2 rfl (by decide) _ k xs hown ad n c (flatP ps) (by rw [flatP_length, h.1]) hnews (flatP_one ps) (by unfold maxLen; omega) (by omega) hbase
    exact ⟨v', w', hr, h2, h3⟩

theorem FindP.yes {w : World} {z : PosR} {e : Ending} {w' : World} (h : FindP w (some z) e w') : e = .returned (.tuple #[.agg #[.int .u64 z.key, .int .i64 z.off, .int .i64 z.len, .int .u32 z.ck, .bool z.gone], errc 0]) ∧ Below w.heap.size w w' := by
  obtain ⟨p, cd, rfl, hp, hb⟩ := h
  rcases hp with ⟨e, rfl⟩ | ⟨e, _⟩
  · injection e with e; subst e; exact ⟨rfl, hb⟩
  · cases e
theorem own_tw {w w' : World} {base B n size : Nat} {v : Value} {e : TypeId} {xs : List Value} {r : Option Nat} (h : w.ownsRow base e size v n xs) (ht : Tw w w' B r) (h1 : v.ownBlock ≠ some B) (h2 : ∀ k, v.ownBlock = some k → r = some k → False) : w'.ownsRow base e size v n xs := by
  refine ⟨h.1, ?_⟩
  rcases h.2 with e | ⟨g, cap, cur, e1, hb, hg, rest⟩
  · exact .inl e
  · refine .inr ⟨g, cap, cur, e1, hb, ?_, rest⟩
    rw [ht.block g (Array.getElem?_eq_some_iff.1 hg).1 (fun e => h1 (by rw [e1, ← e]; rfl)) (fun e => h2 g (by rw [e1]; rfl) e.symm)]
    exact hg
theorem row_apartI {W W' : World} {base size k : Nat} {e : TypeId} {v : Value} {xs : List Value} {row : Option Nat} (h : W.ownsRow base e size v k xs) (hg : W.grownBy W' row) (hb : ∀ q, row = some q → q < base) : W'.ownsRow base e size v k xs :=
  h.kept hg (by
    rcases h.2 with ⟨e1, _⟩ | ⟨g, cap, cur, e1, e2, _⟩
    · left; rw [e1]; rfl
    · right; rw [e1]; intro q; have := hb g q.symm; omega)
/-- Page by page: s of them are there. -/
def PgS (L : List PosR) (pg : Nat) (W0 : World) (t f : Nat) (v : Value) (W : World) : Prop :=
  ∃ s : Nat, True ∧ t ≤ s ∧ s ≤ L.length ∧ f < 18446744073709551616 ∧ lo PosR.key f L = s ∧ W.ownsRow W0.heap.size 32 5 v s (flatP (L.take s)) ∧ Below W0.heap.size W0 W
/-- Behind the pages: the index's keys stay. -/
def PgT (L : List PosR) (av : Option Addr) (cv : Nat) (W2 W3 : World) (B : Nat) (W : World) : Prop :=
  ∃ (v : Value) (Lx : List PosR), IdR W W2.heap.size B v Lx ∧ Lx.length = L.length ∧ (∀ x ∈ L, ∃ y ∈ Lx, y.key = x.key) ∧ W.ownsRow W3.heap.size 32 5 (.slice av L.length cv) L.length (flatP L) ∧ (∀ k, (Value.slice av L.length cv).ownBlock = some k → v.ownBlock = some k → False) ∧ W2.heap.size ≤ W3.heap.size ∧ W3.heap.size ≤ W.heap.size
theorem getD_mem' {L : List PosR} {i : Nat} (h : i < L.length) : L.getD i dP ∈ L := by
  have e : L.getD i dP = L[i] := by simp [List.getD, h]
  rw [e]; exact List.getElem_mem h
theorem lo_zero (L : List PosR) : lo PosR.key 0 L = 0 := by
  cases L with
  | nil => rfl
  | cons a r => unfold lo; rw [if_neg (by omega)]
set_option maxRecDepth 100000 in
set_option maxHeartbeats 16000000 in
theorem pages_walk (a : Option Addr) (n c : Nat) (A : List PosR) (mst : Nat) (w : World) (ha : PSl w w.heap.size a n A) (hn : n ≤ 9223372036854775807) (hm : mst ≤ 255) :
    Calls Try.prog 5 #[.slice a n c, .int .u8 (mst : Int)] w fun e w' => e = .returned (.bool true) ∧ Below w.heap.size w w' := by
  have HA := Lib.hid fun (W : World) (B0 : Below w.heap.size w W) => (show PSl W W.heap.size a n A from (ha.below B0).more B0.size)
  have hla := ha.1
  have HIN := Lib.hid ha.2.1
  clear ha
  by_cases hbig : 60 < n
  · have b0 : decide (60 < (n : Int)) = true := decide_eq_true (by omega)
    go_enter Try.func5, Try.ntmps5
    go_wp2_with fail
    refine (idx_alive _).mono ?_
    rintro e w1 ⟨rfl, B1⟩
    have HB1 := Lib.hid B1
    clear B1
    go_wp2_with fail
    go_ret
    exact ⟨rfl, HB1.out⟩
  have b0 : decide (60 < (n : Int)) = false := decide_eq_false (by omega)
  have hn60 : n ≤ 60 := by omega
  clear hbig hn
  have HN := Lib.hid hn60
  have HL := Lib.hid hla
  obtain ⟨pg, hpg⟩ : ∃ pg : Nat, 1 + mst % 5 = pg := ⟨_, rfl⟩
  have hpz : (1 : Int) + (mst : Int) % 5 = (pg : Int) := by omega
  have hpt : (1 : Int) + (mst : Int).tmod 5 = (pg : Int) := by rw [Int.tmod_eq_emod_of_nonneg (by omega)]; exact hpz
  have HPG := Lib.hid (show 1 ≤ pg ∧ pg ≤ 5 from by omega)
  have hmz : (mst : Int) ≤ 255 := by omega
  clear hla hn60 hpg hm
  go_enter Try.func5, Try.ntmps5
  go_wp2_with fail
  refine (idx_alive _).mono ?_
  rintro e w1 ⟨rfl, B1⟩
  have HB1 := Lib.hid B1
  have E2 := Lib.hid (of_any5 a n c A w1 (HA.out _ B1) (by have := HN.out; omega))
  clear B1
  go_wp2_with fail
  refine E2.out.mono ?_
  rintro e w2 ⟨v2, rfl, ho2, B2⟩
  obtain ⟨a2, c2, rfl, -⟩ := own_form_any ho2
  have HB2 := Lib.hid (HB1.out.trans (B2.mono HB1.out.size))
  have E3 := Lib.hid (inew_any a2 n c2 A w2 (psl_own_same ho2 HIN.out) (by have := HN.out; omega))
  clear ho2 B2 E2 HB1 b0
  go_wp2_with fail
  refine E3.out.mono ?_
  rintro e w3 ⟨Bx, vx, rfl, hx, B3⟩
  have HB3 := Lib.hid (HB2.out.trans (B3.mono HB2.out.size))
  have HX3 := Lib.hid hx
  have HSR := Lib.hid (show Srt PosR.key (insAll PosR.key [] A) from srt_insAll _ List.Pairwise.nil)
  have HLX := Lib.hid (show (insAll PosR.key [] A).length ≤ 60 from by have := insAll_length_le (key := PosR.key) A []; have := HN.out; have := HL.out; simp only [List.length_nil] at *; omega)
  generalize insAll PosR.key [] A = L at *
  have HS23 := Lib.hid B3.size
  have HC23 := Lib.hid B3
  clear hx B3 E3 HA HIN HL HN
  have HXf := Lib.hid fun (W : World) (B0 : Below w3.heap.size w3 W) => HX3.out.on B0
  go_upto_block 0 with fail
  have HW0 := Lib.hid (show PgS L pg w3 0 0 (.slice none 0 0) w3 from ⟨0, trivial, Nat.le_refl _, Nat.zero_le _, by omega, lo_zero L, World.ownsRow_nil _ _ _ _, Below.refl _ _⟩)
  go_cut [7, 8, 9] (fun v fv iv wx => ∃ av cv, v = .slice av L.length cv ∧ wx.ownsRow w3.heap.size 32 5 (.slice av L.length cv) L.length (flatP L) ∧ Below w3.heap.size w3 wx)
  case first =>
    go_wp2_with fail
    go_loopw [7, 8, 9] (fun v fv iv wr => ∃ t f : Nat, iv = .int .i64 t ∧ fv = .int .u64 f ∧ PgS L pg w3 t f v wr) (fun _ _ iv _ => (70 - intOf iv).toNat)
    case atStart => exact ⟨0, 0, rfl, rfl, HW0.out⟩
    case round =>
      obtain ⟨t, f, rfl, rfl, s, -, hts, hsl, hfz, hlo, hF, hB⟩ := hrel
      have HF := Lib.hid hF
      have HB := Lib.hid hB
      have HLO := Lib.hid hlo
      clear hF hB hlo HW0
      have htz : (t : Int) < 70 := by have := HLX.out; omega
      have EP := Lib.hid (from_any (HXf.out _ HB.out) f pg HPG.out.1 (by have := HPG.out; omega))
      have HPL := Lib.hid (frm_length (n := pg) HLO.out)
      have HPT := Lib.hid (frm_take (n := pg) HLO.out)
      have HPK := Lib.hid fun (j : Nat) (hj : j < (frm f pg L).length) => frm_last (n := pg) HLO.out hj
      have HPI := Lib.hid (show ∀ p ∈ frm f pg L, PosB p from fun p hp => (HXf.out _ HB.out).inn p (List.mem_of_mem_drop (List.mem_of_mem_take hp)))
      generalize frm f pg L = P at *
      go_wp2_with fail
      refine EP.out.mono ?_
      rintro e w5 ⟨v5, rfl, ho5, B5⟩
      obtain ⟨a5, c5, rfl, -⟩ := own_form_any ho5
      have HB5 := Lib.hid (HB.out.trans (B5.mono HB.out.size))
      have hF5 := own_belowI HF.out B5 (Nat.le_refl _)
      have hn5 : a5 = none → P.length = 0 := fun e => by
        rcases ho5.2 with ⟨_, e2⟩ | ⟨g, cap, cur, e1, _⟩
        · exact e2
        · rw [e] at e1; cases e1
      obtain ⟨v6, w6, hr, ho6, hg6⟩ := iappend_any hF5 c5 (psl_own_same ho5 HPI.out) hn5 (by have := HPL.out; have := HLX.out; omega) HB5.out.size
      rw [← flatP_app, HPT.out] at ho6
      have HB6 := Lib.hid (HB5.out.grown hg6 HB5.out.size (fun k e => (hF5.lt k e).1))
      have HO5 := Lib.hid (row_apartI ho5 hg6 (fun q e => (HF.out.lt q e).2))
      obtain ⟨a6, c6, rfl, -⟩ := own_form_any ho6
      have HO6 := Lib.hid ho6
      have hplz : (P.length : Int) ≤ 5 := by have := HPL.out; have := HPG.out; omega
      clear ho5 B5 EP HB hF5 hn5 hg6 HB5 ho6 HF
      go_upto_region 14 with (at_builtin; refine list_run (by rfl) _ _ rfl rfl rfl hr ?_; clear hr)
      by_cases hlp : P.length < pg
      · have hb1 : decide ((P.length : Int) < (pg : Int)) = true := decide_eq_true (by omega)
        have hb2 : decide (P.length < pg) = true := decide_eq_true hlp
        have he : s + P.length = L.length := by have := HPL.out; omega
        rw [he, List.take_length] at HO6
        rw [he]
        clear hlp he
        go_wp2_with fail
        go_meet
        exact ⟨a6, c6, rfl, HO6.out, HB6.out⟩
      · have hb1 : decide ((P.length : Int) < (pg : Int)) = false := decide_eq_false (by omega)
        have hb2 : decide (P.length < pg) = false := decide_eq_false hlp
        have hp0 : 0 < P.length := by have := HPG.out; omega
        have hsP : s + P.length ≤ L.length := by have := HPL.out; omega
        obtain ⟨g5, rfl, -⟩ := own_some HO5.out hp0
        have hk := (own_cells HO5.out (P.length - 1) (by omega) rfl).1
        rw [HPK.out (P.length - 1) (by omega)] at hk
        have hnx := lo_next HSR.out (s := s + (P.length - 1)) (by omega)
        have hmx := last_max HSR.out (HXf.out _ HB6.out).inn (s := s + (P.length - 1)) (by omega)
        have hKb := (getD_in (ps := L) (i := s + (P.length - 1)) (by omega) (HXf.out _ HB6.out).inn).1
        generalize (L.getD (s + (P.length - 1)) dP).key = K at *
        rw [show s + (P.length - 1) + 1 = s + P.length from by omega] at hnx hmx
        have hwi : IntKind.i64.wrap ((P.length : Int) - 1) = (P.length : Int) - 1 := by rw [IntKind.wrap_i64]; omega
        have htn : ((P.length : Int) - 1).toNat = P.length - 1 := by omega
        have hg0 : (0 : Int) ≤ (P.length : Int) - 1 := by omega
        have hg2 : (1 : Int) ≤ (P.length : Int) := by omega
        have hg3 : 1 ≤ P.length := hp0
        have hg1 : (P.length : Int) - 1 < (P.length : Int) := by omega
        by_cases hK : K = 18446744073709551615
        · have he := hmx hK
          have hbK : ((K : Int) == 18446744073709551615) = true := by rw [hK]; rfl
          rw [he, List.take_length] at HO6
          rw [he]
          clear hlp he hnx hmx hK
          go_wp2_with fail
          go_meet
          exact ⟨a6, c6, rfl, HO6.out, HB6.out⟩
        · have hbK : ((K : Int) == 18446744073709551615) = false := by rw [beq_eq_false_iff_ne]; omega
          have hKz : (K : Int) + 1 < 18446744073709551616 := by omega
          have HNX := Lib.hid hnx
          have HKB := Lib.hid (show K + 1 < 18446744073709551616 by omega)
          clear hlp hmx hK hnx hKb
          go_wp2_with fail
          go_roundw
          case rel => exact ⟨t + 1, K + 1, by go_num, by go_num, s + P.length, trivial, by omega, hsP, HKB.out, HNX.out, HO6.out, HB6.out⟩
          case measure => simp [intOf]; omega
  case rest =>
    obtain ⟨av, cv, rfl, hO, hB⟩ := hcut
    have HO := Lib.hid hO
    have HB := Lib.hid hB
    clear hO hB HW0
    have EL := Lib.hid (ilen_any (HXf.out _ HB.out))
    go_wp2_with fail
    refine EL.out.mono ?_
    rintro e w4 ⟨rfl, B4⟩
    have HB4 := Lib.hid (HB.out.trans (B4.mono HB.out.size))
    have HO4 := Lib.hid (own_belowI HO.out B4 (Nat.le_refl _))
    have ET := Lib.hid (to_any5 av L.length cv L w4 (psl_own_same HO4.out (HXf.out _ HB4.out).inn) (by have := HLX.out; omega))
    clear B4 EL HO HB
    go_wp2_with fail
    refine ET.out.mono ?_
    rintro e w5 ⟨v5, rfl, ho5, B5⟩
    obtain ⟨a5, c5, rfl, -⟩ := own_form_any ho5
    have HB5 := Lib.hid (HB4.out.trans (B5.mono HB4.out.size))
    have HO5 := Lib.hid (own_belowI HO4.out B5 (Nat.le_refl _))
    have HR5 := Lib.hid ho5
    have EA := Lib.hid (all_any (HXf.out _ HB5.out))
    clear ho5 B5 ET HB4 HO4
    go_wp2_with fail
    refine EA.out.mono ?_
    rintro e w6 ⟨v6, rfl, ho6, B6⟩
    obtain ⟨a6, c6, rfl, -⟩ := own_form_any ho6
    have HB6 := Lib.hid (HB5.out.trans (B6.mono HB5.out.size))
    have HO6 := Lib.hid (own_belowI HO5.out B6 (Nat.le_refl _))
    have HR6 := Lib.hid (own_belowI HR5.out B6 (Nat.le_refl _))
    have ET := Lib.hid (to_any5 a6 L.length c6 L w6 (psl_own_same ho6 (HXf.out _ HB6.out).inn) (by have := HLX.out; omega))
    clear ho6 B6 EA HB5 HO5 HR5
    go_wp2_with fail
    refine ET.out.mono ?_
    rintro e w7 ⟨v7, rfl, ho7, B7⟩
    obtain ⟨a7, c7, rfl, -⟩ := own_form_any ho7
    have HB7 := Lib.hid (HB6.out.trans (B7.mono HB6.out.size))
    have HO7 := Lib.hid (own_belowI HO6.out B7 (Nat.le_refl _))
    have HR7 := own_belowI HR6.out B7 (Nat.le_refl _)
    have ES := Lib.hid (rsame_any a5 a7 L.length c5 L.length c7 L L w7 (psl_own_same HR7 (HXf.out _ HB7.out).inn) (psl_own_same ho7 (HXf.out _ HB7.out).inn) (by have := HLX.out; omega))
    rw [decide_eq_true rfl] at ES
    clear ho7 B7 ET HB6 HO6 HR6 HR7
    go_wp2_with fail
    refine ES.out.mono ?_
    rintro e w8 ⟨rfl, qd, rfl⟩
    have hd : Below w7.heap.size w7 (w7.drewN qd) := below_drewN (Below.refl _ _) qd
    have HB8 := Lib.hid (HB7.out.trans (hd.mono HB7.out.size))
    have HO8 := Lib.hid (own_belowI HO7.out hd (Nat.le_refl _))
    clear hd ES HB7 HO7
    generalize w7.drewN qd = w8 at *
    have hlz : (L.length : Int) ≤ 60 := by have := HLX.out; omega
    have hgl := goneN_le L
    have hgz : (goneN L : Int) ≤ 60 := by omega
    have hsum : ((L.length : Int) - (goneN L : Int) + (goneN L : Int) != (L.length : Int)) = false := by rw [Int.sub_add_cancel]; exact bne_self_eq_false _
    clear hgl
    go_wp2_with fail
    have HP0 := Lib.hid (show PgT L av cv w2 w3 Bx w8 from ⟨vx, L, HXf.out _ HB8.out, rfl, fun x hx => ⟨x, hx, rfl⟩, HO8.out, fun k e e2 => by have h1 := (HO8.out.lt k e).1; have h2 := (HX3.out.row.lt k e2).2; omega, HS23.out, HB8.out.size⟩)
    have HIL := Lib.hid (HXf.out _ HB8.out).inn
    have HX3W := Lib.hid (show Below w2.heap.size w2 w8 from HC23.out.trans (HB8.out.mono HS23.out))
    clear hsum hgz
    go_loopw [13] (fun tv wr => ∃ t : Nat, t ≤ L.length ∧ tv = .int .i64 t ∧ PgT L av cv w2 w3 Bx wr ∧ Below w2.heap.size w8 wr) (fun tv _ => L.length - (intOf tv).toNat)
    case atStart => exact ⟨0, by omega, rfl, HP0.out, Below.refl _ _⟩
    case round =>
      obtain ⟨t, ht, rfl, ⟨v, Lx, hX, hxl, hkey, hO, hne, hsz, hsz2⟩, hB⟩ := hrel
      by_cases htn : t < L.length
      · have htz : (t : Int) < (L.length : Int) := by omega
        obtain ⟨g, rfl, -⟩ := own_some hO (by omega)
        obtain ⟨q0, q1, q2, q3, q4⟩ := own_cells hO t htn rfl
        have hqm := getD_mem' htn
        generalize L.getD t dP = q at *
        go_upto_region 24 with fail
        have HQB := Lib.hid (HIL.out q hqm)
        have HKQ := Lib.hid (hkey q hqm)
        obtain ⟨w9, hw9, hP9, hB9⟩ : ∃ Y, wr.alloc (.cells #[.int .u64 q.key, .int .i64 (wrap64 (q.off + 1)), .int .i64 q.len, .int .u32 q.ck, .bool q.gone] 32) = Y ∧ Blk Y wr.heap.size 32 #[.int .u64 q.key, .int .i64 (wrap64 (q.off + 1)), .int .i64 q.len, .int .u32 q.ck, .bool q.gone] ∧ Below wr.heap.size wr Y := ⟨_, rfl, Blk.made _ _ _, (Below.refl _ _).alloc (Nat.le_refl _) _⟩
        have HX9 := Lib.hid (hX.on hB9)
        have HO9 := Lib.hid (own_belowI hO hB9 (Nat.le_refl _))
        have HB9 := Lib.hid (hB.trans (hB9.mono (Nat.le_trans hsz (Nat.le_trans hsz2 (Nat.le_refl _)))))
        have HP9 := Lib.hid hP9
        have HK := Lib.hid hkey
        have HNE := Lib.hid hne
        have HSZ := Lib.hid (And.intro hsz (Nat.le_trans hsz2 hB9.size))
        have HBX := Lib.hid (show Bx < wr.heap.size ∧ (∀ k, v.ownBlock = some k → k < wr.heap.size) from ⟨hX.k.lt, fun k e => (hX.row.lt k e).2⟩)
        have HWX := Lib.hid hB9.size
        have HXL := Lib.hid hxl
        have EP := Lib.hid (show Calls Try.prog 13 #[.pointer (some ⟨Bx, 0, none⟩), .agg #[.int .u64 q.key, .int .i64 (wrap64 (q.off + 1)), .int .i64 q.len, .int .u32 q.ck, .bool q.gone]] w9 (PutP w9 w2.heap.size Bx v (insK PosR.key ⟨q.key, wrap64 (q.off + 1), q.len, q.ck, q.gone⟩ Lx)) from iput_any HX9.out ⟨q.key, wrap64 (q.off + 1), q.len, q.ck, q.gone⟩ (by have := HQB.out; unfold PosB at *; dsimp only; unfold wrap64; omega) (by have := HXL.out; have := HLX.out; omega))
        rw [hw9]
        obtain ⟨p0, p1, p2, p3, p4⟩ := blk_fives hP9
        clear hX hxl hkey hO hne hsz hsz2 hB hP9 hB9 hw9 hqm q0 q1 q2 q3 q4
        generalize wr.heap.size = P at *
        go_wp2_with fail
        refine EP.out.mono ?_
        rintro e w10 ⟨v10, rfl, hX10, ht10, hv10⟩
        have hP10 : Blk w10 P 32 #[.int .u64 q.key, .int .i64 (wrap64 (q.off + 1)), .int .i64 q.len, .int .u32 q.ck, .bool q.gone] := (ht10.block P HP9.out.lt (by have := HBX.out.1; omega) (fun e => by have := HBX.out.2 P e.symm; omega)).trans HP9.out
        have HO10 := Lib.hid (own_tw HO9.out ht10 (by
          intro e
          obtain ⟨cs, hk⟩ := own_blk HO9.out e
          exact absurd (blk_types hk HX9.out.k) (by decide)) (fun k e1 e2 => HNE.out k e1 e2))
        have HNE10 := Lib.hid (show ∀ k, (Value.slice (some ⟨g, 0, none⟩) L.length cv).ownBlock = some k → v10.ownBlock = some k → False from fun k e1 e2 => by
          rcases hv10 with h | h
          · exact HNE.out k e1 (h ▸ e2)
          · have h1 := h k e2; have h2 := (HO9.out.lt k e1).2; omega)
        have HB10 := Lib.hid (HB9.out.trans (Tw.base HX9.out ht10))
        have HS10 := Lib.hid (And.intro HSZ.out.1 (Nat.le_trans HSZ.out.2 ht10.size))
        have HX10 := Lib.hid hX10
        have HP10 := Lib.hid hP10
        have EF := Lib.hid (find_any hX10 q.key)
        rw [(fnd_some hX10.srt (p := ⟨q.key, wrap64 (q.off + 1), q.len, q.ck, q.gone⟩)).2 ⟨(mem_insK HX9.out.srt).2 (.inl rfl), rfl⟩] at EF
        clear hX10 ht10 hv10 hP10 EP HB9 HO9 HP9 p0 p1 p2 p3 p4
        obtain ⟨p0, p1, p2, p3, p4⟩ := blk_fives HP10.out
        go_wp2_with fail
        refine (code_c 0 _ (by decide)).mono ?_
        rintro e w11 ⟨rfl, rfl⟩
        go_wp2_with fail
        refine EF.out.mono ?_
        rintro e w12 hf
        obtain ⟨rfl, B12⟩ := hf.yes
        clear hf EF p0 p1 p2 p3 p4
        have HB12 := Lib.hid (HB10.out.trans (B12.mono (Nat.le_trans HS10.out.1 HS10.out.2)))
        have HX12 := Lib.hid (HX10.out.on B12)
        have HO12 := Lib.hid (own_belowI HO10.out B12 (Nat.le_refl _))
        have HP12 := Lib.hid (HP10.out.below B12 HP10.out.lt)
        have HS12 := Lib.hid (And.intro HS10.out.1 (Nat.le_trans HS10.out.2 B12.size))
        clear B12 HB10 HX10 HO10 HP10 HS10
        go_upto_region 27 with fail
        obtain ⟨w13, hw13, hQ13, hB13⟩ : ∃ Y, w12.alloc (.cells #[.int .u64 q.key, .int .i64 (wrap64 (q.off + 1)), .int .i64 q.len, .int .u32 q.ck, .bool q.gone] 32) = Y ∧ Blk Y w12.heap.size 32 #[.int .u64 q.key, .int .i64 (wrap64 (q.off + 1)), .int .i64 q.len, .int .u32 q.ck, .bool q.gone] ∧ Below w12.heap.size w12 Y := ⟨_, rfl, Blk.made _ _ _, (Below.refl _ _).alloc (Nat.le_refl _) _⟩
        have HB13 := Lib.hid (HB12.out.trans (hB13.mono (Nat.le_trans HS12.out.1 HS12.out.2)))
        have HX13 := Lib.hid (HX12.out.on hB13)
        have HO13 := Lib.hid (own_belowI HO12.out hB13 (Nat.le_refl _))
        have HS13 := Lib.hid (And.intro HS12.out.1 (Nat.le_trans HS12.out.2 hB13.size))
        obtain ⟨p0, p1, p2, p3, p4⟩ := blk_fives (HP12.out.below hB13 HP12.out.lt)
        obtain ⟨r0, r1, r2, r3, r4⟩ := blk_fives hQ13
        rw [hw13]
        clear hw13 hQ13 hB13 HB12 HX12 HO12 HP12 HS12
        generalize w12.heap.size = Q at *
        have hsame : ∀ W, (binOp .neq 32 (.agg #[.int .u64 q.key, .int .i64 (wrap64 (q.off + 1)), .int .i64 q.len, .int .u32 q.ck, .bool q.gone]) (.agg #[.int .u64 q.key, .int .i64 (wrap64 (q.off + 1)), .int .i64 q.len, .int .u32 q.ck, .bool q.gone])).run Try.prog W = .ok (.bool false) W := fun W => ipos_same W ⟨q.key, wrap64 (q.off + 1), q.len, q.ck, q.gone⟩
        go_wp2_with fail
        refine (code_c 0 _ (by decide)).mono ?_
        rintro e w14 ⟨rfl, rfl⟩
        have HT := Lib.hid (show PgT L (some ⟨g, 0, none⟩) cv w2 w3 Bx w13 from ⟨v10, _, HX13.out, by
          rw [insK_count HX9.out.srt, if_pos HKQ.out]; exact HXL.out, fun x hx => (key_insK HX9.out.srt x.key).2 (.inr (HK.out x hx)), HO13.out, HNE10.out, HS13.out.1, HS13.out.2⟩)
        go_wp2_with fail
        go_roundw
        case rel => exact ⟨t + 1, by omega, by go_num, HT.out, HB13.out⟩
        case measure => simp [intOf]; omega
      · obtain rfl : t = L.length := by omega
        have htz : ¬ ((L.length : Int) < (L.length : Int)) := by omega
        have EA := Lib.hid (all_any hX)
        have HB := Lib.hid hB
        have hle : ((Lx.length : Int) == (L.length : Int)) = true := by rw [hxl]; exact beq_self_eq_true _
        have HSW := Lib.hid (Nat.le_trans hsz hsz2)
        clear hX hkey hO hne hsz hsz2 hB
        go_wp2_with fail
        refine EA.out.mono ?_
        rintro e w20 ⟨v20, rfl, ho20, B20⟩
        obtain ⟨a20, c20, rfl, -⟩ := own_form_any ho20
        have HF := Lib.hid (HB.out.trans (B20.mono HSW.out))
        clear ho20 B20 EA
        go_wp2_with fail
        go_ret
        exact ⟨rfl, (HB2.out.trans (HX3W.out.mono HB2.out.size)).trans (HF.out.mono HB2.out.size)⟩
theorem pages_all (a : Option Addr) (n c : Nat) (A : List PosR) (m : Int) (w : World) (ha : PSl w w.heap.size a n A) (hn : n ≤ 9223372036854775807) (h0 : 0 ≤ m) (h1 : m ≤ 255) :
    Calls Try.prog 5 #[.slice a n c, .int .u8 m] w fun e w' => e = .returned (.bool true) ∧ Below w.heap.size w w' := by
  obtain ⟨mn, rfl⟩ : ∃ mn : Nat, m = mn := ⟨m.toNat, by omega⟩
  exact pages_walk a n c A mn w ha hn (by omega)
end Go.Proofs.Ytmmmakfmpopniaa
