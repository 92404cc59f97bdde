/-
  check.Put: the bytes of a checkpoint.
-/
import Derived.Test.YtkmifimdjdjdpaaChkRight
import Derived.Test.YtkmifimdjdjdpaaChkNum
namespace Go.Proofs.Ytkmifimdjdjdpaa
open Go.RowKit

def pgone (g : Bool) : Nat := if g then 1 else 0
def posBytes (p : PosR) : List (BitVec 8) := Num.le p.key 8 ++ Num.le p.off.toNat 4 ++ Num.le p.len.toNat 4 ++ Num.le p.ck 4 ++ Num.le (pgone p.gone) 4
def posAll (ps : List PosR) : List (BitVec 8) := ps.flatMap posBytes
def hdAt (v g u n : Nat) : Nat → Nat
  | 0 => 1128811344
  | 1 => v
  | 2 => g
  | 3 => u
  | _ => n
def hdL (v g u n : Nat) : Nat → List (BitVec 8)
  | 0 => []
  | i + 1 => hdL v g u n i ++ Num.le (hdAt v g u n i) 4
def ckBody (v g u : Nat) (ps : List PosR) : List (BitVec 8) := hdL v g u ps.length 5 ++ posAll ps
def ckBytes (v g u : Nat) (ps : List PosR) : List (BitVec 8) := ckBody v g u ps ++ Num.le (Crc.of (ckBody v g u ps)).toNat 4

theorem posBytes_length (p : PosR) : (posBytes p).length = 24 := by simp only [posBytes, List.length_append, Num.le_length]
theorem posAll_length (ps : List PosR) : (posAll ps).length = 24 * ps.length := by
  induction ps with
  | nil => rfl
  | cons p ps ih =>
    show (posBytes p ++ posAll ps).length = _
    rw [List.length_append, posBytes_length, ih, List.length_cons]; omega
theorem posAll_take (ps : List PosR) (i : Nat) (hi : i < ps.length) : posAll (ps.take (i + 1)) = posAll (ps.take i) ++ posBytes (ps.getD i dP) := by
  have e : ps.getD i dP = ps[i] := by simp [List.getD, hi]
  rw [e, List.take_succ_eq_append_getElem hi]
  simp only [posAll, List.flatMap_append, List.flatMap_cons, List.flatMap_nil, List.append_nil]
theorem hdL_length (v g u n i : Nat) : (hdL v g u n i).length = 4 * i := by
  induction i with
  | zero => rfl
  | succ i ih => rw [hdL, List.length_append, ih, Num.le_length]; omega
theorem ckBody_length (v g u : Nat) (ps : List PosR) : (ckBody v g u ps).length = 20 + 24 * ps.length := by
  rw [ckBody, List.length_append, hdL_length, posAll_length]
theorem lok_at {ps : List PosR} {n i : Nat} (h : lokB ps n = true) (hi : i < n) : (ps.getD i dP).ok := by
  induction n with
  | zero => omega
  | succ n ih =>
    rw [lokB, Bool.and_eq_true, Bool.and_eq_true] at h
    by_cases e : i = n
    · rw [e]; exact of_decide_eq_true h.1.2
    · exact ih h.1.1 (by omega)
theorem ck_ok {v g u : Int} {ps : List PosR} (h : ckR v g u ps = 0) : ps.length ≤ 4096 ∧ headP v g u ∧ lokB ps ps.length = true := by
  unfold ckR at h
  split at h
  · omega
  · split at h
    · next h1 h2 =>
      rw [Bool.and_eq_true] at h2
      exact ⟨by omega, of_decide_eq_true h2.1, h2.2⟩
    · omega
theorem ck_cases (v g u : Int) (ps : List PosR) : ckR v g u ps = 0 ∨ ckR v g u ps = 1 ∨ ckR v g u ps = 2 := by
  unfold ckR; split <;> (try split) <;> omega

set_option maxRecDepth 100000 in
set_option maxHeartbeats 2000000 in
theorem pput_bad (v g u : Int) (a : Option Addr) (n c : Nat) (ps : List PosR) (w : World) (h : PSl w w.heap.size a n ps) (hn : n ≤ 9223372036854775807) (hbad : ckR v g u ps ≠ 0) :
    Calls Try.prog 20 #[.agg #[.int .i64 v, .int .i64 g, .int .i64 u, .slice a n c]] w fun e w' => e = .returned (.tuple #[.slice none 0 0, errc (ckR v g u ps)]) ∧ Below w.heap.size w w' := by
  have BA := (Below.refl w.heap.size w).alloc (Nat.le_refl _) (.cells #[.int .i64 v, .int .i64 g, .int .i64 u, .slice a n c] 46)
  have CK := Lib.hid fun (W : World) (B : Below w.heap.size w W) => right_any v g u a n c ps W ((h.below B).more B.size) hn
  have h12 : ckR v g u ps = 1 ∨ ckR v g u ps = 2 := (ck_cases v g u ps).resolve_left hbad
  have HB := Lib.hid BA
  rcases h12 with h12 | h12
  all_goals
    rw [h12] at CK ⊢
    clear h12 hbad BA h
    go_enter Try.func20, Try.ntmps20
    go_wp2_with fail
    refine (CK.out _ HB.out).mono ?_
    rintro e w1 ⟨rfl, B1⟩
    unfold errc er
    go_wp2_with fail
    go_ret2
    exact ⟨rfl, HB.out.trans (B1.mono HB.out.size)⟩

theorem hdAt_lt {v g u n : Nat} (hv : v < 4294967296) (hg : g < 4294967296) (hu : u < 4294967296) (hn : n < 4294967296) (i : Nat) : hdAt v g u n i < 4294967296 := by
  rcases i with _ | _ | _ | _ | i
  · show 1128811344 < 4294967296; omega
  · exact hv
  · exact hg
  · exact hu
  · exact hn
theorem hd_cell (v g u n i : Nat) (hi : i < 5) : (#[.int .i64 1128811344, .int .i64 v, .int .i64 g, .int .i64 u, .int .i64 n] : Array Value)[i]? = some (.int .i64 (hdAt v g u n i : Nat)) := by
  rcases i with _ | _ | _ | _ | _ | i
  · rfl
  · rfl
  · rfl
  · rfl
  · rfl
  · omega
theorem grown_alloc {a w : World} {row : Option Nat} (h : a.grownBy w row) (o : Obj) : a.grownBy (w.alloc o) row :=
  ⟨h.os, h.tape, h.output, Nat.le_trans h.size ((Below.refl w.heap.size w).alloc (Nat.le_refl _) o).size, fun k hk hne => (Below.heap_alloc w o k (Nat.lt_of_lt_of_le hk h.size)).trans (h.block k hk hne)⟩
theorem BufS.alloc {W : World} {g : Nat} {l : List (BitVec 8)} (h : BufS W g l) (o : Obj) : BufS (W.alloc o) g l := by
  obtain ⟨a, m, c, hb, hs, h0⟩ := h
  refine ⟨a, m, c, hb.alloc o, ?_, h0⟩
  have B := (Below.refl W.heap.size W).alloc (Nat.le_refl _) o
  exact (hs.below B).more B.size
theorem BufS.lt {W : World} {g : Nat} {l : List (BitVec 8)} (h : BufS W g l) : g < W.heap.size := by
  obtain ⟨a, m, c, hb, -, -⟩ := h
  exact hb.lt
theorem five_app (L a b c d e : List (BitVec 8)) : L ++ (a ++ b ++ c ++ d ++ e) = L ++ a ++ b ++ c ++ d ++ e := by simp only [List.append_assoc]
theorem getD_mem {ps : List PosR} {i : Nat} (h : i < ps.length) : ps.getD i dP ∈ ps := by
  have e : ps.getD i dP = ps[i] := by simp [List.getD, h]
  rw [e]; exact List.getElem_mem h
theorem len_le (l : List (BitVec 8)) (n k m : Nat) (h : l.length ≤ m) : (l ++ Num.le n k).length ≤ m + k := by
  rw [List.length_append, Num.le_length]; omega

set_option maxRecDepth 100000 in
set_option maxHeartbeats 4000000 in
theorem pput_ok (v g u : Nat) (a : Option Addr) (n c : Nat) (ps : List PosR) (w : World) (h : PSl w w.heap.size a n ps) (hok : ckR v g u ps = 0) :
    Calls Try.prog 20 #[.agg #[.int .i64 v, .int .i64 g, .int .i64 u, .slice a n c]] w fun e w' => ∃ b cap, e = .returned (.tuple #[.slice (some ⟨b, 0, none⟩) (24 + 24 * n) cap, errc 0]) ∧
      w'.ownsRow w.heap.size 5 1 (.slice (some ⟨b, 0, none⟩) (24 + 24 * n) cap) (24 + 24 * n) ((ckBytes v g u ps).map bv) ∧ Below w.heap.size w w' := by
  obtain ⟨hn, hh, hlk⟩ := ck_ok hok
  have HL := Lib.hid h.1
  have hnl := h.1
  have hn4 : n ≤ 4096 := by omega
  have BA := (Below.refl w.heap.size w).alloc (Nat.le_refl _) (.cells #[.int .i64 v, .int .i64 g, .int .i64 u, .slice a n c] 46)
  obtain ⟨W0, hW0⟩ : ∃ W0, w.alloc (.cells #[.int .i64 v, .int .i64 g, .int .i64 u, .slice a n c] 46) = W0 := ⟨_, rfl⟩
  rw [hW0] at BA
  have hK : Blk W0 w.heap.size 46 #[.int .i64 v, .int .i64 g, .int .i64 u, .slice a n c] := by rw [← hW0]; exact Blk.made w _ _
  have hlt := hK.lt
  have CK := Lib.hid (right_any v g u a n c ps W0 ((h.below BA).more BA.size) (by omega))
  rw [hok] at CK
  have HC := Lib.hid fun (W : World) (B : Below W0.heap.size W0 W) => (hK.below B hK.lt).four
  have HP := Lib.hid fun (W : World) (B : Below W0.heap.size W0 W) => h.below (BA.trans (B.mono BA.size))
  have BW := Lib.hid fun (W : World) (B : Below W0.heap.size W0 W) => BA.trans (B.mono BA.size)
  have HLK := Lib.hid hlk
  obtain ⟨c0, c1, c2, c3⟩ := HC.out W0 (Below.refl _ _)
  obtain ⟨b1, b2, b3, b4, b5, b6⟩ := hh
  have HX := Lib.hid fun i => hdAt_lt (v := v) (g := g) (u := u) (n := n) (by omega) (by omega) (by omega) (by omega) i
  clear h hK BA hnl hlk hn hok b1 b2 b3 b4 b5 b6
  go_enter Try.func20, Try.ntmps20
  go_wp2_with fail
  refine CK.out.mono ?_
  rintro e w1 ⟨rfl, B1⟩
  clear c0 c1 c2 c3 CK hW0
  obtain ⟨gb, hgb⟩ : ∃ gb, w1.heap.size = gb := ⟨_, rfl⟩
  obtain ⟨w2, hw2⟩ : ∃ w2, w1.alloc (.cells #[.slice none 0 0] 22) = w2 := ⟨_, rfl⟩
  have B2 : Below W0.heap.size W0 w2 := by rw [← hw2]; exact B1.alloc B1.size _
  have hgl : W0.heap.size ≤ gb := by rw [← hgb]; exact B1.size
  have hB2 : Blk w2 gb 22 #[.slice none 0 0] := by rw [← hw2, ← hgb]; exact Blk.made w1 _ _
  obtain ⟨c0, c1, c2, c3⟩ := HC.out w2 B2
  have hb2 : BufS w2 gb (hdL v g u n 0) := ⟨none, 0, 0, hB2, BSl.nil _ _ _, fun _ => rfl⟩
  have hgb2 := hB2.lt
  obtain ⟨g5, hg5⟩ : ∃ g5, w2.heap.size = g5 := ⟨_, rfl⟩
  obtain ⟨w5, hw5⟩ : ∃ w5, w2.alloc (.cells #[.int .i64 1128811344, .int .i64 v, .int .i64 g, .int .i64 u, .int .i64 n] 3) = w5 := ⟨_, rfl⟩
  have hA5 : Blk w5 g5 3 #[.int .i64 1128811344, .int .i64 v, .int .i64 g, .int .i64 u, .int .i64 n] := by rw [← hw5, ← hg5]; exact Blk.made w2 _ _
  have B5 : Below W0.heap.size W0 w5 := by rw [← hw5]; exact B2.alloc B2.size _
  have HB5 := Lib.hid (show BufS w5 gb (hdL v g u n 0) by rw [← hw5]; exact hb2.alloc _)
  have hne5 : g5 ≠ gb := by omega
  have HA5 := Lib.hid fun (W : World) (hg : w5.grownBy W (some gb)) => hA5.grown hg (fun e => by injection e with e; exact hne5 e)
  have HG := Lib.hid fun (W : World) (hg : w5.grownBy W (some gb)) => B5.trans (grown_below hg B5.size hgl)
  clear hA5 B5 hb2 hB2 B2 B1
  unfold errc
  go_wp2_with fail
  go_loopw [29] (fun iv wr => ∃ i : Nat, i ≤ 5 ∧ iv = .int .i64 i ∧ BufS wr gb (hdL v g u n i) ∧ w5.grownBy wr (some gb)) (fun iv _ => 5 - (intOf iv).toNat)
  case atStart => exact ⟨0, by omega, rfl, HB5.out, grown_refl _ _⟩
  case round =>
    clear hw2 hw5 hgb hg5 c0 c1 c2 c3 hgb2 hne5 HB5
    obtain ⟨i, hi, rfl, hbuf, hgr⟩ := hrel
    by_cases hlt5 : i < 5
    · have hc := ((HA5.out wr hgr).cell i).trans (hd_cell v g u n i hlt5)
      have hLn : (hdL v g u n i).length ≤ 1099511627776 := by rw [hdL_length]; omega
      have HNX := Lib.hid (show hdL v g u n (i + 1) = hdL v g u n i ++ Num.le (hdAt v g u n i) 4 from rfl)
      have hx := HX.out i
      generalize hdAt v g u n i = x at *
      have P := Lib.hid (pnum_ok gb (hdL v g u n i) x 4 wr hbuf hLn rfl hx)
      generalize hdL v g u n i = l at *
      have HGR := Lib.hid hgr
      have hi0 : (0 : Int) ≤ i := by omega
      have hi5 : (i : Int) < 5 := by omega
      have hx' : (x : Int) < 4294967296 := by omega
      clear hLn hbuf hgr
      go_wp2_with fail
      go_at_call 44
      refine P.out.mono ?_
      rintro e w2 ⟨rfl, hbuf2, hgr2⟩
      have HB := Lib.hid hbuf2
      have HGR2 := Lib.hid (grown_trans HGR.out hgr2)
      clear hbuf2 hgr2
      go_wp2_with fail
      go_roundw
      case rel => exact ⟨i + 1, by omega, by go_num, by rw [HNX.out]; exact HB.out, HGR2.out⟩
      case measure => simp [intOf]; omega
    · obtain rfl : i = 5 := by omega
      obtain ⟨c0, c1, c2, c3⟩ := HC.out wr (HG.out wr hgr)
      have HBF := Lib.hid (show BufS wr gb (hdL v g u n 5 ++ posAll (ps.take 0)) from by simpa [posAll] using hbuf)
      have HGR := Lib.hid hgr
      have HLE := Lib.hid (hdL_length v g u n 5)
      have HBD := Lib.hid (show ckBody v g u ps = hdL v g u n 5 ++ posAll ps from by unfold ckBody; rw [HL.out])
      generalize hdL v g u n 5 = L5 at *
      clear hbuf hgr HX HA5
      rw [show ((5 : Nat) : Int) = 5 from rfl]
      go_wp2_with fail
      go_loopw [41] (fun iv wr => ∃ i : Nat, i ≤ n ∧ iv = .int .i64 i ∧ BufS wr gb (L5 ++ posAll (ps.take i)) ∧ w5.grownBy wr (some gb)) (fun iv _ => n - (intOf iv).toNat)
      case atStart => exact ⟨0, by omega, rfl, HBF.out, HGR.out⟩
      case round =>
        clear HBF HGR c0 c1 c2 c3
        obtain ⟨i, hi, rfl, hbuf, hgr⟩ := hrel
        have B := HG.out wr hgr
        by_cases hin : i < n
        · obtain ⟨b, off, ha, -, hcell⟩ := (HP.out wr B).2.2 (by omega)
          subst ha
          obtain ⟨c0, c1, c2, c3, c4⟩ := psl_cells (B := 0) HL.out hcell i hin rfl
          obtain ⟨-, -, -, k3⟩ := HC.out wr B
          have hpo := lok_at HLK.out (i := i) (by rw [HL.out]; exact hin)
          obtain ⟨hk, hck, -⟩ := (HP.out wr B).2.1 (ps.getD i dP) (getD_mem (by rw [HL.out]; exact hin))
          have hta := posAll_take ps i (by rw [HL.out]; exact hin)
          generalize ps.getD i dP = p at *
          obtain ⟨key, po, pl, ck, pg⟩ := p
          have hpo : 0 ≤ po ∧ po ≤ 16777216 ∧ 0 ≤ pl ∧ pl ≤ 4096 ∧ (pg = true → pl = 0) := hpo
          obtain ⟨o0, o1, o2, o3, -⟩ := hpo
          obtain ⟨pon, rfl⟩ : ∃ k : Nat, po = k := ⟨po.toNat, by omega⟩
          obtain ⟨pln, rfl⟩ : ∃ k : Nat, pl = k := ⟨pl.toNat, by omega⟩
          dsimp only at *
          have hk' : (key : Int) < 18446744073709551616 := by omega
          have hck' : (ck : Int) < 4294967296 := by omega
          have hlen : (L5 ++ posAll (ps.take i)).length ≤ 100000 := by rw [List.length_append, HLE.out, posAll_length, List.length_take]; omega
          have hta : L5 ++ posAll (ps.take (i + 1)) = L5 ++ posAll (ps.take i) ++ Num.le key 8 ++ Num.le pon 4 ++ Num.le pln 4 ++ Num.le ck 4 ++ Num.le (pgone pg) 4 := by
            rw [hta, ← List.append_assoc, ← five_app]; rfl
          have HTA := Lib.hid hta
          generalize L5 ++ posAll (ps.take i) = l at *
          obtain ⟨w6, hw6⟩ : ∃ w6, wr.alloc (.cells #[.int .u64 key, .int .i64 pon, .int .i64 pln, .int .u32 ck, .bool pg] 60) = w6 := ⟨_, rfl⟩
          obtain ⟨gp, hgp⟩ : ∃ gp, wr.heap.size = gp := ⟨_, rfl⟩
          have hbl := hbuf.lt
          have hb6 : BufS w6 gb l := by rw [← hw6]; exact hbuf.alloc _
          have hg6 : w5.grownBy w6 (some gb) := by rw [← hw6]; exact grown_alloc hgr _
          have hP6 : Blk w6 gp 60 #[.int .u64 key, .int .i64 pon, .int .i64 pln, .int .u32 ck, .bool pg] := by rw [← hw6, ← hgp]; exact Blk.made wr _ _
          have HPC := Lib.hid fun (W : World) (hg : w6.grownBy W (some gb)) =>
            (⟨(hP6.grown hg (fun e => by injection e with e; omega)).cell 0, (hP6.grown hg (fun e => by injection e with e; omega)).cell 1, (hP6.grown hg (fun e => by injection e with e; omega)).cell 2, (hP6.grown hg (fun e => by injection e with e; omega)).cell 3, (hP6.grown hg (fun e => by injection e with e; omega)).cell 4⟩ :
              W.cell? ⟨gp, 0, none⟩ = some (.int .u64 key) ∧ W.cell? ⟨gp, 1, none⟩ = some (.int .i64 pon) ∧ W.cell? ⟨gp, 2, none⟩ = some (.int .i64 pln) ∧ W.cell? ⟨gp, 3, none⟩ = some (.int .u32 ck) ∧ W.cell? ⟨gp, 4, none⟩ = some (.bool pg))
          have HG6 := Lib.hid hg6
          have P1 := Lib.hid (pnum_ok gb l key 8 w6 hb6 (by omega) rfl hk)
          have P2 := Lib.hid fun (W : World) (hb : BufS W gb (l ++ Num.le key 8)) => pnum_ok gb _ pon 4 W hb (by simp only [List.length_append, Num.le_length]; omega) rfl (by omega)
          have P3 := Lib.hid fun (W : World) (hb : BufS W gb (l ++ Num.le key 8 ++ Num.le pon 4)) => pnum_ok gb _ pln 4 W hb (by simp only [List.length_append, Num.le_length]; omega) rfl (by omega)
          have P4 := Lib.hid fun (W : World) (hb : BufS W gb (l ++ Num.le key 8 ++ Num.le pon 4 ++ Num.le pln 4)) => pnum_ok gb _ ck 4 W hb (by simp only [List.length_append, Num.le_length]; omega) rfl (by omega)
          have P5 := Lib.hid fun (W : World) (hb : BufS W gb (l ++ Num.le key 8 ++ Num.le pon 4 ++ Num.le pln 4 ++ Num.le ck 4)) => pnum_ok gb _ (pgone pg) 4 W hb (by simp only [List.length_append, Num.le_length]; omega) rfl (by unfold pgone; split <;> omega)
          have hi0 : (0 : Int) ≤ i := by omega
          have hi1 : (i : Int) < n := by omega
          clear hcell hta hlen hb6 hg6 hP6 hbuf hgr B hbl
          go_upto_region 14 with fail
          clear c0 c1 c2 c3 c4 k3 hw6 hgp
          obtain ⟨d0, d1, d2, d3, d4⟩ := HPC.out w6 (grown_refl _ _)
          cases pg with
          | false =>
            rw [show pgone false = 0 from rfl] at HTA P5
            go_wp2_with fail
            go_at_call 44
            refine P1.out.mono ?_
            rintro e w7 ⟨rfl, hb7, hg7⟩
            clear d0 d1 d2 d3 d4 P1
            obtain ⟨d0, d1, d2, d3, d4⟩ := HPC.out w7 hg7
            go_wp2_with fail
            go_at_call 44
            refine (P2.out w7 hb7).mono ?_
            rintro e w8 ⟨rfl, hb8, hg8⟩
            have hg8 := grown_trans hg7 hg8
            clear d0 d1 d2 d3 d4 hb7 hg7 P2
            obtain ⟨d0, d1, d2, d3, d4⟩ := HPC.out w8 hg8
            go_wp2_with fail
            go_at_call 44
            refine (P3.out w8 hb8).mono ?_
            rintro e w9 ⟨rfl, hb9, hg9⟩
            have hg9 := grown_trans hg8 hg9
            clear d0 d1 d2 d3 d4 hb8 hg8 P3
            obtain ⟨d0, d1, d2, d3, d4⟩ := HPC.out w9 hg9
            go_wp2_with fail
            go_at_call 44
            refine (P4.out w9 hb9).mono ?_
            rintro e wx ⟨rfl, hbx, hgx⟩
            have hgx := grown_trans hg9 hgx
            clear d0 d1 d2 d3 d4 hb9 hg9 P4
            obtain ⟨d0, d1, d2, d3, d4⟩ := HPC.out wx hgx
            go_wp2_with fail
            go_at_call 44
            refine (P5.out wx hbx).mono ?_
            rintro e wy ⟨rfl, hby, hgy⟩
            have HGY := Lib.hid (grown_trans HG6.out (grown_trans hgx hgy))
            have HBY := Lib.hid hby
            clear d0 d1 d2 d3 d4 hbx hgx P5 hby hgy
            go_wp2_with fail
            go_roundw
            case rel => exact ⟨i + 1, by omega, by go_num, by rw [HTA.out]; exact HBY.out, HGY.out⟩
            case measure => simp [intOf]; omega
          | true =>
            rw [show pgone true = 1 from rfl] at HTA P5
            go_wp2_with fail
            go_at_call 44
            refine P1.out.mono ?_
            rintro e w7 ⟨rfl, hb7, hg7⟩
            clear d0 d1 d2 d3 d4 P1
            obtain ⟨d0, d1, d2, d3, d4⟩ := HPC.out w7 hg7
            go_wp2_with fail
            go_at_call 44
            refine (P2.out w7 hb7).mono ?_
            rintro e w8 ⟨rfl, hb8, hg8⟩
            have hg8 := grown_trans hg7 hg8
            clear d0 d1 d2 d3 d4 hb7 hg7 P2
            obtain ⟨d0, d1, d2, d3, d4⟩ := HPC.out w8 hg8
            go_wp2_with fail
            go_at_call 44
            refine (P3.out w8 hb8).mono ?_
            rintro e w9 ⟨rfl, hb9, hg9⟩
            have hg9 := grown_trans hg8 hg9
            clear d0 d1 d2 d3 d4 hb8 hg8 P3
            obtain ⟨d0, d1, d2, d3, d4⟩ := HPC.out w9 hg9
            go_wp2_with fail
            go_at_call 44
            refine (P4.out w9 hb9).mono ?_
            rintro e wx ⟨rfl, hbx, hgx⟩
            have hgx := grown_trans hg9 hgx
            clear d0 d1 d2 d3 d4 hb9 hg9 P4
            obtain ⟨d0, d1, d2, d3, d4⟩ := HPC.out wx hgx
            go_wp2_with fail
            go_at_call 44
            refine (P5.out wx hbx).mono ?_
            rintro e wy ⟨rfl, hby, hgy⟩
            have HGY := Lib.hid (grown_trans HG6.out (grown_trans hgx hgy))
            have HBY := Lib.hid hby
            clear d0 d1 d2 d3 d4 hbx hgx P5 hby hgy
            go_wp2_with fail
            go_roundw
            case rel => exact ⟨i + 1, by omega, by go_num, by rw [HTA.out]; exact HBY.out, HGY.out⟩
            case measure => simp [intOf]; omega
        · obtain rfl : i = n := by omega
          rw [List.take_of_length_le (by rw [HL.out]; omega)] at hbuf
          have hlen : (L5 ++ posAll ps).length = 20 + 24 * i := by rw [List.length_append, HLE.out, posAll_length, HL.out]
          obtain ⟨a', m, c', hb, hs, -⟩ := hbuf
          have hm : m = 20 + 24 * i := by rw [← hs.1]; exact hlen
          have B := HG.out wr hgr
          have P := Lib.hid (seal_any a' m c' _ wr hs (by omega))
          have HCB := Lib.hid (show ckBytes v g u ps = L5 ++ posAll ps ++ Num.le (Crc.of (L5 ++ posAll ps)).toNat 4 from by unfold ckBytes; rw [HBD.out])
          have d0 := hb.cell 0
          have HW := Lib.hid (BW.out wr B)
          have HM := Lib.hid hm
          clear hb hs hlen B hgr hm
          go_wp2_with fail
          refine P.out.mono ?_
          rintro e wz ⟨gz, cap, rfl, -, ho, Bz⟩
          have HO := Lib.hid (own_more ho HW.out.size)
          have HZ := Lib.hid (HW.out.trans (Bz.mono HW.out.size))
          clear ho Bz
          go_wp2_with fail
          go_ret2
          rw [← HCB.out, HM.out, show 20 + 24 * i + 4 = 24 + 24 * i from by omega] at HO
          exact ⟨gz, cap, by rw [HM.out, show 20 + 24 * i + 4 = 24 + 24 * i from by omega]; rfl, HO.out, HZ.out⟩

end Go.Proofs.Ytkmifimdjdjdpaa
