/-
  heads.words, heads.PutSuper, heads.PutManifest.
-/
import Derived.Test.YtcdlmpiihcopaaaDoorHdRefRead
import Derived.Test.YtcdlmpiihcopaaaDoorPutAll
namespace Go.Proofs.YtcdlmpiihcopaaaDoor
open Go.RowKit
set_option linter.unusedVariables false

set_option maxRecDepth 100000 in
set_option maxHeartbeats 4000000 in
theorem hwords_any (a : Option Addr) (n c : Nat) (ws : List Nat) (w : World) (h : ISl w w.heap.size a n ws) (hn : n ≤ 1000) (hx : ∀ x ∈ ws, x < 4294967296) :
    Calls Tryd.prog 22 #[.slice a n c] w fun e w' => ∃ g cap, e = .returned (.slice (some ⟨g, 0, none⟩) (4 * n + 4) cap) ∧ Below w.heap.size w w' ∧ 4 * n + 4 ≤ cap ∧ w'.ownsRow w.heap.size 5 1 (.slice (some ⟨g, 0, none⟩) (4 * n + 4) cap) (4 * n + 4) ((hdBytes ws).map bv) := by
  have HIS := Lib.hid fun (W : World) (B0 : Below w.heap.size w W) => (show ISl W W.heap.size a n ws from (h.below B0).more B0.size)
  have HL := Lib.hid h.1
  have HX := Lib.hid hx
  have HN := Lib.hid hn
  have hnz : (n : Int) ≤ 1000 := by omega
  clear h hx
  go_enter Tryd.func22, Tryd.ntmps22
  go_wp2_with fail
  go_loopw [3, 8] (fun v av wr => ∃ i : Nat, i ≤ n ∧ av = .int .i64 i ∧ wr.ownsRow w.heap.size 5 1 v (4 * i) ((hdBody (ws.take i)).map bv) ∧ Below w.heap.size w wr) (fun _ av _ => n - (intOf av).toNat)
  case atStart => exact ⟨0, Nat.zero_le _, rfl, World.ownsRow_nil _ _ _ _, Below.refl _ _⟩
  case round =>
    obtain ⟨i, hi, rfl, hrow, hB⟩ := hrel
    have HB := Lib.hid hB
    have HROW := Lib.hid hrow
    clear hrow hB
    obtain ⟨av3, cv3, hv, -⟩ := own_formI HROW.out
    subst hv
    by_cases hlt : i < n
    · obtain ⟨b, off, rfl, hbl, hcell⟩ := (HIS.out _ HB.out).2 (by omega)
      have hc := hcell i hlt
      have hil : i < ws.length := by rw [HL.out]; exact hlt
      have hgd : ws.getD i 0 = ws[i] := by simp [List.getD, hil]
      have hxi := HX.out ws[i] (List.getElem_mem hil)
      have HT := Lib.hid (show ws.take (i + 1) = ws.take i ++ [ws[i]] from List.take_succ_eq_append_getElem hil)
      rw [hgd] at hc
      generalize ws[i] = x at *
      replace hc : wr.cell? ⟨b, off + i, none⟩ = some (.int .i64 (x : Int)) := hc
      have hxz : (x : Int) < 4294967296 := by omega
      have hltz : (i : Int) < (n : Int) := by omega
      have EB := Lib.hid (show Calls Tryd.prog 30 #[.slice av3 (4 * i) cv3, .int .u64 (x : Int), .int .i64 4] wr fun e w' => ∃ g cap, e = .returned (.tuple #[.slice (some ⟨g, 0, none⟩) (4 * i + 4) cap, .nilIface]) ∧
        w'.ownsRow wr.heap.size 5 1 (.slice (some ⟨g, 0, none⟩) (4 * i + 4) cap) (4 * i + 4) ((hdBody (ws.take i) ++ Num.le x 4).map bv) ∧ Below wr.heap.size wr w' from put_ok av3 (4 * i) cv3 (hdBody (ws.take i)) x 4 wr (bsl_own HROW.out) (by have := HN.out; omega) (bsl_nil0 (bsl_own HROW.out)) (by decide) (by omega))
      clear hcell hgd hil hbl hxi
      go_wp2_with fail
      refine EB.out.mono ?_
      rintro e w2 ⟨g, cap, rfl, ho, B2⟩
      rw [← hdBody_snoc, ← HT.out] at ho
      have HB2 := Lib.hid (HB.out.trans (B2.mono HB.out.size))
      have HO := Lib.hid (own_more ho HB.out.size)
      clear B2 EB ho hc
      go_wp2_with fail
      go_roundw
      case rel => exact ⟨i + 1, by omega, by go_num, by rw [show 4 * (i + 1) = 4 * i + 4 from by omega]; exact HO.out, HB2.out⟩
      case measure => simp [intOf]; omega
    · obtain rfl : i = n := by omega
      have hltz : ¬ ((i : Int) < (i : Int)) := by omega
      rw [show ws.take i = ws from List.take_of_length_le (by rw [HL.out]; exact Nat.le_refl _)] at HROW
      have ES := Lib.hid (seal_any av3 (4 * i) cv3 (hdBody ws) wr (bsl_own HROW.out) (by have := HN.out; omega))
      go_wp2_with fail
      refine ES.out.mono ?_
      rintro e w2 ⟨g, cap, rfl, hcap, ho, B2⟩
      have HF := Lib.hid (And.intro (HB.out.trans (B2.mono HB.out.size)) (own_more ho HB.out.size))
      clear ES ho B2
      go_wp2_with fail
      go_ret
      exact ⟨g, cap, rfl, HF.out.1, hcap, HF.out.2⟩
/-- A made block of ints reads as them. -/
theorem isl_blk {w : World} {b : Nat} {t : TypeId} (ws : List Nat) {cs : Array Value} (h : Blk w b t cs) (he : cs.toList = ws.map iv) {B : Nat} (hB : b < B) {n : Nat} (hn : ws.length = n) : ISl w B (some ⟨b, 0, none⟩) n ws :=
  ⟨hn, fun _ => ⟨b, 0, rfl, hB, fun k hk => by
    rw [Nat.zero_add, h.cell, ← Array.getElem?_toList, he, List.getElem?_map, List.getElem?_eq_getElem (by omega)]
    simp [List.getD, show k < ws.length by omega]⟩⟩
/-- What a put hands back where the numbers may be. -/
def PhP (ws : List Nat) (w : World) (e : Ending) (w' : World) : Prop :=
  Below w.heap.size w w' ∧ ∃ g cap, e = .returned (.tuple #[.slice (some ⟨g, 0, none⟩) (4 * ws.length + 4) cap, .nilIface]) ∧ 4 * ws.length + 4 ≤ cap ∧ w'.ownsRow w.heap.size 5 1 (.slice (some ⟨g, 0, none⟩) (4 * ws.length + 4) cap) (4 * ws.length + 4) ((hdBytes ws).map bv)
theorem hdRight_bounds {v g e : Int} (h : hdRight v g e = true) : 1 ≤ v ∧ v ≤ 65535 ∧ 1 ≤ g ∧ g ≤ 2147483647 ∧ 0 ≤ e ∧ e ≤ 2147483647 := of_decide_eq_true h
set_option maxHeartbeats 4000000 in
theorem psuper_bad (v g : Int) (w : World) (h : hdRight v g 0 = false) :
    Calls Tryd.prog 10 #[.agg #[.int .i64 v, .int .i64 g]] w fun e w' => e = .returned (.tuple #[.slice none 0 0, er 1]) ∧ Below w.heap.size w w' := by
  have ER := Lib.hid fun (W : World) => (show Calls Tryd.prog 21 #[.int .i64 v, .int .i64 g, .int .i64 0] W fun x w' => x = .returned (.bool false) ∧ W = w' from by
    have := hright_any v g 0 W
    rwa [h] at this)
  clear h
  go_enter Tryd.func10, Tryd.ntmps10
  go_wp2_with fail
  refine (ER.out _).mono ?_
  rintro e w1 ⟨rfl, rfl⟩
  go_wp2_with fail
  go_ret2
  exact ⟨rfl, (Below.refl _ _).alloc (Nat.le_refl _) _⟩
set_option maxHeartbeats 4000000 in
theorem psuper_ok (v g : Nat) (w : World) (h : hdRight (v : Int) (g : Int) 0 = true) :
    Calls Tryd.prog 10 #[.agg #[.int .i64 (v : Int), .int .i64 (g : Int)]] w (PhP [1129466178, v, g] w) := by
  have hb := hdRight_bounds h
  have ER := Lib.hid fun (W : World) => (show Calls Tryd.prog 21 #[.int .i64 (v : Int), .int .i64 (g : Int), .int .i64 0] W fun x w' => x = .returned (.bool true) ∧ W = w' from by
    have := hright_any v g 0 W
    rwa [h] at this)
  have B1 : Below w.heap.size w ((w.alloc (.cells #[.int .i64 (v : Int), .int .i64 (g : Int)] 33)).alloc (.cells #[.int .i64 1129466178, .int .i64 (v : Int), .int .i64 (g : Int)] 3)) := ((Below.refl _ _).alloc (Nat.le_refl _) _).alloc (by simp) _
  have K1 := Blk.made (w.alloc (.cells #[.int .i64 (v : Int), .int .i64 (g : Int)] 33)) 3 #[.int .i64 1129466178, .int .i64 (v : Int), .int .i64 (g : Int)]
  have hsz : (w.alloc (.cells #[.int .i64 (v : Int), .int .i64 (g : Int)] 33)).heap.size = w.heap.size + 1 := by simp
  rw [hsz] at K1
  have EW := Lib.hid (hwords_any (some ⟨w.heap.size + 1, 0, none⟩) 3 3 [1129466178, v, g] _ (isl_blk [1129466178, v, g] K1 rfl K1.lt rfl) (by decide) (by intro x hx; simp at hx; omega))
  have HB1 := Lib.hid B1
  clear B1 K1 hsz h hb
  go_enter Tryd.func10, Tryd.ntmps10
  go_wp2_with fail
  refine (ER.out _).mono ?_
  rintro e w1 ⟨rfl, rfl⟩
  go_wp2_with fail
  refine EW.out.mono ?_
  rintro e w2 ⟨q, cap, rfl, B2, hcap, ho⟩
  have HF := Lib.hid (HB1.out.trans (B2.mono HB1.out.size))
  have HO := Lib.hid (own_more ho HB1.out.size)
  clear B2 ho EW
  go_wp2_with fail
  go_ret2
  exact ⟨HF.out, q, cap, rfl, hcap, HO.out⟩
set_option maxHeartbeats 4000000 in
theorem pman_bad (v g u : Int) (sl : Bool) (w : World) (h : hdRight v g u = false) :
    Calls Tryd.prog 11 #[.agg #[.int .i64 v, .int .i64 g, .int .i64 u, .bool sl]] w fun e w' => e = .returned (.tuple #[.slice none 0 0, er 1]) ∧ Below w.heap.size w w' := by
  have ER := Lib.hid fun (W : World) => (show Calls Tryd.prog 21 #[.int .i64 v, .int .i64 g, .int .i64 u] W fun x w' => x = .returned (.bool false) ∧ W = w' from by
    have := hright_any v g u W
    rwa [h] at this)
  clear h
  go_enter Tryd.func11, Tryd.ntmps11
  go_wp2_with fail
  refine (ER.out _).mono ?_
  rintro e w1 ⟨rfl, rfl⟩
  go_wp2_with fail
  go_ret2
  exact ⟨rfl, (Below.refl _ _).alloc (Nat.le_refl _) _⟩
set_option maxHeartbeats 4000000 in
theorem pman_ok (v g u : Nat) (sl : Bool) (w : World) (h : hdRight (v : Int) (g : Int) (u : Int) = true) :
    Calls Tryd.prog 11 #[.agg #[.int .i64 (v : Int), .int .i64 (g : Int), .int .i64 (u : Int), .bool sl]] w (PhP [1296125513, v, g, u, if sl then 1 else 0] w) := by
  have hb := hdRight_bounds h
  have ER := Lib.hid fun (W : World) => (show Calls Tryd.prog 21 #[.int .i64 (v : Int), .int .i64 (g : Int), .int .i64 (u : Int)] W fun x w' => x = .returned (.bool true) ∧ W = w' from by
    have := hright_any v g u W
    rwa [h] at this)
  cases sl
  all_goals
    have hsz : ∀ o, (w.alloc o).heap.size = w.heap.size + 1 := fun o => by simp
    go_enter Tryd.func11, Tryd.ntmps11
    go_wp2_with fail
    refine (ER.out _).mono ?_
    rintro e w1 ⟨rfl, rfl⟩
  · have B1 : Below w.heap.size w ((w.alloc (.cells #[.int .i64 (v : Int), .int .i64 (g : Int), .int .i64 (u : Int), .bool false] 36)).alloc (.cells #[.int .i64 1296125513, .int .i64 (v : Int), .int .i64 (g : Int), .int .i64 (u : Int), .int .i64 0] 3)) := ((Below.refl _ _).alloc (Nat.le_refl _) _).alloc (by simp) _
    have K1 := Blk.made (w.alloc (.cells #[.int .i64 (v : Int), .int .i64 (g : Int), .int .i64 (u : Int), .bool false] 36)) 3 #[.int .i64 1296125513, .int .i64 (v : Int), .int .i64 (g : Int), .int .i64 (u : Int), .int .i64 0]
    rw [hsz] at K1
    have EW := Lib.hid (hwords_any (some ⟨w.heap.size + 1, 0, none⟩) 5 5 [1296125513, v, g, u, 0] _ (isl_blk [1296125513, v, g, u, 0] K1 rfl K1.lt rfl) (by decide) (by intro x hx; simp at hx; omega))
    have HB1 := Lib.hid B1
    clear B1 K1 hsz h hb
    go_wp2_with fail
    refine EW.out.mono ?_
    rintro e w2 ⟨q, cap, rfl, B2, hcap, ho⟩
    have HF := Lib.hid (HB1.out.trans (B2.mono HB1.out.size))
    have HO := Lib.hid (own_more ho HB1.out.size)
    clear B2 ho EW
    go_wp2_with fail
    go_ret2
    exact ⟨HF.out, q, cap, rfl, hcap, HO.out⟩
  · have B1 : Below w.heap.size w ((w.alloc (.cells #[.int .i64 (v : Int), .int .i64 (g : Int), .int .i64 (u : Int), .bool true] 36)).alloc (.cells #[.int .i64 1296125513, .int .i64 (v : Int), .int .i64 (g : Int), .int .i64 (u : Int), .int .i64 1] 3)) := ((Below.refl _ _).alloc (Nat.le_refl _) _).alloc (by simp) _
    have K1 := Blk.made (w.alloc (.cells #[.int .i64 (v : Int), .int .i64 (g : Int), .int .i64 (u : Int), .bool true] 36)) 3 #[.int .i64 1296125513, .int .i64 (v : Int), .int .i64 (g : Int), .int .i64 (u : Int), .int .i64 1]
    rw [hsz] at K1
    have EW := Lib.hid (hwords_any (some ⟨w.heap.size + 1, 0, none⟩) 5 5 [1296125513, v, g, u, 1] _ (isl_blk [1296125513, v, g, u, 1] K1 rfl K1.lt rfl) (by decide) (by intro x hx; simp at hx; omega))
    have HB1 := Lib.hid B1
    clear B1 K1 hsz h hb
    go_wp2_with fail
    refine EW.out.mono ?_
    rintro e w2 ⟨q, cap, rfl, B2, hcap, ho⟩
    have HF := Lib.hid (HB1.out.trans (B2.mono HB1.out.size))
    have HO := Lib.hid (own_more ho HB1.out.size)
    clear B2 ho EW
    go_wp2_with fail
    go_ret2
    exact ⟨HF.out, q, cap, rfl, hcap, HO.out⟩
end Go.Proofs.YtcdlmpiihcopaaaDoor
