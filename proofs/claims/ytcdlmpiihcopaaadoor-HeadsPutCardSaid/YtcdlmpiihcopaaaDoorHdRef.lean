/-
  The document's words and their reading (layer 4).
-/
import Derived.Test.YtcdlmpiihcopaaaDoorHdSuper
import Derived.Test.YtcdlmpiihcopaaaDoorNdlRefGet
namespace Go.Proofs.YtcdlmpiihcopaaaDoor
open Go.RowKit
set_option linter.unusedVariables false

/-- Words as bytes; with their sum. -/
def hdBody (ws : List Nat) : List (BitVec 8) := (ws.map fun x => Num.le x 4).flatten
def hdBytes (ws : List Nat) : List (BitVec 8) := hdBody ws ++ Num.le (Crc.of (hdBody ws)).toNat 4
theorem hdBody_snoc (ws : List Nat) (x : Nat) : hdBody (ws ++ [x]) = hdBody ws ++ Num.le x 4 := by unfold hdBody; simp
theorem hdBody_length (ws : List Nat) : (hdBody ws).length = 4 * ws.length := by
  induction ws with
  | nil => rfl
  | cons x ws ih =>
    have : hdBody (x :: ws) = Num.le x 4 ++ hdBody ws := by unfold hdBody; simp
    rw [this, List.length_append, Num.le_length, ih, List.length_cons]; omega
theorem hdBytes_length (ws : List Nat) : (hdBytes ws).length = 4 * ws.length + 4 := by unfold hdBytes; rw [List.length_append, hdBody_length, Num.le_length]
/-- The words of bytes are these bytes. -/
theorem hdBody_ws (L : List (BitVec 8)) (k : Nat) (h : 4 * k ≤ L.length) : hdBody (hdWs L k) = L.take (4 * k) := by
  induction k with
  | zero => rfl
  | succ k ih =>
    rw [hdWs_succ, hdBody_snoc, ih (by omega)]
    have hl : ((L.drop (4 * k)).take 4).length = 4 := by rw [List.length_take, List.length_drop]; omega
    have h1 : Num.le (nums L (4 * k) 4) 4 = (L.drop (4 * k)).take 4 := by
      have := Num.le_num ((L.drop (4 * k)).take 4)
      rw [hl] at this
      exact this
    rw [h1, show 4 * (k + 1) = 4 * k + 4 from by omega, List.take_add]
theorem hdBytes_ws (L : List (BitVec 8)) (k : Nat) (h : 4 * k + 4 ≤ L.length) : (hdBytes (hdWs L k) = L.take (4 * k + 4)) ↔ nums L (4 * k) 4 = (Crc.of (L.take (4 * k))).toNat := by
  unfold hdBytes
  rw [hdBody_ws L k (by omega), List.take_add]
  have hl : ((L.drop (4 * k)).take 4).length = 4 := by rw [List.length_take, List.length_drop]; omega
  rw [List.append_cancel_left_eq]
  constructor
  · intro e
    unfold nums
    rw [← e, Num.num_le_of_lt (of_fits _)]
  · intro e
    rw [← e]
    have := Num.le_num ((L.drop (4 * k)).take 4)
    rw [hl] at this
    exact this

set_option maxRecDepth 100000 in
set_option maxHeartbeats 4000000 in
theorem words_any (a : Option Addr) (n c : Nat) (ws : List Nat) (w : World) (h : ISl w w.heap.size a n ws) (hn : n ≤ 1000) (hx : ∀ x ∈ ws, x < 4294967296) :
    Calls Tryd.prog 16 #[.slice a n c] w fun e w' => ∃ av cv, e = .returned (.slice av (4 * n + 4) cv) ∧ Below w.heap.size w w' ∧ 4 * n + 4 ≤ cv ∧ w'.ownsRow w.heap.size 5 1 (.slice av (4 * n + 4) cv) (4 * n + 4) ((hdBytes ws).map bv) := by
  have HIS := Lib.hid fun (W : World) (B0 : Below w.heap.size w W) => (show ISl W W.heap.size a n ws from (h.below B0).more B0.size)
  have HL := Lib.hid h.1
  have HX := Lib.hid hx
  have HN := Lib.hid hn
  have hnz : (n : Int) ≤ 1000 := by omega
  clear h hx
  go_enter Tryd.func16, Tryd.ntmps16
  go_wp2_with fail
  go_loopw [3, 4] (fun v av wr => ∃ i : Nat, i ≤ n ∧ av = .int .i64 i ∧ wr.ownsRow w.heap.size 5 1 v (4 * i) ((hdBody (ws.take i)).map bv) ∧ Below w.heap.size w wr) (fun _ av _ => n - (intOf av).toNat)
  case atStart => exact ⟨0, Nat.zero_le _, rfl, World.ownsRow_nil _ _ _ _, Below.refl _ _⟩
  case round =>
    obtain ⟨i, hi, rfl, hrow, hB⟩ := hrel
    have HB := Lib.hid hB
    have HROW := Lib.hid hrow
    clear hrow hB
    by_cases hlt : i < n
    · obtain ⟨b, off, rfl, hbl, hcell⟩ := (HIS.out _ HB.out).2 (by omega)
      have hc := hcell i hlt
      have hil : i < ws.length := by rw [HL.out]; exact hlt
      have hgd : ws.getD i 0 = ws[i] := by simp [List.getD, hil]
      have hxi := HX.out ws[i] (List.getElem_mem hil)
      have HT := Lib.hid (show ws.take (i + 1) = ws.take i ++ [ws[i]] from List.take_succ_eq_append_getElem hil)
      rw [hgd] at hc
      generalize ws[i] = x at *
      replace hc : wr.cell? ⟨b, off + i, none⟩ = some (.int .i64 (x : Int)) := hc
      have hxz : (x : Int) < 4294967296 := by omega
      have hltz : (i : Int) < (n : Int) := by omega
      have EB := Lib.hid (bytes_any x 4 wr (by omega) (by decide) (by decide))
      clear hcell hgd hil hbl hxi
      go_wp2_with fail
      refine EB.out.mono ?_
      rintro e w2 ⟨g, rfl, -, ho, B2⟩
      have HB2 := Lib.hid (HB.out.trans (B2.mono HB.out.size))
      obtain ⟨v', W3, hr, ho3, hg3, -⟩ := append_any_bytes (own_belowH4 HROW.out B2 (Nat.le_refl _)) 4 (bsl_own ho) (by have := HN.out; omega) HB2.out.size
      rw [← List.map_append, ← hdBody_snoc, ← HT.out] at ho3
      have HO := Lib.hid ho3
      have HB3 := Lib.hid (HB2.out.grown hg3 HB2.out.size (fun q e => (own_belowH4 HROW.out B2 (Nat.le_refl _)).lt q e |>.1))
      clear B2 EB ho ho3 hg3 hc
      go_wp2_with (at_builtin; refine list_run (by rfl) _ _ rfl rfl rfl hr ?_; clear hr)
      go_roundw
      case rel => exact ⟨i + 1, by omega, by go_num, by rw [show 4 * (i + 1) = 4 * i + 4 from by omega]; exact HO.out, HB3.out⟩
      case measure => simp [intOf]; omega
    · obtain rfl : i = n := by omega
      have hltz : ¬ ((i : Int) < (i : Int)) := by omega
      rw [show ws.take i = ws from List.take_of_length_le (by rw [HL.out]; exact Nat.le_refl _)] at HROW
      obtain ⟨av3, cv3, hv, hcv⟩ := own_formI HROW.out
      subst hv
      have EO := Lib.hid (of_ref av3 (4 * i) cv3 (hdBody ws) wr (bsl_own HROW.out) (by have := HN.out; omega))
      have hcr := of_fits (hdBody ws)
      obtain ⟨y, hy⟩ : ∃ y, (Crc.of (hdBody ws)).toNat = y := ⟨_, rfl⟩
      rw [hy] at EO hcr
      have HY := Lib.hid hy
      have hyz : (y : Int) < 4294967296 := by have : y < 256 ^ 4 := hcr; omega
      have ET := Lib.hid (tail_ref y wr (by have : y < 256 ^ 4 := hcr; omega))
      clear hy hcr
      go_wp2_with fail
      refine EO.out.mono ?_
      rintro e w2 ⟨rfl, rfl⟩
      go_wp2_with fail
      refine ET.out.mono ?_
      rintro e w2 ⟨g, rfl, ho, B2⟩
      have HB2 := Lib.hid (HB.out.trans (B2.mono HB.out.size))
      obtain ⟨v', W3, hr, ho3, hg3, -⟩ := append_any_bytes (own_belowH4 HROW.out B2 (Nat.le_refl _)) 4 (bsl_own ho) (by have := HN.out; omega) HB2.out.size
      rw [← List.map_append] at ho3
      have HB3 := Lib.hid (HB2.out.grown hg3 HB2.out.size (fun q e => (own_belowH4 HROW.out B2 (Nat.le_refl _)).lt q e |>.1))
      obtain ⟨av4, cv4, hv4, hcv4⟩ := own_formI ho3
      subst hv4
      have HO := Lib.hid ho3
      clear B2 EO ET ho ho3 hg3 hcv
      go_wp2_with (at_builtin; refine list_run (by rfl) _ _ rfl rfl rfl hr ?_; clear hr)
      go_ret
      refine ⟨av4, cv4, rfl, HB3.out, hcv4, ?_⟩
      unfold hdBytes
      rw [HY.out]
      exact HO.out
end Go.Proofs.YtcdlmpiihcopaaaDoor
