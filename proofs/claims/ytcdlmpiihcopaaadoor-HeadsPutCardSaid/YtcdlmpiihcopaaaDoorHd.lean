/-
  Layer 4 (heads): what bytes are, plain; rows of ints; heads.right, heads.read, heads.GetSuper.
-/
import Derived.Test.YtcdlmpiihcopaaaDoorOpen
import Derived.Test.YtcdlmpiihcopaaaDoorElem
import Derived.Test.YtcdlmpiihcopaaaDoorNdlGet
import Derived.Deep.CutBlock
import Derived.Deep.DeepCutAuto
import Derived.Deep.QuietTactic
import Derived.BigQuiet
namespace Go.Proofs.YtcdlmpiihcopaaaDoor
open Go.RowKit
set_option linter.unusedVariables false

theorem own_belowH4 {w w' : World} {B base size : Nat} {e : TypeId} {v : Value} {k : Nat} {xs : List Value} (h : w.ownsRow base e size v k xs) (hb : Below B w w') (hB : w.heap.size ≤ B) : w'.ownsRow base e size v k xs := by
  refine ⟨h.1, ?_⟩
  rcases h.2 with h2 | ⟨g, cap, cur, e1, e2, e3, e4⟩
  · exact .inl h2
  · exact .inr ⟨g, cap, cur, e1, e2, (hb.block g (Nat.lt_of_lt_of_le (Array.getElem?_eq_some_iff.1 e3).1 hB)).trans e3, e4⟩

/-- May there be such numbers? -/
def hdRight (v g e : Int) : Bool := decide (1 ≤ v ∧ v ≤ 65535 ∧ 1 ≤ g ∧ g ≤ 2147483647 ∧ 0 ≤ e ∧ e ≤ 2147483647)
/-- The words of bytes; the number of what is wrong. -/
def hdWs (L : List (BitVec 8)) (k : Nat) : List Nat := (List.range k).map fun i => nums L (4 * i) 4
def hdCode (L : List (BitVec 8)) (k magic : Nat) : Nat :=
  if L.length < 4 * k + 4 then 3 else if nums L 0 4 ≠ magic then 4
  else if nums L (4 * k) 4 ≠ (Crc.of (L.take (4 * k))).toNat then 5 else 0
theorem hdWs_length (L : List (BitVec 8)) (k : Nat) : (hdWs L k).length = k := by unfold hdWs; simp
theorem hdWs_succ (L : List (BitVec 8)) (k : Nat) : hdWs L (k + 1) = hdWs L k ++ [nums L (4 * k) 4] := by unfold hdWs; rw [List.range_succ, List.map_append]; rfl
theorem hdWs_at (L : List (BitVec 8)) (k i : Nat) (h : i < k) : (hdWs L k)[i]? = some (nums L (4 * i) 4) := by unfold hdWs; simp [h]
theorem hdCode_le (L : List (BitVec 8)) (k magic : Nat) : hdCode L k magic = 0 ∨ hdCode L k magic = 3 ∨ hdCode L k magic = 4 ∨ hdCode L k magic = 5 := by
  unfold hdCode
  repeat' split
  all_goals simp
theorem word_lt (L : List (BitVec 8)) (p : Nat) : nums L p 4 < 4294967296 := nums_lt L p 4
/-- The superblock of bytes: volume, generation, error. -/
def hdSuper (L : List (BitVec 8)) : Nat × Nat × Nat :=
  if hdCode L 3 1129466178 ≠ 0 then (0, 0, hdCode L 3 1129466178)
  else if hdRight (nums L 4 4) (nums L 8 4) 0 = true then (nums L 4 4, nums L 8 4, 0) else (0, 0, 4)

/-! ### Rows of ints -/
def iv (x : Nat) : Value := .int .i64 (x : Int)
/-- A slice of ints that reads as ws. -/
def ISl (w : World) (B : Nat) (a : Option Addr) (n : Nat) (ws : List Nat) : Prop :=
  ws.length = n ∧ (0 < n → ∃ b off, a = some ⟨b, off, none⟩ ∧ b < B ∧ ∀ k, k < n → w.cell? ⟨b, off + k, none⟩ = some (iv (ws.getD k 0)))
theorem ISl.nil (w : World) (B : Nat) (a : Option Addr) : ISl w B a 0 [] := ⟨rfl, fun h => absurd h (by omega)⟩
theorem ISl.below {w w' : World} {B n : Nat} {a : Option Addr} {l : List Nat} (h : ISl w B a n l) (hb : Below B w w') : ISl w' B a n l :=
  ⟨h.1, fun hn => by obtain ⟨b, off, e, hlt, hc⟩ := h.2 hn; exact ⟨b, off, e, hlt, fun k hkn => (hb.cell (p := ⟨b, off + k, none⟩) hlt).trans (hc k hkn)⟩⟩
theorem ISl.more {w : World} {B B' n : Nat} {a : Option Addr} {l : List Nat} (h : ISl w B a n l) (hB : B ≤ B') : ISl w B' a n l :=
  ⟨h.1, fun hn => by obtain ⟨b, off, e, hlt, hc⟩ := h.2 hn; exact ⟨b, off, e, by omega, hc⟩⟩
theorem info_int : (Tryd.prog.info? 3).map (fun i => (i.zero, i.size, i.bytes)) = some (some (.int .i64 0), 1, 8) := by kernel_rfl
theorem isl_own {W : World} {base g k c : Nat} {ws : List Nat} (h : W.ownsRow base 3 1 (.slice (some ⟨g, 0, none⟩) k c) k (ws.map iv)) : ISl W W.heap.size (some ⟨g, 0, none⟩) k ws := by
  rcases h.2 with ⟨e1, e2⟩ | ⟨g', cap, cur, e1, e2, e3, e4⟩
  · cases e1
  · have hl : ws.length = k := by have := h.1; simpa using this
    refine ⟨hl, fun hk => ⟨g, 0, rfl, (h.lt g rfl).2, fun i hi => ?_⟩⟩
    have hil : i < ws.length := by omega
    have := h.cells (g := g) rfl i (iv ws[i]) (by rw [List.getElem?_map, List.getElem?_eq_getElem hil]; rfl)
    rw [show ws.getD i 0 = ws[i] from by simp [List.getD, hil]]
    simpa [Addr.add_lit] using this
/-- One more int is put behind a row of one's own. -/
theorem append_int {W : World} {base : Nat} {v : Value} {ws : List Nat} (h : W.ownsRow base 3 1 v ws.length (ws.map iv)) (x : Nat) (hk : ws.length ≤ 1000000) (hbase : base ≤ W.heap.size) :
    ∃ g cap W2, (Builtin.append_ #[42, 42] 42 #[v, .slice (some ⟨W.heap.size, 0, none⟩) 1 1]).run Tryd.prog (W.alloc (.cells #[.int .i64 (x : Int)] 3)) = .ok (.slice (some ⟨g, 0, none⟩) (ws.length + 1) cap) W2 ∧
      W2.ownsRow base 3 1 (.slice (some ⟨g, 0, none⟩) (ws.length + 1) cap) (ws ++ [x]).length ((ws ++ [x]).map iv) ∧ Below base W W2 ∧ ws.length + 1 ≤ cap := by
  obtain ⟨i0, hi, hz0, hz1, hz2⟩ := info_parts info_int
  obtain ⟨g, cap, W2, hr, ho, hg, -, hc⟩ := append_elem (P := Tryd.prog) Tryd.underlying42 hi hz0 hz1 hz2 rfl (by decide) h [iv x] rfl (by intro u hu; rw [List.mem_singleton.1 hu]; rfl) (by omega) (by unfold maxLen; omega) hbase
  refine ⟨g, cap, W2, hr, ?_, (Below.refl base W).grown hg hbase (fun k e => (h.lt k e).1), hc⟩
  rw [List.length_append, List.length_singleton, List.map_append]
  exact ho

set_option maxHeartbeats 2000000 in
theorem hright_any (v g e : Int) (w : World) :
    Calls Tryd.prog 21 #[.int .i64 v, .int .i64 g, .int .i64 e] w fun x w' => x = .returned (.bool (hdRight v g e)) ∧ w = w' := by
  have key : ∀ b : Bool, (hdRight v g e = b) → Calls Tryd.prog 21 #[.int .i64 v, .int .i64 g, .int .i64 e] w fun x w' => x = .returned (.bool b) ∧ w = w' := by
    intro b hb
    unfold hdRight at hb
    by_cases h1 : 1 ≤ v
    · by_cases h2 : v ≤ 65535
      · by_cases h3 : 1 ≤ g
        · by_cases h4 : g ≤ 2147483647
          · by_cases h5 : 0 ≤ e
            · by_cases h6 : e ≤ 2147483647
              · obtain rfl : b = true := by rw [← hb]; exact decide_eq_true ⟨h1, h2, h3, h4, h5, h6⟩
                clear hb
                go_enter Tryd.func21, Tryd.ntmps21
                go_wp2_with fail
                go_ret
                exact ⟨rfl, rfl⟩
              · obtain rfl : b = false := by rw [← hb]; exact decide_eq_false (fun h => by omega)
                clear hb
                go_enter Tryd.func21, Tryd.ntmps21
                go_wp2_with fail
                go_ret
                exact ⟨rfl, rfl⟩
            · obtain rfl : b = false := by rw [← hb]; exact decide_eq_false (fun h => by omega)
              clear hb
              go_enter Tryd.func21, Tryd.ntmps21
              go_wp2_with fail
              go_ret
              exact ⟨rfl, rfl⟩
          · obtain rfl : b = false := by rw [← hb]; exact decide_eq_false (fun h => by omega)
            clear hb
            go_enter Tryd.func21, Tryd.ntmps21
            go_wp2_with fail
            go_ret
            exact ⟨rfl, rfl⟩
        · obtain rfl : b = false := by rw [← hb]; exact decide_eq_false (fun h => by omega)
          clear hb
          go_enter Tryd.func21, Tryd.ntmps21
          go_wp2_with fail
          go_ret
          exact ⟨rfl, rfl⟩
      · obtain rfl : b = false := by rw [← hb]; exact decide_eq_false (fun h => by omega)
        clear hb
        go_enter Tryd.func21, Tryd.ntmps21
        go_wp2_with fail
        go_ret
        exact ⟨rfl, rfl⟩
    · obtain rfl : b = false := by rw [← hb]; exact decide_eq_false (fun h => by omega)
      clear hb
      go_enter Tryd.func21, Tryd.ntmps21
      go_wp2_with fail
      go_ret
      exact ⟨rfl, rfl⟩
  exact key _ rfl
set_option maxHeartbeats 2000000 in
theorem rright04_any (v g e : Int) (w : World) :
    Calls Tryd.prog 13 #[.int .i64 v, .int .i64 g, .int .i64 e] w fun x w' => x = .returned (.bool (hdRight v g e)) ∧ w = w' := by
  have key : ∀ b : Bool, (hdRight v g e = b) → Calls Tryd.prog 13 #[.int .i64 v, .int .i64 g, .int .i64 e] w fun x w' => x = .returned (.bool b) ∧ w = w' := by
    intro b hb
    unfold hdRight at hb
    by_cases h1 : 1 ≤ v
    · by_cases h2 : v ≤ 65535
      · by_cases h3 : 1 ≤ g
        · by_cases h4 : g ≤ 2147483647
          · by_cases h5 : 0 ≤ e
            · by_cases h6 : e ≤ 2147483647
              · obtain rfl : b = true := by rw [← hb]; exact decide_eq_true ⟨h1, h2, h3, h4, h5, h6⟩
                clear hb
                go_enter Tryd.func13, Tryd.ntmps13
                go_wp2_with fail
                go_ret
                exact ⟨rfl, rfl⟩
              · obtain rfl : b = false := by rw [← hb]; exact decide_eq_false (fun h => by omega)
                clear hb
                go_enter Tryd.func13, Tryd.ntmps13
                go_wp2_with fail
                go_ret
                exact ⟨rfl, rfl⟩
            · obtain rfl : b = false := by rw [← hb]; exact decide_eq_false (fun h => by omega)
              clear hb
              go_enter Tryd.func13, Tryd.ntmps13
              go_wp2_with fail
              go_ret
              exact ⟨rfl, rfl⟩
          · obtain rfl : b = false := by rw [← hb]; exact decide_eq_false (fun h => by omega)
            clear hb
            go_enter Tryd.func13, Tryd.ntmps13
            go_wp2_with fail
            go_ret
            exact ⟨rfl, rfl⟩
        · obtain rfl : b = false := by rw [← hb]; exact decide_eq_false (fun h => by omega)
          clear hb
          go_enter Tryd.func13, Tryd.ntmps13
          go_wp2_with fail
          go_ret
          exact ⟨rfl, rfl⟩
      · obtain rfl : b = false := by rw [← hb]; exact decide_eq_false (fun h => by omega)
        clear hb
        go_enter Tryd.func13, Tryd.ntmps13
        go_wp2_with fail
        go_ret
        exact ⟨rfl, rfl⟩
    · obtain rfl : b = false := by rw [← hb]; exact decide_eq_false (fun h => by omega)
      clear hb
      go_enter Tryd.func13, Tryd.ntmps13
      go_wp2_with fail
      go_ret
      exact ⟨rfl, rfl⟩
  exact key _ rfl
end Go.Proofs.YtcdlmpiihcopaaaDoor
