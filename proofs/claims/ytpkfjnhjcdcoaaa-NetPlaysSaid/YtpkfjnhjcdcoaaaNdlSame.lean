/-
  bytes.Equal; needle.Same; the document's Same.
-/
import Derived.Test.YtpkfjnhjcdcoaaaNdlGet
import Derived.Laws.BytesArg
namespace Go.Proofs.Ytpkfjnhjcdcoaaa
open Go.RowKit

def bstr (l : List (BitVec 8)) : ByteArray := strOfNums (l.map fun c => (c.toNat : Int))
theorem bstr_inj {l l' : List (BitVec 8)} : (bstr l = bstr l') ↔ l = l' := by
  constructor
  · intro h
    have h1 : (bstr l).data.toList = (bstr l').data.toList := by rw [h]
    have h2 : ∀ L : List (BitVec 8), (bstr L).data.toList = L.map fun c => UInt8.ofNat c.toNat := fun L => by simp [bstr, strOfNums]
    rw [h2, h2] at h1
    have h3 := congrArg (List.map fun u : UInt8 => BitVec.ofNat 8 u.toNat) h1
    rw [List.map_map, List.map_map] at h3
    have h4 : ∀ L : List (BitVec 8), L.map ((fun u : UInt8 => BitVec.ofNat 8 u.toNat) ∘ fun c => UInt8.ofNat c.toNat) = L := fun L => by
      conv => rhs; rw [← List.map_id L]
      apply List.map_congr_left
      intro c _
      have hc := c.isLt
      apply BitVec.eq_of_toNat_eq
      simp
    rw [h4, h4] at h3
    exact h3
  · rintro rfl; rfl

theorem conv_any {W : World} {B n : Nat} {a : Option Addr} {l : List (BitVec 8)} (c : Nat) (h : BSl W B a n l) :
    (convert 22 9 (.slice a n c)).run Try.prog W = .ok (.string (bstr l)) W := by
  cases a with
  | none =>
    obtain rfl := bsl_nil0 h rfl
    have hl : l = [] := List.eq_nil_of_length_eq_zero h.1
    subst hl
    exact run_convert_bytes_nil W 22 5 Try.underlying22 Try.underlying5 0 c 9 Try.underlying9
  | some ad =>
    rcases Nat.eq_zero_or_pos n with rfl | hpos
    · have hl : l = [] := List.eq_nil_of_length_eq_zero h.1
      subst hl
      rw [run_convert_bytes_string W _ _ _ _ _ _ Try.underlying22 Try.underlying5 Try.underlying9, run_bytesToString W ad 0 c [] (by simp [loadCells, loadCellsFrom])]
      rfl
    · obtain ⟨b, off, e, hb, hc⟩ := h.2 hpos
      cases e
      exact run_convert_bytes_arg W 22 5 Try.underlying22 Try.underlying5 b off n c (l.map fun c => (c.toNat : Int)) (by rw [List.length_map, h.1]) (fun i hi => by
        rw [hc i hi]
        have : i < l.length := by rw [h.1]; exact hi
        simp [bv, List.getD, this]) 9 Try.underlying9

theorem bequal_any (a a' : Option Addr) (n n' c c' : Nat) (l l' : List (BitVec 8)) (w : World) {B B' : Nat} (h : BSl w B a n l) (h' : BSl w B' a' n' l') :
    Calls Try.prog 77 #[.slice a n c, .slice a' n' c'] w fun e w' => e = .returned (.bool (decide (l = l'))) ∧ w = w' := by
  have h1 := conv_any c h
  have h2 := conv_any c' h'
  have HI := Lib.hid (@bstr_inj l l')
  generalize bstr l = s1 at *
  generalize bstr l' = s2 at *
  go_enter Try.func77, Try.ntmps77
  go_wp2_with fail
  go_ret
  refine ⟨ret_bool ?_, rfl⟩
  rw [ByteArray.toList_eq, ByteArray.toList_eq, Bool.eq_iff_iff, beq_iff_eq, decide_eq_true_eq, ← HI.out]
  constructor
  · intro e
    cases s1; cases s2
    simp at e
    simp [e]
  · rintro rfl; rfl

/-- Are two needles alike? -/
def ndSame (key ck : Nat) (g : Bool) (l : List (BitVec 8)) (key' ck' : Nat) (g' : Bool) (l' : List (BitVec 8)) : Bool := decide (key = key' ∧ ck = ck' ∧ g = g' ∧ l = l')

set_option maxRecDepth 100000 in
set_option maxHeartbeats 1000000 in
theorem needle_same (key ck : Nat) (g : Bool) (a : Option Addr) (n c : Nat) (l : List (BitVec 8)) (key' ck' : Nat) (g' : Bool) (a' : Option Addr) (n' c' : Nat) (l' : List (BitVec 8)) (w : World) (h : BSl w w.heap.size a n l) (h' : BSl w w.heap.size a' n' l') :
    Calls Try.prog 50 #[.agg #[.int .u64 key, .int .u32 ck, .bool g, .slice a n c], .agg #[.int .u64 key', .int .u32 ck', .bool g', .slice a' n' c']] w fun e w' => e = .returned (.bool (ndSame key ck g l key' ck' g' l')) ∧ Below w.heap.size w w' := by
  have BA := ((Below.refl w.heap.size w).alloc (Nat.le_refl _) (.cells #[.int .u64 key, .int .u32 ck, .bool g, .slice a n c] 27)).alloc (by simp) (.cells #[.int .u64 key', .int .u32 ck', .bool g', .slice a' n' c'] 27)
  have hh := (h.below BA).more BA.size
  have hh' := (h'.below BA).more BA.size
  have HE := Lib.hid (bequal_any a a' n n' c c' l l' _ hh hh')
  have HB := Lib.hid BA
  clear h h' BA hh hh'
  by_cases h1 : key = key'
  · have h1' : ((key : Int) == (key' : Int)) = true := by rw [h1]; simp
    by_cases h2 : ck = ck'
    · have h2' : ((ck : Int) == (ck' : Int)) = true := by rw [h2]; simp
      by_cases h3 : g = g'
      · have HD := Lib.hid (show ndSame key ck g l key' ck' g' l' = decide (l = l') from by unfold ndSame; simp [h1, h2, h3])
        subst h3
        clear h1 h2
        cases g
        all_goals
          go_enter Try.func50, Try.ntmps50
          go_wp2_with fail
          refine HE.out.mono ?_
          rintro e w1 ⟨rfl, rfl⟩
          go_wp2_with fail
          go_ret
          exact ⟨by rw [HD.out]; rfl, HB.out⟩
      · have HD := Lib.hid (show ndSame key ck g l key' ck' g' l' = false from by unfold ndSame; simp [h3])
        clear h1 h2
        cases g <;> cases g'
        · exact absurd rfl h3
        · go_enter Try.func50, Try.ntmps50
          go_wp2_with fail
          go_ret
          exact ⟨by rw [HD.out]; rfl, HB.out⟩
        · go_enter Try.func50, Try.ntmps50
          go_wp2_with fail
          go_ret
          exact ⟨by rw [HD.out]; rfl, HB.out⟩
        · exact absurd rfl h3
    · have HD := Lib.hid (show ndSame key ck g l key' ck' g' l' = false from by unfold ndSame; simp [h2])
      have h2' : ((ck : Int) == (ck' : Int)) = false := by rw [beq_eq_false_iff_ne]; omega
      clear h1
      go_enter Try.func50, Try.ntmps50
      go_wp2_with fail
      go_ret
      exact ⟨by rw [HD.out]; rfl, HB.out⟩
  · have HD := Lib.hid (show ndSame key ck g l key' ck' g' l' = false from by unfold ndSame; simp [h1])
    have h1' : ((key : Int) == (key' : Int)) = false := by rw [beq_eq_false_iff_ne]; omega
    go_enter Try.func50, Try.ntmps50
    go_wp2_with fail
    go_ret
    exact ⟨by rw [HD.out]; rfl, HB.out⟩

set_option maxRecDepth 100000 in
set_option maxHeartbeats 1000000 in
theorem ref3_same (key ck : Nat) (g : Bool) (a : Option Addr) (n c : Nat) (l : List (BitVec 8)) (key' ck' : Nat) (g' : Bool) (a' : Option Addr) (n' c' : Nat) (l' : List (BitVec 8)) (w : World) (h : BSl w w.heap.size a n l) (h' : BSl w w.heap.size a' n' l') (hn : n ≤ 1099511627776) :
    Calls Try.prog 45 #[.agg #[.int .u64 key, .int .u32 ck, .bool g, .slice a n c], .agg #[.int .u64 key', .int .u32 ck', .bool g', .slice a' n' c']] w fun e w' => e = .returned (.bool (ndSame key ck g l key' ck' g' l')) ∧ Below w.heap.size w w' := by
  have BA := ((Below.refl w.heap.size w).alloc (Nat.le_refl _) (.cells #[.int .u64 key, .int .u32 ck, .bool g, .slice a n c] 34)).alloc (by simp) (.cells #[.int .u64 key', .int .u32 ck', .bool g', .slice a' n' c'] 34)
  have hh := (h.below BA).more BA.size
  have hh' := (h'.below BA).more BA.size
  have HE := Lib.hid (same_any a a' n n' c c' l l' _ hh hh' hn)
  have HB := Lib.hid BA
  clear h h' BA hh hh'
  by_cases h1 : key = key'
  · have h1' : ((key : Int) == (key' : Int)) = true := by rw [h1]; simp
    by_cases h2 : ck = ck'
    · have h2' : ((ck : Int) == (ck' : Int)) = true := by rw [h2]; simp
      by_cases h3 : g = g'
      · have HD := Lib.hid (show ndSame key ck g l key' ck' g' l' = decide (l = l') from by unfold ndSame; simp [h1, h2, h3])
        subst h3
        clear h1 h2
        cases g
        all_goals
          go_enter Try.func45, Try.ntmps45
          go_wp2_with fail
          refine HE.out.mono ?_
          rintro e w1 ⟨rfl, q, rfl⟩
          go_wp2_with fail
          go_ret
          exact ⟨by rw [HD.out]; rfl, below_drewN HB.out q⟩
      · have HD := Lib.hid (show ndSame key ck g l key' ck' g' l' = false from by unfold ndSame; simp [h3])
        clear h1 h2
        cases g <;> cases g'
        · exact absurd rfl h3
        · go_enter Try.func45, Try.ntmps45
          go_wp2_with fail
          go_ret
          exact ⟨by rw [HD.out]; rfl, HB.out⟩
        · go_enter Try.func45, Try.ntmps45
          go_wp2_with fail
          go_ret
          exact ⟨by rw [HD.out]; rfl, HB.out⟩
        · exact absurd rfl h3
    · have HD := Lib.hid (show ndSame key ck g l key' ck' g' l' = false from by unfold ndSame; simp [h2])
      have h2' : ((ck : Int) == (ck' : Int)) = false := by rw [beq_eq_false_iff_ne]; omega
      clear h1
      go_enter Try.func45, Try.ntmps45
      go_wp2_with fail
      go_ret
      exact ⟨by rw [HD.out]; rfl, HB.out⟩
  · have HD := Lib.hid (show ndSame key ck g l key' ck' g' l' = false from by unfold ndSame; simp [h1])
    have h1' : ((key : Int) == (key' : Int)) = false := by rw [beq_eq_false_iff_ne]; omega
    go_enter Try.func45, Try.ntmps45
    go_wp2_with fail
    go_ret
    exact ⟨by rw [HD.out]; rfl, HB.out⟩

end Go.Proofs.Ytpkfjnhjcdcoaaa
