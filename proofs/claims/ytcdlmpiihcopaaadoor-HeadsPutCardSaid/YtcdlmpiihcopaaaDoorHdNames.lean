/-
  heads.Names.
-/
import Derived.Test.YtcdlmpiihcopaaaDoorHdNamesLaw
import Derived.Test.YtcdlmpiihcopaaaDoorShelf
import Derived.Test.YtcdlmpiihcopaaaDoorMem
import Derived.Lib.ItoaLen
import Derived.WalkKit
namespace Go.Proofs.YtcdlmpiihcopaaaDoor
open Go.RowKit
set_option linter.unusedVariables false

/-- A text. -/
def bs (l : List UInt8) : ByteArray := ⟨l.toArray⟩
theorem bs_append (a b : List UInt8) : bs a ++ bs b = bs (a ++ b) := by
  unfold bs
  apply ByteArray.ext
  simp
theorem bs_inj {a b : List UInt8} : bs a = bs b ↔ a = b := by
  unfold bs
  constructor
  · intro h
    have := congrArg (fun x : ByteArray => x.data.toList) h
    simpa using this
  · rintro rfl; rfl
theorem bs_eta (s : ByteArray) : bs s.data.toList = s := by unfold bs; simp
/-- The four names out of digits. -/
def lnA (d1 d2 : List UInt8) : List UInt8 := 118 :: (d1 ++ 46 :: d2)
def lnB (d1 d2 : List UInt8) : List UInt8 := 99 :: (d1 ++ 46 :: d2)
def lnC (d1 : List UInt8) : List UInt8 := 109 :: d1
def lnD (d1 : List UInt8) : List UInt8 := 109 :: (d1 ++ [46, 116])
theorem lnA_is (d1 d2 : List UInt8) : (⟨#[118]⟩ : ByteArray) ++ (⟨d1.toArray⟩ ++ ⟨#[46]⟩ ++ ⟨d2.toArray⟩) = bs (lnA d1 d2) := by
  show bs [118] ++ (bs d1 ++ bs [46] ++ bs d2) = _
  rw [bs_append, bs_append, bs_append, List.append_assoc]; rfl
theorem lnB_is (d1 d2 : List UInt8) : (⟨#[99]⟩ : ByteArray) ++ (⟨d1.toArray⟩ ++ ⟨#[46]⟩ ++ ⟨d2.toArray⟩) = bs (lnB d1 d2) := by
  show bs [99] ++ (bs d1 ++ bs [46] ++ bs d2) = _
  rw [bs_append, bs_append, bs_append, List.append_assoc]; rfl
theorem lnC_is (d1 : List UInt8) : (⟨#[109]⟩ : ByteArray) ++ ⟨d1.toArray⟩ = bs (lnC d1) := by
  show bs [109] ++ bs d1 = _
  rw [bs_append]; rfl
theorem lnD_is (d1 : List UInt8) : (⟨#[109]⟩ : ByteArray) ++ ⟨d1.toArray⟩ ++ ⟨#[46, 116]⟩ = bs (lnD d1) := by
  show bs [109] ++ bs d1 ++ bs [46, 116] = _
  rw [bs_append, bs_append]; rfl
theorem names_results {W : World} {a : Act} {v0 v1 v2 v3 : Value} (h0 : a.tmps[4]?.getD undef = v0) (h1 : a.tmps[5]?.getD undef = v1) (h2 : a.tmps[6]?.getD undef = v2) (h3 : a.tmps[7]?.getD undef = v3) :
    (results Tryd.f9 a.tmps).run Tryd.prog W = .ok (.tuple #[v0, v1, v2, v3]) W := by
  simp [results, Tryd.results9, go_sem, h0, h1, h2, h3]
theorem names_value {W : World} {d1 d2 : List UInt8} {a : Act} (h0 : a.tmps[4]?.getD undef = .string ((⟨#[118]⟩ : ByteArray) ++ (⟨d1.toArray⟩ ++ ⟨#[46]⟩ ++ ⟨d2.toArray⟩))) (h1 : a.tmps[5]?.getD undef = .string ((⟨#[99]⟩ : ByteArray) ++ (⟨d1.toArray⟩ ++ ⟨#[46]⟩ ++ ⟨d2.toArray⟩)))
    (h2 : a.tmps[6]?.getD undef = .string ((⟨#[109]⟩ : ByteArray) ++ ⟨d1.toArray⟩)) (h3 : a.tmps[7]?.getD undef = .string ((⟨#[109]⟩ : ByteArray) ++ ⟨d1.toArray⟩ ++ ⟨#[46, 116]⟩)) :
    (results Tryd.f9 a.tmps).run Tryd.prog W = .ok (.tuple #[.string (bs (lnA d1 d2)), .string (bs (lnB d1 d2)), .string (bs (lnC d1)), .string (bs (lnD d1))]) W := by
  rw [lnA_is] at h0
  rw [lnB_is] at h1
  rw [lnC_is] at h2
  rw [lnD_is] at h3
  exact names_results h0 h1 h2 h3
set_option maxHeartbeats 2000000 in
theorem names_small (v g : Nat) (hv : v < 100) (hg : g < 100) (w : World) :
    Calls Tryd.prog 9 #[.int .i64 (v : Int), .int .i64 (g : Int)] w fun e w' => e = .returned (.tuple #[.string (bs (lnA (Lib.decDigits v) (Lib.decDigits g))), .string (bs (lnB (Lib.decDigits v) (Lib.decDigits g))), .string (bs (lnC (Lib.decDigits v))), .string (bs (lnD (Lib.decDigits v)))]) ∧ w = w' := by
  have E1 := Lib.hid fun W => Tryd.strconv_Itoa_small v hv W
  have E2 := Lib.hid fun W => Tryd.strconv_Itoa_small g hg W
  have L1 := dig_len 1 v hv
  have L2 := dig_len 1 g hg
  clear hv hg
  generalize Lib.decDigits v = d1 at *
  generalize Lib.decDigits g = d2 at *
  go_enter Tryd.func9, Tryd.ntmps9
  go_wp2_with fail
  refine (E1.out _).mono ?_
  rintro e w1 ⟨rfl, rfl⟩
  go_wp2_with fail
  refine (E2.out _).mono ?_
  rintro e w1 ⟨rfl, rfl⟩
  go_wp2_with fail
  exact bodyPost_ret (names_value rfl rfl rfl rfl) rfl ⟨rfl, rfl⟩
/-- The table that strconv reads. -/
abbrev Tab (w : World) : Prop := Lib.TabIs Tryd.prog w "internal/strconv.uint64pow10" .u64 Lib.pow10Tab
theorem Ld.gT : Tryd.prog.globalNamed "internal/strconv.uint64pow10" = some 0 := by kernel_rfl
theorem tab_on {w w' : World} (h : Tab w) (hb : Below w.heap.size w w') : Tab w' := by
  have hv : w.var? Tryd.prog "internal/strconv.uint64pow10" = some _ := h
  show w'.var? Tryd.prog "internal/strconv.uint64pow10" = _
  unfold World.var? at hv ⊢
  rw [Ld.gT] at hv ⊢
  simp only [Option.bind_some] at hv ⊢
  have hlt : 0 < w.heap.size := by
    by_cases hl : 0 < w.heap.size
    · exact hl
    · simp [Array.getElem?_eq_none (Nat.le_of_not_lt hl)] at hv
  rw [show w'.heap[0]? = w.heap[0]? from hb.block _ hlt]
  exact hv
theorem below_growN (w : World) (k : Nat) (os : Array Obj) : Below w.heap.size w (Sort.grow (w.drewN k) os) :=
  ⟨rfl, rfl, rfl, by simp [Sort.grow], fun j hj => by
    unfold Sort.grow
    show (w.heap ++ os)[j]? = w.heap[j]?
    rw [Array.getElem?_append_left hj]⟩
set_option maxHeartbeats 2000000 in
theorem names_any (v g : Int) (hv0 : -9223372036854775808 ≤ v) (hv1 : v ≤ 9223372036854775807) (hg0 : -9223372036854775808 ≤ g) (hg1 : g ≤ 9223372036854775807) (w : World) (ht : Tab w) :
    Calls Tryd.prog 9 #[.int .i64 v, .int .i64 g] w fun e w' => e = .returned (.tuple #[.string (bs (lnA (Lib.itoa v) (Lib.itoa g))), .string (bs (lnB (Lib.itoa v) (Lib.itoa g))), .string (bs (lnC (Lib.itoa v))), .string (bs (lnD (Lib.itoa v)))]) ∧ Below w.heap.size w w' := by
  have E1 := Lib.hid fun W (h : Tab W) => Tryd.strconv_Itoa v hv0 hv1 W h
  have E2 := Lib.hid fun W (h : Tab W) => Tryd.strconv_Itoa g hg0 hg1 W h
  have L1 := Lib.itoa_length_le v hv0 hv1
  have L2 := Lib.itoa_length_le g hg0 hg1
  have HT := Lib.hid ht
  clear hv0 hv1 hg0 hg1 ht
  generalize Lib.itoa v = d1 at *
  generalize Lib.itoa g = d2 at *
  go_enter Tryd.func9, Tryd.ntmps9
  go_wp2_with fail
  refine (E1.out _ HT.out).mono ?_
  rintro e w1 ⟨rfl, k1, o1, rfl⟩
  have HB1 := Lib.hid (below_growN w k1 o1)
  generalize Sort.grow (w.drewN k1) o1 = w1 at *
  go_wp2_with fail
  refine (E2.out _ (tab_on HT.out HB1.out)).mono ?_
  rintro e w2 ⟨rfl, k2, o2, rfl⟩
  have HB2 := Lib.hid (HB1.out.trans ((below_growN w1 k2 o2).mono HB1.out.size))
  generalize Sort.grow (w1.drewN k2) o2 = w2 at *
  go_wp2_with fail
  exact bodyPost_ret (names_value rfl rfl rfl rfl) rfl ⟨rfl, HB2.out⟩
end Go.Proofs.YtcdlmpiihcopaaaDoor
