/-
  errors.Is between two errors of type api.Code, and the number of an error (corncriblaw01.Code).
-/
import Derived.Test.YtpkfjnhjcdcoaaaChecked
import Derived.WalkKit
import Derived.LaidEql
import Derived.Stop.Asserts
import Derived.RowKitTokens
namespace Go.Proofs.Ytpkfjnhjcdcoaaa
open Go.RowKit Go.Extern.Stop Go.Stop Go.Extern

/-- An error of the program: its number. -/
abbrev er (c : Int) : Value := .iface 78 (.int .i64 c)

theorem isTypeOf (v : Value) (w : World) : (Extern.ReflectliteType.typeOf #[.iface 78 v]).run Try.prog w = .ok (.iface 130 (.agg #[.pointer (some ⟨0, 78, none⟩)])) w := by kernel_rfl
theorem callComparable (w : World) : (callFunc 104 #[.agg #[.pointer (some ⟨0, 78, none⟩)]]).run Try.prog w = .ok (.value (.bool true)) w := by kernel_rfl
theorem isMethodComparable (v : Value) (w : World) : (Go.method 273 130 v "Comparable").run Try.prog w = .ok (104, v) w := by kernel_rfl
theorem isComp : (Try.prog.info? 78).map (·.comparable) = some true := by kernel_rfl
theorem noIsE (v : Value) (xT : TypeId) (w : World) : (Instr.typeAssert (.iface 78 v) xT 132 true).run Try.prog w = .ok (.tuple #[.nilIface, .bool false]) w := run_typeAssert_lacksB Try.underlying132 (by kernel_rfl) (by kernel_rfl) v xT w
theorem noUnwrapE (v : Value) (xT : TypeId) (w : World) : (Instr.typeAssert (.iface 78 v) xT 135 true).run Try.prog w = .ok (.tuple #[.nilIface, .bool false]) w := run_typeAssert_lacksB Try.underlying135 (by kernel_rfl) (by kernel_rfl) v xT w
theorem noUnwrapsE (v : Value) (xT : TypeId) (w : World) : (Instr.typeAssert (.iface 78 v) xT 137 true).run Try.prog w = .ok (.tuple #[.nilIface, .bool false]) w := run_typeAssert_lacksB Try.underlying137 (by kernel_rfl) (by kernel_rfl) v xT w

theorem eql_code (a b : Int) (w : World) : (binOp .eql 31 (er a) (er b)).run Try.prog w = .ok (.bool (a == b)) w := by
  obtain ⟨i, hi, hcmp⟩ := Option.map_eq_some_iff.1 isComp
  have hk : ∀ d : Nat, (Op.equalIn (d + 2) 31 (er a) (er b)).run Try.prog w = .ok (a == b) w := fun d => by
    simp [Op.equalIn, run_underlying Try.underlying31, run_underlying Try.underlying78, typeInfo, hi, hcmp]
  simp only [binOp]
  simp [Op.equal, Op.maxDepth, hk 9998]

theorem is_eq (a : Int) (w : World) :
    Calls Try.prog 44 #[er a, er a] w fun e w' => e = .returned (.bool true) ∧ w = w' := by
  have h8 := @run_callFunc_extern Try.prog 71 _ Extern.ReflectliteType.typeOf Try.func71 (by kernel_rfl) (by kernel_rfl) (by kernel_rfl) (by kernel_rfl)
  have tT := isTypeOf
  have cT := callComparable
  have mR := isMethodComparable
  have heq : (binOp .eql 31 (er a) (er a)).run Try.prog w = .ok (.bool true) w := by rw [eql_code]; simp
  go_enter Try.func44, Try.ntmps44
  go_wp2
  refine wp_loop_rounds 1 ?_
  rw [rounds_succ]
  go_wp2
  go_ret
  exact ⟨rfl, rfl⟩

theorem is_ne (a b : Int) (w : World) (h : a ≠ b) :
    Calls Try.prog 44 #[er a, er b] w fun e w' => e = .returned (.bool false) ∧ w = w' := by
  have h8 := @run_callFunc_extern Try.prog 71 _ Extern.ReflectliteType.typeOf Try.func71 (by kernel_rfl) (by kernel_rfl) (by kernel_rfl) (by kernel_rfl)
  have tT := isTypeOf
  have cT := callComparable
  have mR := isMethodComparable
  have nE := noIsE
  have uE := noUnwrapE
  have vE := noUnwrapsE
  have heq : (binOp .eql 31 (er a) (er b)).run Try.prog w = .ok (.bool false) w := by rw [eql_code]; simp [h]
  clear h
  go_enter Try.func44, Try.ntmps44
  go_wp2
  refine wp_loop_rounds 1 ?_
  rw [rounds_succ]
  go_wp2
  go_ret
  exact ⟨rfl, rfl⟩

/-- The number of no error. -/
theorem code_nil (w : World) : Calls Try.prog 14 #[.nilIface] w fun e w' => e = .returned (.int .i64 0) ∧ w = w' := by
  go_enter Try.func14, Try.ntmps14
  go_wp2
  go_ret
  exact ⟨rfl, rfl⟩

/-- The number of an error. -/
theorem code_er (a : Int) (w : World) (h1 : 1 ≤ a) (h2 : a ≤ 17) : Calls Try.prog 14 #[er a] w fun e w' => e = .returned (.int .i64 a) ∧ w = w' := by
  go_enter Try.func14, Try.ntmps14
  go_wp2
  go_loop [3] (fun c => ∃ k : Int, 1 ≤ k ∧ k ≤ a ∧ c = .int .i64 k) (fun c => (17 - intOf c).toNat)
  case atStart => exact ⟨1, by omega, by omega, rfl⟩
  case round =>
    obtain ⟨k, hk1, hk2, rfl⟩ := hrel
    by_cases hlt : k < a
    · have hne : a ≠ k := by omega
      go_wp2_with (go_at_call 44; refine (is_ne _ _ _ hne).mono ?_; rintro e w' ⟨rfl, rfl⟩)
      go_round
      case rel => exact ⟨k + 1, by omega, by omega, rfl⟩
      case measure => simp [intOf]; omega
    · obtain rfl : k = a := by omega
      go_wp2_with (go_at_call 44; refine (is_eq _ _).mono ?_; rintro e w' ⟨rfl, rfl⟩)
      go_ret
      exact ⟨rfl, rfl⟩

end Go.Proofs.Ytpkfjnhjcdcoaaa
