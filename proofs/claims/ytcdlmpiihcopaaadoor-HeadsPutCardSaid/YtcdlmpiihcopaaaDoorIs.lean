/-
  errors.Is between two errors of type api.Code, and the number of an error (corncriblaw01.Code).
-/
import Derived.Test.YtcdlmpiihcopaaaDoorChecked
import Derived.WalkKit
import Derived.LaidEql
import Derived.Stop.Asserts
import Derived.RowKitTokens
namespace Go.Proofs.YtcdlmpiihcopaaaDoor
open Go.RowKit Go.Extern.Stop Go.Stop Go.Extern

/-- An error of the program: its number. -/
abbrev er (c : Int) : Value := .iface 54 (.int .i64 c)

theorem isTypeOf (v : Value) (w : World) : (Extern.ReflectliteType.typeOf #[.iface 54 v]).run Tryd.prog w = .ok (.iface 83 (.agg #[.pointer (some ⟨3, 54, none⟩)])) w := by kernel_rfl
theorem callComparable (w : World) : (callFunc 77 #[.agg #[.pointer (some ⟨3, 54, none⟩)]]).run Tryd.prog w = .ok (.value (.bool true)) w := by kernel_rfl
theorem isMethodComparable (v : Value) (w : World) : (Go.method 243 83 v "Comparable").run Tryd.prog w = .ok (77, v) w := by kernel_rfl
theorem isComp : (Tryd.prog.info? 54).map (·.comparable) = some true := by kernel_rfl
theorem noIsE (v : Value) (xT : TypeId) (w : World) : (Instr.typeAssert (.iface 54 v) xT 85 true).run Tryd.prog w = .ok (.tuple #[.nilIface, .bool false]) w := run_typeAssert_lacksB Tryd.underlying85 (by kernel_rfl) (by kernel_rfl) v xT w
theorem noUnwrapE (v : Value) (xT : TypeId) (w : World) : (Instr.typeAssert (.iface 54 v) xT 88 true).run Tryd.prog w = .ok (.tuple #[.nilIface, .bool false]) w := run_typeAssert_lacksB Tryd.underlying88 (by kernel_rfl) (by kernel_rfl) v xT w
theorem noUnwrapsE (v : Value) (xT : TypeId) (w : World) : (Instr.typeAssert (.iface 54 v) xT 90 true).run Tryd.prog w = .ok (.tuple #[.nilIface, .bool false]) w := run_typeAssert_lacksB Tryd.underlying90 (by kernel_rfl) (by kernel_rfl) v xT w

theorem eql_code (a b : Int) (w : World) : (binOp .eql 29 (er a) (er b)).run Tryd.prog w = .ok (.bool (a == b)) w := by
  obtain ⟨i, hi, hcmp⟩ := Option.map_eq_some_iff.1 isComp
  have hk : ∀ d : Nat, (Op.equalIn (d + 2) 29 (er a) (er b)).run Tryd.prog w = .ok (a == b) w := fun d => by
    simp [Op.equalIn, run_underlying Tryd.underlying29, run_underlying Tryd.underlying54, typeInfo, hi, hcmp]
  simp only [binOp]
  simp [Op.equal, Op.maxDepth, hk 9998]

theorem is_eq (a : Int) (w : World) :
    Calls Tryd.prog 23 #[er a, er a] w fun e w' => e = .returned (.bool true) ∧ w = w' := by
  have h8 := @run_callFunc_extern Tryd.prog 32 _ Extern.ReflectliteType.typeOf Tryd.func32 (by kernel_rfl) (by kernel_rfl) (by kernel_rfl) (by kernel_rfl)
  have tT := isTypeOf
  have cT := callComparable
  have mR := isMethodComparable
  have heq : (binOp .eql 29 (er a) (er a)).run Tryd.prog w = .ok (.bool true) w := by rw [eql_code]; simp
  go_enter Tryd.func23, Tryd.ntmps23
  go_wp2
  refine wp_loop_rounds 1 ?_
  rw [rounds_succ]
  go_wp2
  go_ret
  exact ⟨rfl, rfl⟩

theorem is_ne (a b : Int) (w : World) (h : a ≠ b) :
    Calls Tryd.prog 23 #[er a, er b] w fun e w' => e = .returned (.bool false) ∧ w = w' := by
  have h8 := @run_callFunc_extern Tryd.prog 32 _ Extern.ReflectliteType.typeOf Tryd.func32 (by kernel_rfl) (by kernel_rfl) (by kernel_rfl) (by kernel_rfl)
  have tT := isTypeOf
  have cT := callComparable
  have mR := isMethodComparable
  have nE := noIsE
  have uE := noUnwrapE
  have vE := noUnwrapsE
  have heq : (binOp .eql 29 (er a) (er b)).run Tryd.prog w = .ok (.bool false) w := by rw [eql_code]; simp [h]
  clear h
  go_enter Tryd.func23, Tryd.ntmps23
  go_wp2
  refine wp_loop_rounds 1 ?_
  rw [rounds_succ]
  go_wp2
  go_ret
  exact ⟨rfl, rfl⟩

/-- The number of no error. -/
theorem code_nil (w : World) : Calls Tryd.prog 14 #[.nilIface] w fun e w' => e = .returned (.int .i64 0) ∧ w = w' := by
  go_enter Tryd.func14, Tryd.ntmps14
  go_wp2
  go_ret
  exact ⟨rfl, rfl⟩

/-- The number of an error. -/
theorem code_er (a : Int) (w : World) (h1 : 1 ≤ a) (h2 : a ≤ 17) : Calls Tryd.prog 14 #[er a] w fun e w' => e = .returned (.int .i64 a) ∧ w = w' := by
  go_enter Tryd.func14, Tryd.ntmps14
  go_wp2
  go_loop [3] (fun c => ∃ k : Int, 1 ≤ k ∧ k ≤ a ∧ c = .int .i64 k) (fun c => (17 - intOf c).toNat)
  case atStart => exact ⟨1, by omega, by omega, rfl⟩
  case round =>
    obtain ⟨k, hk1, hk2, rfl⟩ := hrel
    by_cases hlt : k < a
    · have hne : a ≠ k := by omega
      go_wp2_with (go_at_call 23; refine (is_ne _ _ _ hne).mono ?_; rintro e w' ⟨rfl, rfl⟩)
      go_round
      case rel => exact ⟨k + 1, by omega, by omega, rfl⟩
      case measure => simp [intOf]; omega
    · obtain rfl : k = a := by omega
      go_wp2_with (go_at_call 23; refine (is_eq _ _).mono ?_; rintro e w' ⟨rfl, rfl⟩)
      go_ret
      exact ⟨rfl, rfl⟩

end Go.Proofs.YtcdlmpiihcopaaaDoor
