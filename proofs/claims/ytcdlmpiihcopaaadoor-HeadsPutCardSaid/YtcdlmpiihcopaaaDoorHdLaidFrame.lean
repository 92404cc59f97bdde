/-
  From the listed tables' reading to strconv's; a world that meets them; no parameter wants a stand-in.
-/
import Derived.Test.YtcdlmpiihcopaaaDoorFrame
import Derived.Test.YtcdlmpiihcopaaaDoorHdNames
import Derived.Test.YtcdlmpiihcopaaaDoorRows
import Derived.ChangeSame
import Derived.ChangeVars
import Derived.LaidLaws
import Derived.LaidHandle
import Derived.Lib.LaidTab
import Derived.Lib.LaidIn
import Derived.Stop.Joined
import Derived.Stop.LaidErr
import Derived.SevenTiedAt
namespace Go.Proofs.YtcdlmpiihcopaaaDoor
open Go.ChangeShapes Go.WideShapes Go.RowKit

abbrev lds : List (String × DataW Unit) := [("math/bits.deBruijn32tab", Rows.laid_math_bits_deBruijn32tab), ("math/bits.deBruijn64tab", Rows.laid_math_bits_deBruijn64tab), ("internal/strconv.uint64pow10", Rows.laid_internal_strconv_uint64pow10)]
theorem Ld.gTType : (Tryd.prog.globals[0]?).map (·.type) = some 103 := by kernel_rfl
theorem Ld.data : (Rows.laid_internal_strconv_uint64pow10 : DataW Unit) = Lib.tabData .u64 Lib.pow10Tab := by kernel_rfl
theorem laid_of {W : World} (h : laidMetH Tryd.prog lds W) : Tab W := by
  have h' : laidMet Tryd.prog lds W := h
  have h2 := h'.tail.tail
  rw [Ld.data] at h2
  exact Lib.tabIs_of_head Ld.gT Ld.gTType Tryd.underlying103 Tryd.underlying59 (by kernel_rfl) (by kernel_rfl) h2
/-- The cells of a table. -/
def tabCells : DataW Unit → Array Value
  | .agg l => (l.map fun | .lit (.int k z) => Value.int k z | _ => undef).toArray
  | _ => #[]
/-- A world that meets the condition. -/
noncomputable def laidWorld (os : Os) : World :=
  let w0 := World.holding Tryd.prog os ⟨#[], #[], []⟩
  { w0 with heap := ((w0.heap.modify 1 fun
      | .cells _ t frozen => .cells (tabCells Rows.laid_math_bits_deBruijn32tab) t frozen
      | o => o).modify 2 fun
      | .cells _ t frozen => .cells (tabCells Rows.laid_math_bits_deBruijn64tab) t frozen
      | o => o).modify 0 fun
      | .cells _ t frozen => .cells (tabCells Rows.laid_internal_strconv_uint64pow10) t frozen
      | o => o }
theorem laidWorld_met (os : Os) (args : Array Value) : laidMetH Tryd.prog lds ((laidWorld os).forCall (fun _ _ => 0) ⟨#[], args, []⟩).memory := by
  have h : laidMet Tryd.prog lds ((laidWorld os).forCall (fun _ _ => 0) ⟨#[], args, []⟩).memory := (LaidIn.of_run [0, 1, 2] 8 (by kernel_rfl) (by kernel_rfl) (by kernel_rfl) (by kernel_rfl)).met
  exact h
theorem noStand {P : Program} {ps : Array TypeId} (h : (ps.toList.all fun t => !(P.wantsStandIn t)) = true) {j : Nat} {t : TypeId} (ht : ps[j]? = some t) : P.wantsStandIn t = false := by
  have hm : t ∈ ps.toList := by
    rw [← Array.getElem?_toList] at ht
    exact List.mem_of_getElem? ht
  simpa using List.all_eq_true.1 h t hm
end Go.Proofs.YtcdlmpiihcopaaaDoor
