/-
  needle.Get: the needle of any bytes.
-/
import Derived.Test.YtcdlmpiihcopaaaDoorNdlPut
namespace Go.Proofs.YtcdlmpiihcopaaaDoor
open Go.RowKit

/-- A number among bytes. -/
def nums (L : List (BitVec 8)) (p k : Nat) : Nat := Num.num ((L.drop p).take k)
theorem nums_lt (L : List (BitVec 8)) (p k : Nat) : nums L p k < 256 ^ k := by
  refine Nat.lt_of_lt_of_le (Num.num_lt _) (Nat.pow_le_pow_right (by decide) ?_)
  rw [List.length_take]; omega
/-- What the bytes of a needle say: the key, the cookie, whether it is gone, the data, how many bytes, the error. -/
def ndBad (c : Nat) : Nat × Nat × Bool × List (BitVec 8) × Nat × Nat := (0, 0, false, [], 0, c)
def ndForm (L : List (BitVec 8)) : Prop := nums L 0 4 ≠ 1313162572 ∨ 1 < nums L 4 4 ∨ nums L 28 4 ≠ 0 ∨ 4096 < nums L 20 4 ∨ (nums L 4 4 = 1 ∧ 0 < nums L 20 4)
instance (L : List (BitVec 8)) : Decidable (ndForm L) := by unfold ndForm; infer_instance
def ndGet (L : List (BitVec 8)) : Nat × Nat × Bool × List (BitVec 8) × Nat × Nat :=
  if L.length < 32 then ndBad 3
  else if ndForm L then ndBad 4
  else if L.length < 32 + nums L 20 4 + padn (nums L 20 4) then ndBad 3
  else if nums L 24 4 ≠ (Crc.of (L.take 24 ++ (L.drop 32).take (nums L 20 4))).toNat then ndBad 5
  else if nz ((L.drop (32 + nums L 20 4)).take (padn (nums L 20 4))) = true then ndBad 4
  else (nums L 8 8, nums L 16 4, decide (nums L 4 4 = 1), (L.drop 32).take (nums L 20 4), 32 + nums L 20 4 + padn (nums L 20 4), 0)

theorem Blk.four_frozen {w : World} {B : Nat} {T : TypeId} {cs : Array Value} (h : Blk w B T cs) :
    w.frozen? ⟨B, 0, none⟩ = false ∧ w.frozen? ⟨B, 1, none⟩ = false ∧ w.frozen? ⟨B, 2, none⟩ = false ∧ w.frozen? ⟨B, 3, none⟩ = false :=
  ⟨h.frozen 0, h.frozen 1, h.frozen 2, h.frozen 3⟩
theorem Blk.put4 {w : World} {B : Nat} {T : TypeId} {v0 v1 v2 v3 : Value} (h : Blk w B T #[v0, v1, v2, v3]) (u0 u1 u2 u3 : Value) :
    Blk ((((w.setCell ⟨B, 0, none⟩ u0).setCell ⟨B, 1, none⟩ u1).setCell ⟨B, 2, none⟩ u2).setCell ⟨B, 3, none⟩ u3) B T #[u0, u1, u2, u3] :=
  (((h.put 0 u0).put 1 u1).put 2 u2).put 3 u3
theorem below_put4 {w : World} {X : World} {B : Nat} (h : Below X.heap.size X w) (hB : X.heap.size ≤ B) (u0 u1 u2 u3 : Value) :
    Below X.heap.size X ((((w.setCell ⟨B, 0, none⟩ u0).setCell ⟨B, 1, none⟩ u1).setCell ⟨B, 2, none⟩ u2).setCell ⟨B, 3, none⟩ u3) :=
  (((h.setCell (p := ⟨B, 0, none⟩) hB u0).setCell (p := ⟨B, 1, none⟩) hB u1).setCell (p := ⟨B, 2, none⟩) hB u2).setCell (p := ⟨B, 3, none⟩) hB u3

/-- What needle.Get answers. -/
def NdGot (L : List (BitVec 8)) (w : World) (e : Ending) (w' : World) : Prop :=
  Below w.heap.size w w' ∧ ∃ key ck g lx all cf, ndGet L = (key, ck, g, lx, all, cf) ∧
    ∃ av cv, e = .returned (.tuple #[.agg #[.int .u64 (key : Nat), .int .u32 (ck : Nat), .bool g, .slice av lx.length cv], .int .i64 (all : Nat), errc cf]) ∧ lx.length ≤ cv ∧ w'.ownsRow w.heap.size 5 1 (.slice av lx.length cv) lx.length (lx.map bv)

theorem got_bad {L : List (BitVec 8)} {w w' : World} {cf : Nat} (h : ndGet L = ndBad cf) (B : Below w.heap.size w w') :
    NdGot L w (.returned (.tuple #[.agg #[.int .u64 0, .int .u32 0, .bool false, .slice none 0 0], .int .i64 0, errc cf])) w' :=
  ⟨B, 0, 0, false, [], 0, cf, h, none, 0, rfl, Nat.le_refl _, rfl, .inl ⟨rfl, rfl⟩⟩

end Go.Proofs.YtcdlmpiihcopaaaDoor
