/-
  Appends to an empty slice of one's own: another slice; noughts behind it.
-/
import Derived.Test.YtcdlmpiihcopaaaDoorNdlRefGet
import Derived.Test.YtcdlmpiihcopaaaDoorZeros
namespace Go.Proofs.YtcdlmpiihcopaaaDoor
open Go.RowKit
set_option linter.unusedVariables false

/-- Two appends of bytes to an empty slice of one's own: the runs. -/
theorem join_two {W : World} {B B' : Nat} {a a' : Option Addr} {n n' c c' : Nat} {l l' : List (BitVec 8)} (h : BSl W B a n l) (h' : BSl W B' a' n' l') (hB : B ≤ W.heap.size) (hB' : B' ≤ W.heap.size) (hn : n ≤ 1099511627776) (hn' : n' ≤ 1099511627776) :
    ∃ g1 c1 V1 g2 c2 V2, (Builtin.append_ #[27, 27] 27 #[.slice (some ⟨W.heap.size, 0, none⟩) 0 0, .slice a n c]).run Tryd.prog (W.alloc (.cells #[] 5)) = .ok (.slice (some ⟨g1, 0, none⟩) n c1) V1 ∧
      (Builtin.append_ #[27, 27] 27 #[.slice (some ⟨g1, 0, none⟩) n c1, .slice a' n' c']).run Tryd.prog V1 = .ok (.slice (some ⟨g2, 0, none⟩) (n + n') c2) V2 ∧
      BSl V2 V2.heap.size (some ⟨g2, 0, none⟩) (n + n') (l ++ l') ∧ n + n' ≤ c2 ∧ Below W.heap.size W V2 := by
  have B1 : Below W.heap.size W (W.alloc (.cells #[] 5)) := (Below.refl _ W).alloc (Nat.le_refl _) _
  obtain ⟨g1, c1, V1, hr1, ho1, hg1, -⟩ := append_bytes (World.ownsRow_made (base := W.heap.size) W #[] 0 (Nat.le_refl _) (Nat.zero_le _) rfl) c ((h.more hB).below B1) (bsl_nil0 h) (by omega) (by simp)
  simp only [Nat.zero_add, List.nil_append] at hr1 ho1
  have B2 : Below W.heap.size W V1 := B1.grown hg1 (by simp) (fun k e => by injection e with e; have e : W.heap.size = k := e; omega)
  obtain ⟨g2, c2, V2, hr2, ho2, hg2, -⟩ := append_bytes ho1 c' ((h'.more hB').below B2) (bsl_nil0 h') (by omega) B2.size
  rw [← List.map_append] at ho2
  have B3 : Below W.heap.size W V2 := B2.grown hg2 B2.size (fun k e => by injection e with e; have := (ho1.lt g1 rfl).1; omega)
  refine ⟨g1, c1, V1, g2, c2, V2, hr1, hr2, bsl_own ho2, ?_, B3⟩
  rcases ho2.2 with ⟨e1, _⟩ | ⟨_, _, _, e1, _, _, e2, _⟩
  · cases e1
  · cases e1; exact e2
/-- A slice, and one byte behind it. -/
theorem join_byte {W : World} {B : Nat} {a : Option Addr} {n c : Nat} {l : List (BitVec 8)} (x : BitVec 8) (h : BSl W B a n l) (hB : B ≤ W.heap.size) (hn : n ≤ 1099511627776) :
    ∃ g1 c1 V1 g2 c2 V2, (Builtin.append_ #[27, 27] 27 #[.slice (some ⟨W.heap.size, 0, none⟩) 0 0, .slice a n c]).run Tryd.prog (W.alloc (.cells #[] 5)) = .ok (.slice (some ⟨g1, 0, none⟩) n c1) V1 ∧
      (Builtin.append_ #[27, 27] 27 #[.slice (some ⟨g1, 0, none⟩) n c1, .slice (some ⟨V1.heap.size, 0, none⟩) 1 1]).run Tryd.prog (V1.alloc (.cells #[.int .u8 (x.toNat : Int)] 5)) = .ok (.slice (some ⟨g2, 0, none⟩) (n + 1) c2) V2 ∧
      BSl V2 V2.heap.size (some ⟨g2, 0, none⟩) (n + 1) (l ++ [x]) ∧ n + 1 ≤ c2 ∧ Below W.heap.size W V2 := by
  have B1 : Below W.heap.size W (W.alloc (.cells #[] 5)) := (Below.refl _ W).alloc (Nat.le_refl _) _
  obtain ⟨g1, c1, V1, hr1, ho1, hg1, -⟩ := append_bytes (World.ownsRow_made (base := W.heap.size) W #[] 0 (Nat.le_refl _) (Nat.zero_le _) rfl) c ((h.more hB).below B1) (bsl_nil0 h) (by omega) (by simp)
  simp only [Nat.zero_add, List.nil_append] at hr1 ho1
  have B2 : Below W.heap.size W V1 := B1.grown hg1 (by simp) (fun k e => by injection e with e; have e : W.heap.size = k := e; omega)
  have K := Blk.made V1 5 #[.int .u8 (x.toNat : Int)]
  have B3 : Below W.heap.size W (V1.alloc (.cells #[.int .u8 (x.toNat : Int)] 5)) := B2.alloc B2.size _
  obtain ⟨g2, c2, V2, hr2, ho2, hg2, -⟩ := append_bytes (ho1.alloc (.cells #[.int .u8 (x.toNat : Int)] 5)) 1 (K.bytes [x] rfl K.lt (show [x].length = 1 from rfl)) (fun e => by cases e) (by omega) B3.size
  rw [← List.map_append] at ho2
  have B4 : Below W.heap.size W V2 := B3.grown hg2 B3.size (fun k e => by injection e with e; have := (ho1.lt g1 rfl).1; omega)
  refine ⟨g1, c1, V1, g2, c2, V2, hr1, hr2, bsl_own ho2, ?_, B4⟩
  rcases ho2.2 with ⟨e1, _⟩ | ⟨_, _, _, e1, _, _, e2, _⟩
  · cases e1
  · cases e1; exact e2
/-- A slice, and noughts behind it. -/
theorem join_zeros {W : World} {B : Nat} {a : Option Addr} {n c : Nat} {l : List (BitVec 8)} (m : Nat) (h : BSl W B a n l) (hB : B ≤ W.heap.size) (hn : n ≤ 1099511627776) (hm : m ≤ 1099511627776) :
    ∃ g1 c1 V1 g2 c2 V2, (Builtin.append_ #[27, 27] 27 #[.slice (some ⟨W.heap.size, 0, none⟩) 0 0, .slice a n c]).run Tryd.prog (W.alloc (.cells #[] 5)) = .ok (.slice (some ⟨g1, 0, none⟩) n c1) V1 ∧
      (Builtin.append_ #[27, 3] 27 #[.slice (some ⟨g1, 0, none⟩) n c1, .int .i64 (m : Int)]).run Tryd.prog V1 = .ok (.slice (some ⟨g2, 0, none⟩) (n + m) c2) V2 ∧
      BSl V2 V2.heap.size (some ⟨g2, 0, none⟩) (n + m) (l ++ List.replicate m 0#8) ∧ n + m ≤ c2 ∧ Below W.heap.size W V2 := by
  have B1 : Below W.heap.size W (W.alloc (.cells #[] 5)) := (Below.refl _ W).alloc (Nat.le_refl _) _
  obtain ⟨g1, c1, V1, hr1, ho1, hg1, -⟩ := append_bytes (World.ownsRow_made (base := W.heap.size) W #[] 0 (Nat.le_refl _) (Nat.zero_le _) rfl) c ((h.more hB).below B1) (bsl_nil0 h) (by omega) (by simp)
  simp only [Nat.zero_add, List.nil_append] at hr1 ho1
  have B2 : Below W.heap.size W V1 := B1.grown hg1 (by simp) (fun k e => by injection e with e; have e : W.heap.size = k := e; omega)
  obtain ⟨g2, c2, V2, hr2, ho2, hg2, -⟩ := append_zeros ho1 m (by omega) B2.size
  rw [show List.replicate m (Value.int IntKind.u8 0) = (List.replicate m 0#8).map bv from by rw [List.map_replicate]; rfl, ← List.map_append] at ho2
  have B3 : Below W.heap.size W V2 := B2.grown hg2 B2.size (fun k e => by injection e with e; have := (ho1.lt g1 rfl).1; omega)
  refine ⟨g1, c1, V1, g2, c2, V2, hr1, hr2, bsl_own ho2, ?_, B3⟩
  rcases ho2.2 with ⟨e1, _⟩ | ⟨_, _, _, e1, _, _, e2, _⟩
  · cases e1
  · cases e1; exact e2
end Go.Proofs.YtcdlmpiihcopaaaDoor
