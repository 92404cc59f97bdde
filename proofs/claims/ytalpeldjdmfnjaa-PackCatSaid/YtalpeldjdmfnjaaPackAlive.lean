/-
  The chapter's example of layer 1.
-/
import Derived.Test.YtalpeldjdmfnjaaPutAll
import Derived.Test.YtalpeldjdmfnjaaRef01
namespace Go.Proofs.Ytalpeldjdmfnjaa
open Go.RowKit

/-- A block of bytes that is known whole, as a slice. -/
theorem blk_bytes {w : World} {b : Nat} {t : TypeId} (l : List (BitVec 8)) {cs : Array Value} (h : Blk w b t cs) (he : cs.toList = l.map bv) {B : Nat} (hB : b < B) {n : Nat} (hn : l.length = n) : BSl w B (some ⟨b, 0, none⟩) n l :=
  ⟨hn, fun _ => ⟨b, 0, rfl, hB, fun k hk => by
    rw [Nat.zero_add, h.cell, ← Array.getElem?_toList, he, List.getElem?_map, List.getElem?_eq_getElem (by omega)]
    simp [List.getD, show k < l.length by omega]⟩⟩

theorem own_below {w w' : World} {B base : Nat} {e : TypeId} {v : Value} {k : Nat} {xs : List Value} (h : w.ownsRow base e 1 v k xs) (hb : Below B w w') (hB : w.heap.size ≤ B) : w'.ownsRow base e 1 v k xs := by
  refine ⟨h.1, ?_⟩
  rcases h.2 with h2 | ⟨g, cap, cur, e1, e2, e3, e4⟩
  · exact .inl h2
  · exact .inr ⟨g, cap, cur, e1, e2, (hb.block g (Nat.lt_of_lt_of_le (Array.getElem?_eq_some_iff.1 e3).1 hB)).trans e3, e4⟩

set_option maxRecDepth 100000 in
theorem pack_alive (w : World) :
    Calls Try.prog 25 #[] w fun e w' => e = .returned (.bool true) ∧ Below w.heap.size w w' := by
  go_enter Try.func25, Try.ntmps25
  go_wp2_with fail
  refine (put_ok none 0 0 [] 258 2 _ (BSl.nil _ _ _) (by decide) (fun _ => rfl) rfl (by decide)).mono ?_
  rintro e w1 ⟨g, cap, rfl, hown, B1⟩
  simp only [Nat.zero_add, List.nil_append] at hown
  go_wp2_with fail
  refine (put_arg none 0 0 1 3 _ rfl).mono ?_
  rintro e w2 ⟨rfl, B2⟩
  have hown2 := own_below hown B2 (Nat.le_refl _)
  have B2 := B1.trans (B2.mono B1.size)
  clear hown B1
  go_wp2_with fail
  refine (code_nil _).mono ?_
  rintro e w5 ⟨rfl, rfl⟩
  go_wp2_with fail
  have hs1 := BSl.row (hown2.alloc (.cells #[.int .u8 2, .int .u8 1] 5)) _ rfl
  have hs2 := blk_bytes [2#8, 1#8] (Blk.made w2 5 #[.int .u8 2, .int .u8 1]) rfl (Nat.lt_succ_self _) rfl
  refine (same_any _ _ 2 2 _ _ _ _ _ hs1 hs2 (by decide)).mono ?_
  rintro e w3 ⟨rfl, q, rfl⟩
  rw [show decide (Num.le 258 2 = [2#8, 1#8]) = true from by decide]
  go_wp2_with fail
  refine (code_er 1 _ (by decide) (by decide)).mono ?_
  rintro e w4 ⟨rfl, rfl⟩
  go_wp2_with fail
  go_ret
  exact ⟨rfl, below_drewN (B2.alloc B2.size _) q⟩

end Go.Proofs.Ytalpeldjdmfnjaa
