/-
  The chapter's example.
-/
import Derived.Test.YtboadalojimdlaaHstRef
namespace Go.Proofs.Ytboadalojimdlaa
open Go.RowKit

/-- A block of calls reads as them. -/
theorem csl_blk {w : World} {g B : Nat} {T : TypeId} {cs : Array Value} {l : List CallR} (h : Blk w g T cs) (e : cs.toList = flatC l) (hB : g < B) (hok : ∀ i, i < l.length → COk w B (l.getD i dC)) : CSl w B (some ⟨g, 0, none⟩) l.length l := by
  refine ⟨rfl, hok, fun hn => ⟨g, 0, rfl, hB, fun i j hi hj => ?_⟩⟩
  rw [Nat.zero_add, h.cell, ← flatC_at l i j hj hi, ← e]
  simp
theorem csl_blk0 {w : World} {g : Nat} {T : TypeId} {cs : Array Value} {l : List CallR} (h : Blk w g T cs) (e : cs.toList = flatC l) (hok : ∀ i, i < l.length → COk w w.heap.size (l.getD i dC)) : CSl w w.heap.size (some ⟨g, 0, none⟩) l.length l := csl_blk h e h.lt hok
theorem csl_nil (w : World) (B : Nat) : CSl w B none 0 [] := ⟨rfl, fun i hi => absurd hi (by simp), fun h => absurd h (by omega)⟩

def exG (g : Nat) : CallR := ⟨3, 0, none, 0, 0, [], 3, 4, 0, some ⟨g, 0, none⟩, 1, 1, [1#8]⟩
def exP (g : Nat) : CallR := ⟨1, 0, some ⟨g, 0, none⟩, 1, 1, [1#8], 1, 2, 0, none, 0, 0, []⟩
theorem bsl_one {w : World} {g B : Nat} {T : TypeId} (h : Blk w g T #[.int .u8 1]) (hB : g < B) : BSl w B (some ⟨g, 0, none⟩) 1 [1#8] :=
  ⟨rfl, fun _ => ⟨g, 0, rfl, hB, fun k hk => by obtain rfl : k = 0 := by omega
                                                exact h.cell 0⟩⟩
theorem exG_ok {w : World} {g B : Nat} {T : TypeId} (h : Blk w g T #[.int .u8 1]) (hB : g < B) : COk w B (exG g) :=
  ⟨BSl.nil _ _ _, bsl_one h hB, by simp [exG], by simp [exG], by simp [exG], by simp [exG], by simp [exG], by simp [exG], by simp [exG], by simp [exG], by simp [exG], by simp [exG]⟩
theorem exP_ok {w : World} {g B : Nat} {T : TypeId} (h : Blk w g T #[.int .u8 1]) (hB : g < B) : COk w B (exP g) :=
  ⟨bsl_one h hB, BSl.nil _ _ _, by simp [exP], by simp [exP], by simp [exP], by simp [exP], by simp [exP], by simp [exP], by simp [exP], by simp [exP], by simp [exP], by simp [exP]⟩

theorem ex1 (g : Nat) : Hst.linear [exG g] = false := by rfl
theorem ex2 (g p : Nat) : Hst.linear [exG g, exP p] = true := by rfl
theorem ex3 : Hst.linear [] = true := by rfl

theorem Blk.made1 (w : World) (o : Obj) (t : TypeId) (cs : Array Value) : Blk ((w.alloc o).alloc (.cells cs t)) (w.heap.size + 1) t cs := by
  have := Blk.made (w.alloc o) t cs
  simpa using this
theorem Blk.made2 (w : World) (o p : Obj) (t : TypeId) (cs : Array Value) : Blk (((w.alloc o).alloc p).alloc (.cells cs t)) (w.heap.size + 2) t cs := by
  have := Blk.made ((w.alloc o).alloc p) t cs
  simpa using this
theorem Blk.made3 (w : World) (o p q : Obj) (t : TypeId) (cs : Array Value) : Blk ((((w.alloc o).alloc p).alloc q).alloc (.cells cs t)) (w.heap.size + 3) t cs := by
  have := Blk.made (((w.alloc o).alloc p).alloc q) t cs
  simpa using this
theorem below_four (w : World) (o p q r : Obj) : Below w.heap.size w ((((w.alloc o).alloc p).alloc q).alloc r) :=
  ((((Below.refl _ _).alloc (Nat.le_refl _) _).alloc (by simp) _).alloc (by simp; omega) _).alloc (by simp; omega) _

set_option maxRecDepth 100000 in
set_option maxHeartbeats 2000000 in
theorem hist_alive (w : World) : Calls Try.prog 13 #[] w fun e w' => e = .returned (.bool true) ∧ Below w.heap.size w w' := by
  go_enter Try.func13, Try.ntmps13
  go_upto_region 3 with fail
  have b0 := (((Blk.made w 5 #[.int .u8 1]).alloc (.cells #[.int .i64 3, .int .u32 0, .slice none 0 0, .int .i64 3, .int .i64 4, .int .i64 0, .slice (some ⟨w.heap.size, 0, none⟩) 1 1] 39)).alloc (.cells #[.int .u8 1] 5)).alloc (.cells #[.int .i64 1, .int .u32 0, .slice (some ⟨w.heap.size + 2, 0, none⟩) 1 1, .int .i64 1, .int .i64 2, .int .i64 0, .slice none 0 0] 39)
  have b1 := ((Blk.made1 w (.cells #[.int .u8 1] 5) 39 #[.int .i64 3, .int .u32 0, .slice none 0 0, .int .i64 3, .int .i64 4, .int .i64 0, .slice (some ⟨w.heap.size, 0, none⟩) 1 1]).alloc (.cells #[.int .u8 1] 5)).alloc (.cells #[.int .i64 1, .int .u32 0, .slice (some ⟨w.heap.size + 2, 0, none⟩) 1 1, .int .i64 1, .int .i64 2, .int .i64 0, .slice none 0 0] 39)
  have b2 := (Blk.made2 w (.cells #[.int .u8 1] 5) (.cells #[.int .i64 3, .int .u32 0, .slice none 0 0, .int .i64 3, .int .i64 4, .int .i64 0, .slice (some ⟨w.heap.size, 0, none⟩) 1 1] 39) 5 #[.int .u8 1]).alloc (.cells #[.int .i64 1, .int .u32 0, .slice (some ⟨w.heap.size + 2, 0, none⟩) 1 1, .int .i64 1, .int .i64 2, .int .i64 0, .slice none 0 0] 39)
  have b3 := Blk.made3 w (.cells #[.int .u8 1] 5) (.cells #[.int .i64 3, .int .u32 0, .slice none 0 0, .int .i64 3, .int .i64 4, .int .i64 0, .slice (some ⟨w.heap.size, 0, none⟩) 1 1] 39) (.cells #[.int .u8 1] 5) 39 #[.int .i64 1, .int .u32 0, .slice (some ⟨w.heap.size + 2, 0, none⟩) 1 1, .int .i64 1, .int .i64 2, .int .i64 0, .slice none 0 0]
  have BA := below_four w (.cells #[.int .u8 1] 5) (.cells #[.int .i64 3, .int .u32 0, .slice none 0 0, .int .i64 3, .int .i64 4, .int .i64 0, .slice (some ⟨w.heap.size, 0, none⟩) 1 1] 39) (.cells #[.int .u8 1] 5) (.cells #[.int .i64 1, .int .u32 0, .slice (some ⟨w.heap.size + 2, 0, none⟩) 1 1, .int .i64 1, .int .i64 2, .int .i64 0, .slice none 0 0] 39)
  generalize (((w.alloc (.cells #[.int .u8 1] 5)).alloc (.cells #[.int .i64 3, .int .u32 0, .slice none 0 0, .int .i64 3, .int .i64 4, .int .i64 0, .slice (some ⟨w.heap.size, 0, none⟩) 1 1] 39)).alloc (.cells #[.int .u8 1] 5)).alloc (.cells #[.int .i64 1, .int .u32 0, .slice (some ⟨w.heap.size + 2, 0, none⟩) 1 1, .int .i64 1, .int .i64 2, .int .i64 0, .slice none 0 0] 39) = w4 at *
  have HBA := Lib.hid fun (W : World) (B : Below w4.heap.size w4 W) => BA.trans (B.mono BA.size)
  generalize hs : w.heap.size = s at *
  have HS := Lib.hid hs
  clear hs
  have HB1 := Lib.hid fun (W : World) (B : Below w4.heap.size w4 W) => (b1.below B b1.lt).seven
  have HB3 := Lib.hid fun (W : World) (B : Below w4.heap.size w4 W) => (b3.below B b3.lt).seven
  have HG := Lib.hid fun (W : World) (B : Below w4.heap.size w4 W) => exG_ok (b0.below B b0.lt) (Nat.lt_of_lt_of_le b0.lt B.size)
  have HP := Lib.hid fun (W : World) (B : Below w4.heap.size w4 W) => exP_ok (b2.below B b2.lt) (Nat.lt_of_lt_of_le b2.lt B.size)
  obtain ⟨k0, k1, k2, k3, k4, k5, k6⟩ := HB1.out w4 (Below.refl _ _)
  clear b0 b1 b2 b3 BA
  have C1 := csl_blk0 (Blk.made w4 39 #[.int .i64 3, .int .u32 0, .slice none 0 0, .int .i64 3, .int .i64 4, .int .i64 0, .slice (some ⟨s, 0, none⟩) 1 1]) (l := [exG s]) rfl (fun i hi => by
    obtain rfl : i = 0 := by simpa using hi
    exact HG.out _ ((Below.refl _ _).alloc (Nat.le_refl _) _))
  have L1 := linear_any _ _ 1 _ _ C1 (by simp)
  rw [ex1] at L1
  have L1 := Lib.hid L1
  have HBL1 := Lib.hid ((Below.refl w4.heap.size w4).alloc (Nat.le_refl _) (.cells #[.int .i64 3, .int .u32 0, .slice none 0 0, .int .i64 3, .int .i64 4, .int .i64 0, .slice (some ⟨s, 0, none⟩) 1 1] 39))
  clear C1
  go_wp2_with fail
  refine L1.out.mono ?_
  rintro e w5 ⟨rfl, B5⟩
  have B5 := HBL1.out.trans (B5.mono HBL1.out.size)
  clear k0 k1 k2 k3 k4 k5 k6
  obtain ⟨k0, k1, k2, k3, k4, k5, k6⟩ := HB1.out w5 B5
  obtain ⟨m0, m1, m2, m3, m4, m5, m6⟩ := HB3.out w5 B5
  have C2 := csl_blk0 (Blk.made w5 39 #[.int .i64 3, .int .u32 0, .slice none 0 0, .int .i64 3, .int .i64 4, .int .i64 0, .slice (some ⟨s, 0, none⟩) 1 1, .int .i64 1, .int .u32 0, .slice (some ⟨s + 2, 0, none⟩) 1 1, .int .i64 1, .int .i64 2, .int .i64 0, .slice none 0 0]) (l := [exG s, exP (s + 2)]) rfl (fun i hi => by
    have hi : i < 2 := hi
    have hB := B5.alloc B5.size (.cells #[.int .i64 3, .int .u32 0, .slice none 0 0, .int .i64 3, .int .i64 4, .int .i64 0, .slice (some ⟨s, 0, none⟩) 1 1, .int .i64 1, .int .u32 0, .slice (some ⟨s + 2, 0, none⟩) 1 1, .int .i64 1, .int .i64 2, .int .i64 0, .slice none 0 0] 39)
    rcases (show i = 0 ∨ i = 1 by omega) with rfl | rfl
    · exact HG.out _ hB
    · exact HP.out _ hB)
  have L2 := linear_any _ _ 2 _ _ C2 (by simp)
  rw [ex2] at L2
  have L2 := Lib.hid L2
  have HBL2 := Lib.hid (B5.alloc B5.size (.cells #[.int .i64 3, .int .u32 0, .slice none 0 0, .int .i64 3, .int .i64 4, .int .i64 0, .slice (some ⟨s, 0, none⟩) 1 1, .int .i64 1, .int .u32 0, .slice (some ⟨s + 2, 0, none⟩) 1 1, .int .i64 1, .int .i64 2, .int .i64 0, .slice none 0 0] 39))
  clear C2 B5
  go_wp2_with fail
  refine L2.out.mono ?_
  rintro e w6 ⟨rfl, B6⟩
  have B6 := HBL2.out.trans (B6.mono HBL2.out.size)
  have L3 := linear_any none 0 0 [] w6 (csl_nil _ _) (by decide)
  rw [ex3] at L3
  have L3 := Lib.hid L3
  have HB6 := Lib.hid B6
  clear B6 k0 k1 k2 k3 k4 k5 k6 m0 m1 m2 m3 m4 m5 m6
  go_wp2_with fail
  refine L3.out.mono ?_
  rintro e w7 ⟨rfl, B7⟩
  have HBE := Lib.hid (HBA.out _ (HB6.out.trans (B7.mono HB6.out.size)))
  clear B7
  go_wp2_with fail
  go_ret
  exact ⟨rfl, by rw [HS.out]; exact HBE.out⟩

end Go.Proofs.Ytboadalojimdlaa
