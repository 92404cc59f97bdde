/-
  client.Run.first.
-/
import Derived.Test.YtboadalojimdlaaClRun
namespace Go.Proofs.Ytboadalojimdlaa
open Go.RowKit

/-- A run, whether or not it is asked again. -/
def AgR (w : World) (B : Nat) (r : RunR) : Prop := ∃ ag, RBl w B { r with again := ag }
section
variable {w : World} {B : Nat} {T : TypeId} {r : RunR}
theorem run_code (h : Blk w B T r.cells.toArray) (c : Int) : Blk (w.setCell ⟨B, 21, none⟩ (.int .i64 c)) B T ({ r with code := c } : RunR).cells.toArray := by
  obtain ⟨⟨_, _, _, _, _, _, _, _, _, _, _, _, _, _, _, _, _⟩, _, _, _, ⟨_, _, _, _, _, _, _⟩, _, ⟨_, _, _, _, _, _, _⟩⟩ := r
  exact h.put 21 _
theorem run_st (h : Blk w B T r.cells.toArray) (c : Int) : Blk (w.setCell ⟨B, 14, none⟩ (.int .i64 c)) B T ({ r with st := c } : RunR).cells.toArray := by
  obtain ⟨⟨_, _, _, _, _, _, _, _, _, _, _, _, _, _, _, _, _⟩, _, _, _, ⟨_, _, _, _, _, _, _⟩, _, ⟨_, _, _, _, _, _, _⟩⟩ := r
  exact h.put 14 _
theorem run_y (h : Blk w B T r.cells.toArray) (y : NdC) : Blk ((((w.setCell ⟨B, 17, none⟩ (.int .u64 y.key)).setCell ⟨B, 18, none⟩ (.int .u32 y.ck)).setCell ⟨B, 19, none⟩ (.bool y.g)).setCell ⟨B, 20, none⟩ (.slice y.a y.n y.c)) B T ({ r with y := y } : RunR).cells.toArray := by
  obtain ⟨⟨_, _, _, _, _, _, _, _, _, _, _, _, _, _, _, _, _⟩, _, _, _, ⟨_, _, _, _, _, _, _⟩, _, ⟨_, _, _, _, _, _, _⟩⟩ := r
  obtain ⟨key, ck, g, a, n, c, l⟩ := y
  exact (((h.put 17 (.int .u64 key)).put 18 (.int .u32 ck)).put 19 (.bool g)).put 20 (.slice a n c)
theorem run_yg (h : Blk w B T r.cells.toArray) (g : Bool) : Blk (w.setCell ⟨B, 19, none⟩ (.bool g)) B T ({ r with y := { r.y with g := g } } : RunR).cells.toArray := by
  obtain ⟨⟨_, _, _, _, _, _, _, _, _, _, _, _, _, _, _, _, _⟩, _, _, _, ⟨_, _, _, _, _, _, _⟩, _, ⟨_, _, _, _, _, _, _⟩⟩ := r
  exact h.put 19 _
theorem run_again (h : Blk w B T r.cells.toArray) (g : Bool) : Blk (w.setCell ⟨B, 16, none⟩ (.bool g)) B T ({ r with again := g } : RunR).cells.toArray := by
  obtain ⟨⟨_, _, _, _, _, _, _, _, _, _, _, _, _, _, _, _, _⟩, _, _, _, ⟨_, _, _, _, _, _, _⟩, _, ⟨_, _, _, _, _, _, _⟩⟩ := r
  exact h.put 16 _
theorem run_l0 (h : Blk w B T r.cells.toArray) (c : Int) : Blk (w.setCell ⟨B, 7, none⟩ (.int .i64 c)) B T ({ r with o := { r.o with l0 := c } } : RunR).cells.toArray := by
  obtain ⟨⟨_, _, _, _, _, _, _, _, _, _, _, _, _, _, _, _, _⟩, _, _, _, ⟨_, _, _, _, _, _, _⟩, _, ⟨_, _, _, _, _, _, _⟩⟩ := r
  exact h.put 7 _
theorem run_l1 (h : Blk w B T r.cells.toArray) (c : Int) : Blk (w.setCell ⟨B, 8, none⟩ (.int .i64 c)) B T ({ r with o := { r.o with l1 := c } } : RunR).cells.toArray := by
  obtain ⟨⟨_, _, _, _, _, _, _, _, _, _, _, _, _, _, _, _, _⟩, _, _, _, ⟨_, _, _, _, _, _, _⟩, _, ⟨_, _, _, _, _, _, _⟩⟩ := r
  exact h.put 8 _
theorem run_l2 (h : Blk w B T r.cells.toArray) (c : Int) : Blk (w.setCell ⟨B, 9, none⟩ (.int .i64 c)) B T ({ r with o := { r.o with l2 := c } } : RunR).cells.toArray := by
  obtain ⟨⟨_, _, _, _, _, _, _, _, _, _, _, _, _, _, _, _, _⟩, _, _, _, ⟨_, _, _, _, _, _, _⟩, _, ⟨_, _, _, _, _, _, _⟩⟩ := r
  exact h.put 9 _
end

set_option maxRecDepth 100000 in
set_option maxHeartbeats 1000000 in
theorem first_get {B : Nat} {r : RunR} (w : World) (m : MsgR) (h : RBl w B r) (hb : BOk w m.a m.n m.c m.l) (hkd : r.o.kd = 3) (hcd : m.cd = 0) :
    Calls Try.prog 61 #[.pointer (some ⟨B, 0, none⟩), m.vals] w fun e w' => e = .returned (.tuple #[]) ∧ RBl w' B { r with st := 3, code := 0, z := ⟨m.key, m.ck, m.g, m.a, m.n, m.c, m.l⟩ } ∧ w.grownBy w' (some B) := by
  obtain ⟨W1, hW1⟩ : ∃ W, w.alloc (.cells #[.int .i64 m.fr, .int .i64 m.tt, .int .i64 m.kd, .int .i64 m.vol, .int .i64 m.life, .int .u64 m.id, .int .i64 m.cd, .bool m.has, .int .u64 m.key, .int .u32 m.ck, .bool m.g, .slice m.a m.n m.c] 53) = W := ⟨_, rfl⟩
  have HB1 := Lib.hid (show Below w.heap.size w W1 from by rw [← hW1]; exact (Below.refl _ _).alloc (Nat.le_refl _) _)
  have hM : Blk W1 w.heap.size 53 #[.int .i64 m.fr, .int .i64 m.tt, .int .i64 m.kd, .int .i64 m.vol, .int .i64 m.life, .int .u64 m.id, .int .i64 m.cd, .bool m.has, .int .u64 m.key, .int .u32 m.ck, .bool m.g, .slice m.a m.n m.c] := by rw [← hW1]; exact Blk.made w _ _
  have HS1 := Lib.hid (show W1.heap.size = w.heap.size + 1 from by rw [← hW1]; simp)
  have HH := Lib.hid h
  have HL := Lib.hid h.k.lt
  have HR1 := Lib.hid (h.on HB1.out)
  have HBM := Lib.hid (hb.on HB1.out)
  obtain ⟨m0, m1, m2, m3, m4, m5, m6, m7, m8, m9, m10, m11⟩ := hM.twelve
  obtain ⟨k0, -, -, -, -, -, -, -, -, -, -, -, -, -, -, -, -, -, -, -, -, -, -, -, -, -⟩ := run_cells HR1.out.k
  rw [hcd] at m6
  rw [hkd] at k0
  have EO := Lib.hid (rover_any W1 0 ⟨m.key, m.ck, m.g, m.a, m.n, m.c, m.l⟩ HR1.out HBM.out)
  rw [show NdC.vals ⟨m.key, m.ck, m.g, m.a, m.n, m.c, m.l⟩ = .agg #[.int .u64 m.key, .int .u32 m.ck, .bool m.g, .slice m.a m.n m.c] from rfl] at EO
  unfold MsgR.vals
  clear h hb hkd hcd hM
  go_enter Try.func61, Try.ntmps61
  go_wp2_with fail
  refine EO.out.mono ?_
  rintro e w2 ⟨rfl, hR, hG⟩
  have HR := Lib.hid hR
  have HG := Lib.hid (grown_trans (grown_of HB1.out) hG)
  clear hR hG hW1
  go_wp2_with fail
  exact bodyPost_ret (v := .tuple #[]) (by simp [results, Try.results61, go_sem]) rfl ⟨rfl, HR.out, HG.out⟩
set_option maxRecDepth 100000 in
set_option maxHeartbeats 1000000 in
theorem first_put {B : Nat} {r : RunR} (w : World) (m : MsgR) (h : RBl w B r) (hb : BOk w m.a m.n m.c m.l) (hkd : r.o.kd ≠ 3) (hcd : m.cd = 0) :
    Calls Try.prog 61 #[.pointer (some ⟨B, 0, none⟩), m.vals] w fun e w' => e = .returned (.tuple #[]) ∧ RBl w' B { r with st := 1, code := 0, y := ⟨r.o.key, r.o.ck, r.o.kd == 4, r.o.a, r.o.n, r.o.c, r.o.l⟩ } ∧ w.grownBy w' (some B) := by
  obtain ⟨W1, hW1⟩ : ∃ W, w.alloc (.cells #[.int .i64 m.fr, .int .i64 m.tt, .int .i64 m.kd, .int .i64 m.vol, .int .i64 m.life, .int .u64 m.id, .int .i64 m.cd, .bool m.has, .int .u64 m.key, .int .u32 m.ck, .bool m.g, .slice m.a m.n m.c] 53) = W := ⟨_, rfl⟩
  have HB1 := Lib.hid (show Below w.heap.size w W1 from by rw [← hW1]; exact (Below.refl _ _).alloc (Nat.le_refl _) _)
  have hM : Blk W1 w.heap.size 53 #[.int .i64 m.fr, .int .i64 m.tt, .int .i64 m.kd, .int .i64 m.vol, .int .i64 m.life, .int .u64 m.id, .int .i64 m.cd, .bool m.has, .int .u64 m.key, .int .u32 m.ck, .bool m.g, .slice m.a m.n m.c] := by rw [← hW1]; exact Blk.made w _ _
  have HS1 := Lib.hid (show W1.heap.size = w.heap.size + 1 from by rw [← hW1]; simp)
  have HH := Lib.hid h
  have HL := Lib.hid h.k.lt
  have HR1 := Lib.hid (h.on HB1.out)
  have HBM := Lib.hid (hb.on HB1.out)
  obtain ⟨m0, m1, m2, m3, m4, m5, m6, m7, m8, m9, m10, m11⟩ := hM.twelve
  obtain ⟨k0, -, -, -, -, -, -, -, -, -, k10, k11, k12, k13, k14, -, k16, k17, k18, k19, k20, k21, -, -, -, -⟩ := run_cells HR1.out.k
  obtain ⟨-, -, -, -, -, -, -, -, -, -, -, -, -, -, f14, -, -, f17, f18, f19, f20, f21, -, -, -, -⟩ := run_frozen HR1.out.k
  have HK := Lib.hid HR1.out.k
  have HKD := Lib.hid hkd
  rw [hcd] at m6
  unfold MsgR.vals
  clear h hb hkd hcd hM HBM
  have h2 : r.again = false ∨ r.again = true := by cases r.again <;> simp
  rcases h2 with hag | hag
  all_goals (have HAG := Lib.hid hag; rw [hag] at k16; clear hag)
  · have b0 : (r.o.kd == 3) = false := eq_f HKD.out
    go_enter Try.func61, Try.ntmps61
    go_wp2_with fail
    try clear hW1
    have hk1 : Blk _ B 113 ({ r with code := 0 } : RunR).cells.toArray := run_code HK.out 0
    have hk2 : Blk _ B 113 ({ r with code := 0, y := ⟨r.o.key, r.o.ck, r.o.g, r.o.a, r.o.n, r.o.c, r.o.l⟩ } : RunR).cells.toArray := run_y hk1 ⟨r.o.key, r.o.ck, r.o.g, r.o.a, r.o.n, r.o.c, r.o.l⟩
    have hk3 : Blk _ B 113 ({ r with code := 0, y := ⟨r.o.key, r.o.ck, r.o.kd == 4, r.o.a, r.o.n, r.o.c, r.o.l⟩ } : RunR).cells.toArray := run_yg hk2 (r.o.kd == 4)
    have hk : Blk _ B 113 ({ r with st := 1, code := 0, y := ⟨r.o.key, r.o.ck, r.o.kd == 4, r.o.a, r.o.n, r.o.c, r.o.l⟩ } : RunR).cells.toArray := run_st hk3 1
    clear hk1 hk2 hk3
    have hg := grown_trans (grown_of HB1.out) (grown_put (grown_put (grown_put (grown_put (grown_put (grown_put (grown_put (grown_refl W1 (some B)) 21 (.int .i64 0)) 17 (.int .u64 r.o.key)) 18 (.int .u32 r.o.ck)) 19 (.bool r.o.g)) 20 (.slice r.o.a r.o.n r.o.c)) 19 (.bool (r.o.kd == 4))) 14 (.int .i64 1))
    exact bodyPost_end (v := .tuple #[]) (by simp [results, Try.results61, go_sem]) rfl ⟨rfl, by first | exact ⟨hk, HH.out.o.apart HH.out hg, HH.out.o.apart HH.out hg, HH.out.z.apart HH.out hg⟩ | (rw [HAG.out] at hk; exact ⟨hk, HH.out.o.apart HH.out hg, HH.out.o.apart HH.out hg, HH.out.z.apart HH.out hg⟩), hg⟩
  · have b0 : (r.o.kd == 3) = false := eq_f HKD.out
    go_enter Try.func61, Try.ntmps61
    go_wp2_with fail
    try clear hW1
    have hk1 : Blk _ B 113 ({ r with code := 0 } : RunR).cells.toArray := run_code HK.out 0
    have hk2 : Blk _ B 113 ({ r with code := 0, y := ⟨r.o.key, r.o.ck, r.o.g, r.o.a, r.o.n, r.o.c, r.o.l⟩ } : RunR).cells.toArray := run_y hk1 ⟨r.o.key, r.o.ck, r.o.g, r.o.a, r.o.n, r.o.c, r.o.l⟩
    have hk3 : Blk _ B 113 ({ r with code := 0, y := ⟨r.o.key, r.o.ck, r.o.kd == 4, r.o.a, r.o.n, r.o.c, r.o.l⟩ } : RunR).cells.toArray := run_yg hk2 (r.o.kd == 4)
    have hk : Blk _ B 113 ({ r with st := 1, code := 0, y := ⟨r.o.key, r.o.ck, r.o.kd == 4, r.o.a, r.o.n, r.o.c, r.o.l⟩ } : RunR).cells.toArray := run_st hk3 1
    clear hk1 hk2 hk3
    have hg := grown_trans (grown_of HB1.out) (grown_put (grown_put (grown_put (grown_put (grown_put (grown_put (grown_put (grown_refl W1 (some B)) 21 (.int .i64 0)) 17 (.int .u64 r.o.key)) 18 (.int .u32 r.o.ck)) 19 (.bool r.o.g)) 20 (.slice r.o.a r.o.n r.o.c)) 19 (.bool (r.o.kd == 4))) 14 (.int .i64 1))
    exact bodyPost_end (v := .tuple #[]) (by simp [results, Try.results61, go_sem]) rfl ⟨rfl, by first | exact ⟨hk, HH.out.o.apart HH.out hg, HH.out.o.apart HH.out hg, HH.out.z.apart HH.out hg⟩ | (rw [HAG.out] at hk; exact ⟨hk, HH.out.o.apart HH.out hg, HH.out.o.apart HH.out hg, HH.out.z.apart HH.out hg⟩), hg⟩
set_option maxRecDepth 100000 in
set_option maxHeartbeats 1000000 in
theorem first_met {B : Nat} {r : RunR} (w : World) (m : MsgR) (h : RBl w B r) (hb : BOk w m.a m.n m.c m.l) (hkd : r.o.kd ≠ 3) (hcd : m.cd = 7 ∨ m.cd = 8 ∨ m.cd = 9) (hha : m.has = true) (hag : r.again = false) :
    Calls Try.prog 61 #[.pointer (some ⟨B, 0, none⟩), m.vals] w fun e w' => e = .returned (.tuple #[]) ∧ RBl w' B { r with st := 1, code := m.cd, y := ⟨m.key, m.ck, m.g, m.a, m.n, m.c, m.l⟩ } ∧ w.grownBy w' (some B) := by
  obtain ⟨W1, hW1⟩ : ∃ W, w.alloc (.cells #[.int .i64 m.fr, .int .i64 m.tt, .int .i64 m.kd, .int .i64 m.vol, .int .i64 m.life, .int .u64 m.id, .int .i64 m.cd, .bool m.has, .int .u64 m.key, .int .u32 m.ck, .bool m.g, .slice m.a m.n m.c] 53) = W := ⟨_, rfl⟩
  have HB1 := Lib.hid (show Below w.heap.size w W1 from by rw [← hW1]; exact (Below.refl _ _).alloc (Nat.le_refl _) _)
  have hM : Blk W1 w.heap.size 53 #[.int .i64 m.fr, .int .i64 m.tt, .int .i64 m.kd, .int .i64 m.vol, .int .i64 m.life, .int .u64 m.id, .int .i64 m.cd, .bool m.has, .int .u64 m.key, .int .u32 m.ck, .bool m.g, .slice m.a m.n m.c] := by rw [← hW1]; exact Blk.made w _ _
  have HS1 := Lib.hid (show W1.heap.size = w.heap.size + 1 from by rw [← hW1]; simp)
  have HH := Lib.hid h
  have HL := Lib.hid h.k.lt
  have HR1 := Lib.hid (h.on HB1.out)
  have HBM := Lib.hid (hb.on HB1.out)
  obtain ⟨m0, m1, m2, m3, m4, m5, m6, m7, m8, m9, m10, m11⟩ := hM.twelve
  obtain ⟨k0, -, -, -, -, -, -, -, -, -, -, -, -, -, k14, -, k16, k17, k18, k19, k20, k21, -, -, -, -⟩ := run_cells HR1.out.k
  obtain ⟨-, -, -, -, -, -, -, -, -, -, -, -, -, -, f14, -, -, f17, f18, f19, f20, f21, -, -, -, -⟩ := run_frozen HR1.out.k
  have HK := Lib.hid HR1.out.k
  have HNE := Lib.hid (show B ≠ w.heap.size from by have := HL.out; omega)
  have HCD := Lib.hid (show ∃ c, m.cd = c from ⟨_, rfl⟩)
  have b0 : (r.o.kd == 3) = false := eq_f hkd
  have HAG := Lib.hid hag
  have HHA := Lib.hid hha
  rw [hag] at k16
  rw [hha] at m7
  unfold MsgR.vals
  have hb' := Lib.hid hb
  have hM' := hM
  clear h hb hkd hha hM hag
  clear HCD
  have HM := Lib.hid hM'
  clear hM'
  rcases hcd with hcd | hcd | hcd
  · have HC := Lib.hid hcd
    rw [hcd] at m6
    clear hcd
    have HK2 := Lib.hid (show Blk (W1.setCell ⟨B, 21, none⟩ (.int .i64 7)) B 113 ({ r with code := 7 } : RunR).cells.toArray from run_code HK.out 7)
    go_enter Try.func61, Try.ntmps61
    go_upto_region 7 with fail
    try clear hW1
    obtain ⟨W2, hW2, hk1, hg1⟩ : ∃ X, W1.setCell ⟨B, 21, none⟩ (.int .i64 7) = X ∧ Blk X B 113 ({ r with code := 7 } : RunR).cells.toArray ∧ W1.grownBy X (some B) := ⟨_, rfl, HK2.out, grown_put (grown_refl _ _) 21 _⟩
    have HK3 := Lib.hid hk1
    have HG1 := Lib.hid hg1
    have hM2 := HM.out.grown hg1 (by intro e; injection e with e; exact HNE.out e.symm)
    rw [hW2]
    clear hW2 HK2 m0 m1 m2 m3 m4 m5 m6 m7 m8 m9 m10 m11 k0 k14 k16 k17 k18 k19 k20 k21 f14 f17 f18 f19 f20 f21
    obtain ⟨-, -, -, -, -, -, m6, m7, m8, m9, m10, m11⟩ := hM2.twelve
    rw [HHA.out] at m7
    rw [HC.out] at m6
    obtain ⟨k0, -, -, -, -, -, -, -, -, -, -, -, -, -, k14, -, k16, k17, k18, k19, k20, k21, -, -, -, -⟩ := run_cells hk1
    obtain ⟨-, -, -, -, -, -, -, -, -, -, -, -, -, -, f14, -, -, f17, f18, f19, f20, f21, -, -, -, -⟩ := run_frozen hk1
    replace k16 : W2.cell? ⟨B, 16, none⟩ = some (.bool false) := by rw [← HAG.out]; exact k16
    clear hk1 hg1 hM2
    go_wp2_with fail
    have hk2 : Blk _ B 113 ({ r with code := 7, y := ⟨m.key, m.ck, m.g, m.a, m.n, m.c, m.l⟩ } : RunR).cells.toArray := run_y HK3.out ⟨m.key, m.ck, m.g, m.a, m.n, m.c, m.l⟩
    have hk : Blk _ B 113 ({ r with st := 1, code := 7, y := ⟨m.key, m.ck, m.g, m.a, m.n, m.c, m.l⟩ } : RunR).cells.toArray := run_st hk2 1
    clear hk2
    have hg := grown_trans (grown_of HB1.out) (grown_trans HG1.out (grown_put (grown_put (grown_put (grown_put (grown_put (grown_refl W2 (some B)) 17 (.int .u64 m.key)) 18 (.int .u32 m.ck)) 19 (.bool m.g)) 20 (.slice m.a m.n m.c)) 14 (.int .i64 1)))
    exact bodyPost_end (v := .tuple #[]) (by simp [results, Try.results61, go_sem]) rfl ⟨rfl, by rw [HC.out]; exact ⟨hk, HH.out.o.apart HH.out hg, hb'.out.apart HH.out hg, HH.out.z.apart HH.out hg⟩, hg⟩
  · have HC := Lib.hid hcd
    rw [hcd] at m6
    clear hcd
    have HK2 := Lib.hid (show Blk (W1.setCell ⟨B, 21, none⟩ (.int .i64 8)) B 113 ({ r with code := 8 } : RunR).cells.toArray from run_code HK.out 8)
    go_enter Try.func61, Try.ntmps61
    go_upto_region 7 with fail
    try clear hW1
    obtain ⟨W2, hW2, hk1, hg1⟩ : ∃ X, W1.setCell ⟨B, 21, none⟩ (.int .i64 8) = X ∧ Blk X B 113 ({ r with code := 8 } : RunR).cells.toArray ∧ W1.grownBy X (some B) := ⟨_, rfl, HK2.out, grown_put (grown_refl _ _) 21 _⟩
    have HK3 := Lib.hid hk1
    have HG1 := Lib.hid hg1
    have hM2 := HM.out.grown hg1 (by intro e; injection e with e; exact HNE.out e.symm)
    rw [hW2]
    clear hW2 HK2 m0 m1 m2 m3 m4 m5 m6 m7 m8 m9 m10 m11 k0 k14 k16 k17 k18 k19 k20 k21 f14 f17 f18 f19 f20 f21
    obtain ⟨-, -, -, -, -, -, m6, m7, m8, m9, m10, m11⟩ := hM2.twelve
    rw [HHA.out] at m7
    rw [HC.out] at m6
    obtain ⟨k0, -, -, -, -, -, -, -, -, -, -, -, -, -, k14, -, k16, k17, k18, k19, k20, k21, -, -, -, -⟩ := run_cells hk1
    obtain ⟨-, -, -, -, -, -, -, -, -, -, -, -, -, -, f14, -, -, f17, f18, f19, f20, f21, -, -, -, -⟩ := run_frozen hk1
    replace k16 : W2.cell? ⟨B, 16, none⟩ = some (.bool false) := by rw [← HAG.out]; exact k16
    clear hk1 hg1 hM2
    go_wp2_with fail
    have hk2 : Blk _ B 113 ({ r with code := 8, y := ⟨m.key, m.ck, m.g, m.a, m.n, m.c, m.l⟩ } : RunR).cells.toArray := run_y HK3.out ⟨m.key, m.ck, m.g, m.a, m.n, m.c, m.l⟩
    have hk : Blk _ B 113 ({ r with st := 1, code := 8, y := ⟨m.key, m.ck, m.g, m.a, m.n, m.c, m.l⟩ } : RunR).cells.toArray := run_st hk2 1
    clear hk2
    have hg := grown_trans (grown_of HB1.out) (grown_trans HG1.out (grown_put (grown_put (grown_put (grown_put (grown_put (grown_refl W2 (some B)) 17 (.int .u64 m.key)) 18 (.int .u32 m.ck)) 19 (.bool m.g)) 20 (.slice m.a m.n m.c)) 14 (.int .i64 1)))
    exact bodyPost_end (v := .tuple #[]) (by simp [results, Try.results61, go_sem]) rfl ⟨rfl, by rw [HC.out]; exact ⟨hk, HH.out.o.apart HH.out hg, hb'.out.apart HH.out hg, HH.out.z.apart HH.out hg⟩, hg⟩
  · have HC := Lib.hid hcd
    rw [hcd] at m6
    clear hcd
    have HK2 := Lib.hid (show Blk (W1.setCell ⟨B, 21, none⟩ (.int .i64 9)) B 113 ({ r with code := 9 } : RunR).cells.toArray from run_code HK.out 9)
    go_enter Try.func61, Try.ntmps61
    go_upto_region 7 with fail
    try clear hW1
    obtain ⟨W2, hW2, hk1, hg1⟩ : ∃ X, W1.setCell ⟨B, 21, none⟩ (.int .i64 9) = X ∧ Blk X B 113 ({ r with code := 9 } : RunR).cells.toArray ∧ W1.grownBy X (some B) := ⟨_, rfl, HK2.out, grown_put (grown_refl _ _) 21 _⟩
    have HK3 := Lib.hid hk1
    have HG1 := Lib.hid hg1
    have hM2 := HM.out.grown hg1 (by intro e; injection e with e; exact HNE.out e.symm)
    rw [hW2]
    clear hW2 HK2 m0 m1 m2 m3 m4 m5 m6 m7 m8 m9 m10 m11 k0 k14 k16 k17 k18 k19 k20 k21 f14 f17 f18 f19 f20 f21
    obtain ⟨-, -, -, -, -, -, m6, m7, m8, m9, m10, m11⟩ := hM2.twelve
    rw [HHA.out] at m7
    rw [HC.out] at m6
    obtain ⟨k0, -, -, -, -, -, -, -, -, -, -, -, -, -, k14, -, k16, k17, k18, k19, k20, k21, -, -, -, -⟩ := run_cells hk1
    obtain ⟨-, -, -, -, -, -, -, -, -, -, -, -, -, -, f14, -, -, f17, f18, f19, f20, f21, -, -, -, -⟩ := run_frozen hk1
    replace k16 : W2.cell? ⟨B, 16, none⟩ = some (.bool false) := by rw [← HAG.out]; exact k16
    clear hk1 hg1 hM2
    go_wp2_with fail
    have hk2 : Blk _ B 113 ({ r with code := 9, y := ⟨m.key, m.ck, m.g, m.a, m.n, m.c, m.l⟩ } : RunR).cells.toArray := run_y HK3.out ⟨m.key, m.ck, m.g, m.a, m.n, m.c, m.l⟩
    have hk : Blk _ B 113 ({ r with st := 1, code := 9, y := ⟨m.key, m.ck, m.g, m.a, m.n, m.c, m.l⟩ } : RunR).cells.toArray := run_st hk2 1
    clear hk2
    have hg := grown_trans (grown_of HB1.out) (grown_trans HG1.out (grown_put (grown_put (grown_put (grown_put (grown_put (grown_refl W2 (some B)) 17 (.int .u64 m.key)) 18 (.int .u32 m.ck)) 19 (.bool m.g)) 20 (.slice m.a m.n m.c)) 14 (.int .i64 1)))
    exact bodyPost_end (v := .tuple #[]) (by simp [results, Try.results61, go_sem]) rfl ⟨rfl, by rw [HC.out]; exact ⟨hk, HH.out.o.apart HH.out hg, hb'.out.apart HH.out hg, HH.out.z.apart HH.out hg⟩, hg⟩
set_option maxRecDepth 100000 in
set_option maxHeartbeats 1000000 in
theorem first_not {B : Nat} {r : RunR} (w : World) (m : MsgR) (h : RBl w B r) (hb : BOk w m.a m.n m.c m.l) (hkd : r.o.kd ≠ 3) (hcd : m.cd = 7 ∨ m.cd = 8 ∨ m.cd = 9) (hha : m.has = false) (hag : r.again = false) :
    Calls Try.prog 61 #[.pointer (some ⟨B, 0, none⟩), m.vals] w fun e w' => e = .returned (.tuple #[]) ∧ RBl w' B { r with st := 3, code := 17, z := ndN } ∧ w.grownBy w' (some B) := by
  obtain ⟨W1, hW1⟩ : ∃ W, w.alloc (.cells #[.int .i64 m.fr, .int .i64 m.tt, .int .i64 m.kd, .int .i64 m.vol, .int .i64 m.life, .int .u64 m.id, .int .i64 m.cd, .bool m.has, .int .u64 m.key, .int .u32 m.ck, .bool m.g, .slice m.a m.n m.c] 53) = W := ⟨_, rfl⟩
  have HB1 := Lib.hid (show Below w.heap.size w W1 from by rw [← hW1]; exact (Below.refl _ _).alloc (Nat.le_refl _) _)
  have hM : Blk W1 w.heap.size 53 #[.int .i64 m.fr, .int .i64 m.tt, .int .i64 m.kd, .int .i64 m.vol, .int .i64 m.life, .int .u64 m.id, .int .i64 m.cd, .bool m.has, .int .u64 m.key, .int .u32 m.ck, .bool m.g, .slice m.a m.n m.c] := by rw [← hW1]; exact Blk.made w _ _
  have HS1 := Lib.hid (show W1.heap.size = w.heap.size + 1 from by rw [← hW1]; simp)
  have HH := Lib.hid h
  have HL := Lib.hid h.k.lt
  have HR1 := Lib.hid (h.on HB1.out)
  have HBM := Lib.hid (hb.on HB1.out)
  obtain ⟨m0, m1, m2, m3, m4, m5, m6, m7, m8, m9, m10, m11⟩ := hM.twelve
  obtain ⟨k0, -, -, -, -, -, -, -, -, -, -, -, -, -, k14, -, k16, -, -, -, -, k21, -, -, -, -⟩ := run_cells HR1.out.k
  obtain ⟨-, -, -, -, -, -, -, -, -, -, -, -, -, -, f14, -, -, -, -, -, -, f21, -, -, -, -⟩ := run_frozen HR1.out.k
  have HCD := Lib.hid (show ∃ c, m.cd = c from ⟨_, rfl⟩)
  have b0 : (r.o.kd == 3) = false := eq_f hkd
  rw [hag] at k16
  rw [hha] at m7
  unfold MsgR.vals
  clear h hb hkd hha hM hag
  clear HCD HBM
  have HR2 := Lib.hid fun (c : Int) (W : World) (hW : W1.setCell ⟨B, 21, none⟩ (.int .i64 c) = W) => (show RBl W B { r with code := c } ∧ W1.grownBy W (some B) from by
    subst hW
    have hg := grown_put (grown_refl W1 (some B)) 21 (.int .i64 c)
    exact ⟨⟨run_code HR1.out.k c, HR1.out.o.apart HR1.out hg, HR1.out.y.apart HR1.out hg, HR1.out.z.apart HR1.out hg⟩, hg⟩)
  rcases hcd with hcd | hcd | hcd
  all_goals
    rw [hcd] at m6
    clear hcd
    go_enter Try.func61, Try.ntmps61
    go_wp2_with fail
    try clear hW1
    obtain ⟨hR, hG⟩ := HR2.out _ _ rfl
    refine (rover_any _ 17 ndN hR (BOk.nil _ _ _)).mono ?_
    rintro e w3 ⟨rfl, hR3, hG3⟩
    have HR3 := Lib.hid hR3
    have HG3 := Lib.hid (grown_trans (grown_of HB1.out) (grown_trans hG hG3))
    clear hR hG hR3 hG3
    go_wp2_with fail
    exact bodyPost_ret (v := .tuple #[]) (by simp [results, Try.results61, go_sem]) rfl ⟨rfl, HR3.out, HG3.out⟩
end Go.Proofs.Ytboadalojimdlaa
