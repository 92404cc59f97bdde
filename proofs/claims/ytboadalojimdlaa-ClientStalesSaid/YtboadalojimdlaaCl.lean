/-
  An operation of the client and its run: their cells; place, request.
-/
import Derived.Test.YtboadalojimdlaaOnceKeep
namespace Go.Proofs.Ytboadalojimdlaa
open Go.RowKit

/-- An operation, with where its bytes stand. -/
structure OpR where
  kd : Int
  fr : Int
  vol : Int
  a0 : Int
  a1 : Int
  a2 : Int
  id : Nat
  l0 : Int
  l1 : Int
  l2 : Int
  key : Nat
  ck : Nat
  g : Bool
  a : Option Addr
  n : Nat
  c : Nat
  l : List (BitVec 8)
/-- A needle, with where its bytes stand. -/
structure NdC where
  key : Nat
  ck : Nat
  g : Bool
  a : Option Addr
  n : Nat
  c : Nat
  l : List (BitVec 8)
/-- A run. -/
structure RunR where
  o : OpR
  st : Int
  told : Bool
  again : Bool
  y : NdC
  code : Int
  z : NdC
def OpR.cells (o : OpR) : List Value := [.int .i64 o.kd, .int .i64 o.fr, .int .i64 o.vol, .int .i64 o.a0, .int .i64 o.a1, .int .i64 o.a2, .int .u64 o.id, .int .i64 o.l0, .int .i64 o.l1, .int .i64 o.l2, .int .u64 o.key, .int .u32 o.ck, .bool o.g, .slice o.a o.n o.c]
def OpR.vals (o : OpR) : Value := .agg #[.int .i64 o.kd, .int .i64 o.fr, .int .i64 o.vol, .int .i64 o.a0, .int .i64 o.a1, .int .i64 o.a2, .int .u64 o.id, .int .i64 o.l0, .int .i64 o.l1, .int .i64 o.l2, .int .u64 o.key, .int .u32 o.ck, .bool o.g, .slice o.a o.n o.c]
def NdC.vals (y : NdC) : Value := .agg #[.int .u64 y.key, .int .u32 y.ck, .bool y.g, .slice y.a y.n y.c]
def RunR.cells (r : RunR) : List Value := [.int .i64 r.o.kd, .int .i64 r.o.fr, .int .i64 r.o.vol, .int .i64 r.o.a0, .int .i64 r.o.a1, .int .i64 r.o.a2, .int .u64 r.o.id, .int .i64 r.o.l0, .int .i64 r.o.l1, .int .i64 r.o.l2, .int .u64 r.o.key, .int .u32 r.o.ck, .bool r.o.g, .slice r.o.a r.o.n r.o.c, .int .i64 r.st, .bool r.told, .bool r.again, .int .u64 r.y.key, .int .u32 r.y.ck, .bool r.y.g, .slice r.y.a r.y.n r.y.c, .int .i64 r.code, .int .u64 r.z.key, .int .u32 r.z.ck, .bool r.z.g, .slice r.z.a r.z.n r.z.c]
def ndN : NdC := ⟨0, 0, false, none, 0, 0, []⟩
def OpR.to (o : OpR) (p : Int) : Int := if p = 0 then o.a0 else if p = 1 then o.a1 else o.a2
def OpR.lf (o : OpR) (p : Int) : Int := if p = 0 then o.l0 else if p = 1 then o.l1 else o.l2
theorem run_cells {w : World} {B : Nat} {T : TypeId} {r : RunR} (h : Blk w B T r.cells.toArray) : w.cell? ⟨B, 0, none⟩ = some (.int .i64 r.o.kd) ∧ w.cell? ⟨B, 1, none⟩ = some (.int .i64 r.o.fr) ∧ w.cell? ⟨B, 2, none⟩ = some (.int .i64 r.o.vol) ∧ w.cell? ⟨B, 3, none⟩ = some (.int .i64 r.o.a0) ∧ w.cell? ⟨B, 4, none⟩ = some (.int .i64 r.o.a1) ∧ w.cell? ⟨B, 5, none⟩ = some (.int .i64 r.o.a2) ∧ w.cell? ⟨B, 6, none⟩ = some (.int .u64 r.o.id) ∧ w.cell? ⟨B, 7, none⟩ = some (.int .i64 r.o.l0) ∧ w.cell? ⟨B, 8, none⟩ = some (.int .i64 r.o.l1) ∧ w.cell? ⟨B, 9, none⟩ = some (.int .i64 r.o.l2) ∧ w.cell? ⟨B, 10, none⟩ = some (.int .u64 r.o.key) ∧ w.cell? ⟨B, 11, none⟩ = some (.int .u32 r.o.ck) ∧ w.cell? ⟨B, 12, none⟩ = some (.bool r.o.g) ∧ w.cell? ⟨B, 13, none⟩ = some (.slice r.o.a r.o.n r.o.c) ∧ w.cell? ⟨B, 14, none⟩ = some (.int .i64 r.st) ∧ w.cell? ⟨B, 15, none⟩ = some (.bool r.told) ∧ w.cell? ⟨B, 16, none⟩ = some (.bool r.again) ∧ w.cell? ⟨B, 17, none⟩ = some (.int .u64 r.y.key) ∧ w.cell? ⟨B, 18, none⟩ = some (.int .u32 r.y.ck) ∧ w.cell? ⟨B, 19, none⟩ = some (.bool r.y.g) ∧ w.cell? ⟨B, 20, none⟩ = some (.slice r.y.a r.y.n r.y.c) ∧ w.cell? ⟨B, 21, none⟩ = some (.int .i64 r.code) ∧ w.cell? ⟨B, 22, none⟩ = some (.int .u64 r.z.key) ∧ w.cell? ⟨B, 23, none⟩ = some (.int .u32 r.z.ck) ∧ w.cell? ⟨B, 24, none⟩ = some (.bool r.z.g) ∧ w.cell? ⟨B, 25, none⟩ = some (.slice r.z.a r.z.n r.z.c) :=
  ⟨h.cell 0, h.cell 1, h.cell 2, h.cell 3, h.cell 4, h.cell 5, h.cell 6, h.cell 7, h.cell 8, h.cell 9, h.cell 10, h.cell 11, h.cell 12, h.cell 13, h.cell 14, h.cell 15, h.cell 16, h.cell 17, h.cell 18, h.cell 19, h.cell 20, h.cell 21, h.cell 22, h.cell 23, h.cell 24, h.cell 25⟩
theorem run_frozen {w : World} {B : Nat} {T : TypeId} {r : RunR} (h : Blk w B T r.cells.toArray) : w.frozen? ⟨B, 0, none⟩ = false ∧ w.frozen? ⟨B, 1, none⟩ = false ∧ w.frozen? ⟨B, 2, none⟩ = false ∧ w.frozen? ⟨B, 3, none⟩ = false ∧ w.frozen? ⟨B, 4, none⟩ = false ∧ w.frozen? ⟨B, 5, none⟩ = false ∧ w.frozen? ⟨B, 6, none⟩ = false ∧ w.frozen? ⟨B, 7, none⟩ = false ∧ w.frozen? ⟨B, 8, none⟩ = false ∧ w.frozen? ⟨B, 9, none⟩ = false ∧ w.frozen? ⟨B, 10, none⟩ = false ∧ w.frozen? ⟨B, 11, none⟩ = false ∧ w.frozen? ⟨B, 12, none⟩ = false ∧ w.frozen? ⟨B, 13, none⟩ = false ∧ w.frozen? ⟨B, 14, none⟩ = false ∧ w.frozen? ⟨B, 15, none⟩ = false ∧ w.frozen? ⟨B, 16, none⟩ = false ∧ w.frozen? ⟨B, 17, none⟩ = false ∧ w.frozen? ⟨B, 18, none⟩ = false ∧ w.frozen? ⟨B, 19, none⟩ = false ∧ w.frozen? ⟨B, 20, none⟩ = false ∧ w.frozen? ⟨B, 21, none⟩ = false ∧ w.frozen? ⟨B, 22, none⟩ = false ∧ w.frozen? ⟨B, 23, none⟩ = false ∧ w.frozen? ⟨B, 24, none⟩ = false ∧ w.frozen? ⟨B, 25, none⟩ = false :=
  ⟨h.frozen 0, h.frozen 1, h.frozen 2, h.frozen 3, h.frozen 4, h.frozen 5, h.frozen 6, h.frozen 7, h.frozen 8, h.frozen 9, h.frozen 10, h.frozen 11, h.frozen 12, h.frozen 13, h.frozen 14, h.frozen 15, h.frozen 16, h.frozen 17, h.frozen 18, h.frozen 19, h.frozen 20, h.frozen 21, h.frozen 22, h.frozen 23, h.frozen 24, h.frozen 25⟩
theorem op_cells {w : World} {B : Nat} {T : TypeId} {o : OpR} (h : Blk w B T o.cells.toArray) : w.cell? ⟨B, 0, none⟩ = some (.int .i64 o.kd) ∧ w.cell? ⟨B, 1, none⟩ = some (.int .i64 o.fr) ∧ w.cell? ⟨B, 2, none⟩ = some (.int .i64 o.vol) ∧ w.cell? ⟨B, 3, none⟩ = some (.int .i64 o.a0) ∧ w.cell? ⟨B, 4, none⟩ = some (.int .i64 o.a1) ∧ w.cell? ⟨B, 5, none⟩ = some (.int .i64 o.a2) ∧ w.cell? ⟨B, 6, none⟩ = some (.int .u64 o.id) ∧ w.cell? ⟨B, 7, none⟩ = some (.int .i64 o.l0) ∧ w.cell? ⟨B, 8, none⟩ = some (.int .i64 o.l1) ∧ w.cell? ⟨B, 9, none⟩ = some (.int .i64 o.l2) ∧ w.cell? ⟨B, 10, none⟩ = some (.int .u64 o.key) ∧ w.cell? ⟨B, 11, none⟩ = some (.int .u32 o.ck) ∧ w.cell? ⟨B, 12, none⟩ = some (.bool o.g) ∧ w.cell? ⟨B, 13, none⟩ = some (.slice o.a o.n o.c) :=
  ⟨h.cell 0, h.cell 1, h.cell 2, h.cell 3, h.cell 4, h.cell 5, h.cell 6, h.cell 7, h.cell 8, h.cell 9, h.cell 10, h.cell 11, h.cell 12, h.cell 13⟩

/-- Bytes that stand apart from a block of other cells. -/
def NoB (cs : Array Value) : Prop := ∀ (i : Nat) (x : Int), cs[i]? ≠ some (.int .u8 x)
theorem BSl.apart {w w' : World} {B b n : Nat} {a : Option Addr} {l : List (BitVec 8)} {t : TypeId} {cs : Array Value} (h : BSl w B a n l) (hk : Blk w b t cs) (hc : NoB cs) (hg : w.grownBy w' (some b)) : BSl w' B a n l :=
  ⟨h.1, fun hn => by
    obtain ⟨g, off, e, hb, hcl⟩ := h.2 hn
    refine ⟨g, off, e, hb, fun k hkn => ?_⟩
    have hne : some g ≠ some b := by
      intro q
      injection q with q
      have h1 := hcl 0 hn
      rw [q, hk.cell] at h1
      exact hc _ _ h1
    exact hg.cell (hcl k hkn) hne⟩
theorem run_nob (r : RunR) : NoB r.cells.toArray := by
  intro i x
  match i with
  | 0 => intro e; cases e
  | 1 => intro e; cases e
  | 2 => intro e; cases e
  | 3 => intro e; cases e
  | 4 => intro e; cases e
  | 5 => intro e; cases e
  | 6 => intro e; cases e
  | 7 => intro e; cases e
  | 8 => intro e; cases e
  | 9 => intro e; cases e
  | 10 => intro e; cases e
  | 11 => intro e; cases e
  | 12 => intro e; cases e
  | 13 => intro e; cases e
  | 14 => intro e; cases e
  | 15 => intro e; cases e
  | 16 => intro e; cases e
  | 17 => intro e; cases e
  | 18 => intro e; cases e
  | 19 => intro e; cases e
  | 20 => intro e; cases e
  | 21 => intro e; cases e
  | 22 => intro e; cases e
  | 23 => intro e; cases e
  | 24 => intro e; cases e
  | 25 => intro e; cases e
  | i + 26 => intro e; cases e

/-- Bytes in memory, with their room. -/
structure BOk (w : World) (a : Option Addr) (n c : Nat) (l : List (BitVec 8)) : Prop where
  b : BSl w w.heap.size a n l
  nc : n ≤ c
  le : n ≤ 1099511627776
theorem BOk.on {w w' : World} {a : Option Addr} {n c : Nat} {l : List (BitVec 8)} (h : BOk w a n c l) (hb : Below w.heap.size w w') : BOk w' a n c l := ⟨(h.b.below hb).more hb.size, h.nc, h.le⟩
theorem BOk.nil (w : World) (a : Option Addr) (c : Nat) : BOk w a 0 c [] := ⟨BSl.nil _ _ _, by omega, by omega⟩
/-- A run in memory. -/
structure RBl (w : World) (B : Nat) (r : RunR) : Prop where
  k : Blk w B 113 r.cells.toArray
  o : BOk w r.o.a r.o.n r.o.c r.o.l
  y : BOk w r.y.a r.y.n r.y.c r.y.l
  z : BOk w r.z.a r.z.n r.z.c r.z.l
theorem RBl.on {w w' : World} {B : Nat} {r : RunR} (h : RBl w B r) (hb : Below w.heap.size w w') : RBl w' B r := ⟨h.k.below hb h.k.lt, h.o.on hb, h.y.on hb, h.z.on hb⟩
theorem BOk.apart {w w' : World} {B : Nat} {r : RunR} (h : RBl w B r) {a : Option Addr} {n c : Nat} {l : List (BitVec 8)} (hb : BOk w a n c l) (hg : w.grownBy w' (some B)) : BOk w' a n c l :=
  ⟨(hb.b.apart h.k (run_nob r) hg).more hg.size, hb.nc, hb.le⟩

/-- The place that is asked. -/
def plc (r : RunR) : Int := if r.o.kd = 3 ∧ r.st = 0 then 2 else r.st
theorem plc_3 {r : RunR} (h : r.o.kd = 3) (h2 : r.st = 0) : plc r = 2 := by unfold plc; rw [if_pos ⟨h, h2⟩]
theorem plc_n {r : RunR} (h : r.o.kd ≠ 3) : plc r = r.st := by unfold plc; rw [if_neg (fun e => h e.1)]
theorem plc_s {r : RunR} (h : r.st ≠ 0) : plc r = r.st := by unfold plc; rw [if_neg (fun e => h e.2)]
theorem place_any {B : Nat} {r : RunR} (w : World) (h : Blk w B 113 r.cells.toArray) :
    Calls Try.prog 60 #[.pointer (some ⟨B, 0, none⟩)] w fun e w' => e = .returned (.int .i64 (plc r)) ∧ w = w' := by
  obtain ⟨k0, k1, k2, k3, k4, k5, k6, k7, k8, k9, k10, k11, k12, k13, k14, k15, k16, k17, k18, k19, k20, k21, k22, k23, k24, k25⟩ := run_cells h
  clear h
  clear k1 k2 k3 k4 k5 k6 k7 k8 k9 k10 k11 k12 k13 k15 k16 k17 k18 k19 k20 k21 k22 k23 k24 k25
  by_cases h3 : r.o.kd = 3
  · have b3 : (r.o.kd == 3) = true := eq_t h3
    by_cases h0 : r.st = 0
    · have b0 : (r.st == 0) = true := eq_t h0
      have HP := Lib.hid (plc_3 h3 h0)
      clear h3 h0
      go_enter Try.func60, Try.ntmps60
      go_wp2_with fail
      go_ret
      exact ⟨ret_int HP.out.symm, rfl⟩
    · have b0 : (r.st == 0) = false := eq_f h0
      have HP := Lib.hid (plc_s h0)
      clear h3 h0
      go_enter Try.func60, Try.ntmps60
      go_wp2_with fail
      go_ret
      exact ⟨ret_int HP.out.symm, rfl⟩
  · have b3 : (r.o.kd == 3) = false := eq_f h3
    have HP := Lib.hid (plc_n h3)
    clear h3
    go_enter Try.func60, Try.ntmps60
    go_wp2_with fail
    go_ret
    exact ⟨ret_int HP.out.symm, rfl⟩
end Go.Proofs.Ytboadalojimdlaa
