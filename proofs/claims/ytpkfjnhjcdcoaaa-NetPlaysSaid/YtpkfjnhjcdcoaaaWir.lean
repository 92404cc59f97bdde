/-
  The message of any bytes, plainly; the closure of wire.Read.
-/
import Derived.Test.YtpkfjnhjcdcoaaaOnceOwn1
import Derived.Test.YtpkfjnhjcdcoaaaScnLaw
import Derived.Test.YtpkfjnhjcdcoaaaOpen
namespace Go.Proofs.Ytpkfjnhjcdcoaaa
open Go.RowKit

/-- The head of a message's bytes. -/
def msHead (L : List (BitVec 8)) : MsgR :=
  ⟨((L.getD 0 0#8).toNat : Int), ((L.getD 1 0#8).toNat : Int), ((L.getD 2 0#8).toNat : Int), (nums L 4 4 : Int), (nums L 8 4 : Int), nums L 12 8, ((L.getD 3 0#8).toNat : Int), false, 0, 0, false, none, 0, 0, []⟩
def MsgR.with (m : MsgR) (key ck : Nat) (g : Bool) (lx : List (BitVec 8)) : MsgR := { m with has := true, key := key, ck := ck, g := g, a := none, n := lx.length, c := 0, l := lx }
/-- What opened bytes say. -/
def msIn (L : List (BitVec 8)) : MsgR × Nat :=
  if nums L 20 4 = 1 then
    let q := ndGet (L.drop 24)
    if q.2.2.2.2.2 ≠ 0 then (mNone, 4)
    else if L.length = 24 + q.2.2.2.2.1 ∧ mchk ((msHead L).with q.1 q.2.1 q.2.2.1 q.2.2.2.1) = 0 then ((msHead L).with q.1 q.2.1 q.2.2.1 q.2.2.2.1, 0) else (mNone, 4)
  else if nums L 20 4 = 0 ∧ L.length = 24 ∧ mchk (msHead L) = 0 then (msHead L, 0)
  else (mNone, 4)
/-- What bytes say: the message, the error. -/
def msGet (L : List (BitVec 8)) : MsgR × Nat :=
  if L.length < 28 then (mNone, 3)
  else if Num.num (L.drop (L.length - 4)) ≠ (Crc.of (L.take (L.length - 4))).toNat then (mNone, 5)
  else msIn (L.take (L.length - 4))
/-- A message without the place of its bytes. -/
def MsgR.bare (m : MsgR) : MsgR := { m with a := none, c := 0 }
/-- What wire.Read hands back. -/
def MsP (L : List (BitVec 8)) (w : World) (e : Ending) (w' : World) : Prop :=
  Below w.heap.size w w' ∧ ∃ (m : MsgR) (cf : Nat), msGet L = (m.bare, cf) ∧ e = .returned (.tuple #[m.vals, errc cf]) ∧ m.n = m.l.length ∧ m.n ≤ m.c ∧ w'.ownsRow w.heap.size 5 1 (.slice m.a m.n m.c) m.n (m.l.map bv)
theorem msp_bad {L : List (BitVec 8)} {w w' : World} {cf : Nat} (h : msGet L = (mNone, cf)) (B : Below w.heap.size w w') : MsP L w (.returned (.tuple #[mNone.vals, errc cf])) w' :=
  ⟨B, mNone, cf, h, rfl, rfl, Nat.le_refl _, rfl, .inl ⟨rfl, rfl⟩⟩
theorem wget1_any (a : Option Addr) (n c : Nat) (l : List (BitVec 8)) (B p k : Nat) (w : World) (hb : w.cell? ⟨B, 0, none⟩ = some (.slice a n c)) (h : BSl w w.heap.size a n l) (hc : n ≤ c) (hn : n ≤ 1099511627776) (hk : isSize (k : Int) = true) (hp : p + k ≤ n) :
    Calls Try.prog 37 #[.int .i64 p, .int .i64 k, .pointer (some ⟨B, 0, none⟩)] w fun e w' => e = .returned (.int .u64 (nums l p k : Nat)) ∧ Below w.heap.size w w' := by
  have G := Lib.hid (get_ok a n c l p k w h hc hn hk hp)
  have hk8 := isSize_le hk
  go_enter Try.func37, Try.ntmps37
  go_wp2_with fail
  refine G.out.mono ?_
  rintro e w1 ⟨rfl, B1⟩
  go_wp2_with fail
  go_ret
  exact ⟨rfl, B1⟩
theorem held_alloc {K : Act → World → Prop} {x : Act} {w : World} {cs : Array Value} {t : TypeId} (h : ∀ W', Blk W' w.heap.size t cs → Below w.heap.size w W' → K x W') : K x (w.alloc (.cells cs t)) :=
  h _ (Blk.made _ _ _) ((Below.refl _ _).alloc (Nat.le_refl _) _)
theorem held_alloc_drew {K : Act → World → Prop} {x : Act} {w : World} {cs : Array Value} {t : TypeId} (h : ∀ W', Blk W' w.heap.size t cs → Below w.heap.size w W' → K x W') : K x (w.alloc (.cells cs t)).drew :=
  h _ (Blk.made _ _ _).drew ((Below.refl _ _).alloc (Nat.le_refl _) _).drew
theorem wread_results {W : World} {B : Nat} {v0 v1 v2 v3 v4 v5 v6 v7 v8 v9 v10 v11 : Value} {a : Act} {e : Value} (h : Blk W B 29 #[v0, v1, v2, v3, v4, v5, v6, v7, v8, v9, v10, v11]) (h2 : a.tmps[2]?.getD undef = .pointer (some ⟨B, 0, none⟩)) (h3 : a.tmps[3]?.getD undef = e) :
    (results Try.f12 a.tmps).run Try.prog W = .ok (.tuple #[.agg #[v0, v1, v2, v3, v4, v5, v6, v7, v8, v9, v10, v11], e]) W := by
  obtain ⟨k0, k1, k2, k3, k4, k5, k6, k7, k8, k9, k10, k11⟩ := h.twelve
  simp [results, Try.results12, go_sem, h2, h3, k0, k1, k2, k3, k4, k5, k6, k7, k8, k9, k10, k11]
theorem rmread_results {W : World} {B : Nat} {v0 v1 v2 v3 v4 v5 v6 v7 v8 v9 v10 v11 : Value} {a : Act} {e : Value} (h : Blk W B 36 #[v0, v1, v2, v3, v4, v5, v6, v7, v8, v9, v10, v11]) (h2 : a.tmps[2]?.getD undef = .pointer (some ⟨B, 0, none⟩)) (h3 : a.tmps[3]?.getD undef = e) :
    (results Try.f13 a.tmps).run Try.prog W = .ok (.tuple #[.agg #[v0, v1, v2, v3, v4, v5, v6, v7, v8, v9, v10, v11], e]) W := by
  obtain ⟨k0, k1, k2, k3, k4, k5, k6, k7, k8, k9, k10, k11⟩ := h.twelve
  simp [results, Try.results13, go_sem, h2, h3, k0, k1, k2, k3, k4, k5, k6, k7, k8, k9, k10, k11]
end Go.Proofs.Ytpkfjnhjcdcoaaa
