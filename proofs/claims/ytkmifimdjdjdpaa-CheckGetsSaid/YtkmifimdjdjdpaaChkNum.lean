/-
  The closure of check.Put: one number more, in a captured slice of bytes.
-/
import Derived.Test.YtkmifimdjdjdpaaOpen
import Derived.Test.YtkmifimdjdjdpaaPutAll
namespace Go.Proofs.Ytkmifimdjdjdpaa
open Go.RowKit

/-- Block g holds a slice of bytes that reads as l. -/
def BufS (W : World) (g : Nat) (l : List (BitVec 8)) : Prop :=
  ∃ a m c, Blk W g 22 #[.slice a m c] ∧ BSl W W.heap.size a m l ∧ (a = none → m = 0)

/-- A row of one's own, stored into a block that is older. -/
theorem buf_put {w w1 : World} {g m c : Nat} {a u : Value} {ad : Option Addr} {l : List (BitVec 8)} (hb : Blk w g 22 #[a]) (hB : Below w.heap.size w w1) (ho : w1.ownsRow w.heap.size 5 1 (.slice ad m c) m (l.map bv))
    (hu : u = .slice ad m c) (h0 : ad = none → m = 0) : BufS (w1.setCell ⟨g, 0, none⟩ u) g l ∧ w.grownBy (w1.setCell ⟨g, 0, none⟩ u) (some g) := by
  subst hu
  have hne : (Value.slice ad m c).ownBlock ≠ some g := by
    rcases ho.2 with ⟨e1, e2⟩ | ⟨g', cap, cur, e1, hg, _⟩
    · cases e1; simp [Value.ownBlock]
    · cases e1
      have := hb.lt
      simp [Value.ownBlock]; omega
  have hb1 := hb.below hB hb.lt
  refine ⟨⟨ad, m, c, hb1.put 0 _, ?_, h0⟩, grown_put ?_ 0 _⟩
  · exact bsl_own (ownsRow_setCell_other ho hne _)
  · exact ⟨hB.os, hB.tape, hB.output, hB.size, fun k hk _ => hB.block k hk⟩

set_option maxRecDepth 100000 in
theorem pnum_ok (g : Nat) (l : List (BitVec 8)) (n k : Nat) (w : World) (h : BufS w g l) (hl : l.length ≤ 1099511627776) (hk : isSize (k : Int) = true) (hn : n < 256 ^ k) :
    Calls Try.prog 44 #[.int .u64 n, .int .i64 k, .pointer (some ⟨g, 0, none⟩)] w fun e w' => e = .returned (.tuple #[]) ∧ BufS w' g (l ++ Num.le n k) ∧ w.grownBy w' (some g) := by
  obtain ⟨a, m, c, hb, hs, h0⟩ := h
  have hm := hs.1
  have P := Lib.hid (put_ok a m c l n k w hs (by omega) h0 hk hn)
  have HF := Lib.hid fun (w1 : World) (B : Below w.heap.size w w1) (ad : Option Addr) (m' c' : Nat) (h0 : ad = none → m' = 0) (ho : w1.ownsRow w.heap.size 5 1 (.slice ad m' c') m' ((l ++ Num.le n k).map bv)) => buf_put hb B ho rfl h0
  have HC := Lib.hid fun (w1 : World) (B : Below w.heap.size w w1) => (⟨(hb.below B hb.lt).cell 0, (hb.below B hb.lt).frozen 0⟩ : _ ∧ _)
  have c0 := hb.cell 0
  clear hb hs h0 hm
  go_enter Try.func44, Try.ntmps44
  go_wp2_with fail
  refine P.out.mono ?_
  rintro e w1 ⟨g', cap, rfl, ho, B⟩
  have F := HF.out w1 B (some ⟨g', 0, none⟩) (m + k) cap (fun h => by cases h) ho
  obtain ⟨d0, d1⟩ := HC.out w1 B
  clear ho c0
  have F := Lib.hid F
  go_wp2_with fail
  go_end0
  exact ⟨rfl, F.out⟩
/-- The closure of check.Get: one number less, at a captured place. -/
theorem gnum_ok (gb ga : Nat) (a : Option Addr) (n c p k : Nat) (l : List (BitVec 8)) (w : World) (hB : Blk w gb 22 #[.slice a n c]) (hA : Blk w ga 3 #[.int .i64 p]) (h : BSl w w.heap.size a n l) (hc : n ≤ c) (hn : n ≤ 1099511627776) (hp : p + k ≤ n) (hk : isSize (k : Int) = true) :
    Calls Try.prog 51 #[.int .i64 k, .pointer (some ⟨gb, 0, none⟩), .pointer (some ⟨ga, 0, none⟩)] w fun e w' => e = .returned (.int .u64 (Num.num ((l.drop p).take k) : Nat)) ∧ Blk w' ga 3 #[.int .i64 (p + k : Nat)] ∧ w.grownBy w' (some ga) := by
  have hkp : (0 : Int) ≤ k := by omega
  have P := Lib.hid (get_any a n c l p k w h hc hn)
  have HF := Lib.hid fun (w1 : World) (B : Below w.heap.size w w1) => (⟨(hA.below B hA.lt).put 0 (.int .i64 (p + k : Nat)), grown_put (⟨B.os, B.tape, B.output, B.size, fun j hj _ => B.block j hj⟩ : w.grownBy w1 (some ga)) 0 (.int .i64 (p + k : Nat))⟩ : _ ∧ _)
  have HC := Lib.hid fun (w1 : World) (B : Below w.heap.size w w1) => (⟨(hA.below B hA.lt).cell 0, (hA.below B hA.lt).frozen 0⟩ : _ ∧ _)
  have c0 := hB.cell 0
  have c1 := hA.cell 0
  clear hB hA h
  go_enter Try.func51, Try.ntmps51
  go_wp2_with fail
  refine P.out.mono ?_
  rintro e w1 ⟨m, cf, rfl, B, hcase⟩
  have hm : m = Num.num ((l.drop p).take k) ∧ cf = 0 := by
    rcases hcase with h | h | h
    · rcases h.1 with h | h
      · rw [hk] at h; cases h
      · omega
    · omega
    · exact ⟨by simpa using h.2.2.2.2.1, h.2.2.2.2.2⟩
  obtain ⟨hm, rfl⟩ := hm
  have HM := Lib.hid hm
  have F := Lib.hid (HF.out w1 B)
  obtain ⟨d0, d1⟩ := HC.out w1 B
  clear hcase hm c0 c1 B
  go_wp2_with fail
  go_ret
  refine ⟨by simp; exact congrArg _ HM.out, ?_⟩
  rw [show ((p : Int) + (k : Int)) = ((p + k : Nat) : Int) from by omega]
  exact F.out
end Go.Proofs.Ytkmifimdjdjdpaa
