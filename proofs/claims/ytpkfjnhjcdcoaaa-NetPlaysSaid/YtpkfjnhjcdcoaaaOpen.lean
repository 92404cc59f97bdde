/-
  sum.Open, all its answers in one form; a step that runs an append.
-/
import Derived.Test.YtpkfjnhjcdcoaaaSeal
import Derived.Deep.RegionLaw
namespace Go.Proofs.Ytpkfjnhjcdcoaaa
open Go.RowKit

/-- sum.Open, all its answers in one form. -/
theorem open_all (a : Option Addr) (n c : Nat) (l : List (BitVec 8)) (w : World) (h : BSl w w.heap.size a n l) (hc : n ≤ c) (hn : n ≤ 1099511627776) :
    Calls Try.prog 36 #[.slice a n c] w fun e w' => ∃ av k cv cf, e = .returned (.tuple #[.slice av k cv, errc cf]) ∧ Below w.heap.size w w' ∧ k ≤ cv ∧ k ≤ n ∧ cf ≤ 17 ∧
      ∃ lx, w'.ownsRow w.heap.size 5 1 (.slice av k cv) k (lx.map bv) ∧
      ((n < 4 ∧ k = 0 ∧ cf = 3) ∨
       (4 ≤ n ∧ Num.num (l.drop (n - 4)) ≠ (Crc.of (l.take (n - 4))).toNat ∧ k = 0 ∧ cf = 5) ∨
       (4 ≤ n ∧ Num.num (l.drop (n - 4)) = (Crc.of (l.take (n - 4))).toNat ∧ k = n - 4 ∧ cf = 0 ∧ lx = l.take (n - 4))) := by
  refine (open_any a n c l w h hc hn).mono ?_
  rintro e w' ⟨B, h | h | h⟩
  · obtain ⟨h1, rfl⟩ := h
    exact ⟨none, 0, 0, 3, rfl, B, by omega, by omega, by omega, [], ⟨rfl, .inl ⟨rfl, rfl⟩⟩, .inl ⟨h1, rfl, rfl⟩⟩
  · obtain ⟨h1, h2, rfl⟩ := h
    exact ⟨none, 0, 0, 5, rfl, B, by omega, by omega, by omega, [], ⟨rfl, .inl ⟨rfl, rfl⟩⟩, .inr (.inl ⟨h1, h2, rfl, rfl⟩)⟩
  · obtain ⟨h1, h2, av, cv, rfl, h3, ho⟩ := h
    exact ⟨av, n - 4, cv, 0, rfl, B, h3, by omega, by omega, _, ho, .inr (.inr ⟨h1, h2, rfl, rfl, rfl⟩)⟩

theorem step_run_g {P : Program} {w w' : World} {v vs vx : Value} {t : TypeId} {ops : Array Oper} {o : Oper} {a : Act} {K : Act → World → Prop} {Q : Exit → Act → World → Prop} {E : Prop} (hw : Region.wanted o (yielded ops a.tmps) = true) (s x : Operand)
    (ho : o.op = .call { callee := .builtin .append, args := #[s, x], argTypes := #[t, t] }) (hs : a.eval s = vs) (hx : a.eval x = vx)
    (hr : (Builtin.append_ #[t, t] o.type #[vs, vx]).run P w = .ok v w') (h : K (a.put o.dst v) w') :
    if Region.wanted o (yielded ops a.tmps) = true then Oper.wp P o a w K Q else E := by
  rw [if_pos hw]
  exact wp_run s x ho hs hx hr h

theorem BSl.prefix {w : World} {B n : Nat} {a : Option Addr} {l : List (BitVec 8)} (h : BSl w B a n l) {k : Nat} (hk : k ≤ n) : BSl w B a k (l.take k) := by
  refine ⟨by rw [List.length_take, h.1]; omega, fun h0 => ?_⟩
  obtain ⟨b, off, e, hb, hc⟩ := h.2 (by omega)
  refine ⟨b, off, e, hb, fun j hj => ?_⟩
  rw [hc j (by omega)]
  simp [List.getD, hj]

theorem below_more {w w1 w2 : World} (h : Below w.heap.size w w1) (k : Below w1.heap.size w1 w2) : Below w.heap.size w w2 := h.trans (k.mono h.size)
theorem below_more2 {B : Nat} {w w1 w2 : World} (h : Below B w w1) (k : Below w1.heap.size w1.drew w2) (hB : B ≤ w1.heap.size) : Below B w w2 := h.drew.trans (k.mono hB)

theorem bsl_own {W : World} {base k c : Nat} {a : Option Addr} {l : List (BitVec 8)} (h : W.ownsRow base 5 1 (.slice a k c) k (l.map bv)) : BSl W W.heap.size a k l := by
  rcases h.2 with ⟨e1, e2⟩ | ⟨g, cap, cur, e1, _⟩
  · cases e1
    have hl : l = [] := by simpa using h.1
    subst hl
    exact BSl.nil _ _ _
  · cases e1
    exact BSl.row h _ rfl

/-- What was sealed is opened. -/
theorem open_sealed (a : Option Addr) (n c base : Nat) (l : List (BitVec 8)) (w : World) (h : w.ownsRow base 5 1 (.slice a (n + 4) c) (n + 4) ((l ++ Num.le (Crc.of l).toNat 4).map bv)) (hn : n ≤ 1000000000000) :
    Calls Try.prog 36 #[.slice a (n + 4) c] w fun e w' => ∃ av cv, e = .returned (.tuple #[.slice av n cv, errc 0]) ∧ Below w.heap.size w w' ∧ n ≤ cv ∧
      w'.ownsRow w.heap.size 5 1 (.slice av n cv) n (l.map bv) := by
  have hln : l.length = n := by
    have := h.1
    rw [List.length_map, List.length_append, Num.le_length] at this
    omega
  have hc := own_cap h
  refine (open_all a (n + 4) c _ w (bsl_own h) hc (by omega)).mono ?_
  rintro e w' ⟨av, kx, cv, cf, rfl, B, hkc, hkx, hcf, lx, hox, hop⟩
  have hx : (Crc.of l).toNat < 256 ^ 4 := (Crc.of l).isLt
  have hdr : (l ++ Num.le (Crc.of l).toNat 4).drop (n + 4 - 4) = Num.le (Crc.of l).toNat 4 := List.drop_left' (by omega)
  have htk : (l ++ Num.le (Crc.of l).toNat 4).take (n + 4 - 4) = l := List.take_left' (by omega)
  rw [hdr, htk, Num.num_le_of_lt hx] at hop
  rcases hop with ⟨h1, -⟩ | ⟨_, h1, -⟩ | ⟨_, _, h1, rfl, rfl⟩
  · omega
  · exact absurd rfl h1
  · obtain rfl : kx = n := by omega
    exact ⟨av, cv, rfl, B, hkc, hox⟩

end Go.Proofs.Ytpkfjnhjcdcoaaa
