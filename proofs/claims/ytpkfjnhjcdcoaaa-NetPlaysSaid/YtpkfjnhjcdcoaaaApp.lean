/-
  append(out, b...): the run, whatever b is; errors by their numbers.
-/
import Derived.Test.YtpkfjnhjcdcoaaaPackAlive
namespace Go.Proofs.Ytpkfjnhjcdcoaaa
open Go.RowKit

theorem append_nil_run {W : World} {v : Value} {base k c : Nat} {xs : List Value} (hown : W.ownsRow base 5 1 v k xs) :
    (Builtin.append_ #[22, 22] 22 #[v, .slice none 0 c]).run Try.prog W = .ok v W := by
  obtain ⟨i0, hi, hz0, hz1, hz2⟩ := info_parts info_u8
  rcases hown.2 with ⟨rfl, rfl⟩ | ⟨g, cap, cur, rfl, _, _, hnc, _⟩
  · simp [Builtin.append_, run_underlying Try.underlying22, sizeOf, typeInfo, hi, Builtin.lenOf, Builtin.firstCells]
  · simp [Builtin.append_, run_underlying Try.underlying22, sizeOf, typeInfo, hi, Builtin.lenOf, Builtin.firstCells, hnc, storeCells]

theorem append_bytes {W : World} {base g k cap : Nat} {xs : List Value} (hown : W.ownsRow base 5 1 (.slice (some ⟨g, 0, none⟩) k cap) k xs) {B : Nat} {a : Option Addr} {n : Nat} {l : List (BitVec 8)} (c : Nat) (h : BSl W B a n l) (h0 : a = none → n = 0) (hs : k + n ≤ 2199023255552) (hbase : base ≤ W.heap.size) :
    ∃ g' cap' W', (Builtin.append_ #[22, 22] 22 #[.slice (some ⟨g, 0, none⟩) k cap, .slice a n c]).run Try.prog W = .ok (.slice (some ⟨g', 0, none⟩) (k + n) cap') W' ∧
      W'.ownsRow base 5 1 (.slice (some ⟨g', 0, none⟩) (k + n) cap') (k + n) (xs ++ l.map bv) ∧ W.grownBy W' (some g) ∧ (g' = g ∨ g' = W.heap.size) := by
  cases a with
  | none =>
    obtain rfl := h0 rfl
    have hl : l = [] := List.eq_nil_of_length_eq_zero h.1
    subst hl
    refine ⟨g, cap, W, append_nil_run hown, by simpa using hown, grown_refl W _, .inl rfl⟩
  | some ad =>
    obtain ⟨i0, hi, hz0, hz1, hz2⟩ := info_parts info_u8
    obtain ⟨v', w', hr, h2, h3, _, h5⟩ := run_append_own_at (P := Try.prog) W base 22 22 5 i0 (.int .u8 0) 1 1 Try.underlying22 hi hz0 hz1 hz2 rfl (by decide) _ k xs hown ad n c (l.map bv) (by simp [h.1]) h.news (bv_one l) (by unfold maxLen; omega) (by omega) hbase
    have hform : ∃ g' cap', v' = .slice (some ⟨g', 0, none⟩) (k + n) cap' := by
      rcases h2.2 with ⟨e1, _⟩ | ⟨g', cap', _, e1, _⟩
      · rw [e1] at h5
        rcases h5 with h5 | h5 <;> cases h5
      · exact ⟨g', cap', e1⟩
    obtain ⟨g', cap', rfl⟩ := hform
    refine ⟨g', cap', w', hr, h2, h3, ?_⟩
    rcases h5 with h5 | h5
    · left
      have e : some g' = some g := h5
      injection e
    · right
      have e : some g' = some W.heap.size := h5
      injection e

section
variable {P : Program} {w w' : World} {v vs vx : Value} {t : TypeId}
/-- .. at the operations of a plain region. -/
theorem list_run {ops : Array Oper} {rest : List Oper} {o : Oper} {a : Act} {Q : Exit → Act → World → Prop} (hgd : o.guard = none) (s x : Operand)
    (ho : o.op = .call { callee := .builtin .append, args := #[s, x], argTypes := #[t, t] }) (hs : a.eval s = vs) (hx : a.eval x = vx)
    (hr : (Builtin.append_ #[t, t] o.type #[vs, vx]).run P w = .ok v w') (h : wpList P ops Q rest (a.put o.dst v) w') : wpList P ops Q (o :: rest) a w :=
  wpList_plain hgd fun _ hK => wp_run s x ho hs hx hr (hK _ _ h)
/-- .. under a guard. -/
theorem list_run_g {ops : Array Oper} {rest : List Oper} {o : Oper} {a : Act} {Q : Exit → Act → World → Prop} (hgd : Region.wanted o (yielded ops a.tmps) = true) (s x : Operand)
    (ho : o.op = .call { callee := .builtin .append, args := #[s, x], argTypes := #[t, t] }) (hs : a.eval s = vs) (hx : a.eval x = vx)
    (hr : (Builtin.append_ #[t, t] o.type #[vs, vx]).run P w = .ok v w') (h : wpList P ops Q rest (a.put o.dst v) w') : wpList P ops Q (o :: rest) a w :=
  wpList_step fun _ hK => by
    rw [if_pos hgd]
    exact wp_run s x ho hs hx hr (hK _ _ h)
end

/-- append(append([]byte{}, b...), d...): the two runs, and what is known behind them. -/
theorem append_two {W : World} {B : Nat} {a : Option Addr} {m : Nat} {l : List (BitVec 8)} (c : Nat) (h : BSl W B a m l) (hB : B ≤ W.heap.size) (h0 : a = none → m = 0) (hm : m ≤ 1099511627776)
    {B' : Nat} {a' : Option Addr} {m' : Nat} {l' : List (BitVec 8)} (c' : Nat) (h' : BSl W B' a' m' l') (hB' : B' ≤ W.heap.size) (h0' : a' = none → m' = 0) (hm' : m' ≤ 1099511627776) :
    ∃ g1 cap1 W1 g2 cap2 W2, (Builtin.append_ #[22, 22] 22 #[.slice (some ⟨W.heap.size, 0, none⟩) 0 0, .slice a m c]).run Try.prog (W.alloc (.cells #[] 5)) = .ok (.slice (some ⟨g1, 0, none⟩) m cap1) W1 ∧
      (Builtin.append_ #[22, 22] 22 #[.slice (some ⟨g1, 0, none⟩) m cap1, .slice a' m' c']).run Try.prog W1 = .ok (.slice (some ⟨g2, 0, none⟩) (m + m') cap2) W2 ∧
      W2.ownsRow W.heap.size 5 1 (.slice (some ⟨g2, 0, none⟩) (m + m') cap2) (m + m') ((l ++ l').map bv) ∧ Below W.heap.size W W2 := by
  have hb0 : Below W.heap.size W (W.alloc (.cells #[] 5)) := (Below.refl _ W).alloc (Nat.le_refl _) _
  obtain ⟨g1, cap1, W1, hr1, ho1, hg1, hat1⟩ := append_bytes (World.ownsRow_made (base := W.heap.size) W #[] 0 (Nat.le_refl _) (Nat.zero_le _) rfl) c ((h.more hB).below hb0) h0 (by omega) (by simp)
  simp only [Nat.zero_add] at hr1 ho1
  have hb1 : Below W.heap.size W W1 := hb0.grown hg1 hb0.size (fun k e => by injection e with e; omega)
  obtain ⟨g2, cap2, W2, hr2, ho2, hg2, _⟩ := append_bytes ho1 c' ((h'.more hB').below hb1) h0' (by omega) hb1.size
  refine ⟨g1, cap1, W1, g2, cap2, W2, hr1, hr2, ?_, hb1.grown hg2 hb1.size (fun k e => ?_)⟩
  · simpa using ho2
  · injection e with e
    have := (ho1.lt g1 rfl).1
    omega

/-- An error by its number; none: 0. -/
def errc (c : Nat) : Value := if c = 0 then .nilIface else er c
theorem code_c (c : Nat) (w : World) (h : c ≤ 17) :
    Calls Try.prog 14 #[errc c] w fun e w' => e = .returned (.int .i64 c) ∧ w = w' := by
  unfold errc
  by_cases h0 : c = 0
  · subst h0
    exact code_nil w
  · rw [if_neg h0]
    exact code_er c w (by omega) (by omega)

/-- pack.Get, whatever is asked. -/
theorem get_any (a : Option Addr) (n c : Nat) (l : List (BitVec 8)) (p k : Int) (w : World) (h : BSl w w.heap.size a n l) (hc : n ≤ c) (hn : n ≤ 1099511627776) :
    Calls Try.prog 38 #[.slice a n c, .int .i64 p, .int .i64 k] w fun e w' => ∃ m cf, e = .returned (.tuple #[.int .u64 (m : Nat), errc cf]) ∧ Below w.heap.size w w' ∧
      (((isSize k = false ∨ p < 0) ∧ m = 0 ∧ cf = 1) ∨ (isSize k = true ∧ 0 ≤ p ∧ ((n : Int) < p ∨ (n : Int) - p < k) ∧ m = 0 ∧ cf = 3) ∨
        (isSize k = true ∧ 0 ≤ p ∧ p ≤ n ∧ k ≤ (n : Int) - p ∧ m = Num.num ((l.drop p.toNat).take k.toNat) ∧ cf = 0)) := by
  by_cases h1 : isSize k = false ∨ p < 0
  · refine (get_arg a n c p k w h1).mono ?_
    rintro e w' ⟨rfl, rfl⟩
    exact ⟨0, 1, rfl, Below.refl _ _, .inl ⟨h1, rfl, rfl⟩⟩
  · have hk : isSize k = true := by cases e : isSize k <;> simp_all
    have hp : 0 ≤ p := by omega
    by_cases h2 : (n : Int) < p ∨ (n : Int) - p < k
    · refine (get_short a n c p k w hk hp hn h2).mono ?_
      rintro e w' ⟨rfl, rfl⟩
      exact ⟨0, 3, rfl, Below.refl _ _, .inr (.inl ⟨hk, hp, h2, rfl, rfl⟩)⟩
    · have hk0 : 0 ≤ k := by
        simp only [isSize, Bool.or_eq_true, beq_iff_eq] at hk
        omega
      obtain ⟨p', rfl⟩ := Int.eq_ofNat_of_zero_le hp
      obtain ⟨k', rfl⟩ := Int.eq_ofNat_of_zero_le hk0
      refine (get_ok a n c l p' k' w h hc hn hk (by omega)).mono ?_
      rintro e w' ⟨rfl, B⟩
      exact ⟨_, 0, rfl, B, .inr (.inr ⟨hk, hp, by omega, by omega, rfl, rfl⟩)⟩

/-- pack.Put, whatever is asked: what comes of it, and the error. -/
theorem put_any (a : Option Addr) (m c : Nat) (l : List (BitVec 8)) (n : Nat) (k : Int) (w : World) (h : BSl w w.heap.size a m l) (hm : m ≤ 1099511627776) (h0 : a = none → m = 0) (hn : n < 18446744073709551616) :
    Calls Try.prog 48 #[.slice a m c, .int .u64 n, .int .i64 k] w fun e w' => Below w.heap.size w w' ∧
      ((isSize k = false ∧ e = .returned (.tuple #[.slice none 0 0, errc 1])) ∨ (isSize k = true ∧ 256 ^ k.toNat ≤ n ∧ e = .returned (.tuple #[.slice none 0 0, errc 2])) ∨
        (isSize k = true ∧ n < 256 ^ k.toNat ∧ ∃ g cap, e = .returned (.tuple #[.slice (some ⟨g, 0, none⟩) (m + k.toNat) cap, errc 0]) ∧
          w'.ownsRow w.heap.size 5 1 (.slice (some ⟨g, 0, none⟩) (m + k.toNat) cap) (m + k.toNat) ((l ++ Num.le n k.toNat).map bv))) := by
  cases hk : isSize k with
  | false =>
    refine (put_arg a m c n k w hk).mono ?_
    rintro e w' ⟨rfl, B⟩
    exact ⟨B, .inl ⟨rfl, rfl⟩⟩
  | true =>
    have hk0 : 0 ≤ k := by
      have := hk
      simp only [isSize, Bool.or_eq_true, beq_iff_eq] at this
      omega
    obtain ⟨k', rfl⟩ := Int.eq_ofNat_of_zero_le hk0
    by_cases hf : n < 256 ^ k'
    · refine (put_ok a m c l n k' w h hm h0 hk hf).mono ?_
      rintro e w' ⟨g, cap, rfl, ho, B⟩
      exact ⟨B, .inr (.inr ⟨rfl, hf, g, cap, rfl, ho⟩)⟩
    · refine (put_long a m c n k' w hk (by omega) hn).mono ?_
      rintro e w' ⟨rfl, B⟩
      exact ⟨B, .inr (.inl ⟨rfl, by simpa using hf, rfl⟩)⟩

end Go.Proofs.Ytpkfjnhjcdcoaaa
