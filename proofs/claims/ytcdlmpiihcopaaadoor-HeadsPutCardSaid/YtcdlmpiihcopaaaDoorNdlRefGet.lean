/-
  The document's needle of any bytes.
-/
import Derived.Test.YtcdlmpiihcopaaaDoorNdlRefPut
namespace Go.Proofs.YtcdlmpiihcopaaaDoor
open Go.RowKit

/-- What the document's Get answers. -/
def RefGot (L : List (BitVec 8)) (w : World) (e : Ending) (w' : World) : Prop :=
  Below w.heap.size w w' ∧ ∃ key ck g lx all cf, ndGet L = (key, ck, g, lx, all, cf) ∧
    ∃ av cv, e = .returned (.tuple #[.agg #[.int .u64 (key : Nat), .int .u32 (ck : Nat), .bool g, .slice av lx.length cv], .int .i64 (all : Nat), .int .i64 (cf : Nat)]) ∧ lx.length ≤ cv ∧ BSl w' w'.heap.size av lx.length lx

/-- The same, the data's row being of the call's own. -/
def RefOwn (L : List (BitVec 8)) (w : World) (e : Ending) (w' : World) : Prop :=
  Below w.heap.size w w' ∧ ∃ key ck g lx all cf, ndGet L = (key, ck, g, lx, all, cf) ∧
    ∃ av cv, e = .returned (.tuple #[.agg #[.int .u64 (key : Nat), .int .u32 (ck : Nat), .bool g, .slice av lx.length cv], .int .i64 (all : Nat), .int .i64 (cf : Nat)]) ∧ lx.length ≤ cv ∧ w'.ownsRow w.heap.size 5 1 (.slice av lx.length cv) lx.length (lx.map bv)
theorem RefOwn.got {L : List (BitVec 8)} {w w' : World} {e : Ending} (h : RefOwn L w e w') : RefGot L w e w' := by
  obtain ⟨B, key, ck, g, lx, all, cf, he, av, cv, h1, h2, h3⟩ := h
  exact ⟨B, key, ck, g, lx, all, cf, he, av, cv, h1, h2, bsl_own h3⟩
theorem rgot_bad {L : List (BitVec 8)} {w w' : World} {cf : Nat} (h : ndGet L = ndBad cf) (B : Below w.heap.size w w') :
    RefOwn L w (.returned (.tuple #[.agg #[.int .u64 0, .int .u32 0, .bool false, .slice none 0 0], .int .i64 0, .int .i64 (cf : Nat)])) w' :=
  ⟨B, 0, 0, false, [], 0, cf, h, none, 0, rfl, Nat.le_refl _, rfl, .inl ⟨rfl, rfl⟩⟩

/-- append(v, b...) onto a row of the call's own that may be nil, whatever b is. -/
theorem append_any_bytes {W : World} {base k : Nat} {v : Value} {xs : List Value} (hown : W.ownsRow base 5 1 v k xs) {B : Nat} {a : Option Addr} {n : Nat} {l : List (BitVec 8)} (c : Nat) (h : BSl W B a n l) (hs : k + n ≤ 2199023255552) (hbase : base ≤ W.heap.size) :
    ∃ v' W', (Builtin.append_ #[27, 27] 27 #[v, .slice a n c]).run Tryd.prog W = .ok v' W' ∧
      W'.ownsRow base 5 1 v' (k + n) (xs ++ l.map bv) ∧ W.grownBy W' v.ownBlock ∧ (v'.ownBlock = v.ownBlock ∨ v'.ownBlock = some W.heap.size) := by
  cases a with
  | none =>
    obtain rfl := bsl_nil0 h rfl
    have hl : l = [] := List.eq_nil_of_length_eq_zero h.1
    subst hl
    exact ⟨v, W, append_nil_run hown, by simpa using hown, grown_refl W _, .inl rfl⟩
  | some ad =>
    obtain ⟨i0, hi, hz0, hz1, hz2⟩ := info_parts info_u8
    obtain ⟨v', w', hr, h2, h3, _, h5⟩ := run_append_own_at (P := Tryd.prog) W base 27 27 5 i0 (.int .u8 0) 1 1 Tryd.underlying27 hi hz0 hz1 hz2 rfl (by decide) v k xs hown ad n c (l.map bv) (by simp [h.1]) h.news (bv_one l) (by unfold maxLen; omega) (by omega) hbase
    exact ⟨v', w', hr, h2, h3, h5⟩
theorem own_form {W : World} {base k : Nat} {v : Value} {xs : List Value} {e : TypeId} (h : W.ownsRow base e 1 v k xs) : ∃ a c, v = .slice a k c ∧ k ≤ c := by
  rcases h.2 with ⟨rfl, rfl⟩ | ⟨g, cap, _, rfl, _, _, h1, _⟩
  · exact ⟨none, 0, rfl, Nat.le_refl _⟩
  · exact ⟨_, cap, rfl, h1⟩

end Go.Proofs.YtcdlmpiihcopaaaDoor
