/-
  A whole message written into a block; once.own.
-/
import Derived.Test.YtpkfjnhjcdcoaaaMsg
import Derived.Test.YtpkfjnhjcdcoaaaNdlGet
namespace Go.Proofs.Ytpkfjnhjcdcoaaa
open Go.RowKit

theorem Blk.twelve_frozen {w : World} {B : Nat} {T : TypeId} {cs : Array Value} (h : Blk w B T cs) :
    w.frozen? ⟨B, 0, none⟩ = false ∧ w.frozen? ⟨B, 1, none⟩ = false ∧ w.frozen? ⟨B, 2, none⟩ = false ∧ w.frozen? ⟨B, 3, none⟩ = false ∧ w.frozen? ⟨B, 4, none⟩ = false ∧ w.frozen? ⟨B, 5, none⟩ = false ∧ w.frozen? ⟨B, 6, none⟩ = false ∧ w.frozen? ⟨B, 7, none⟩ = false ∧ w.frozen? ⟨B, 8, none⟩ = false ∧ w.frozen? ⟨B, 9, none⟩ = false ∧ w.frozen? ⟨B, 10, none⟩ = false ∧ w.frozen? ⟨B, 11, none⟩ = false :=
  ⟨h.frozen 0, h.frozen 1, h.frozen 2, h.frozen 3, h.frozen 4, h.frozen 5, h.frozen 6, h.frozen 7, h.frozen 8, h.frozen 9, h.frozen 10, h.frozen 11⟩
theorem Blk.put12 {w : World} {B : Nat} {T : TypeId} {v0 v1 v2 v3 v4 v5 v6 v7 v8 v9 v10 v11 : Value} (h : Blk w B T #[v0, v1, v2, v3, v4, v5, v6, v7, v8, v9, v10, v11]) (u0 u1 u2 u3 u4 u5 u6 u7 u8 u9 u10 u11 : Value) :
    Blk ((((((((((((w.setCell ⟨B, 0, none⟩ u0).setCell ⟨B, 1, none⟩ u1).setCell ⟨B, 2, none⟩ u2).setCell ⟨B, 3, none⟩ u3).setCell ⟨B, 4, none⟩ u4).setCell ⟨B, 5, none⟩ u5).setCell ⟨B, 6, none⟩ u6).setCell ⟨B, 7, none⟩ u7).setCell ⟨B, 8, none⟩ u8).setCell ⟨B, 9, none⟩ u9).setCell ⟨B, 10, none⟩ u10).setCell ⟨B, 11, none⟩ u11) B T #[u0, u1, u2, u3, u4, u5, u6, u7, u8, u9, u10, u11] :=
  by
  have h1 : Blk (w.setCell ⟨B, 0, none⟩ u0) B T #[u0, v1, v2, v3, v4, v5, v6, v7, v8, v9, v10, v11] := h.put 0 u0
  have h2 : Blk ((w.setCell ⟨B, 0, none⟩ u0).setCell ⟨B, 1, none⟩ u1) B T #[u0, u1, v2, v3, v4, v5, v6, v7, v8, v9, v10, v11] := h1.put 1 u1
  have h3 : Blk (((w.setCell ⟨B, 0, none⟩ u0).setCell ⟨B, 1, none⟩ u1).setCell ⟨B, 2, none⟩ u2) B T #[u0, u1, u2, v3, v4, v5, v6, v7, v8, v9, v10, v11] := h2.put 2 u2
  have h4 : Blk ((((w.setCell ⟨B, 0, none⟩ u0).setCell ⟨B, 1, none⟩ u1).setCell ⟨B, 2, none⟩ u2).setCell ⟨B, 3, none⟩ u3) B T #[u0, u1, u2, u3, v4, v5, v6, v7, v8, v9, v10, v11] := h3.put 3 u3
  have h5 : Blk (((((w.setCell ⟨B, 0, none⟩ u0).setCell ⟨B, 1, none⟩ u1).setCell ⟨B, 2, none⟩ u2).setCell ⟨B, 3, none⟩ u3).setCell ⟨B, 4, none⟩ u4) B T #[u0, u1, u2, u3, u4, v5, v6, v7, v8, v9, v10, v11] := h4.put 4 u4
  have h6 : Blk ((((((w.setCell ⟨B, 0, none⟩ u0).setCell ⟨B, 1, none⟩ u1).setCell ⟨B, 2, none⟩ u2).setCell ⟨B, 3, none⟩ u3).setCell ⟨B, 4, none⟩ u4).setCell ⟨B, 5, none⟩ u5) B T #[u0, u1, u2, u3, u4, u5, v6, v7, v8, v9, v10, v11] := h5.put 5 u5
  have h7 : Blk (((((((w.setCell ⟨B, 0, none⟩ u0).setCell ⟨B, 1, none⟩ u1).setCell ⟨B, 2, none⟩ u2).setCell ⟨B, 3, none⟩ u3).setCell ⟨B, 4, none⟩ u4).setCell ⟨B, 5, none⟩ u5).setCell ⟨B, 6, none⟩ u6) B T #[u0, u1, u2, u3, u4, u5, u6, v7, v8, v9, v10, v11] := h6.put 6 u6
  have h8 : Blk ((((((((w.setCell ⟨B, 0, none⟩ u0).setCell ⟨B, 1, none⟩ u1).setCell ⟨B, 2, none⟩ u2).setCell ⟨B, 3, none⟩ u3).setCell ⟨B, 4, none⟩ u4).setCell ⟨B, 5, none⟩ u5).setCell ⟨B, 6, none⟩ u6).setCell ⟨B, 7, none⟩ u7) B T #[u0, u1, u2, u3, u4, u5, u6, u7, v8, v9, v10, v11] := h7.put 7 u7
  have h9 : Blk (((((((((w.setCell ⟨B, 0, none⟩ u0).setCell ⟨B, 1, none⟩ u1).setCell ⟨B, 2, none⟩ u2).setCell ⟨B, 3, none⟩ u3).setCell ⟨B, 4, none⟩ u4).setCell ⟨B, 5, none⟩ u5).setCell ⟨B, 6, none⟩ u6).setCell ⟨B, 7, none⟩ u7).setCell ⟨B, 8, none⟩ u8) B T #[u0, u1, u2, u3, u4, u5, u6, u7, u8, v9, v10, v11] := h8.put 8 u8
  have h10 : Blk ((((((((((w.setCell ⟨B, 0, none⟩ u0).setCell ⟨B, 1, none⟩ u1).setCell ⟨B, 2, none⟩ u2).setCell ⟨B, 3, none⟩ u3).setCell ⟨B, 4, none⟩ u4).setCell ⟨B, 5, none⟩ u5).setCell ⟨B, 6, none⟩ u6).setCell ⟨B, 7, none⟩ u7).setCell ⟨B, 8, none⟩ u8).setCell ⟨B, 9, none⟩ u9) B T #[u0, u1, u2, u3, u4, u5, u6, u7, u8, u9, v10, v11] := h9.put 9 u9
  have h11 : Blk (((((((((((w.setCell ⟨B, 0, none⟩ u0).setCell ⟨B, 1, none⟩ u1).setCell ⟨B, 2, none⟩ u2).setCell ⟨B, 3, none⟩ u3).setCell ⟨B, 4, none⟩ u4).setCell ⟨B, 5, none⟩ u5).setCell ⟨B, 6, none⟩ u6).setCell ⟨B, 7, none⟩ u7).setCell ⟨B, 8, none⟩ u8).setCell ⟨B, 9, none⟩ u9).setCell ⟨B, 10, none⟩ u10) B T #[u0, u1, u2, u3, u4, u5, u6, u7, u8, u9, u10, v11] := h10.put 10 u10
  have h12 : Blk ((((((((((((w.setCell ⟨B, 0, none⟩ u0).setCell ⟨B, 1, none⟩ u1).setCell ⟨B, 2, none⟩ u2).setCell ⟨B, 3, none⟩ u3).setCell ⟨B, 4, none⟩ u4).setCell ⟨B, 5, none⟩ u5).setCell ⟨B, 6, none⟩ u6).setCell ⟨B, 7, none⟩ u7).setCell ⟨B, 8, none⟩ u8).setCell ⟨B, 9, none⟩ u9).setCell ⟨B, 10, none⟩ u10).setCell ⟨B, 11, none⟩ u11) B T #[u0, u1, u2, u3, u4, u5, u6, u7, u8, u9, u10, u11] := h11.put 11 u11
  exact h12
theorem below_put12 {w : World} {X : World} {B0 B : Nat} (h : Below B0 X w) (hB : B0 ≤ B) (u0 u1 u2 u3 u4 u5 u6 u7 u8 u9 u10 u11 : Value) :
    Below B0 X ((((((((((((w.setCell ⟨B, 0, none⟩ u0).setCell ⟨B, 1, none⟩ u1).setCell ⟨B, 2, none⟩ u2).setCell ⟨B, 3, none⟩ u3).setCell ⟨B, 4, none⟩ u4).setCell ⟨B, 5, none⟩ u5).setCell ⟨B, 6, none⟩ u6).setCell ⟨B, 7, none⟩ u7).setCell ⟨B, 8, none⟩ u8).setCell ⟨B, 9, none⟩ u9).setCell ⟨B, 10, none⟩ u10).setCell ⟨B, 11, none⟩ u11) :=
  (((((((((((h.setCell (p := ⟨B, 0, none⟩) hB u0).setCell (p := ⟨B, 1, none⟩) hB u1).setCell (p := ⟨B, 2, none⟩) hB u2).setCell (p := ⟨B, 3, none⟩) hB u3).setCell (p := ⟨B, 4, none⟩) hB u4).setCell (p := ⟨B, 5, none⟩) hB u5).setCell (p := ⟨B, 6, none⟩) hB u6).setCell (p := ⟨B, 7, none⟩) hB u7).setCell (p := ⟨B, 8, none⟩) hB u8).setCell (p := ⟨B, 9, none⟩) hB u9).setCell (p := ⟨B, 10, none⟩) hB u10).setCell (p := ⟨B, 11, none⟩) hB u11
theorem grown_put12 {w : World} {X : World} {B : Nat} (h : X.grownBy w (some B)) (u0 u1 u2 u3 u4 u5 u6 u7 u8 u9 u10 u11 : Value) :
    X.grownBy ((((((((((((w.setCell ⟨B, 0, none⟩ u0).setCell ⟨B, 1, none⟩ u1).setCell ⟨B, 2, none⟩ u2).setCell ⟨B, 3, none⟩ u3).setCell ⟨B, 4, none⟩ u4).setCell ⟨B, 5, none⟩ u5).setCell ⟨B, 6, none⟩ u6).setCell ⟨B, 7, none⟩ u7).setCell ⟨B, 8, none⟩ u8).setCell ⟨B, 9, none⟩ u9).setCell ⟨B, 10, none⟩ u10).setCell ⟨B, 11, none⟩ u11) (some B) :=
  grown_put (grown_put (grown_put (grown_put (grown_put (grown_put (grown_put (grown_put (grown_put (grown_put (grown_put (grown_put h 0 u0) 1 u1) 2 u2) 3 u3) 4 u4) 5 u5) 6 u6) 7 u7) 8 u8) 9 u9) 10 u10) 11 u11
/-- Its cells, written. -/
def putMsg (w : World) (B : Nat) (m : MsgR) : World := ((((((((((((w.setCell ⟨B, 0, none⟩ (.int .i64 m.fr)).setCell ⟨B, 1, none⟩ (.int .i64 m.tt)).setCell ⟨B, 2, none⟩ (.int .i64 m.kd)).setCell ⟨B, 3, none⟩ (.int .i64 m.vol)).setCell ⟨B, 4, none⟩ (.int .i64 m.life)).setCell ⟨B, 5, none⟩ (.int .u64 m.id)).setCell ⟨B, 6, none⟩ (.int .i64 m.cd)).setCell ⟨B, 7, none⟩ (.bool m.has)).setCell ⟨B, 8, none⟩ (.int .u64 m.key)).setCell ⟨B, 9, none⟩ (.int .u32 m.ck)).setCell ⟨B, 10, none⟩ (.bool m.g)).setCell ⟨B, 11, none⟩ (.slice m.a m.n m.c))
theorem Blk.putMsg {w : World} {B : Nat} {T : TypeId} {v0 v1 v2 v3 v4 v5 v6 v7 v8 v9 v10 v11 : Value} (h : Blk w B T #[v0, v1, v2, v3, v4, v5, v6, v7, v8, v9, v10, v11]) (m : MsgR) : Blk (putMsg w B m) B T m.cells.toArray := Blk.put12 h _ _ _ _ _ _ _ _ _ _ _ _
theorem below_putMsg {w : World} {X : World} {B0 B : Nat} (h : Below B0 X w) (hB : B0 ≤ B) (m : MsgR) : Below B0 X (putMsg w B m) := below_put12 h hB _ _ _ _ _ _ _ _ _ _ _ _
theorem row_base {W : World} {base base' size k : Nat} {e : TypeId} {v : Value} {xs : List Value} (h : W.ownsRow base e size v k xs) (hb : base' ≤ base) : W.ownsRow base' e size v k xs :=
  ⟨h.1, h.2.imp id fun ⟨g, cap, cur, e1, e2, e3⟩ => ⟨g, cap, cur, e1, Nat.le_trans hb e2, e3⟩⟩
theorem row_far {W W' : World} {base b size k : Nat} {e : TypeId} {v : Value} {xs : List Value} (h : W.ownsRow base e size v k xs) (hg : W.grownBy W' (some b)) (hb : b < base) : W'.ownsRow base e size v k xs :=
  h.kept hg (by
    rcases h.2 with ⟨e1, _⟩ | ⟨g, cap, cur, e1, e2, _⟩
    · left; rw [e1]; rfl
    · right; rw [e1]; intro q; injection q with q; exact absurd q (by show g ≠ b; omega))
end Go.Proofs.Ytpkfjnhjcdcoaaa
