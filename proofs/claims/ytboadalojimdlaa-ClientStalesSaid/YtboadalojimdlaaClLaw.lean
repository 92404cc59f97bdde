/-
  Next, Got and Reply at messages written out.
-/
import Derived.Test.YtboadalojimdlaaClAlive
import Derived.Test.YtboadalojimdlaaClGotA
import Derived.Test.YtboadalojimdlaaClGotB
import Derived.Test.YtboadalojimdlaaClGotC
import Derived.Test.YtboadalojimdlaaClRight
namespace Go.Proofs.Ytboadalojimdlaa
open Go.RowKit
set_option linter.unusedVariables false

theorem next_put {B : Nat} {r : RunR} (w : World) (h : RBl w B r) (hk : r.o.kd ≠ 3) (h0 : r.st = 0) :
    Calls Try.prog 40 #[.pointer (some ⟨B, 0, none⟩)] w fun e w' => ∃ av cv, e = .returned (.tuple #[.agg #[.int .i64 r.o.fr, .int .i64 r.o.a0, .int .i64 r.o.kd, .int .i64 r.o.vol, .int .i64 r.o.l0, .int .u64 r.o.id, .int .i64 0, .bool true, .int .u64 r.o.key, .int .u32 r.o.ck, .bool r.o.g, .slice av r.o.n cv], errc 0]) ∧ BOk w' av r.o.n cv r.o.l ∧ RBl w' B { r with told := true } ∧ w.grownBy w' (some B) := by
  have hp : plc r = 0 := by rw [plc_n hk, h0]
  refine (next_yes w h (by omega) (by omega)).mono ?_
  rintro e w' ⟨av, cv, rfl, hb, hR, hg⟩
  rw [req_0 h0, hp] at hb ⊢
  exact ⟨av, cv, rfl, hb, hR, hg⟩
theorem next_get {B : Nat} {r : RunR} (w : World) (h : RBl w B r) (hk : r.o.kd = 3) (h0 : r.st = 0) :
    Calls Try.prog 40 #[.pointer (some ⟨B, 0, none⟩)] w fun e w' => ∃ av cv, e = .returned (.tuple #[.agg #[.int .i64 r.o.fr, .int .i64 r.o.a2, .int .i64 r.o.kd, .int .i64 r.o.vol, .int .i64 r.o.l2, .int .u64 r.o.id, .int .i64 0, .bool true, .int .u64 r.o.key, .int .u32 r.o.ck, .bool r.o.g, .slice av r.o.n cv], errc 0]) ∧ BOk w' av r.o.n cv r.o.l ∧ RBl w' B { r with told := true } ∧ w.grownBy w' (some B) := by
  have hp : plc r = 2 := by rw [plc_3 hk h0]
  refine (next_yes w h (by omega) (by omega)).mono ?_
  rintro e w' ⟨av, cv, rfl, hb, hR, hg⟩
  rw [req_0 h0, hp] at hb ⊢
  exact ⟨av, cv, rfl, hb, hR, hg⟩
theorem next_1 {B : Nat} {r : RunR} (w : World) (h : RBl w B r) (h0 : r.st = 1) :
    Calls Try.prog 40 #[.pointer (some ⟨B, 0, none⟩)] w fun e w' => ∃ av cv, e = .returned (.tuple #[.agg #[.int .i64 r.o.fr, .int .i64 r.o.a1, .int .i64 2, .int .i64 r.o.vol, .int .i64 r.o.l1, .int .u64 r.o.id, .int .i64 0, .bool true, .int .u64 r.y.key, .int .u32 r.y.ck, .bool r.y.g, .slice av r.y.n cv], errc 0]) ∧ BOk w' av r.y.n cv r.y.l ∧ RBl w' B { r with told := true } ∧ w.grownBy w' (some B) := by
  have hp : plc r = 1 := by rw [plc_s (by omega), h0]
  refine (next_yes w h (by omega) (by omega)).mono ?_
  rintro e w' ⟨av, cv, rfl, hb, hR, hg⟩
  rw [req_s (by omega), hp] at hb ⊢
  exact ⟨av, cv, rfl, hb, hR, hg⟩
theorem next_2 {B : Nat} {r : RunR} (w : World) (h : RBl w B r) (h0 : r.st = 2) :
    Calls Try.prog 40 #[.pointer (some ⟨B, 0, none⟩)] w fun e w' => ∃ av cv, e = .returned (.tuple #[.agg #[.int .i64 r.o.fr, .int .i64 r.o.a2, .int .i64 2, .int .i64 r.o.vol, .int .i64 r.o.l2, .int .u64 r.o.id, .int .i64 0, .bool true, .int .u64 r.y.key, .int .u32 r.y.ck, .bool r.y.g, .slice av r.y.n cv], errc 0]) ∧ BOk w' av r.y.n cv r.y.l ∧ RBl w' B { r with told := true } ∧ w.grownBy w' (some B) := by
  have hp : plc r = 2 := by rw [plc_s (by omega), h0]
  refine (next_yes w h (by omega) (by omega)).mono ?_
  rintro e w' ⟨av, cv, rfl, hb, hR, hg⟩
  rw [req_s (by omega), hp] at hb ⊢
  exact ⟨av, cv, rfl, hb, hR, hg⟩
theorem x_stale_0 {B : Nat} {r : RunR} (w : World) (h : RBl w B r) (has : Bool) (y : NdC) (hb : BOk w y.a y.n y.c y.l) (hk : r.o.kd ≠ 3) (h0 : r.st = 0) (life : Int) (hl : r.o.l0 < life) (ht : r.told = true) :
    Calls Try.prog 41 #[.pointer (some ⟨B, 0, none⟩), .agg #[.int .i64 r.o.a0, .int .i64 r.o.fr, .int .i64 5, .int .i64 r.o.vol, .int .i64 life, .int .u64 r.o.id, .int .i64 13, .bool has, .int .u64 y.key, .int .u32 y.ck, .bool y.g, .slice y.a y.n y.c]] w fun e w' => e = .returned (errc 0) ∧ AgR w' B { r with o := { r.o with l0 := life } } ∧ w.grownBy w' (some B) :=
  got_stale_0 w ⟨r.o.a0, r.o.fr, 5, r.o.vol, life, r.o.id, 13, has, y.key, y.ck, y.g, y.a, y.n, y.c, y.l⟩ h hb hk h0 rfl rfl rfl rfl rfl rfl hl ht
theorem x_stale_2 {B : Nat} {r : RunR} (w : World) (h : RBl w B r) (has : Bool) (y : NdC) (hb : BOk w y.a y.n y.c y.l) (hk : r.o.kd = 3) (h0 : r.st = 0) (life : Int) (hl : r.o.l2 < life) (ht : r.told = true) :
    Calls Try.prog 41 #[.pointer (some ⟨B, 0, none⟩), .agg #[.int .i64 r.o.a2, .int .i64 r.o.fr, .int .i64 5, .int .i64 r.o.vol, .int .i64 life, .int .u64 r.o.id, .int .i64 13, .bool has, .int .u64 y.key, .int .u32 y.ck, .bool y.g, .slice y.a y.n y.c]] w fun e w' => e = .returned (errc 0) ∧ AgR w' B { r with o := { r.o with l2 := life } } ∧ w.grownBy w' (some B) :=
  got_stale_2 w ⟨r.o.a2, r.o.fr, 5, r.o.vol, life, r.o.id, 13, has, y.key, y.ck, y.g, y.a, y.n, y.c, y.l⟩ h hb hk h0 rfl rfl rfl rfl rfl rfl hl ht
theorem x_stale_11 {B : Nat} {r : RunR} (w : World) (h : RBl w B r) (has : Bool) (y : NdC) (hb : BOk w y.a y.n y.c y.l) (h0 : r.st = 1) (life : Int) (hl : r.o.l1 < life) :
    Calls Try.prog 41 #[.pointer (some ⟨B, 0, none⟩), .agg #[.int .i64 r.o.a1, .int .i64 r.o.fr, .int .i64 5, .int .i64 r.o.vol, .int .i64 life, .int .u64 r.o.id, .int .i64 13, .bool has, .int .u64 y.key, .int .u32 y.ck, .bool y.g, .slice y.a y.n y.c]] w fun e w' => e = .returned (errc 0) ∧ AgR w' B { r with o := { r.o with l1 := life } } ∧ w.grownBy w' (some B) :=
  got_stale_11 w ⟨r.o.a1, r.o.fr, 5, r.o.vol, life, r.o.id, 13, has, y.key, y.ck, y.g, y.a, y.n, y.c, y.l⟩ h hb h0 rfl rfl rfl rfl rfl rfl hl
theorem x_stale_22 {B : Nat} {r : RunR} (w : World) (h : RBl w B r) (has : Bool) (y : NdC) (hb : BOk w y.a y.n y.c y.l) (h0 : r.st = 2) (life : Int) (hl : r.o.l2 < life) :
    Calls Try.prog 41 #[.pointer (some ⟨B, 0, none⟩), .agg #[.int .i64 r.o.a2, .int .i64 r.o.fr, .int .i64 5, .int .i64 r.o.vol, .int .i64 life, .int .u64 r.o.id, .int .i64 13, .bool has, .int .u64 y.key, .int .u32 y.ck, .bool y.g, .slice y.a y.n y.c]] w fun e w' => e = .returned (errc 0) ∧ AgR w' B { r with o := { r.o with l2 := life } } ∧ w.grownBy w' (some B) :=
  got_stale_22 w ⟨r.o.a2, r.o.fr, 5, r.o.vol, life, r.o.id, 13, has, y.key, y.ck, y.g, y.a, y.n, y.c, y.l⟩ h hb h0 rfl rfl rfl rfl rfl rfl hl
theorem x_get {B : Nat} {r : RunR} (w : World) (h : RBl w B r) (has : Bool) (y : NdC) (hb : BOk w y.a y.n y.c y.l) (hk : r.o.kd = 3) (h0 : r.st = 0) :
    Calls Try.prog 41 #[.pointer (some ⟨B, 0, none⟩), .agg #[.int .i64 r.o.a2, .int .i64 r.o.fr, .int .i64 5, .int .i64 r.o.vol, .int .i64 r.o.l2, .int .u64 r.o.id, .int .i64 0, .bool has, .int .u64 y.key, .int .u32 y.ck, .bool y.g, .slice y.a y.n y.c]] w fun e w' => ∃ av cv, e = .returned (errc 0) ∧ RBl w' B { r with st := 3, code := 0, z := ⟨y.key, y.ck, y.g, av, y.n, cv, y.l⟩ } ∧ w.grownBy w' (some B) :=
  got_get w ⟨r.o.a2, r.o.fr, 5, r.o.vol, r.o.l2, r.o.id, 0, has, y.key, y.ck, y.g, y.a, y.n, y.c, y.l⟩ h hb hk h0 rfl rfl rfl rfl rfl rfl rfl
theorem x_put {B : Nat} {r : RunR} (w : World) (h : RBl w B r) (has : Bool) (y : NdC) (hb : BOk w y.a y.n y.c y.l) (hk : r.o.kd ≠ 3) (h0 : r.st = 0) :
    Calls Try.prog 41 #[.pointer (some ⟨B, 0, none⟩), .agg #[.int .i64 r.o.a0, .int .i64 r.o.fr, .int .i64 5, .int .i64 r.o.vol, .int .i64 r.o.l0, .int .u64 r.o.id, .int .i64 0, .bool has, .int .u64 y.key, .int .u32 y.ck, .bool y.g, .slice y.a y.n y.c]] w fun e w' => e = .returned (errc 0) ∧ RBl w' B { r with st := 1, code := 0, y := ⟨r.o.key, r.o.ck, r.o.kd == 4, r.o.a, r.o.n, r.o.c, r.o.l⟩ } ∧ w.grownBy w' (some B) :=
  got_put w ⟨r.o.a0, r.o.fr, 5, r.o.vol, r.o.l0, r.o.id, 0, has, y.key, y.ck, y.g, y.a, y.n, y.c, y.l⟩ h hb hk h0 rfl rfl rfl rfl rfl rfl rfl
theorem x_next_1 {B : Nat} {r : RunR} (w : World) (h : RBl w B r) (has : Bool) (y : NdC) (hb : BOk w y.a y.n y.c y.l) (h0 : r.st = 1) :
    Calls Try.prog 41 #[.pointer (some ⟨B, 0, none⟩), .agg #[.int .i64 r.o.a1, .int .i64 r.o.fr, .int .i64 5, .int .i64 r.o.vol, .int .i64 r.o.l1, .int .u64 r.o.id, .int .i64 0, .bool has, .int .u64 y.key, .int .u32 y.ck, .bool y.g, .slice y.a y.n y.c]] w fun e w' => e = .returned (errc 0) ∧ RBl w' B { r with st := 2 } ∧ w.grownBy w' (some B) :=
  got_next_1 w ⟨r.o.a1, r.o.fr, 5, r.o.vol, r.o.l1, r.o.id, 0, has, y.key, y.ck, y.g, y.a, y.n, y.c, y.l⟩ h hb h0 rfl rfl rfl rfl rfl rfl rfl
theorem x_next_2 {B : Nat} {r : RunR} (w : World) (h : RBl w B r) (has : Bool) (y : NdC) (hb : BOk w y.a y.n y.c y.l) (h0 : r.st = 2) :
    Calls Try.prog 41 #[.pointer (some ⟨B, 0, none⟩), .agg #[.int .i64 r.o.a2, .int .i64 r.o.fr, .int .i64 5, .int .i64 r.o.vol, .int .i64 r.o.l2, .int .u64 r.o.id, .int .i64 0, .bool has, .int .u64 y.key, .int .u32 y.ck, .bool y.g, .slice y.a y.n y.c]] w fun e w' => e = .returned (errc 0) ∧ RBl w' B { r with st := 3 } ∧ w.grownBy w' (some B) :=
  got_next_2 w ⟨r.o.a2, r.o.fr, 5, r.o.vol, r.o.l2, r.o.id, 0, has, y.key, y.ck, y.g, y.a, y.n, y.c, y.l⟩ h hb h0 rfl rfl rfl rfl rfl rfl rfl
theorem x_met {B : Nat} {r : RunR} (w : World) (h : RBl w B r) (y : NdC) (hb : BOk w y.a y.n y.c y.l) (hk : r.o.kd ≠ 3) (h0 : r.st = 0) (c : Int) (hc : c = 7 ∨ c = 8 ∨ c = 9) (hag : r.again = false) :
    Calls Try.prog 41 #[.pointer (some ⟨B, 0, none⟩), .agg #[.int .i64 r.o.a0, .int .i64 r.o.fr, .int .i64 5, .int .i64 r.o.vol, .int .i64 r.o.l0, .int .u64 r.o.id, .int .i64 c, .bool true, .int .u64 y.key, .int .u32 y.ck, .bool y.g, .slice y.a y.n y.c]] w fun e w' => ∃ av cv, e = .returned (errc 0) ∧ RBl w' B { r with st := 1, code := c, y := ⟨y.key, y.ck, y.g, av, y.n, cv, y.l⟩ } ∧ w.grownBy w' (some B) :=
  got_met w ⟨r.o.a0, r.o.fr, 5, r.o.vol, r.o.l0, r.o.id, c, true, y.key, y.ck, y.g, y.a, y.n, y.c, y.l⟩ h hb hk h0 rfl rfl rfl rfl rfl rfl hc rfl hag
theorem x_not {B : Nat} {r : RunR} (w : World) (h : RBl w B r) (y : NdC) (hb : BOk w y.a y.n y.c y.l) (hk : r.o.kd ≠ 3) (h0 : r.st = 0) (c : Int) (hc : c = 7 ∨ c = 8 ∨ c = 9) (hag : r.again = false) :
    Calls Try.prog 41 #[.pointer (some ⟨B, 0, none⟩), .agg #[.int .i64 r.o.a0, .int .i64 r.o.fr, .int .i64 5, .int .i64 r.o.vol, .int .i64 r.o.l0, .int .u64 r.o.id, .int .i64 c, .bool false, .int .u64 y.key, .int .u32 y.ck, .bool y.g, .slice y.a y.n y.c]] w fun e w' => e = .returned (errc 0) ∧ RBl w' B { r with st := 3, code := 17, z := ndN } ∧ w.grownBy w' (some B) :=
  got_not w ⟨r.o.a0, r.o.fr, 5, r.o.vol, r.o.l0, r.o.id, c, false, y.key, y.ck, y.g, y.a, y.n, y.c, y.l⟩ h hb hk h0 rfl rfl rfl rfl rfl rfl hc rfl hag
theorem x_reply (fr tt kd vol life : Int) (id : Nat) (cd : Int) (has : Bool) (key ck : Nat) (g : Bool) (a : Option Addr) (n c : Nat) (code : Int) (has' : Bool) (key' ck' : Nat) (g' : Bool) (a' : Option Addr) (n' c' : Nat) (w : World) :
    Calls Try.prog 42 #[.agg #[.int .i64 fr, .int .i64 tt, .int .i64 kd, .int .i64 vol, .int .i64 life, .int .u64 id, .int .i64 cd, .bool has, .int .u64 key, .int .u32 ck, .bool g, .slice a n c], .int .i64 code, .bool has', .agg #[.int .u64 key', .int .u32 ck', .bool g', .slice a' n' c']] w
      fun e w' => e = .returned (.agg #[.int .i64 tt, .int .i64 fr, .int .i64 5, .int .i64 vol, .int .i64 life, .int .u64 id, .int .i64 code, .bool has', .int .u64 key', .int .u32 ck', .bool g', .slice a' n' c']) ∧ Below w.heap.size w w' :=
  reply_any ⟨fr, tt, kd, vol, life, id, cd, has, key, ck, g, a, n, c, []⟩ code has' ⟨key', ck', g', a', n', c', []⟩ w
theorem x_reply0 (fr tt kd vol life : Int) (id : Nat) (cd : Int) (has : Bool) (key ck : Nat) (g : Bool) (a : Option Addr) (n c : Nat) (code : Int) (has' : Bool) (w : World) :
    Calls Try.prog 42 #[.agg #[.int .i64 fr, .int .i64 tt, .int .i64 kd, .int .i64 vol, .int .i64 life, .int .u64 id, .int .i64 cd, .bool has, .int .u64 key, .int .u32 ck, .bool g, .slice a n c], .int .i64 code, .bool has', .agg #[.int .u64 0, .int .u32 0, .bool false, .slice none 0 0]] w
      fun e w' => e = .returned (.agg #[.int .i64 tt, .int .i64 fr, .int .i64 5, .int .i64 vol, .int .i64 life, .int .u64 id, .int .i64 code, .bool has', .int .u64 0, .int .u32 0, .bool false, .slice none 0 0]) ∧ Below w.heap.size w w' :=
  reply_any ⟨fr, tt, kd, vol, life, id, cd, has, key, ck, g, a, n, c, []⟩ code has' ndN w
end Go.Proofs.Ytboadalojimdlaa
