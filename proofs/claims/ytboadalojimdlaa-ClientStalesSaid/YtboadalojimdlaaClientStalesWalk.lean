/-
  The walk of corncriblaw21.ClientStales.
-/
import Derived.Test.YtboadalojimdlaaClLaw
import Derived.Test.YtboadalojimdlaaClRight
import Derived.Deep.CutBlock
import Derived.Deep.DeepCutAuto
import Derived.StillTailTactics
namespace Go.Proofs.Ytboadalojimdlaa
open Go.RowKit
set_option linter.unusedVariables false

theorem next_p0 {B : Nat} {r : RunR} (w : World) (h : RBl w B r) (h0 : 0 ≤ r.st) (h2 : r.st ≤ 2) (hp : plc r = 0) :
    Calls Try.prog 40 #[.pointer (some ⟨B, 0, none⟩)] w fun e w' => ∃ (kd : Int) (y : NdC), e = .returned (.tuple #[.agg #[.int .i64 r.o.fr, .int .i64 r.o.a0, .int .i64 kd, .int .i64 r.o.vol, .int .i64 r.o.l0, .int .u64 r.o.id, .int .i64 0, .bool true, .int .u64 y.key, .int .u32 y.ck, .bool y.g, .slice y.a y.n y.c], errc 0]) ∧ BOk w' y.a y.n y.c y.l ∧ RBl w' B { r with told := true } ∧ w.grownBy w' (some B) := by
  refine (next_yes w h h0 h2).mono ?_
  rintro e w' ⟨av, cv, rfl, hb, hR, hg⟩
  by_cases hs : r.st = 0
  · rw [req_0 hs, hp] at hb ⊢
    exact ⟨r.o.kd, ⟨r.o.key, r.o.ck, r.o.g, av, r.o.n, cv, r.o.l⟩, rfl, hb, hR, hg⟩
  · rw [req_s hs, hp] at hb ⊢
    exact ⟨2, ⟨r.y.key, r.y.ck, r.y.g, av, r.y.n, cv, r.y.l⟩, rfl, hb, hR, hg⟩
theorem stale_p0 {B : Nat} {r : RunR} (w : World) (h : RBl w B r) (h0 : 0 ≤ r.st) (h2 : r.st ≤ 2) (hp : plc r = 0) (ht : r.told = true) (life : Int) (hl : r.o.l0 < life) :
    Calls Try.prog 41 #[.pointer (some ⟨B, 0, none⟩), .agg #[.int .i64 r.o.a0, .int .i64 r.o.fr, .int .i64 5, .int .i64 r.o.vol, .int .i64 life, .int .u64 r.o.id, .int .i64 13, .bool false, .int .u64 0, .int .u32 0, .bool false, .slice none 0 0]] w fun e w' => e = .returned (errc 0) ∧ AgR w' B { r with o := { r.o with l0 := life } } ∧ w.grownBy w' (some B) := by
  unfold plc at hp
  split at hp
  · omega
  rename_i hn
  exact x_stale_0 w h false ndN (BOk.nil _ _ _) (fun e => hn ⟨e, hp⟩) hp life hl ht
theorem good_p0 {B : Nat} {r : RunR} (w : World) (h : RBl w B r) (h0 : 0 ≤ r.st) (h2 : r.st ≤ 2) (hp : plc r = 0) (has : Bool) (y : NdC) (hb : BOk w y.a y.n y.c y.l) :
    Calls Try.prog 41 #[.pointer (some ⟨B, 0, none⟩), .agg #[.int .i64 r.o.a0, .int .i64 r.o.fr, .int .i64 5, .int .i64 r.o.vol, .int .i64 r.o.l0, .int .u64 r.o.id, .int .i64 0, .bool has, .int .u64 y.key, .int .u32 y.ck, .bool y.g, .slice y.a y.n y.c]] w fun e w' => e = .returned (errc 0) ∧ (∃ r', RBl w' B r' ∧ r'.o = r.o ∧ 0 ≤ r'.st ∧ r'.st ≤ 3 ∧ (r.code = 0 → r'.code = 0)) ∧ w.grownBy w' (some B) := by
  unfold plc at hp
  split at hp
  · omega
  rename_i hn
  refine (x_put w h has y hb (fun e => hn ⟨e, hp⟩) hp).mono ?_
  rintro e w' ⟨rfl, hR, hg⟩
  exact ⟨rfl, ⟨_, hR, rfl, by show (0 : Int) ≤ 1; omega, by show (1 : Int) ≤ 3; omega, fun _ => rfl⟩, hg⟩
theorem next_p1 {B : Nat} {r : RunR} (w : World) (h : RBl w B r) (h0 : 0 ≤ r.st) (h2 : r.st ≤ 2) (hp : plc r = 1) :
    Calls Try.prog 40 #[.pointer (some ⟨B, 0, none⟩)] w fun e w' => ∃ (kd : Int) (y : NdC), e = .returned (.tuple #[.agg #[.int .i64 r.o.fr, .int .i64 r.o.a1, .int .i64 kd, .int .i64 r.o.vol, .int .i64 r.o.l1, .int .u64 r.o.id, .int .i64 0, .bool true, .int .u64 y.key, .int .u32 y.ck, .bool y.g, .slice y.a y.n y.c], errc 0]) ∧ BOk w' y.a y.n y.c y.l ∧ RBl w' B { r with told := true } ∧ w.grownBy w' (some B) := by
  refine (next_yes w h h0 h2).mono ?_
  rintro e w' ⟨av, cv, rfl, hb, hR, hg⟩
  by_cases hs : r.st = 0
  · rw [req_0 hs, hp] at hb ⊢
    exact ⟨r.o.kd, ⟨r.o.key, r.o.ck, r.o.g, av, r.o.n, cv, r.o.l⟩, rfl, hb, hR, hg⟩
  · rw [req_s hs, hp] at hb ⊢
    exact ⟨2, ⟨r.y.key, r.y.ck, r.y.g, av, r.y.n, cv, r.y.l⟩, rfl, hb, hR, hg⟩
theorem stale_p1 {B : Nat} {r : RunR} (w : World) (h : RBl w B r) (h0 : 0 ≤ r.st) (h2 : r.st ≤ 2) (hp : plc r = 1) (ht : r.told = true) (life : Int) (hl : r.o.l1 < life) :
    Calls Try.prog 41 #[.pointer (some ⟨B, 0, none⟩), .agg #[.int .i64 r.o.a1, .int .i64 r.o.fr, .int .i64 5, .int .i64 r.o.vol, .int .i64 life, .int .u64 r.o.id, .int .i64 13, .bool false, .int .u64 0, .int .u32 0, .bool false, .slice none 0 0]] w fun e w' => e = .returned (errc 0) ∧ AgR w' B { r with o := { r.o with l1 := life } } ∧ w.grownBy w' (some B) := by
  unfold plc at hp
  split at hp
  · omega
  exact x_stale_11 w h false ndN (BOk.nil _ _ _) hp life hl
theorem good_p1 {B : Nat} {r : RunR} (w : World) (h : RBl w B r) (h0 : 0 ≤ r.st) (h2 : r.st ≤ 2) (hp : plc r = 1) (has : Bool) (y : NdC) (hb : BOk w y.a y.n y.c y.l) :
    Calls Try.prog 41 #[.pointer (some ⟨B, 0, none⟩), .agg #[.int .i64 r.o.a1, .int .i64 r.o.fr, .int .i64 5, .int .i64 r.o.vol, .int .i64 r.o.l1, .int .u64 r.o.id, .int .i64 0, .bool has, .int .u64 y.key, .int .u32 y.ck, .bool y.g, .slice y.a y.n y.c]] w fun e w' => e = .returned (errc 0) ∧ (∃ r', RBl w' B r' ∧ r'.o = r.o ∧ 0 ≤ r'.st ∧ r'.st ≤ 3 ∧ (r.code = 0 → r'.code = 0)) ∧ w.grownBy w' (some B) := by
  unfold plc at hp
  split at hp
  · omega
  refine (x_next_1 w h has y hb hp).mono ?_
  rintro e w' ⟨rfl, hR, hg⟩
  exact ⟨rfl, ⟨_, hR, rfl, by show (0 : Int) ≤ 2; omega, by show (2 : Int) ≤ 3; omega, fun h => h⟩, hg⟩
theorem next_p2 {B : Nat} {r : RunR} (w : World) (h : RBl w B r) (h0 : 0 ≤ r.st) (h2 : r.st ≤ 2) (hp : plc r = 2) :
    Calls Try.prog 40 #[.pointer (some ⟨B, 0, none⟩)] w fun e w' => ∃ (kd : Int) (y : NdC), e = .returned (.tuple #[.agg #[.int .i64 r.o.fr, .int .i64 r.o.a2, .int .i64 kd, .int .i64 r.o.vol, .int .i64 r.o.l2, .int .u64 r.o.id, .int .i64 0, .bool true, .int .u64 y.key, .int .u32 y.ck, .bool y.g, .slice y.a y.n y.c], errc 0]) ∧ BOk w' y.a y.n y.c y.l ∧ RBl w' B { r with told := true } ∧ w.grownBy w' (some B) := by
  refine (next_yes w h h0 h2).mono ?_
  rintro e w' ⟨av, cv, rfl, hb, hR, hg⟩
  by_cases hs : r.st = 0
  · rw [req_0 hs, hp] at hb ⊢
    exact ⟨r.o.kd, ⟨r.o.key, r.o.ck, r.o.g, av, r.o.n, cv, r.o.l⟩, rfl, hb, hR, hg⟩
  · rw [req_s hs, hp] at hb ⊢
    exact ⟨2, ⟨r.y.key, r.y.ck, r.y.g, av, r.y.n, cv, r.y.l⟩, rfl, hb, hR, hg⟩
theorem stale_p2 {B : Nat} {r : RunR} (w : World) (h : RBl w B r) (h0 : 0 ≤ r.st) (h2 : r.st ≤ 2) (hp : plc r = 2) (ht : r.told = true) (life : Int) (hl : r.o.l2 < life) :
    Calls Try.prog 41 #[.pointer (some ⟨B, 0, none⟩), .agg #[.int .i64 r.o.a2, .int .i64 r.o.fr, .int .i64 5, .int .i64 r.o.vol, .int .i64 life, .int .u64 r.o.id, .int .i64 13, .bool false, .int .u64 0, .int .u32 0, .bool false, .slice none 0 0]] w fun e w' => e = .returned (errc 0) ∧ AgR w' B { r with o := { r.o with l2 := life } } ∧ w.grownBy w' (some B) := by
  unfold plc at hp
  split at hp
  · rename_i hn
    exact x_stale_2 w h false ndN (BOk.nil _ _ _) hn.1 hn.2 life hl ht
  exact x_stale_22 w h false ndN (BOk.nil _ _ _) hp life hl
theorem good_p2 {B : Nat} {r : RunR} (w : World) (h : RBl w B r) (h0 : 0 ≤ r.st) (h2 : r.st ≤ 2) (hp : plc r = 2) (has : Bool) (y : NdC) (hb : BOk w y.a y.n y.c y.l) :
    Calls Try.prog 41 #[.pointer (some ⟨B, 0, none⟩), .agg #[.int .i64 r.o.a2, .int .i64 r.o.fr, .int .i64 5, .int .i64 r.o.vol, .int .i64 r.o.l2, .int .u64 r.o.id, .int .i64 0, .bool has, .int .u64 y.key, .int .u32 y.ck, .bool y.g, .slice y.a y.n y.c]] w fun e w' => e = .returned (errc 0) ∧ (∃ r', RBl w' B r' ∧ r'.o = r.o ∧ 0 ≤ r'.st ∧ r'.st ≤ 3 ∧ (r.code = 0 → r'.code = 0)) ∧ w.grownBy w' (some B) := by
  unfold plc at hp
  split at hp
  · rename_i hn
    refine (x_get w h has y hb hn.1 hn.2).mono ?_
    rintro e w' ⟨av, cv, rfl, hR, hg⟩
    exact ⟨rfl, ⟨_, hR, rfl, by show (0 : Int) ≤ 3; omega, by show (3 : Int) ≤ 3; omega, fun _ => rfl⟩, hg⟩
  refine (x_next_2 w h has y hb hp).mono ?_
  rintro e w' ⟨rfl, hR, hg⟩
  exact ⟨rfl, ⟨_, hR, rfl, by show (0 : Int) ≤ 3; omega, by show (3 : Int) ≤ 3; omega, fun h => h⟩, hg⟩
theorem bsl_cell {w : World} {B b off n k : Nat} {l : List (BitVec 8)} (h : BSl w B (some ⟨b, off, none⟩) n l) (hk : k < n) : w.cell? ⟨b, off + k, none⟩ = some (.int .u8 ((l.getD k 0).toNat : Int)) := by
  obtain ⟨b', o', e, -, c⟩ := h.at_ hk
  injection e with e
  injection e with e1 e2
  subst e1 e2
  exact c
theorem plc_in {r : RunR} (h0 : 0 ≤ r.st) (h2 : r.st ≤ 2) : plc r = 0 ∨ plc r = 1 ∨ plc r = 2 := by
  unfold plc
  split <;> omega
/-- The place that is asked, who stands there, and its life. -/
def PT (o : OpR) (p : Nat) (T L : Int) : Prop := (p = 0 ∧ T = o.a0 ∧ L = o.l0) ∨ (p = 1 ∧ T = o.a1 ∧ L = o.l1) ∨ (p = 2 ∧ T = o.a2 ∧ L = o.l2)
/-- The lives with one put. -/
def PU (p : Nat) (x l0 l1 l2 m0 m1 m2 : Int) : Prop := (p = 0 ∧ m0 = x ∧ m1 = l1 ∧ m2 = l2) ∨ (p = 1 ∧ m0 = l0 ∧ m1 = x ∧ m2 = l2) ∨ (p = 2 ∧ m0 = l0 ∧ m1 = l1 ∧ m2 = x)
theorem pt_in {r : RunR} (h0 : 0 ≤ r.st) (h2 : r.st ≤ 2) : ∃ (p : Nat) (T L : Int), plc r = (p : Int) ∧ p < 3 ∧ PT r.o p T L := by
  rcases plc_in h0 h2 with e | e | e
  · exact ⟨0, _, _, e, by omega, .inl ⟨rfl, rfl, rfl⟩⟩
  · exact ⟨1, _, _, e, by omega, .inr (.inl ⟨rfl, rfl, rfl⟩)⟩
  · exact ⟨2, _, _, e, by omega, .inr (.inr ⟨rfl, rfl, rfl⟩)⟩
theorem pu_in {p : Nat} (hp : p < 3) (x l0 l1 l2 : Int) : ∃ m0 m1 m2, PU p x l0 l1 l2 m0 m1 m2 := by
  have h : p = 0 ∨ p = 1 ∨ p = 2 := by omega
  rcases h with e | e | e
  · exact ⟨_, _, _, .inl ⟨e, rfl, rfl, rfl⟩⟩
  · exact ⟨_, _, _, .inr (.inl ⟨e, rfl, rfl, rfl⟩)⟩
  · exact ⟨_, _, _, .inr (.inr ⟨e, rfl, rfl, rfl⟩)⟩
theorem next_g {B : Nat} {r : RunR} (w : World) (h : RBl w B r) (h0 : 0 ≤ r.st) (h2 : r.st ≤ 2) {p : Nat} {T L : Int} (hp : plc r = (p : Int)) (hT : PT r.o p T L) :
    Calls Try.prog 40 #[.pointer (some ⟨B, 0, none⟩)] w fun e w' => ∃ (kd : Int) (y : NdC), e = .returned (.tuple #[.agg #[.int .i64 r.o.fr, .int .i64 T, .int .i64 kd, .int .i64 r.o.vol, .int .i64 L, .int .u64 r.o.id, .int .i64 0, .bool true, .int .u64 y.key, .int .u32 y.ck, .bool y.g, .slice y.a y.n y.c], errc 0]) ∧ BOk w' y.a y.n y.c y.l ∧ RBl w' B { r with told := true } ∧ w.grownBy w' (some B) := by
  rcases hT with ⟨rfl, rfl, rfl⟩ | ⟨rfl, rfl, rfl⟩ | ⟨rfl, rfl, rfl⟩
  · exact next_p0 w h h0 h2 hp
  · exact next_p1 w h h0 h2 hp
  · exact next_p2 w h h0 h2 hp
theorem good_g {B : Nat} {r : RunR} (w : World) (h : RBl w B r) (h0 : 0 ≤ r.st) (h2 : r.st ≤ 2) {p : Nat} {T L : Int} (hp : plc r = (p : Int)) (hT : PT r.o p T L) (has : Bool) (y : NdC) (hb : BOk w y.a y.n y.c y.l) :
    Calls Try.prog 41 #[.pointer (some ⟨B, 0, none⟩), .agg #[.int .i64 T, .int .i64 r.o.fr, .int .i64 5, .int .i64 r.o.vol, .int .i64 L, .int .u64 r.o.id, .int .i64 0, .bool has, .int .u64 y.key, .int .u32 y.ck, .bool y.g, .slice y.a y.n y.c]] w fun e w' => e = .returned (errc 0) ∧ (∃ r', RBl w' B r' ∧ r'.o = r.o ∧ 0 ≤ r'.st ∧ r'.st ≤ 3 ∧ (r.code = 0 → r'.code = 0)) ∧ w.grownBy w' (some B) := by
  rcases hT with ⟨rfl, rfl, rfl⟩ | ⟨rfl, rfl, rfl⟩ | ⟨rfl, rfl, rfl⟩
  · exact good_p0 w h h0 h2 hp has y hb
  · exact good_p1 w h h0 h2 hp has y hb
  · exact good_p2 w h h0 h2 hp has y hb
theorem stale_g {B : Nat} {r : RunR} (w : World) (h : RBl w B r) (h0 : 0 ≤ r.st) (h2 : r.st ≤ 2) {p : Nat} {T L m0 m1 m2 : Int} (hp : plc r = (p : Int)) (hT : PT r.o p T L) (ht : r.told = true) (life : Int) (hl : L < life) (hU : PU p life r.o.l0 r.o.l1 r.o.l2 m0 m1 m2) :
    Calls Try.prog 41 #[.pointer (some ⟨B, 0, none⟩), .agg #[.int .i64 T, .int .i64 r.o.fr, .int .i64 5, .int .i64 r.o.vol, .int .i64 life, .int .u64 r.o.id, .int .i64 13, .bool false, .int .u64 0, .int .u32 0, .bool false, .slice none 0 0]] w fun e w' => e = .returned (errc 0) ∧ AgR w' B { r with o := { r.o with l0 := m0, l1 := m1, l2 := m2 } } ∧ w.grownBy w' (some B) := by
  rcases hT with ⟨rfl, rfl, rfl⟩ | ⟨rfl, rfl, rfl⟩ | ⟨rfl, rfl, rfl⟩
  · rcases hU with ⟨_, rfl, rfl, rfl⟩ | ⟨e, _⟩ | ⟨e, _⟩
    · exact stale_p0 w h h0 h2 hp ht _ hl
    · omega
    · omega
  · rcases hU with ⟨e, _⟩ | ⟨_, rfl, rfl, rfl⟩ | ⟨e, _⟩
    · omega
    · exact stale_p1 w h h0 h2 hp ht _ hl
    · omega
  · rcases hU with ⟨e, _⟩ | ⟨e, _⟩ | ⟨_, rfl, rfl, rfl⟩
    · omega
    · omega
    · exact stale_p2 w h h0 h2 hp ht _ hl
theorem pt_cell {w : World} {N : Nat} {t : TypeId} {o : OpR} {p : Nat} {T L : Int} (hT : PT o p T L) (h : Blk w N t #[.int .i64 o.l0, .int .i64 o.l1, .int .i64 o.l2]) : w.cell? ⟨N, p, none⟩ = some (.int .i64 L) := by
  rcases hT with ⟨rfl, rfl, rfl⟩ | ⟨rfl, rfl, rfl⟩ | ⟨rfl, rfl, rfl⟩
  · exact h.cell 0
  · exact h.cell 1
  · exact h.cell 2
theorem pu_cell {w : World} {N : Nat} {t : TypeId} {p : Nat} {x l0 l1 l2 m0 m1 m2 : Int} (hU : PU p x l0 l1 l2 m0 m1 m2) (h : Blk w N t #[.int .i64 m0, .int .i64 m1, .int .i64 m2]) : w.cell? ⟨N, p, none⟩ = some (.int .i64 x) := by
  rcases hU with ⟨rfl, rfl, rfl, rfl⟩ | ⟨rfl, rfl, rfl, rfl⟩ | ⟨rfl, rfl, rfl, rfl⟩
  · exact h.cell 0
  · exact h.cell 1
  · exact h.cell 2
theorem pu_set {p : Nat} {x l0 l1 l2 m0 m1 m2 : Int} (hU : PU p x l0 l1 l2 m0 m1 m2) : (#[.int .i64 l0, .int .i64 l1, .int .i64 l2] : Array Value).setIfInBounds p (.int .i64 x) = #[.int .i64 m0, .int .i64 m1, .int .i64 m2] := by
  rcases hU with ⟨rfl, rfl, rfl, rfl⟩ | ⟨rfl, rfl, rfl, rfl⟩ | ⟨rfl, rfl, rfl, rfl⟩ <;> rfl
theorem pu_same {o : OpR} {p : Nat} {T L m0 m1 m2 : Int} (hT : PT o p T L) (hU : PU p L o.l0 o.l1 o.l2 m0 m1 m2) : m0 = o.l0 ∧ m1 = o.l1 ∧ m2 = o.l2 := by
  rcases hT with ⟨rfl, rfl, rfl⟩ | ⟨rfl, rfl, rfl⟩ | ⟨rfl, rfl, rfl⟩
  all_goals (rcases hU with ⟨e, rfl, rfl, rfl⟩ | ⟨e, rfl, rfl, rfl⟩ | ⟨e, rfl, rfl, rfl⟩ <;> first | omega | exact ⟨rfl, rfl, rfl⟩)
/-- The place found so far. -/
def atK (p : Nat) (k : Int) : Int := if (p : Int) < k then (p : Int) else 0
theorem atK_eq {p : Nat} {k : Int} (h : (p : Int) = k) : atK p (k + 1) = k := by unfold atK; rw [if_pos (by omega), h]
theorem atK_ne {p : Nat} {k : Int} (h : (p : Int) ≠ k) : atK p (k + 1) = atK p k := by unfold atK; split <;> split <;> omega
theorem atK_3 {p : Nat} (h : p < 3) : atK p 3 = (p : Int) := by unfold atK; rw [if_pos (by omega)]
theorem pt_hit {o : OpR} {p : Nat} {T L : Int} (hT : PT o p T L) : (p = 0 → (o.a0 == T) = true) ∧ (p = 1 → (o.a1 == T) = true) ∧ (p = 2 → (o.a2 == T) = true) := by
  rcases hT with ⟨rfl, rfl, rfl⟩ | ⟨rfl, rfl, rfl⟩ | ⟨rfl, rfl, rfl⟩
  all_goals exact ⟨fun h => by first | omega | exact beq_self_eq_true _, fun h => by first | omega | exact beq_self_eq_true _, fun h => by first | omega | exact beq_self_eq_true _⟩
theorem pt_miss {o : OpR} {p : Nat} {T L : Int} (hT : PT o p T L) (h01 : o.a0 ≠ o.a1) (h12 : o.a1 ≠ o.a2) (h02 : o.a0 ≠ o.a2) : (p ≠ 0 → (o.a0 == T) = false) ∧ (p ≠ 1 → (o.a1 == T) = false) ∧ (p ≠ 2 → (o.a2 == T) = false) := by
  rcases hT with ⟨rfl, rfl, rfl⟩ | ⟨rfl, rfl, rfl⟩ | ⟨rfl, rfl, rfl⟩
  · exact ⟨fun h => absurd rfl h, fun _ => eq_f h01.symm, fun _ => eq_f h02.symm⟩
  · exact ⟨fun _ => eq_f h01, fun h => absurd rfl h, fun _ => eq_f h12.symm⟩
  · exact ⟨fun _ => eq_f h02, fun _ => eq_f h12, fun h => absurd rfl h⟩
/-- The run at the loop's heads. -/
structure StR (oc : OpR) (l0 l1 l2 : Int) (r : RunR) : Prop where
  o : r.o = { oc with l0 := l0, l1 := l1, l2 := l2 }
  s0 : 0 ≤ r.st
  s3 : r.st ≤ 3
  c : r.code = 0
/-- The lives as they are told. -/
def Lvs (i : Nat) (l0 l1 l2 : Int) : Prop := 0 ≤ l0 ∧ 0 ≤ l1 ∧ 0 ≤ l2 ∧ l0 ≤ 1000 + 2 * i ∧ l1 ≤ 1000 + 2 * i ∧ l2 ≤ 1000 + 2 * i
/-- At the loop's heads. -/
def StaL (W : World) (oc : OpR) (B N i : Nat) (wr : World) : Prop :=
  Below W.heap.size W wr ∧ ∃ l0 l1 l2 r, Blk wr N 73 #[.int .i64 l0, .int .i64 l1, .int .i64 l2] ∧ RBl wr B r ∧ StR oc l0 l1 l2 r ∧ Lvs i l0 l1 l2
/-- Behind the loop. -/
def StaE (W : World) (B : Nat) (wr : World) : Prop := Below W.heap.size W wr ∧ ∃ r, RBl wr B r ∧ 0 ≤ r.st ∧ r.st ≤ 3 ∧ r.code = 0
/-- Within a round: a message was told. -/
structure StM (W : World) (B N M : Nat) (l0 l1 l2 : Int) (r : RunR) (ms : Array Value) (y : NdC) (wx : World) : Prop where
  b : Below W.heap.size W wx
  n : Blk wx N 73 #[.int .i64 l0, .int .i64 l1, .int .i64 l2]
  m : Blk wx M 53 ms
  r : RBl wx B r
  y : BOk wx y.a y.n y.c y.l
theorem StM.on {W : World} {B N M : Nat} {l0 l1 l2 : Int} {r : RunR} {ms : Array Value} {y : NdC} {wx wy : World} (h : StM W B N M l0 l1 l2 r ms y wx) (hb : Below wx.heap.size wx wy) : StM W B N M l0 l1 l2 r ms y wy :=
  ⟨h.b.trans (hb.mono h.b.size), h.n.below hb h.n.lt, h.m.below hb h.m.lt, h.r.on hb, h.y.on hb⟩
theorem three_nob (l0 l1 l2 : Int) : NoB #[.int .i64 l0, .int .i64 l1, .int .i64 l2] := by
  intro i x
  match i with
  | 0 => intro e; cases e
  | 1 => intro e; cases e
  | 2 => intro e; cases e
  | i + 3 => intro e; cases e
theorem BOk.off {w w' : World} {N : Nat} {t : TypeId} {l0 l1 l2 : Int} (h : Blk w N t #[.int .i64 l0, .int .i64 l1, .int .i64 l2]) {a : Option Addr} {n c : Nat} {l : List (BitVec 8)} (hb : BOk w a n c l) (hg : w.grownBy w' (some N)) : BOk w' a n c l :=
  ⟨(hb.b.apart h (three_nob l0 l1 l2) hg).more hg.size, hb.nc, hb.le⟩
theorem RBl.off {w w' : World} {B N : Nat} {t : TypeId} {l0 l1 l2 : Int} {r : RunR} (h : Blk w N t #[.int .i64 l0, .int .i64 l1, .int .i64 l2]) (hr : RBl w B r) (hg : w.grownBy w' (some N)) (hn : B ≠ N) : RBl w' B r :=
  ⟨hr.k.grown hg (by intro e; injection e with e; exact hn e), hr.o.off h hg, hr.y.off h hg, hr.z.off h hg⟩
theorem StM.put {W : World} {B N M : Nat} {l0 l1 l2 : Int} {r : RunR} {ms : Array Value} {y : NdC} {wx : World} (h : StM W B N M l0 l1 l2 r ms y wx) (h1 : W.heap.size ≤ N) (h2 : B ≠ N) (h3 : N ≠ M) (i : Nat) (x l0' l1' l2' : Int) (he : (#[.int .i64 l0, .int .i64 l1, .int .i64 l2] : Array Value).setIfInBounds i (.int .i64 x) = #[.int .i64 l0', .int .i64 l1', .int .i64 l2']) : StM W B N M l0' l1' l2' r ms y (wx.setCell ⟨N, i, none⟩ (.int .i64 x)) := by
  have hg : wx.grownBy (wx.setCell ⟨N, i, none⟩ (.int .i64 x)) (some N) := grown_put (grown_refl _ _) i _
  exact ⟨h.b.grown hg h.b.size (fun k e => by injection e with e; omega), by rw [← he]; exact h.n.put i _, h.m.grown hg (by intro e; injection e with e; exact h3 e.symm), h.r.off h.n hg h2, h.y.off h.n hg⟩
theorem pt_bound {o : OpR} {p i : Nat} {T L l0 l1 l2 : Int} (hT : PT { o with l0 := l0, l1 := l1, l2 := l2 } p T L) (hV : Lvs i l0 l1 l2) : 0 ≤ L ∧ L ≤ 1000 + 2 * i := by
  unfold Lvs at hV
  rcases hT with ⟨-, -, rfl⟩ | ⟨-, -, rfl⟩ | ⟨-, -, rfl⟩ <;> omega
theorem pu_lvs {p i : Nat} {L d l0 l1 l2 m0 m1 m2 : Int} (hU : PU p (L + d) l0 l1 l2 m0 m1 m2) (hV : Lvs i l0 l1 l2) (hL : 0 ≤ L ∧ L ≤ 1000 + 2 * i) (hd : 0 < d ∧ d ≤ 2) : Lvs (i + 1) m0 m1 m2 := by
  unfold Lvs at *
  rcases hU with ⟨-, rfl, rfl, rfl⟩ | ⟨-, rfl, rfl, rfl⟩ | ⟨-, rfl, rfl, rfl⟩ <;> omega
theorem sta_start {W w : World} {o : OpR} {av : Option Addr} {cv B N : Nat} (hb : Below W.heap.size W w) (hn : Blk w N 73 #[.int .i64 o.l0, .int .i64 o.l1, .int .i64 o.l2]) (hr : RBl w B (newR (atC o av cv))) (h : Lvs 0 o.l0 o.l1 o.l2) : StaL W (atC o av cv) B N 0 w :=
  ⟨hb, o.l0, o.l1, o.l2, _, hn, hr, ⟨rfl, by show (0 : Int) ≤ 0; omega, by show (0 : Int) ≤ 3; omega, rfl⟩, h⟩
theorem mchk_life {m : MsgR} (h : mchk m = 0) : 0 ≤ m.life := by
  unfold mchk at h
  split at h
  · rename_i hc; exact hc.2.2.2.2.1
  · omega
theorem rt_lives {o : OpR} (h : Rt o) (h0 : o.l0 ≤ 1000) (h1 : o.l1 ≤ 1000) (h2 : o.l2 ≤ 1000) : Lvs 0 o.l0 o.l1 o.l2 := by
  have x0 : 0 ≤ o.l0 := mchk_life h.c0
  have x1 : 0 ≤ o.l1 := mchk_life h.c1
  have x2 : 0 ≤ o.l2 := mchk_life h.c2
  exact ⟨x0, x1, x2, by omega, by omega, by omega⟩

set_option maxRecDepth 100000 in
set_option maxHeartbeats 8000000 in
theorem stales_walk (o : OpR) (a : Option Addr) (n c : Nat) (l : List (BitVec 8)) (quit : Int) (w : World) (ho : BSl w w.heap.size o.a o.n o.l) (hoc : o.n ≤ o.c) (hl : BSl w w.heap.size a n l) (h0 : 0 ≤ quit) (h1 : quit ≤ 255) :
    Calls Try.prog 11 #[o.vals, .slice a n c, .int .u8 quit] w fun e w' => e = .returned (.bool true) ∧ Below w.heap.size w w' := by
  unfold OpR.vals
  obtain ⟨W2, hW2⟩ : ∃ W, w.alloc (.cells #[.int .i64 o.kd, .int .i64 o.fr, .int .i64 o.vol, .int .i64 o.a0, .int .i64 o.a1, .int .i64 o.a2, .int .u64 o.id, .int .i64 o.l0, .int .i64 o.l1, .int .i64 o.l2, .int .u64 o.key, .int .u32 o.ck, .bool o.g, .slice o.a o.n o.c] 75) = W := ⟨_, rfl⟩
  have HBW := Lib.hid (show Below w.heap.size w W2 from by rw [← hW2]; exact (Below.refl _ _).alloc (Nat.le_refl _) _)
  have hm : Blk W2 w.heap.size 75 #[.int .i64 o.kd, .int .i64 o.fr, .int .i64 o.vol, .int .i64 o.a0, .int .i64 o.a1, .int .i64 o.a2, .int .u64 o.id, .int .i64 o.l0, .int .i64 o.l1, .int .i64 o.l2, .int .u64 o.key, .int .u32 o.ck, .bool o.g, .slice o.a o.n o.c] := by rw [← hW2]; exact Blk.made w _ _
  have HCO := Lib.hid fun (W : World) (B0 : Below W2.heap.size W2 W) => op14 (hm.below B0 hm.lt)
  clear hm
  by_cases hbig : 300 < o.n
  · have b0 : decide (300 < (o.n : Int)) = true := decide_eq_true (by omega)
    clear ho hoc hl hbig h0 h1
    go_enter Try.func11, Try.ntmps11
    go_wp2_with fail
    refine (client_alive _).mono ?_
    rintro e w3 ⟨rfl, B3⟩
    have HB3 := Lib.hid B3
    obtain ⟨-, -, -, -, -, -, -, -, -, -, -, -, -, k13⟩ := HCO.out _ B3
    try clear hW2
    clear B3
    go_wp2_with fail
    go_ret
    exact ⟨rfl, HBW.out.trans (HB3.out.mono HBW.out.size)⟩
  have b0 : decide (300 < (o.n : Int)) = false := decide_eq_false (by omega)
  have HON := Lib.hid (show o.n ≤ 300 from by omega)
  have HBO := Lib.hid fun (W : World) (B0 : Below W2.heap.size W2 W) => (⟨(ho.below (HBW.out.trans (B0.mono HBW.out.size))).more (HBW.out.trans (B0.mono HBW.out.size)).size, hoc, by have := HON.out; omega⟩ : BOk W o.a o.n o.c o.l)
  have HLV := Lib.hid fun (W : World) (B0 : Below W2.heap.size W2 W) => ((hl.below (HBW.out.trans (B0.mono HBW.out.size))).more (HBW.out.trans (B0.mono HBW.out.size)).size : BSl W W.heap.size a n l)
  clear ho hoc hl hbig
  by_cases hbig : 40 < n
  · have b1 : decide (40 < (n : Int)) = true := decide_eq_true (by omega)
    clear hbig h0 h1
    go_enter Try.func11, Try.ntmps11
    go_wp2_with fail
    refine (client_alive _).mono ?_
    rintro e w3 ⟨rfl, B3⟩
    have HB3 := Lib.hid B3
    obtain ⟨-, -, -, -, -, -, -, -, -, -, -, -, -, k13⟩ := HCO.out _ B3
    try clear hW2
    clear B3
    go_wp2_with fail
    go_ret
    exact ⟨rfl, HBW.out.trans (HB3.out.mono HBW.out.size)⟩
  have b1 : decide (40 < (n : Int)) = false := decide_eq_false (by omega)
  have HN40 := Lib.hid (show n ≤ 40 from by omega)
  clear hbig
  have HQ0 := Lib.hid h0
  have HQ1 := Lib.hid h1
  clear h0 h1
  go_enter Try.func11, Try.ntmps11
  go_wp2_with fail
  refine (client_alive _).mono ?_
  rintro e w4 ⟨rfl, B4⟩
  have HB4 := Lib.hid B4
  try clear hW2
  clear B4
  obtain ⟨k0, k1, k2, k3, k4, k5, k6, k7, k8, k9, k10, k11, k12, k13⟩ := HCO.out _ HB4.out
  have ER := Lib.hid (right21 o w4 (HBO.out _ HB4.out).b (HBO.out _ HB4.out).le)
  unfold OpR.vals at ER
  go_wp2_with fail
  refine ER.out.mono ?_
  rintro e w5 ⟨b, rfl, hRt, B5⟩
  have HB5 := Lib.hid (HB4.out.trans (B5.mono HB4.out.size))
  clear k0 k1 k2 k3 k4 k5 k6 k7 k8 k9 k10 k11 k12 k13 B5 ER HB4
  cases b with
  | false =>
    clear hRt
    go_wp2_with fail
    go_ret
    exact ⟨rfl, HBW.out.trans (HB5.out.mono HBW.out.size)⟩
  | true =>
  have HRT := Lib.hid (hRt rfl)
  clear hRt
  obtain ⟨-, -, -, -, -, -, -, k7, k8, k9, -, -, -, -⟩ := HCO.out _ HB5.out
  by_cases hg0 : 1000 < o.l0
  · have b2 : decide (1000 < o.l0) = true := decide_eq_true hg0
    go_wp2_with fail
    go_ret
    exact ⟨rfl, HBW.out.trans (HB5.out.mono HBW.out.size)⟩
  have b2 : decide (1000 < o.l0) = false := decide_eq_false hg0
  by_cases hg1 : 1000 < o.l1
  · have b3 : decide (1000 < o.l1) = true := decide_eq_true hg1
    clear hg0
    go_wp2_with fail
    go_ret
    exact ⟨rfl, HBW.out.trans (HB5.out.mono HBW.out.size)⟩
  have b3 : decide (1000 < o.l1) = false := decide_eq_false hg1
  by_cases hg2 : 1000 < o.l2
  · have b4 : decide (1000 < o.l2) = true := decide_eq_true hg2
    clear hg0 hg1
    go_wp2_with fail
    go_ret
    exact ⟨rfl, HBW.out.trans (HB5.out.mono HBW.out.size)⟩
  have b4 : decide (1000 < o.l2) = false := decide_eq_false hg2
  have HLI := Lib.hid (rt_lives HRT.out (by omega) (by omega) (by omega))
  clear hg0 hg1 hg2
  go_upto_region 5 with fail
  clear k7 k8 k9 b0 b1 b2 b3 b4
  obtain ⟨k0, k1, k2, k3, k4, k5, k6, k7, k8, k9, k10, k11, k12, k13⟩ := HCO.out _ HB5.out
  have EO := Lib.hid (ofop_any o w5)
  unfold OpR.vals at EO
  go_wp2_with fail
  refine EO.out.mono ?_
  rintro e w7 ⟨rfl, B7⟩
  have HB7 := Lib.hid (HB5.out.trans (B7.mono HB5.out.size))
  clear k0 k1 k2 k3 k4 k5 k6 k7 k8 k9 k10 k11 k12 k13 B7 EO HB5
  have EN := Lib.hid (cnew_ok w7 HRT.out (HBO.out _ HB7.out))
  unfold OpR.vals at EN
  go_wp2_with fail
  refine EN.out.mono ?_
  rintro e w8 ⟨B, av, cv, rfl, hB, hR, B8⟩
  have HBB := Lib.hid (show W2.heap.size ≤ B ∧ B < w8.heap.size from ⟨Nat.le_trans HB7.out.size hB, hR.k.lt⟩)
  have HCV := Lib.hid (show o.n ≤ cv from hR.o.nc)
  have HR8 := Lib.hid hR
  have HB8 := Lib.hid (HB7.out.trans (B8.mono HB7.out.size))
  clear hB hR B8 EN HB7
  obtain ⟨-, -, -, -, -, -, -, k7, k8, k9, -, -, -, -⟩ := HCO.out _ HB8.out
  go_upto_region 7 with fail
  obtain ⟨w9, hw9, hN9, hB9⟩ : ∃ X, w8.alloc (.cells #[.int .i64 o.l0, .int .i64 o.l1, .int .i64 o.l2] 73) = X ∧ Blk X w8.heap.size 73 #[.int .i64 o.l0, .int .i64 o.l1, .int .i64 o.l2] ∧ Below w8.heap.size w8 X := ⟨_, rfl, Blk.made _ _ _, (Below.refl _ _).alloc (Nat.le_refl _) _⟩
  have HL9 := Lib.hid (sta_start (HB8.out.trans (hB9.mono HB8.out.size)) hN9 (HR8.out.on hB9) HLI.out)
  have HNN := Lib.hid (show B < w8.heap.size ∧ W2.heap.size ≤ w8.heap.size from ⟨HBB.out.2, HB8.out.size⟩)
  rw [hw9]
  clear k7 k8 k9 hw9 hN9 hB9 HB8 HR8 HLI
  generalize w8.heap.size = N at *
  clear HON HQ0 HQ1
  go_upto_block 0 with fail
  go_cut [10] (fun _ wx => StaE W2 B wx)
  case first =>
    go_wp2_with fail
    go_loopw [10] (fun iv wr => ∃ i : Nat, i ≤ n + 4 ∧ iv = .int .i64 i ∧ StaL W2 (atC o av cv) B N i wr) (fun iv _ => (n + 4 - intOf iv).toNat)
    case atStart => exact ⟨0, by omega, rfl, HL9.out⟩
    case round =>
      obtain ⟨i, hi, rfl, hb, l0, l1, l2, r, hN, hR, hS, hV⟩ := hrel
      obtain ⟨ro, st, told, ag, y, cd, z⟩ := r
      obtain ⟨hro, s0, s3, hc⟩ := hS
      dsimp only at hro s0 s3 hc
      subst hro hc
      have HB := Lib.hid hb
      have HN := Lib.hid hN
      have HR := Lib.hid hR
      have HV := Lib.hid hV
      have HS := Lib.hid (And.intro s0 s3)
      clear hb hN hR hV s0 s3 HL9
      have hnz : (n : Int) ≤ 40 := by have := HN40.out; omega
      by_cases hlt : i < n + 4
      rotate_left
      · obtain rfl : i = n + 4 := by omega
        have hlz : ¬ (((n + 4 : Nat) : Int) < (n : Int) + 4) := by omega
        clear hlt hi
        go_wp2_with fail
        go_meet
        exact ⟨HB.out, _, HR.out, HS.out.1, HS.out.2, rfl⟩
      have hlz : (i : Int) < (n : Int) + 4 := by omega
      by_cases h3 : st = 3
      · have E9 := Lib.hid (next_no wr HR.out h3)
        clear h3 hi
        go_wp2_with fail
        refine E9.out.mono ?_
        rintro e w9 ⟨rfl, B9⟩
        have HB9 := Lib.hid (HB.out.trans (B9.mono HB.out.size))
        have HR9 := Lib.hid (HR.out.on B9)
        clear B9 E9 HB HR HN
        go_upto_region 11 with fail
        obtain ⟨w10, hw10, hB10⟩ : ∃ X, w9.alloc (.cells #[.int .i64 0, .int .i64 0, .int .i64 0, .int .i64 0, .int .i64 0, .int .u64 0, .int .i64 0, .bool false, .int .u64 0, .int .u32 0, .bool false, .slice none 0 0] 53) = X ∧ Below w9.heap.size w9 X := ⟨_, rfl, (Below.refl _ _).alloc (Nat.le_refl _) _⟩
        have HE := Lib.hid (show StaE W2 B w10 from ⟨HB9.out.trans (hB10.mono HB9.out.size), _, HR9.out.on hB10, HS.out.1, HS.out.2, rfl⟩)
        rw [hw10]
        clear hw10 hB10 HB9 HR9
        go_wp2_with fail
        refine (code_c 16 _ (by decide)).mono ?_
        rintro e w11 ⟨rfl, rfl⟩
        go_wp2_with fail
        go_meet
        exact HE.out
      have h2 : st ≤ 2 := by have := HS.out.2; omega
      clear h3
      obtain ⟨p, T, L, hp, hp3, hT⟩ := pt_in (r := ⟨{ atC o av cv with l0 := l0, l1 := l1, l2 := l2 }, st, told, ag, y, 0, z⟩) HS.out.1 h2
      have E9 := Lib.hid (next_g wr HR.out HS.out.1 h2 hp hT)
      have HP := Lib.hid (And.intro h2 hp)
      have HT := Lib.hid hT
      have HP3 := Lib.hid hp3
      have HD := Lib.hid (And.intro (pt_hit hT) (pt_miss hT HRT.out.d01 HRT.out.d12 HRT.out.d02))
      clear h2 hp hT hp3
      dsimp only [atC] at E9
      go_wp2_with fail
      refine E9.out.mono ?_
      rintro e w9 ⟨kd, y1, rfl, hb9, hR9, hg9⟩
      have HB9 := Lib.hid (HB.out.grown hg9 HB.out.size (fun k e => by injection e with e; have := HBB.out; omega))
      have HN9 := Lib.hid (HN.out.grown hg9 (by intro e; injection e with e; have := HNN.out; omega))
      have HR9 := Lib.hid hR9
      have HY9 := Lib.hid hb9
      clear hb9 hR9 hg9 E9 HB HN HR
      go_upto_region 11 with fail
      obtain ⟨w10, hw10, hM10, hB10⟩ : ∃ X, w9.alloc (.cells #[.int .i64 o.fr, .int .i64 T, .int .i64 kd, .int .i64 o.vol, .int .i64 L, .int .u64 o.id, .int .i64 0, .bool true, .int .u64 y1.key, .int .u32 y1.ck, .bool y1.g, .slice y1.a y1.n y1.c] 53) = X ∧ Blk X w9.heap.size 53 #[.int .i64 o.fr, .int .i64 T, .int .i64 kd, .int .i64 o.vol, .int .i64 L, .int .u64 o.id, .int .i64 0, .bool true, .int .u64 y1.key, .int .u32 y1.ck, .bool y1.g, .slice y1.a y1.n y1.c] ∧ Below w9.heap.size w9 X := ⟨_, rfl, Blk.made _ _ _, (Below.refl _ _).alloc (Nat.le_refl _) _⟩
      have HM10 := Lib.hid (show StM W2 B N w9.heap.size l0 l1 l2 _ #[.int .i64 o.fr, .int .i64 T, .int .i64 kd, .int .i64 o.vol, .int .i64 L, .int .u64 o.id, .int .i64 0, .bool true, .int .u64 y1.key, .int .u32 y1.ck, .bool y1.g, .slice y1.a y1.n y1.c] y1 w10 from ⟨HB9.out.trans (hB10.mono HB9.out.size), HN9.out.below hB10 HN9.out.lt, hM10, HR9.out.on hB10, HY9.out.on hB10⟩)
      have HNM := Lib.hid (show B ≠ N ∧ N < w9.heap.size ∧ W2.heap.size ≤ N ∧ W2.heap.size ≤ B from ⟨by have := HNN.out; omega, HN9.out.lt, HNN.out.2, HBB.out.1⟩)
      rw [hw10]
      clear hw10 hM10 hB10 HB9 HN9 HR9 HY9
      generalize w9.heap.size = M at *
      go_wp2_with fail
      refine (code_c 0 _ (by decide)).mono ?_
      rintro e w11 ⟨rfl, rfl⟩
      go_wp2_with fail
      go_loopw [13, 14] (fun ax kv wx => ((kv = .int .i64 0 ∧ ax = .int .i64 (atK p 0)) ∨ (kv = .int .i64 1 ∧ ax = .int .i64 (atK p 1)) ∨ (kv = .int .i64 2 ∧ ax = .int .i64 (atK p 2)) ∨ (kv = .int .i64 3 ∧ ax = .int .i64 (atK p 3))) ∧ StM W2 B N M l0 l1 l2 ⟨{ atC o av cv with l0 := l0, l1 := l1, l2 := l2 }, st, true, ag, y, 0, z⟩ #[.int .i64 o.fr, .int .i64 T, .int .i64 kd, .int .i64 o.vol, .int .i64 L, .int .u64 o.id, .int .i64 0, .bool true, .int .u64 y1.key, .int .u32 y1.ck, .bool y1.g, .slice y1.a y1.n y1.c] y1 wx) (fun _ kv _ => (3 - intOf kv).toNat)
      case atStart => exact ⟨.inl ⟨rfl, vint (by unfold atK; rw [if_neg (by omega)])⟩, HM10.out⟩
      case round =>
        obtain ⟨hk, hMr⟩ := hrel
        have HMr := Lib.hid hMr
        clear hMr HM10
        rcases hk with ⟨rfl, rfl⟩ | ⟨rfl, rfl⟩ | ⟨rfl, rfl⟩ | ⟨rfl, rfl⟩
        · go_upto_region 16 with fail
          refine wp_region_held_drew (S := fun W => Below wr.heap.size wr W) (by kernel_rfl) ((Below.refl _ _).drew) (fun hS => ?_)
          refine wpAnyH_take (i := 0) (v := ?_) rfl (by kernel_rfl) (by kernel_rfl) (by kernel_rfl) (fun _ _ _ h => h) (Or.inl ⟨by kernel_rfl, ?_⟩) hS ?_
          rotate_left
          · intro W hW; go_simp; try with_reducible rfl
          refine wpAnyH_take (i := 1) (v := ?_) rfl (by kernel_rfl) (by kernel_rfl) (by kernel_rfl) (fun _ _ _ h => h) (Or.inl ⟨by kernel_rfl, ?_⟩) hS ?_
          rotate_left
          · intro W hW; go_simp; try with_reducible rfl
          refine wpAnyH_take (i := 2) (v := ?_) rfl (by kernel_rfl) (by kernel_rfl) (by kernel_rfl) (fun _ _ _ h => h) (Or.inl ⟨by kernel_rfl, ?_⟩) hS ?_
          rotate_left
          · intro W hW; go_simp; try with_reducible rfl
          refine wpAnyH_take (i := 3) (v := ?_) rfl (by kernel_rfl) (by kernel_rfl) (by kernel_rfl) (fun _ _ _ h => h) (Or.inl ⟨by kernel_rfl, ?_⟩) hS ?_
          rotate_left
          · intro W hW; obtain ⟨x0, x1, x2, x3, x4, x5, x6, x7, x8, x9, x10, x11⟩ := (HMr.out.on hW).m.twelve; obtain ⟨k0, k1, k2, k3, k4, k5, k6, k7, k8, k9, k10, k11, k12, k13⟩ := HCO.out W (HMr.out.b.trans (hW.mono HMr.out.b.size)); go_simp; try with_reducible rfl
          refine wpAnyH_take (i := 4) (v := ?_) rfl (by kernel_rfl) (by kernel_rfl) (by kernel_rfl) (fun _ _ _ h => h) (Or.inl ⟨by kernel_rfl, ?_⟩) hS ?_
          rotate_left
          · intro W hW; go_simp; try with_reducible rfl
          refine wpAnyH_take (i := 5) (v := ?_) rfl (by kernel_rfl) (by kernel_rfl) (by kernel_rfl) (fun _ _ _ h => h) (Or.inl ⟨by kernel_rfl, ?_⟩) hS ?_
          rotate_left
          · intro W hW; obtain ⟨x0, x1, x2, x3, x4, x5, x6, x7, x8, x9, x10, x11⟩ := (HMr.out.on hW).m.twelve; obtain ⟨k0, k1, k2, k3, k4, k5, k6, k7, k8, k9, k10, k11, k12, k13⟩ := HCO.out W (HMr.out.b.trans (hW.mono HMr.out.b.size)); go_simp; try with_reducible rfl
          refine wpAnyH_take (i := 6) (v := ?_) rfl (by kernel_rfl) (by kernel_rfl) (by kernel_rfl) (fun _ _ _ h => h) (Or.inl ⟨by kernel_rfl, ?_⟩) hS ?_
          rotate_left
          · intro W hW; go_simp; try with_reducible rfl
          refine wpAnyH_done (by kernel_rfl) ?_ _
          go_simp
          have HM2 := Lib.hid (HMr.out.on hS)
          clear hS HMr
          by_cases hpk : p = 0
          · have bq : (o.a0 == T) = true := HD.out.1.1 hpk
            have HV2 := Lib.hid (atK_eq (p := p) (k := 0) (by omega))
            clear hpk
            go_wp2_with fail
            go_roundw
            case rel => exact ⟨.inr (.inl ⟨rfl, vint HV2.out.symm⟩), HM2.out⟩
            case measure => simp [intOf]
          · have bq : (o.a0 == T) = false := HD.out.2.1 hpk
            have HV2 := Lib.hid (atK_ne (p := p) (k := 0) (by omega))
            clear hpk
            go_wp2_with fail
            go_roundw
            case rel => exact ⟨.inr (.inl ⟨rfl, vint HV2.out.symm⟩), HM2.out⟩
            case measure => simp [intOf]
        · go_upto_region 16 with fail
          refine wp_region_held_drew (S := fun W => Below wr.heap.size wr W) (by kernel_rfl) ((Below.refl _ _).drew) (fun hS => ?_)
          refine wpAnyH_take (i := 0) (v := ?_) rfl (by kernel_rfl) (by kernel_rfl) (by kernel_rfl) (fun _ _ _ h => h) (Or.inl ⟨by kernel_rfl, ?_⟩) hS ?_
          rotate_left
          · intro W hW; go_simp; try with_reducible rfl
          refine wpAnyH_take (i := 1) (v := ?_) rfl (by kernel_rfl) (by kernel_rfl) (by kernel_rfl) (fun _ _ _ h => h) (Or.inl ⟨by kernel_rfl, ?_⟩) hS ?_
          rotate_left
          · intro W hW; go_simp; try with_reducible rfl
          refine wpAnyH_take (i := 2) (v := ?_) rfl (by kernel_rfl) (by kernel_rfl) (by kernel_rfl) (fun _ _ _ h => h) (Or.inl ⟨by kernel_rfl, ?_⟩) hS ?_
          rotate_left
          · intro W hW; go_simp; try with_reducible rfl
          refine wpAnyH_take (i := 3) (v := ?_) rfl (by kernel_rfl) (by kernel_rfl) (by kernel_rfl) (fun _ _ _ h => h) (Or.inl ⟨by kernel_rfl, ?_⟩) hS ?_
          rotate_left
          · intro W hW; obtain ⟨x0, x1, x2, x3, x4, x5, x6, x7, x8, x9, x10, x11⟩ := (HMr.out.on hW).m.twelve; obtain ⟨k0, k1, k2, k3, k4, k5, k6, k7, k8, k9, k10, k11, k12, k13⟩ := HCO.out W (HMr.out.b.trans (hW.mono HMr.out.b.size)); go_simp; try with_reducible rfl
          refine wpAnyH_take (i := 4) (v := ?_) rfl (by kernel_rfl) (by kernel_rfl) (by kernel_rfl) (fun _ _ _ h => h) (Or.inl ⟨by kernel_rfl, ?_⟩) hS ?_
          rotate_left
          · intro W hW; go_simp; try with_reducible rfl
          refine wpAnyH_take (i := 5) (v := ?_) rfl (by kernel_rfl) (by kernel_rfl) (by kernel_rfl) (fun _ _ _ h => h) (Or.inl ⟨by kernel_rfl, ?_⟩) hS ?_
          rotate_left
          · intro W hW; obtain ⟨x0, x1, x2, x3, x4, x5, x6, x7, x8, x9, x10, x11⟩ := (HMr.out.on hW).m.twelve; obtain ⟨k0, k1, k2, k3, k4, k5, k6, k7, k8, k9, k10, k11, k12, k13⟩ := HCO.out W (HMr.out.b.trans (hW.mono HMr.out.b.size)); go_simp; try with_reducible rfl
          refine wpAnyH_take (i := 6) (v := ?_) rfl (by kernel_rfl) (by kernel_rfl) (by kernel_rfl) (fun _ _ _ h => h) (Or.inl ⟨by kernel_rfl, ?_⟩) hS ?_
          rotate_left
          · intro W hW; go_simp; try with_reducible rfl
          refine wpAnyH_done (by kernel_rfl) ?_ _
          go_simp
          have HM2 := Lib.hid (HMr.out.on hS)
          clear hS HMr
          by_cases hpk : p = 1
          · have bq : (o.a1 == T) = true := HD.out.1.2.1 hpk
            have HV2 := Lib.hid (atK_eq (p := p) (k := 1) (by omega))
            clear hpk
            go_wp2_with fail
            go_roundw
            case rel => exact ⟨.inr (.inr (.inl ⟨rfl, vint HV2.out.symm⟩)), HM2.out⟩
            case measure => simp [intOf]
          · have bq : (o.a1 == T) = false := HD.out.2.2.1 hpk
            have HV2 := Lib.hid (atK_ne (p := p) (k := 1) (by omega))
            clear hpk
            go_wp2_with fail
            go_roundw
            case rel => exact ⟨.inr (.inr (.inl ⟨rfl, vint HV2.out.symm⟩)), HM2.out⟩
            case measure => simp [intOf]
        · go_upto_region 16 with fail
          refine wp_region_held_drew (S := fun W => Below wr.heap.size wr W) (by kernel_rfl) ((Below.refl _ _).drew) (fun hS => ?_)
          refine wpAnyH_take (i := 0) (v := ?_) rfl (by kernel_rfl) (by kernel_rfl) (by kernel_rfl) (fun _ _ _ h => h) (Or.inl ⟨by kernel_rfl, ?_⟩) hS ?_
          rotate_left
          · intro W hW; go_simp; try with_reducible rfl
          refine wpAnyH_take (i := 1) (v := ?_) rfl (by kernel_rfl) (by kernel_rfl) (by kernel_rfl) (fun _ _ _ h => h) (Or.inl ⟨by kernel_rfl, ?_⟩) hS ?_
          rotate_left
          · intro W hW; go_simp; try with_reducible rfl
          refine wpAnyH_take (i := 2) (v := ?_) rfl (by kernel_rfl) (by kernel_rfl) (by kernel_rfl) (fun _ _ _ h => h) (Or.inl ⟨by kernel_rfl, ?_⟩) hS ?_
          rotate_left
          · intro W hW; go_simp; try with_reducible rfl
          refine wpAnyH_take (i := 3) (v := ?_) rfl (by kernel_rfl) (by kernel_rfl) (by kernel_rfl) (fun _ _ _ h => h) (Or.inl ⟨by kernel_rfl, ?_⟩) hS ?_
          rotate_left
          · intro W hW; obtain ⟨x0, x1, x2, x3, x4, x5, x6, x7, x8, x9, x10, x11⟩ := (HMr.out.on hW).m.twelve; obtain ⟨k0, k1, k2, k3, k4, k5, k6, k7, k8, k9, k10, k11, k12, k13⟩ := HCO.out W (HMr.out.b.trans (hW.mono HMr.out.b.size)); go_simp; try with_reducible rfl
          refine wpAnyH_take (i := 4) (v := ?_) rfl (by kernel_rfl) (by kernel_rfl) (by kernel_rfl) (fun _ _ _ h => h) (Or.inl ⟨by kernel_rfl, ?_⟩) hS ?_
          rotate_left
          · intro W hW; go_simp; try with_reducible rfl
          refine wpAnyH_take (i := 5) (v := ?_) rfl (by kernel_rfl) (by kernel_rfl) (by kernel_rfl) (fun _ _ _ h => h) (Or.inl ⟨by kernel_rfl, ?_⟩) hS ?_
          rotate_left
          · intro W hW; obtain ⟨x0, x1, x2, x3, x4, x5, x6, x7, x8, x9, x10, x11⟩ := (HMr.out.on hW).m.twelve; obtain ⟨k0, k1, k2, k3, k4, k5, k6, k7, k8, k9, k10, k11, k12, k13⟩ := HCO.out W (HMr.out.b.trans (hW.mono HMr.out.b.size)); go_simp; try with_reducible rfl
          refine wpAnyH_take (i := 6) (v := ?_) rfl (by kernel_rfl) (by kernel_rfl) (by kernel_rfl) (fun _ _ _ h => h) (Or.inl ⟨by kernel_rfl, ?_⟩) hS ?_
          rotate_left
          · intro W hW; go_simp; try with_reducible rfl
          refine wpAnyH_done (by kernel_rfl) ?_ _
          go_simp
          have HM2 := Lib.hid (HMr.out.on hS)
          clear hS HMr
          by_cases hpk : p = 2
          · have bq : (o.a2 == T) = true := HD.out.1.2.2 hpk
            have HV2 := Lib.hid (atK_eq (p := p) (k := 2) (by omega))
            clear hpk
            go_wp2_with fail
            go_roundw
            case rel => exact ⟨.inr (.inr (.inr (⟨rfl, vint HV2.out.symm⟩))), HM2.out⟩
            case measure => simp [intOf]
          · have bq : (o.a2 == T) = false := HD.out.2.2.2 hpk
            have HV2 := Lib.hid (atK_ne (p := p) (k := 2) (by omega))
            clear hpk
            go_wp2_with fail
            go_roundw
            case rel => exact ⟨.inr (.inr (.inr (⟨rfl, vint HV2.out.symm⟩))), HM2.out⟩
            case measure => simp [intOf]
        · have hp3 : (p : Int) < 3 := by have := HP3.out; omega
          rw [atK_3 HP3.out]
          go_upto_region 18 with fail
          refine wp_region_held_drew (S := fun W => Below wr.heap.size wr W) (by kernel_rfl) ((Below.refl _ _).drew) (fun hS => ?_)
          refine wpAnyH_take (i := 0) (v := ?_) rfl (by kernel_rfl) (by kernel_rfl) (by kernel_rfl) (fun _ _ _ h => h) (Or.inl ⟨by kernel_rfl, ?_⟩) hS ?_
          rotate_left
          · intro W hW; go_simp; try with_reducible rfl
          refine wpAnyH_take (i := 1) (v := ?_) rfl (by kernel_rfl) (by kernel_rfl) (by kernel_rfl) (fun _ _ _ h => h) (Or.inl ⟨by kernel_rfl, ?_⟩) hS ?_
          rotate_left
          · intro W hW; obtain ⟨x0, x1, x2, x3, x4, x5, x6, x7, x8, x9, x10, x11⟩ := (HMr.out.on hW).m.twelve; have n0 := pt_cell HT.out (HMr.out.on hW).n; go_simp; try with_reducible rfl
          refine wpAnyH_take (i := 2) (v := ?_) rfl (by kernel_rfl) (by kernel_rfl) (by kernel_rfl) (fun _ _ _ h => h) (Or.inl ⟨by kernel_rfl, ?_⟩) hS ?_
          rotate_left
          · intro W hW; go_simp; try with_reducible rfl
          refine wpAnyH_take (i := 3) (v := ?_) rfl (by kernel_rfl) (by kernel_rfl) (by kernel_rfl) (fun _ _ _ h => h) (Or.inl ⟨by kernel_rfl, ?_⟩) hS ?_
          rotate_left
          · intro W hW; go_simp; try with_reducible rfl
          refine wpAnyH_take (i := 4) (v := ?_) rfl (by kernel_rfl) (by kernel_rfl) (by kernel_rfl) (fun _ _ _ h => h) (Or.inl ⟨by kernel_rfl, ?_⟩) hS ?_
          rotate_left
          · intro W hW; obtain ⟨x0, x1, x2, x3, x4, x5, x6, x7, x8, x9, x10, x11⟩ := (HMr.out.on hW).m.twelve; have n0 := pt_cell HT.out (HMr.out.on hW).n; go_simp; try with_reducible rfl
          refine wpAnyH_take (i := 5) (v := ?_) rfl (by kernel_rfl) (by kernel_rfl) (by kernel_rfl) (fun _ _ _ h => h) (Or.inl ⟨by kernel_rfl, ?_⟩) hS ?_
          rotate_left
          · intro W hW; go_simp; try with_reducible rfl
          refine wpAnyH_done (by kernel_rfl) ?_ _
          go_simp
          have HM3 := Lib.hid (HMr.out.on hS)
          clear hS HMr
          generalize wr.drew = w3 at *
          have hz : ¬ (L < L) := by omega
          go_upto_region 20 with fail
          clear hz
          by_cases hin : i < n
          · have hiz : (i : Int) < (n : Int) := by omega
            obtain ⟨lb, loff, rfl, hlb, -⟩ := (HLV.out _ HM3.out.b).at_ hin
            obtain ⟨x, hx⟩ : ∃ x, l.getD i 0 = x := ⟨_, rfl⟩
            have q0 : w3.cell? ⟨lb, loff + i, none⟩ = some (.int .u8 (x.toNat : Int)) := by rw [← hx]; exact bsl_cell (HLV.out _ HM3.out.b) hin
            have q1 : w3.cell? ⟨N, p, none⟩ = some (.int .i64 L) := pt_cell HT.out HM3.out.n
            have q2 : w3.frozen? ⟨N, p, none⟩ = false := HM3.out.n.frozen p
            have hxz : (x.toNat : Int) < 256 := by have := x.isLt; omega
            go_upto_region 21 with fail
            go_still_tail 12, (by kernel_rfl)
            change wpList _ _ _ _ _ w3.drew
            have HM4 := Lib.hid (HM3.out.on (Below.refl _ _).drew)
            generalize w3.drew = w4 at *
            have q1 : w4.cell? ⟨N, p, none⟩ = some (.int .i64 L) := pt_cell HT.out HM4.out.n
            have q2 : w4.frozen? ⟨N, p, none⟩ = false := HM4.out.n.frozen p
            have hv := pt_bound HT.out HV.out
            have hw : wrap64 (L + (x.toNat : Int) % 3) = L + (x.toNat : Int) % 3 := by unfold wrap64; omega
            obtain ⟨d, hd⟩ : ∃ d, (x.toNat : Int) % 3 = d := ⟨_, rfl⟩
            have hd0 : 0 ≤ d ∧ d ≤ 2 := by omega
            rw [hd] at hw
            go_upto_region 22 with fail
            try rw [hd]
            try rw [hw]
            clear hw hv q0 q1 q2 hx hd hxz hlb HM3
            obtain ⟨m0, m1, m2, hU⟩ := pu_in HP3.out (L + d) l0 l1 l2
            have HU := Lib.hid hU
            have HM5 := Lib.hid (HM4.out.put HNM.out.2.2.1 HNM.out.1 (by have := HNM.out; omega) p (L + d) m0 m1 m2 (pu_set hU))
            clear hU
            clear HM4
            generalize w4.setCell ⟨N, p, none⟩ (.int .i64 (L + d)) = w5 at *
            by_cases hdz : d = 0
            · subst hdz
              have hU := HU.out
              rw [Int.add_zero] at hU
              obtain ⟨rfl, rfl, rfl⟩ := pu_same (o := { atC o av cv with l0 := l0, l1 := l1, l2 := l2 }) HT.out hU
              rw [Int.add_zero] at HU
              clear hU
              have HIN := Lib.hid (And.intro hi hlt)
              refine wp_region_held_drew (S := fun W => Below w5.heap.size w5 W) (by kernel_rfl) ((Below.refl _ _).drew) (fun hS => ?_)
              refine wpAnyH_take (i := 0) (v := ?_) rfl (by kernel_rfl) (by kernel_rfl) (by kernel_rfl) (fun _ _ _ h => h) (Or.inl ⟨by kernel_rfl, ?_⟩) hS ?_
              rotate_left
              · intro W hW; go_simp; try with_reducible rfl
              refine wpAnyH_take (i := 1) (v := ?_) rfl (by kernel_rfl) (by kernel_rfl) (by kernel_rfl) (fun _ _ _ h => h) (Or.inl ⟨by kernel_rfl, ?_⟩) hS ?_
              rotate_left
              · intro W hW; obtain ⟨x0, x1, x2, x3, x4, x5, x6, x7, x8, x9, x10, x11⟩ := (HM5.out.on hW).m.twelve; have n0 := pt_cell HT.out (HM5.out.on hW).n; go_simp; try with_reducible rfl
              refine wpAnyH_take (i := 2) (v := ?_) rfl (by kernel_rfl) (by kernel_rfl) (by kernel_rfl) (fun _ _ _ h => h) (Or.inl ⟨by kernel_rfl, ?_⟩) hS ?_
              rotate_left
              · intro W hW; go_simp; try with_reducible rfl
              refine wpAnyH_take (i := 3) (v := ?_) rfl (by kernel_rfl) (by kernel_rfl) (by kernel_rfl) (fun _ _ _ h => h) (Or.inl ⟨by kernel_rfl, ?_⟩) hS ?_
              rotate_left
              · intro W hW; go_simp; try with_reducible rfl
              refine wpAnyH_take (i := 4) (v := ?_) rfl (by kernel_rfl) (by kernel_rfl) (by kernel_rfl) (fun _ _ _ h => h) (Or.inl ⟨by kernel_rfl, ?_⟩) hS ?_
              rotate_left
              · intro W hW; obtain ⟨x0, x1, x2, x3, x4, x5, x6, x7, x8, x9, x10, x11⟩ := (HM5.out.on hW).m.twelve; have n0 := pt_cell HT.out (HM5.out.on hW).n; go_simp; try with_reducible rfl
              refine wpAnyH_take (i := 5) (v := ?_) rfl (by kernel_rfl) (by kernel_rfl) (by kernel_rfl) (fun _ _ _ h => h) (Or.inl ⟨by kernel_rfl, ?_⟩) hS ?_
              rotate_left
              · intro W hW; go_simp; try with_reducible rfl
              refine wpAnyH_done (by kernel_rfl) ?_ _
              go_simp
              have HM6 := Lib.hid (HM5.out.on hS)
              clear hS HM5
              generalize w5.drew = w6 at *
              have hz : ¬ (L < L) := by omega
              go_upto_region 27 with fail
              clear hz
              obtain ⟨x0, x1, x2, x3, x4, x5, x6, x7, x8, x9, x10, x11⟩ := HM6.out.m.twelve
              have E16 := Lib.hid (x_reply o.fr T kd o.vol L o.id 0 true y1.key y1.ck y1.g y1.a y1.n y1.c 0 (kd == 3) y1.key y1.ck y1.g y1.a y1.n y1.c w6)
              go_wp2_with fail
              refine E16.out.mono ?_
              rintro e w7 ⟨rfl, B7⟩
              have HM7 := Lib.hid (HM6.out.on B7)
              clear x0 x1 x2 x3 x4 x5 x6 x7 x8 x9 x10 x11 E16 B7 HM6
              have E17 := Lib.hid (good_g w7 HM7.out.r HS.out.1 HP.out.1 HP.out.2 HT.out (kd == 3) y1 HM7.out.y)
              dsimp only [atC] at E17
              go_wp2_with fail
              refine E17.out.mono ?_
              rintro e w8 ⟨rfl, ⟨r', hr8, ho8, hs8, ht8, hc8⟩, hg8⟩
              obtain ⟨ro, st', told', ag', y', cd', z'⟩ := r'
              dsimp only at ho8 hs8 ht8 hc8
              obtain rfl : cd' = 0 := hc8 trivial
              subst ho8
              have HR8 := Lib.hid hr8
              have HB8 := Lib.hid (HM7.out.b.grown hg8 HM7.out.b.size (fun k e => by injection e with e; have := HNM.out; omega))
              have HN8 := Lib.hid (HM7.out.n.grown hg8 (by intro e; injection e with e; exact HNM.out.1 e.symm))
              have HS8 := Lib.hid (And.intro hs8 ht8)
              have HL8 := Lib.hid (show StaL W2 (atC o av cv) B N (i + 1) w8 from ⟨HB8.out, _, _, _, _, HN8.out, HR8.out, ⟨rfl, hs8, ht8, rfl⟩, by have := HV.out; unfold Lvs at *; omega⟩)
              clear hr8 hs8 ht8 hc8 hg8 E17 HM7
              go_upto_region 28 with fail
              by_cases hq : quit = (i : Int)
              rotate_left
              · have bq : (quit == (i : Int)) = false := eq_f hq
                clear hq
                go_wp2_with fail
                go_roundw
                case rel => exact ⟨i + 1, by omega, by go_num, HL8.out⟩
                case measure => simp [intOf]; omega
              have bq : (quit == (i : Int)) = true := eq_t hq
              clear hq
              by_cases h3 : st' = 3
              · have EG := Lib.hid (giveup_no w8 HR8.out.k h3)
                clear h3
                go_wp2_with fail
                refine EG.out.mono ?_
                rintro e w9 ⟨rfl, rfl⟩
                clear EG
                go_wp2_with fail
                refine (code_c 16 _ (by decide)).mono ?_
                rintro e w10 ⟨rfl, rfl⟩
                go_wp2_with fail
                go_roundw
                case rel => exact ⟨i + 1, by omega, by go_num, HL8.out⟩
                case measure => simp [intOf]; omega
              · have EG := Lib.hid (giveup_yes w8 HR8.out (by have := HS8.out; show st' ≤ 2; omega))
                clear h3
                go_wp2_with fail
                refine EG.out.mono ?_
                rintro e w9 ⟨rfl, hr9, hg9⟩
                have HB9 := Lib.hid (HB8.out.grown hg9 HB8.out.size (fun k e => by injection e with e; have := HNM.out; omega))
                have EO := Lib.hid (oend_yes w9 hr9 rfl)
                clear hr9 hg9 EG HL8 HB8 HN8 HR8
                go_wp2_with fail
                refine (code_c 0 _ (by decide)).mono ?_
                rintro e w10 ⟨rfl, rfl⟩
                go_wp2_with fail
                refine EO.out.mono ?_
                rintro e w10 ⟨av', cv', rfl, B10⟩
                dsimp only [ndN]
                have HB10 := Lib.hid (HB9.out.trans (B10.mono HB9.out.size))
                clear B10 EO HB9
                go_upto_region 30 with fail
                obtain ⟨w11, hw11, hE11, hB11⟩ : ∃ X, w10.alloc (.cells #[.int .i64 17, .int .u64 0, .int .u32 0, .bool false, .slice av' 0 cv'] 88) = X ∧ Blk X w10.heap.size 88 #[.int .i64 17, .int .u64 0, .int .u32 0, .bool false, .slice av' 0 cv'] ∧ Below w10.heap.size w10 X := ⟨_, rfl, Blk.made _ _ _, (Below.refl _ _).alloc (Nat.le_refl _) _⟩
                have HB11 := Lib.hid (HB10.out.trans (hB11.mono HB10.out.size))
                obtain ⟨e0, e1, e2, e3, e4⟩ := hE11.five
                rw [hw11]
                clear hw11 hE11 hB11 HB10
                go_wp2_with fail
                go_ret
                exact ⟨rfl, HBW.out.trans (HB11.out.mono HBW.out.size)⟩
            · have hdp : L < L + d := by omega
              have HD0 := Lib.hid (show 0 < d ∧ d ≤ 2 from by omega)
              clear hdz hd0
              refine wp_region_held_drew (S := fun W => Below w5.heap.size w5 W) (by kernel_rfl) ((Below.refl _ _).drew) (fun hS => ?_)
              refine wpAnyH_take (i := 0) (v := ?_) rfl (by kernel_rfl) (by kernel_rfl) (by kernel_rfl) (fun _ _ _ h => h) (Or.inl ⟨by kernel_rfl, ?_⟩) hS ?_
              rotate_left
              · intro W hW; go_simp; try with_reducible rfl
              refine wpAnyH_take (i := 1) (v := ?_) rfl (by kernel_rfl) (by kernel_rfl) (by kernel_rfl) (fun _ _ _ h => h) (Or.inl ⟨by kernel_rfl, ?_⟩) hS ?_
              rotate_left
              · intro W hW; obtain ⟨x0, x1, x2, x3, x4, x5, x6, x7, x8, x9, x10, x11⟩ := (HM5.out.on hW).m.twelve; have n0 := pu_cell HU.out (HM5.out.on hW).n; go_simp; try with_reducible rfl
              refine wpAnyH_take (i := 2) (v := ?_) rfl (by kernel_rfl) (by kernel_rfl) (by kernel_rfl) (fun _ _ _ h => h) (Or.inl ⟨by kernel_rfl, ?_⟩) hS ?_
              rotate_left
              · intro W hW; go_simp; try with_reducible rfl
              refine wpAnyH_take (i := 3) (v := ?_) rfl (by kernel_rfl) (by kernel_rfl) (by kernel_rfl) (fun _ _ _ h => h) (Or.inl ⟨by kernel_rfl, ?_⟩) hS ?_
              rotate_left
              · intro W hW; go_simp; try with_reducible rfl
              refine wpAnyH_take (i := 4) (v := ?_) rfl (by kernel_rfl) (by kernel_rfl) (by kernel_rfl) (fun _ _ _ h => h) (Or.inl ⟨by kernel_rfl, ?_⟩) hS ?_
              rotate_left
              · intro W hW; obtain ⟨x0, x1, x2, x3, x4, x5, x6, x7, x8, x9, x10, x11⟩ := (HM5.out.on hW).m.twelve; have n0 := pu_cell HU.out (HM5.out.on hW).n; go_simp; try with_reducible rfl
              refine wpAnyH_take (i := 5) (v := ?_) rfl (by kernel_rfl) (by kernel_rfl) (by kernel_rfl) (fun _ _ _ h => h) (Or.inl ⟨by kernel_rfl, ?_⟩) hS ?_
              rotate_left
              · intro W hW; go_simp; try with_reducible rfl
              refine wpAnyH_done (by kernel_rfl) ?_ _
              go_simp
              have HM6 := Lib.hid (HM5.out.on hS)
              clear hS HM5
              generalize w5.drew = w6 at *
              go_upto_region 23 with fail
              obtain ⟨x0, x1, x2, x3, x4, x5, x6, x7, x8, x9, x10, x11⟩ := HM6.out.m.twelve
              have E16 := Lib.hid (x_reply0 o.fr T kd o.vol L o.id 0 true y1.key y1.ck y1.g y1.a y1.n y1.c 13 false w6)
              go_wp2_with fail
              refine E16.out.mono ?_
              rintro e w7 ⟨rfl, B7⟩
              have HM7 := Lib.hid (HM6.out.on B7)
              clear x0 x1 x2 x3 x4 x5 x6 x7 x8 x9 x10 x11 E16 B7 HM6 hdp
              go_upto_region 24 with fail
              obtain ⟨w8, hw8, hA8, hB8⟩ : ∃ X, w7.alloc (.cells #[.int .i64 T, .int .i64 o.fr, .int .i64 5, .int .i64 o.vol, .int .i64 L, .int .u64 o.id, .int .i64 13, .bool false, .int .u64 0, .int .u32 0, .bool false, .slice none 0 0] 53) = X ∧ Blk X w7.heap.size 53 #[.int .i64 T, .int .i64 o.fr, .int .i64 5, .int .i64 o.vol, .int .i64 L, .int .u64 o.id, .int .i64 13, .bool false, .int .u64 0, .int .u32 0, .bool false, .slice none 0 0] ∧ Below w7.heap.size w7 X := ⟨_, rfl, Blk.made _ _ _, (Below.refl _ _).alloc (Nat.le_refl _) _⟩
              have HM8 := Lib.hid (HM7.out.on hB8)
              have HA8 := Lib.hid hA8
              have HS7 := Lib.hid (Nat.le_of_eq (show w7.heap.size = w7.heap.size from rfl))
              obtain ⟨w9, hw9, hA9, hB9⟩ : ∃ X, w8.setCell ⟨w7.heap.size, 4, none⟩ (.int .i64 (L + d)) = X ∧ Blk X w7.heap.size 53 #[.int .i64 T, .int .i64 o.fr, .int .i64 5, .int .i64 o.vol, .int .i64 (L + d), .int .u64 o.id, .int .i64 13, .bool false, .int .u64 0, .int .u32 0, .bool false, .slice none 0 0] ∧ Below w7.heap.size w7 X := ⟨_, rfl, hA8.put 4 _, hB8.setCell (p := ⟨w7.heap.size, 4, none⟩) (Nat.le_refl _) _⟩
              have HM9 := Lib.hid (HM7.out.on hB9)
              have HA9 := Lib.hid hA9
              have n0 := pu_cell HU.out HM8.out.n
              have a4 : w8.cell? ⟨w7.heap.size, 4, none⟩ = some (.int .i64 L) := hA8.cell 4
              have f4 := hA8.frozen 4
              rw [hw8]
              clear hw8 hA8 hB8 hA9 hB9 HM7 HM8
              generalize w7.heap.size = G at *
              go_upto_region 25 with fail
              try rw [hw9]
              clear hw9 n0 a4 f4 HA8
              obtain ⟨x0, x1, x2, x3, x4, x5, x6, x7, x8, x9, x10, x11⟩ := HA9.out.twelve
              have E18 := Lib.hid (stale_g w9 HM9.out.r HS.out.1 HP.out.1 HP.out.2 HT.out rfl (L + d) (by have := HD0.out; omega) HU.out)
              dsimp only [atC] at E18
              go_wp2_with fail
              refine E18.out.mono ?_
              rintro e w10 ⟨rfl, ⟨ag', hr10⟩, hg10⟩
              have HL8 := Lib.hid (show StaL W2 (atC o av cv) B N (i + 1) w10 from ⟨HM9.out.b.grown hg10 HM9.out.b.size (fun k e => by injection e with e; have := HNM.out; omega), m0, m1, m2, _, HM9.out.n.grown hg10 (by intro e; injection e with e; exact HNM.out.1 e.symm), hr10, ⟨rfl, HS.out.1, HS.out.2, rfl⟩, pu_lvs HU.out HV.out (pt_bound HT.out HV.out) HD0.out⟩)
              clear hr10 hg10 E18 HM9 HA9 x0 x1 x2 x3 x4 x5 x6 x7 x8 x9 x10 x11
              go_wp2_with fail
              refine (code_c 0 _ (by decide)).mono ?_
              rintro e w11 ⟨rfl, rfl⟩
              go_wp2_with fail
              go_roundw
              case rel => exact ⟨i + 1, by omega, by go_num, HL8.out⟩
              case measure => simp [intOf]; omega
          · have hiz : ¬ ((i : Int) < (n : Int)) := by omega
            go_upto_region 22 with fail
            refine wp_region_held_drew (S := fun W => Below w3.heap.size w3 W) (by kernel_rfl) ((Below.refl _ _).drew) (fun hS => ?_)
            refine wpAnyH_take (i := 0) (v := ?_) rfl (by kernel_rfl) (by kernel_rfl) (by kernel_rfl) (fun _ _ _ h => h) (Or.inl ⟨by kernel_rfl, ?_⟩) hS ?_
            rotate_left
            · intro W hW; go_simp; try with_reducible rfl
            refine wpAnyH_take (i := 1) (v := ?_) rfl (by kernel_rfl) (by kernel_rfl) (by kernel_rfl) (fun _ _ _ h => h) (Or.inl ⟨by kernel_rfl, ?_⟩) hS ?_
            rotate_left
            · intro W hW; obtain ⟨x0, x1, x2, x3, x4, x5, x6, x7, x8, x9, x10, x11⟩ := (HM3.out.on hW).m.twelve; have n0 := pt_cell HT.out (HM3.out.on hW).n; go_simp; try with_reducible rfl
            refine wpAnyH_take (i := 2) (v := ?_) rfl (by kernel_rfl) (by kernel_rfl) (by kernel_rfl) (fun _ _ _ h => h) (Or.inl ⟨by kernel_rfl, ?_⟩) hS ?_
            rotate_left
            · intro W hW; go_simp; try with_reducible rfl
            refine wpAnyH_take (i := 3) (v := ?_) rfl (by kernel_rfl) (by kernel_rfl) (by kernel_rfl) (fun _ _ _ h => h) (Or.inl ⟨by kernel_rfl, ?_⟩) hS ?_
            rotate_left
            · intro W hW; go_simp; try with_reducible rfl
            refine wpAnyH_take (i := 4) (v := ?_) rfl (by kernel_rfl) (by kernel_rfl) (by kernel_rfl) (fun _ _ _ h => h) (Or.inl ⟨by kernel_rfl, ?_⟩) hS ?_
            rotate_left
            · intro W hW; obtain ⟨x0, x1, x2, x3, x4, x5, x6, x7, x8, x9, x10, x11⟩ := (HM3.out.on hW).m.twelve; have n0 := pt_cell HT.out (HM3.out.on hW).n; go_simp; try with_reducible rfl
            refine wpAnyH_take (i := 5) (v := ?_) rfl (by kernel_rfl) (by kernel_rfl) (by kernel_rfl) (fun _ _ _ h => h) (Or.inl ⟨by kernel_rfl, ?_⟩) hS ?_
            rotate_left
            · intro W hW; go_simp; try with_reducible rfl
            refine wpAnyH_done (by kernel_rfl) ?_ _
            go_simp
            have HM6 := Lib.hid (HM3.out.on hS)
            clear hS HM3
            generalize w3.drew = w6 at *
            have hz : ¬ (L < L) := by omega
            go_upto_region 27 with fail
            clear hz
            obtain ⟨x0, x1, x2, x3, x4, x5, x6, x7, x8, x9, x10, x11⟩ := HM6.out.m.twelve
            have E16 := Lib.hid (x_reply o.fr T kd o.vol L o.id 0 true y1.key y1.ck y1.g y1.a y1.n y1.c 0 (kd == 3) y1.key y1.ck y1.g y1.a y1.n y1.c w6)
            go_wp2_with fail
            refine E16.out.mono ?_
            rintro e w7 ⟨rfl, B7⟩
            have HM7 := Lib.hid (HM6.out.on B7)
            clear x0 x1 x2 x3 x4 x5 x6 x7 x8 x9 x10 x11 E16 B7 HM6
            have E17 := Lib.hid (good_g w7 HM7.out.r HS.out.1 HP.out.1 HP.out.2 HT.out (kd == 3) y1 HM7.out.y)
            dsimp only [atC] at E17
            go_wp2_with fail
            refine E17.out.mono ?_
            rintro e w8 ⟨rfl, ⟨r', hr8, ho8, hs8, ht8, hc8⟩, hg8⟩
            obtain ⟨ro, st', told', ag', y', cd', z'⟩ := r'
            dsimp only at ho8 hs8 ht8 hc8
            obtain rfl : cd' = 0 := hc8 trivial
            subst ho8
            have HR8 := Lib.hid hr8
            have HB8 := Lib.hid (HM7.out.b.grown hg8 HM7.out.b.size (fun k e => by injection e with e; have := HNM.out; omega))
            have HN8 := Lib.hid (HM7.out.n.grown hg8 (by intro e; injection e with e; exact HNM.out.1 e.symm))
            have HS8 := Lib.hid (And.intro hs8 ht8)
            have HL8 := Lib.hid (show StaL W2 (atC o av cv) B N (i + 1) w8 from ⟨HB8.out, _, _, _, _, HN8.out, HR8.out, ⟨rfl, hs8, ht8, rfl⟩, by have := HV.out; unfold Lvs at *; omega⟩)
            clear hr8 hs8 ht8 hc8 hg8 E17 HM7
            go_upto_region 28 with fail
            by_cases hq : quit = (i : Int)
            rotate_left
            · have bq : (quit == (i : Int)) = false := eq_f hq
              clear hq
              go_wp2_with fail
              go_roundw
              case rel => exact ⟨i + 1, by omega, by go_num, HL8.out⟩
              case measure => simp [intOf]; omega
            have bq : (quit == (i : Int)) = true := eq_t hq
            clear hq
            by_cases h3 : st' = 3
            · have EG := Lib.hid (giveup_no w8 HR8.out.k h3)
              clear h3
              go_wp2_with fail
              refine EG.out.mono ?_
              rintro e w9 ⟨rfl, rfl⟩
              clear EG
              go_wp2_with fail
              refine (code_c 16 _ (by decide)).mono ?_
              rintro e w10 ⟨rfl, rfl⟩
              go_wp2_with fail
              go_roundw
              case rel => exact ⟨i + 1, by omega, by go_num, HL8.out⟩
              case measure => simp [intOf]; omega
            · have EG := Lib.hid (giveup_yes w8 HR8.out (by have := HS8.out; show st' ≤ 2; omega))
              clear h3
              go_wp2_with fail
              refine EG.out.mono ?_
              rintro e w9 ⟨rfl, hr9, hg9⟩
              have HB9 := Lib.hid (HB8.out.grown hg9 HB8.out.size (fun k e => by injection e with e; have := HNM.out; omega))
              have EO := Lib.hid (oend_yes w9 hr9 rfl)
              clear hr9 hg9 EG HL8 HB8 HN8 HR8
              go_wp2_with fail
              refine (code_c 0 _ (by decide)).mono ?_
              rintro e w10 ⟨rfl, rfl⟩
              go_wp2_with fail
              refine EO.out.mono ?_
              rintro e w10 ⟨av', cv', rfl, B10⟩
              dsimp only [ndN]
              have HB10 := Lib.hid (HB9.out.trans (B10.mono HB9.out.size))
              clear B10 EO HB9
              go_upto_region 30 with fail
              obtain ⟨w11, hw11, hE11, hB11⟩ : ∃ X, w10.alloc (.cells #[.int .i64 17, .int .u64 0, .int .u32 0, .bool false, .slice av' 0 cv'] 88) = X ∧ Blk X w10.heap.size 88 #[.int .i64 17, .int .u64 0, .int .u32 0, .bool false, .slice av' 0 cv'] ∧ Below w10.heap.size w10 X := ⟨_, rfl, Blk.made _ _ _, (Below.refl _ _).alloc (Nat.le_refl _) _⟩
              have HB11 := Lib.hid (HB10.out.trans (hB11.mono HB10.out.size))
              obtain ⟨e0, e1, e2, e3, e4⟩ := hE11.five
              rw [hw11]
              clear hw11 hE11 hB11 HB10
              go_wp2_with fail
              go_ret
              exact ⟨rfl, HBW.out.trans (HB11.out.mono HBW.out.size)⟩
  case rest =>
    obtain ⟨hb, r, hR, s0, s3, hc⟩ := hcut
    obtain ⟨o', st, told, ag, y, cd, z⟩ := r
    dsimp only at s0 s3 hc
    subst hc
    have HB := Lib.hid hb
    have HR := Lib.hid hR
    clear hb hR HL9
    by_cases h3 : st = 3
    · have EO := Lib.hid (oend_yes wc HR.out h3)
      clear h3 s0 s3
      dsimp only at EO
      go_wp2_with fail
      refine EO.out.mono ?_
      rintro e w10 ⟨av', cv', rfl, B10⟩
      have HB10 := Lib.hid (HB.out.trans (B10.mono HB.out.size))
      clear B10 EO HB HR
      go_upto_region 32 with fail
      obtain ⟨w11, hw11, hE11, hB11⟩ : ∃ X, w10.alloc (.cells #[.int .i64 0, .int .u64 z.key, .int .u32 z.ck, .bool z.g, .slice av' z.n cv'] 88) = X ∧ Blk X w10.heap.size 88 #[.int .i64 0, .int .u64 z.key, .int .u32 z.ck, .bool z.g, .slice av' z.n cv'] ∧ Below w10.heap.size w10 X := ⟨_, rfl, Blk.made _ _ _, (Below.refl _ _).alloc (Nat.le_refl _) _⟩
      have HB11 := Lib.hid (HB10.out.trans (hB11.mono HB10.out.size))
      obtain ⟨e0, e1, e2, e3, e4⟩ := hE11.five
      rw [hw11]
      clear hw11 hE11 hB11 HB10
      go_wp2_with fail
      go_ret
      exact ⟨rfl, HBW.out.trans (HB11.out.mono HBW.out.size)⟩
    · have EO := Lib.hid (oend_no wc HR.out (show st ≤ 2 from by omega))
      clear h3 s0 s3
      go_wp2_with fail
      refine EO.out.mono ?_
      rintro e w10 ⟨rfl, B10⟩
      have HB10 := Lib.hid (HB.out.trans (B10.mono HB.out.size))
      clear B10 EO HB HR
      go_upto_region 32 with fail
      obtain ⟨w11, hw11, hE11, hB11⟩ : ∃ X, w10.alloc (.cells #[.int .i64 0, .int .u64 0, .int .u32 0, .bool false, .slice none 0 0] 88) = X ∧ Blk X w10.heap.size 88 #[.int .i64 0, .int .u64 0, .int .u32 0, .bool false, .slice none 0 0] ∧ Below w10.heap.size w10 X := ⟨_, rfl, Blk.made _ _ _, (Below.refl _ _).alloc (Nat.le_refl _) _⟩
      have HB11 := Lib.hid (HB10.out.trans (hB11.mono HB10.out.size))
      obtain ⟨e0, e1, e2, e3, e4⟩ := hE11.five
      rw [hw11]
      clear hw11 hE11 hB11 HB10
      go_wp2_with fail
      go_ret
      exact ⟨rfl, HBW.out.trans (HB11.out.mono HBW.out.size)⟩
end Go.Proofs.Ytboadalojimdlaa
