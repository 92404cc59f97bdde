/-
  The walk of corncriblaw21.ClientOrder.
-/
import Derived.Test.YtboadalojimdlaaClLaw
import Derived.Test.YtboadalojimdlaaClRight
import Derived.Deep.AppendLies
namespace Go.Proofs.Ytboadalojimdlaa
open Go.RowKit
set_option linter.unusedVariables false

theorem info_i64 : (Try.prog.info? 3).map (fun i => (i.zero, i.size, i.bytes)) = some (some (.int .i64 0), 1, 8) := by kernel_rfl
set_option maxRecDepth 100000 in
set_option maxHeartbeats 2000000 in
theorem next_own {B : Nat} {r : RunR} (w : World) (h : RBl w B r) (h0 : 0 ≤ r.st) (h2 : r.st ≤ 2) :
    Calls Try.prog 40 #[.pointer (some ⟨B, 0, none⟩)] w fun e w' => ∃ av cv, e = .returned (.tuple #[(req r av cv).vals, errc 0]) ∧ (BOk w' av (req r av cv).n cv (req r av cv).l ∧ w'.ownsRow w.heap.size 5 1 (.slice av (req r av cv).n cv) (req r av cv).n ((req r av cv).l.map bv)) ∧ RBl w' B { r with told := true } ∧ w.grownBy w' (some B) := by
  obtain ⟨W1, hW1⟩ : ∃ W, w.alloc (.cells #[.int .i64 0, .int .i64 0, .int .i64 0, .int .i64 0, .int .i64 0, .int .u64 0, .int .i64 0, .bool false, .int .u64 0, .int .u32 0, .bool false, .slice none 0 0] 53) = W := ⟨_, rfl⟩
  have HB1 := Lib.hid (show Below w.heap.size w W1 from by rw [← hW1]; exact (Below.refl _ _).alloc (Nat.le_refl _) _)
  have HR1 := Lib.hid (show Blk W1 w.heap.size 53 #[.int .i64 0, .int .i64 0, .int .i64 0, .int .i64 0, .int .i64 0, .int .u64 0, .int .i64 0, .bool false, .int .u64 0, .int .u32 0, .bool false, .slice none 0 0] from by rw [← hW1]; exact Blk.made w _ _)
  have HS1 := Lib.hid (show W1.heap.size = w.heap.size + 1 from by rw [← hW1]; simp)
  have HH := Lib.hid h
  have HL := Lib.hid h.k.lt
  have HK1 := Lib.hid (h.k.below HB1.out h.k.lt)
  have EG := Lib.hid (going_yes W1 HK1.out h2)
  have H0 := Lib.hid h0
  have H2 := Lib.hid h2
  have c15 : W1.cell? ⟨B, 15, none⟩ = some (.bool r.told) := HK1.out.cell 15
  have f15 := HK1.out.frozen 15
  clear h h0 h2
  go_enter Try.func40, Try.ntmps40
  go_wp2_with fail
  refine EG.out.mono ?_
  rintro e w1 ⟨rfl, rfl⟩
  go_upto_region 5 with fail
  clear hW1
  obtain ⟨w2, hw2, hk2, hg2⟩ : ∃ X, W1.setCell ⟨B, 15, none⟩ (.bool true) = X ∧ Blk X B 113 ({ r with told := true } : RunR).cells.toArray ∧ W1.grownBy X (some B) := ⟨_, rfl, HK1.out.put 15 _, grown_put (grown_refl _ _) 15 _⟩
  have HG2 := Lib.hid (grown_trans (grown_of HB1.out) hg2)
  have HR2 := Lib.hid (HR1.out.grown hg2 (by intro e; injection e with e; have := HL.out; omega))
  have HRB2 := Lib.hid (show RBl w2 B { r with told := true } from ⟨hk2, HH.out.o.apart HH.out HG2.out, HH.out.y.apart HH.out HG2.out, HH.out.z.apart HH.out HG2.out⟩)
  have HS2 := Lib.hid (show w.heap.size < w2.heap.size from by have := hg2.size; have := HS1.out; omega)
  have ER := Lib.hid (request_any w2 HRB2.out H0.out H2.out)
  rw [hw2]
  clear hw2 hk2 hg2 c15 f15
  go_wp2_with fail
  refine ER.out.mono ?_
  rintro e w3 ⟨av, cv, rfl, hbo, ho, B3⟩
  have hR3 := HR2.out.below B3 HR2.out.lt
  have hm := (show req ({ r with told := true } : RunR) av cv = req r av cv from rfl)
  rw [hm] at hbo ho ⊢
  have HBO := Lib.hid hbo
  have HO := Lib.hid ho
  have HR3 := Lib.hid hR3
  have HK3 := Lib.hid (HRB2.out.k.below B3 HRB2.out.k.lt)
  have HG3 := Lib.hid (grown_on HG2.out B3)
  clear hbo ho B3 ER hm
  obtain ⟨m, hm⟩ : ∃ m, req r av cv = m := ⟨_, rfl⟩
  have HM := Lib.hid hm
  rw [hm] at HBO HO ⊢
  clear hm
  unfold MsgR.vals
  obtain ⟨q0, q1, q2, q3, q4, q5, q6, q7, q8, q9, q10, q11⟩ := hR3.twelve
  obtain ⟨f0, f1, f2, f3, f4, f5, f6, f7, f8, f9, f10, f11⟩ := hR3.twelve_frozen
  clear hR3
  go_wp2_with fail
  have hz := HR3.out.put12 (.int .i64 m.fr) (.int .i64 m.tt) (.int .i64 m.kd) (.int .i64 m.vol) (.int .i64 m.life) (.int .u64 m.id) (.int .i64 m.cd) (.bool m.has) (.int .u64 m.key) (.int .u32 m.ck) (.bool m.g) (.slice m.a m.n m.c)
  have hb4 := below_put12 (B0 := w.heap.size) (Below.refl w.heap.size w3) (Nat.le_refl w.heap.size) (.int .i64 m.fr) (.int .i64 m.tt) (.int .i64 m.kd) (.int .i64 m.vol) (.int .i64 m.life) (.int .u64 m.id) (.int .i64 m.cd) (.bool m.has) (.int .u64 m.key) (.int .u32 m.ck) (.bool m.g) (.slice m.a m.n m.c)
  have hg4 := grown_base HG3.out hb4
  have ho4 := row_far HO.out (grown_put12 (grown_refl w3 (some w.heap.size)) (.int .i64 m.fr) (.int .i64 m.tt) (.int .i64 m.kd) (.int .i64 m.vol) (.int .i64 m.life) (.int .u64 m.id) (.int .i64 m.cd) (.bool m.has) (.int .u64 m.key) (.int .u32 m.ck) (.bool m.g) (.slice m.a m.n m.c)) HS2.out
  exact bodyPost_ret (v := .tuple #[.agg #[.int .i64 m.fr, .int .i64 m.tt, .int .i64 m.kd, .int .i64 m.vol, .int .i64 m.life, .int .u64 m.id, .int .i64 m.cd, .bool m.has, .int .u64 m.key, .int .u32 m.ck, .bool m.g, .slice m.a m.n m.c], .nilIface]) (next_results hz rfl rfl) rfl ⟨av, cv, by rw [HM.out]; rfl, by rw [HM.out]; exact ⟨⟨bsl_own ho4, HBO.out.nc, HBO.out.le⟩, row_base ho4 (Nat.le_of_lt HS2.out)⟩, ⟨HK3.out.below hb4 HL.out, HH.out.o.apart HH.out hg4, HH.out.y.apart HH.out hg4, HH.out.z.apart HH.out hg4⟩, hg4⟩
theorem next_put_own {B : Nat} {r : RunR} (w : World) (h : RBl w B r) (hk : r.o.kd ≠ 3) (h0 : r.st = 0) :
    Calls Try.prog 40 #[.pointer (some ⟨B, 0, none⟩)] w fun e w' => ∃ av cv, e = .returned (.tuple #[.agg #[.int .i64 r.o.fr, .int .i64 r.o.a0, .int .i64 r.o.kd, .int .i64 r.o.vol, .int .i64 r.o.l0, .int .u64 r.o.id, .int .i64 0, .bool true, .int .u64 r.o.key, .int .u32 r.o.ck, .bool r.o.g, .slice av r.o.n cv], errc 0]) ∧ (BOk w' av r.o.n cv r.o.l ∧ w'.ownsRow w.heap.size 5 1 (.slice av r.o.n cv) r.o.n (r.o.l.map bv)) ∧ RBl w' B { r with told := true } ∧ w.grownBy w' (some B) := by
  have hp : plc r = 0 := by rw [plc_n hk, h0]
  refine (next_own w h (by omega) (by omega)).mono ?_
  rintro e w' ⟨av, cv, rfl, hb, hR, hg⟩
  rw [req_0 h0, hp] at hb ⊢
  exact ⟨av, cv, rfl, hb, hR, hg⟩
theorem next_get_own {B : Nat} {r : RunR} (w : World) (h : RBl w B r) (hk : r.o.kd = 3) (h0 : r.st = 0) :
    Calls Try.prog 40 #[.pointer (some ⟨B, 0, none⟩)] w fun e w' => ∃ av cv, e = .returned (.tuple #[.agg #[.int .i64 r.o.fr, .int .i64 r.o.a2, .int .i64 r.o.kd, .int .i64 r.o.vol, .int .i64 r.o.l2, .int .u64 r.o.id, .int .i64 0, .bool true, .int .u64 r.o.key, .int .u32 r.o.ck, .bool r.o.g, .slice av r.o.n cv], errc 0]) ∧ (BOk w' av r.o.n cv r.o.l ∧ w'.ownsRow w.heap.size 5 1 (.slice av r.o.n cv) r.o.n (r.o.l.map bv)) ∧ RBl w' B { r with told := true } ∧ w.grownBy w' (some B) := by
  have hp : plc r = 2 := by rw [plc_3 hk h0]
  refine (next_own w h (by omega) (by omega)).mono ?_
  rintro e w' ⟨av, cv, rfl, hb, hR, hg⟩
  rw [req_0 h0, hp] at hb ⊢
  exact ⟨av, cv, rfl, hb, hR, hg⟩
theorem next_1_own {B : Nat} {r : RunR} (w : World) (h : RBl w B r) (h0 : r.st = 1) :
    Calls Try.prog 40 #[.pointer (some ⟨B, 0, none⟩)] w fun e w' => ∃ av cv, e = .returned (.tuple #[.agg #[.int .i64 r.o.fr, .int .i64 r.o.a1, .int .i64 2, .int .i64 r.o.vol, .int .i64 r.o.l1, .int .u64 r.o.id, .int .i64 0, .bool true, .int .u64 r.y.key, .int .u32 r.y.ck, .bool r.y.g, .slice av r.y.n cv], errc 0]) ∧ (BOk w' av r.y.n cv r.y.l ∧ w'.ownsRow w.heap.size 5 1 (.slice av r.y.n cv) r.y.n (r.y.l.map bv)) ∧ RBl w' B { r with told := true } ∧ w.grownBy w' (some B) := by
  have hp : plc r = 1 := by rw [plc_s (by omega), h0]
  refine (next_own w h (by omega) (by omega)).mono ?_
  rintro e w' ⟨av, cv, rfl, hb, hR, hg⟩
  rw [req_s (by omega), hp] at hb ⊢
  exact ⟨av, cv, rfl, hb, hR, hg⟩
theorem next_2_own {B : Nat} {r : RunR} (w : World) (h : RBl w B r) (h0 : r.st = 2) :
    Calls Try.prog 40 #[.pointer (some ⟨B, 0, none⟩)] w fun e w' => ∃ av cv, e = .returned (.tuple #[.agg #[.int .i64 r.o.fr, .int .i64 r.o.a2, .int .i64 2, .int .i64 r.o.vol, .int .i64 r.o.l2, .int .u64 r.o.id, .int .i64 0, .bool true, .int .u64 r.y.key, .int .u32 r.y.ck, .bool r.y.g, .slice av r.y.n cv], errc 0]) ∧ (BOk w' av r.y.n cv r.y.l ∧ w'.ownsRow w.heap.size 5 1 (.slice av r.y.n cv) r.y.n (r.y.l.map bv)) ∧ RBl w' B { r with told := true } ∧ w.grownBy w' (some B) := by
  have hp : plc r = 2 := by rw [plc_s (by omega), h0]
  refine (next_own w h (by omega) (by omega)).mono ?_
  rintro e w' ⟨av, cv, rfl, hb, hR, hg⟩
  rw [req_s (by omega), hp] at hb ⊢
  exact ⟨av, cv, rfl, hb, hR, hg⟩
theorem row_apart {W W' : World} {base size k : Nat} {e : TypeId} {v : Value} {xs : List Value} {row : Option Nat} (h : W.ownsRow base e size v k xs) (hg : W.grownBy W' row) (hb : ∀ q, row = some q → q < base) : W'.ownsRow base e size v k xs :=
  h.kept hg (by
    rcases h.2 with ⟨e1, _⟩ | ⟨g, cap, cur, e1, e2, _⟩
    · left; rw [e1]; rfl
    · right; rw [e1]; intro q; have := hb g q.symm; omega)
theorem append_one {P : Program} {W : World} {base : Nat} {T e : TypeId} {i : TypeInfo} {z : Value} {size bytes : Nat} (hT : P.underlying T = some (.slice e)) (hi : P.info? e = some i) (hz0 : i.zero = some z) (hz1 : i.size = size) (hz2 : i.bytes = bytes)
    (hzs : z.cells.size = size) (hs0 : 0 < size) {v : Value} {k : Nat} {xs : List Value} (hown : W.ownsRow base e size v k xs) (us : List Value) (hus : us.length = size) (h1 : ∀ u ∈ us, u.oneCell' = true)
    (hk : (k + 1) * bytes ≤ 140737488355328) (hk2 : k + 1 ≤ maxLen) (hbase : base ≤ W.heap.size) :
    ∃ g cap W2, (Builtin.append_ #[T, T] T #[v, .slice (some ⟨W.heap.size, 0, none⟩) 1 1]).run P (W.alloc (.cells us.toArray e)) = .ok (.slice (some ⟨g, 0, none⟩) (k + 1) cap) W2 ∧
      W2.ownsRow base e size (.slice (some ⟨g, 0, none⟩) (k + 1) cap) (k + 1) (xs ++ us) ∧ W.grownBy W2 v.ownBlock ∧ (v.ownBlock = some g ∨ g = W.heap.size + 1) ∧ k + 1 ≤ cap := by
  have hb : Blk (W.alloc (.cells us.toArray e)) W.heap.size e us.toArray := Blk.made W _ _
  have hsz : (W.alloc (.cells us.toArray e)).heap.size = W.heap.size + 1 := by simp
  obtain ⟨g, cap, W2, hrun, hown2, hgrow, hat, hlt⟩ := run_append_lies (P := P) (W.alloc (.cells us.toArray e)) T T base e i z size bytes hT hi hz0 hz1 hz2 hzs hs0
    _ k xs (hown.alloc _) ⟨W.heap.size, 0, none⟩ 1 1 us (by omega) (by simpa using World.news_of_block hb) h1 (by decide) hk2 hk (by rw [hsz]; omega) (W.heap.size + 1) hsz
  refine ⟨g, cap, W2, hrun, hown2, grown_trans (World.grownBy_alloc W _ _) hgrow, hat, ?_⟩
  rcases hown2.2 with ⟨e1, _⟩ | ⟨_, _, _, e1, _, _, e2, _⟩
  · cases e1
  · cases e1; exact e2
set_option maxRecDepth 100000 in
theorem got_nil (w : World) (m : MsgR) : Calls Try.prog 41 #[.pointer none, m.vals] w fun e w' => e = .returned (errc 15) ∧ Below w.heap.size w w' := by
  unfold MsgR.vals
  have HB := Lib.hid ((Below.refl w.heap.size w).alloc (Nat.le_refl _) (.cells #[.int .i64 m.fr, .int .i64 m.tt, .int .i64 m.kd, .int .i64 m.vol, .int .i64 m.life, .int .u64 m.id, .int .i64 m.cd, .bool m.has, .int .u64 m.key, .int .u32 m.ck, .bool m.g, .slice m.a m.n m.c] 53))
  go_enter Try.func41, Try.ntmps41
  go_wp2_with fail
  refine (going_nil _).mono ?_
  rintro e w1 ⟨rfl, rfl⟩
  go_wp2_with fail
  go_ret
  exact ⟨rfl, HB.out⟩
/-- At the loop's heads. -/
def OrdL (W : World) (o : OpR) (B base : Nat) (av : Option Addr) (r : RunR) (xs : List Int) (v : Value) (wr : World) : Prop :=
  Below W.heap.size W wr ∧ Blk wr B 113 r.cells.toArray ∧ BSl wr base av o.n o.l ∧ wr.ownsRow base 3 1 v xs.length (xs.map fun x => .int .i64 x) ∧ base ≤ wr.heap.size
theorem ord_grown {W : World} {o : OpR} {B base : Nat} {av : Option Addr} {r r' : RunR} {xs : List Int} {v : Value} {wr wr' : World} (h : OrdL W o B base av r xs v wr) (hk : Blk wr' B 113 r'.cells.toArray) (hg : wr.grownBy wr' (some B)) (h1 : W.heap.size ≤ B) (h2 : B < base) : OrdL W o B base av r' xs v wr' :=
  ⟨h.1.grown hg h.1.size (fun k e => by injection e with e; omega), hk, h.2.2.1.apart h.2.1 (run_nob r) hg, row_far h.2.2.2.1 hg h2, Nat.le_trans h.2.2.2.2 hg.size⟩
theorem ord_below {W : World} {o : OpR} {B base : Nat} {av : Option Addr} {r : RunR} {xs : List Int} {v : Value} {wr wr' : World} (h : OrdL W o B base av r xs v wr) (hb : Below wr.heap.size wr wr') : OrdL W o B base av r xs v wr' :=
  ⟨h.1.trans (hb.mono h.1.size), h.2.1.below hb h.2.1.lt, h.2.2.1.below (hb.mono h.2.2.2.2), own_below h.2.2.2.1 hb (Nat.le_refl _), Nat.le_trans h.2.2.2.2 hb.size⟩
theorem ord_append {W : World} {o : OpR} {B base : Nat} {av : Option Addr} {r : RunR} {xs : List Int} {v : Value} {wr : World} (x : Int) (h : OrdL W o B base av r xs v wr) (h1 : W.heap.size ≤ B) (h2 : B < base) (hx : xs.length ≤ 10) :
    ∃ g cap W2, (Builtin.append_ #[36, 36] 36 #[v, .slice (some ⟨wr.heap.size, 0, none⟩) 1 1]).run Try.prog (wr.alloc (.cells #[.int .i64 x] 3)) = .ok (.slice (some ⟨g, 0, none⟩) (xs.length + 1) cap) W2 ∧ OrdL W o B base av r (xs ++ [x]) (.slice (some ⟨g, 0, none⟩) (xs.length + 1) cap) W2 ∧ wr.grownBy W2 v.ownBlock := by
  obtain ⟨i0, hi, hz0, hz1, hz2⟩ := info_parts info_i64
  obtain ⟨g, cap, W2, hr, ho, hg, -, -⟩ := append_one (P := Try.prog) Try.underlying36 hi hz0 hz1 hz2 rfl (by decide) h.2.2.2.1 [.int .i64 x] rfl (fun u hu => by obtain rfl := List.mem_singleton.1 hu; rfl) (by omega) (by unfold maxLen; omega) h.2.2.2.2
  have hb : Below base wr W2 := (Below.refl base wr).grown hg h.2.2.2.2 (fun k e => (h.2.2.2.1.lt k e).1)
  refine ⟨g, cap, W2, hr, ⟨h.1.trans (hb.mono (by omega)), h.2.1.below hb h2, h.2.2.1.below hb, ?_, Nat.le_trans h.2.2.2.2 hg.size⟩, hg⟩
  rw [List.length_append, List.map_append]
  exact ho
theorem ord_rbl {W : World} {o : OpR} {B base : Nat} {av : Option Addr} {cv : Nat} {r : RunR} {xs : List Int} {v : Value} {wr : World} (h : OrdL W o B base av r xs v wr) (hn : o.n ≤ cv) (hl : o.n ≤ 300) (h1 : r.o = atC o av cv) (h2 : r.y = ndN ∨ ∃ g, r.y = ⟨o.key, o.ck, g, av, o.n, cv, o.l⟩) (h3 : r.z = ndN) : RBl wr B r := by
  have hb : BOk wr av o.n cv o.l := ⟨h.2.2.1.more h.2.2.2.2, hn, by omega⟩
  refine ⟨h.2.1, by rw [h1]; exact hb, ?_, by rw [h3]; exact BOk.nil _ _ _⟩
  rcases h2 with h2 | ⟨g, h2⟩
  · rw [h2]; exact BOk.nil _ _ _
  · rw [h2]; exact hb
set_option maxRecDepth 100000 in
theorem order_big (o : OpR) (lost : Int) (w : World) (hbig : 300 < o.n) :
    Calls Try.prog 12 #[o.vals, .int .u8 lost] w fun e w' => e = .returned (.bool true) ∧ Below w.heap.size w w' := by
  unfold OpR.vals
  obtain ⟨W2, hW2⟩ : ∃ W, w.alloc (.cells #[.int .i64 o.kd, .int .i64 o.fr, .int .i64 o.vol, .int .i64 o.a0, .int .i64 o.a1, .int .i64 o.a2, .int .u64 o.id, .int .i64 o.l0, .int .i64 o.l1, .int .i64 o.l2, .int .u64 o.key, .int .u32 o.ck, .bool o.g, .slice o.a o.n o.c] 75) = W := ⟨_, rfl⟩
  have HBW := Lib.hid (show Below w.heap.size w W2 from by rw [← hW2]; exact (Below.refl _ _).alloc (Nat.le_refl _) _)
  have hm : Blk W2 w.heap.size 75 #[.int .i64 o.kd, .int .i64 o.fr, .int .i64 o.vol, .int .i64 o.a0, .int .i64 o.a1, .int .i64 o.a2, .int .u64 o.id, .int .i64 o.l0, .int .i64 o.l1, .int .i64 o.l2, .int .u64 o.key, .int .u32 o.ck, .bool o.g, .slice o.a o.n o.c] := by rw [← hW2]; exact Blk.made w _ _
  have HCO := Lib.hid fun (W : World) (B0 : Below W2.heap.size W2 W) => op14 (hm.below B0 hm.lt)
  clear hm
  have b0 : decide (300 < (o.n : Int)) = true := decide_eq_true (by omega)
  clear hbig
  go_enter Try.func12, Try.ntmps12
  go_wp2_with fail
  refine (client_alive _).mono ?_
  rintro e w3 ⟨rfl, B3⟩
  have HB3 := Lib.hid B3
  obtain ⟨-, -, -, -, -, -, -, -, -, -, -, -, -, k13⟩ := HCO.out _ B3
  try clear hW2
  clear B3
  go_wp2_with fail
  go_ret
  exact ⟨rfl, HBW.out.trans (HB3.out.mono HBW.out.size)⟩
set_option maxRecDepth 100000 in
set_option maxHeartbeats 8000000 in
theorem order_put (o : OpR) (lost : Int) (w : World) (ho : BSl w w.heap.size o.a o.n o.l) (hoc : o.n ≤ o.c) (hon : o.n ≤ 300) (h0 : 0 ≤ lost) (h1 : lost ≤ 255) (hk : o.kd ≠ 3) :
    Calls Try.prog 12 #[o.vals, .int .u8 lost] w fun e w' => e = .returned (.bool true) ∧ Below w.heap.size w w' := by
  unfold OpR.vals
  obtain ⟨W2, hW2⟩ : ∃ W, w.alloc (.cells #[.int .i64 o.kd, .int .i64 o.fr, .int .i64 o.vol, .int .i64 o.a0, .int .i64 o.a1, .int .i64 o.a2, .int .u64 o.id, .int .i64 o.l0, .int .i64 o.l1, .int .i64 o.l2, .int .u64 o.key, .int .u32 o.ck, .bool o.g, .slice o.a o.n o.c] 75) = W := ⟨_, rfl⟩
  have HBW := Lib.hid (show Below w.heap.size w W2 from by rw [← hW2]; exact (Below.refl _ _).alloc (Nat.le_refl _) _)
  have hm : Blk W2 w.heap.size 75 #[.int .i64 o.kd, .int .i64 o.fr, .int .i64 o.vol, .int .i64 o.a0, .int .i64 o.a1, .int .i64 o.a2, .int .u64 o.id, .int .i64 o.l0, .int .i64 o.l1, .int .i64 o.l2, .int .u64 o.key, .int .u32 o.ck, .bool o.g, .slice o.a o.n o.c] := by rw [← hW2]; exact Blk.made w _ _
  have HCO := Lib.hid fun (W : World) (B0 : Below W2.heap.size W2 W) => op14 (hm.below B0 hm.lt)
  clear hm
  have b0 : decide (300 < (o.n : Int)) = false := decide_eq_false (by omega)
  have HON := Lib.hid hon
  have HK := Lib.hid hk
  have HBO := Lib.hid fun (W : World) (B0 : Below W2.heap.size W2 W) => (⟨(ho.below (HBW.out.trans (B0.mono HBW.out.size))).more (HBW.out.trans (B0.mono HBW.out.size)).size, hoc, by have := HON.out; omega⟩ : BOk W o.a o.n o.c o.l)
  clear ho hoc hon hk
  go_enter Try.func12, Try.ntmps12
  go_wp2_with fail
  refine (client_alive _).mono ?_
  rintro e w4 ⟨rfl, B4⟩
  have HB4 := Lib.hid B4
  try clear hW2
  clear B4
  obtain ⟨k0, k1, k2, k3, k4, k5, k6, k7, k8, k9, k10, k11, k12, k13⟩ := HCO.out _ HB4.out
  have ER := Lib.hid (right21 o w4 (HBO.out _ HB4.out).b (HBO.out _ HB4.out).le)
  unfold OpR.vals at ER
  go_wp2_with fail
  refine ER.out.mono ?_
  rintro e w5 ⟨b, rfl, hRt, B5⟩
  have HB5 := Lib.hid (HB4.out.trans (B5.mono HB4.out.size))
  clear k0 k1 k2 k3 k4 k5 k6 k7 k8 k9 k10 k11 k12 k13 B5 ER HB4
  cases b with
  | false =>
    clear hRt
    go_wp2_with fail
    go_ret
    exact ⟨rfl, HBW.out.trans (HB5.out.mono HBW.out.size)⟩
  | true =>
  have HRT := Lib.hid (hRt rfl)
  clear hRt
  obtain ⟨k0, k1, k2, k3, k4, k5, k6, k7, k8, k9, k10, k11, k12, k13⟩ := HCO.out _ HB5.out
  have EO := Lib.hid (ofop_any o w5)
  unfold OpR.vals at EO
  go_wp2_with fail
  refine EO.out.mono ?_
  rintro e w7 ⟨rfl, B7⟩
  have HB7 := Lib.hid (HB5.out.trans (B7.mono HB5.out.size))
  clear k0 k1 k2 k3 k4 k5 k6 k7 k8 k9 k10 k11 k12 k13 B7 EO HB5
  have EN := Lib.hid (cnew_ok w7 HRT.out (HBO.out _ HB7.out))
  unfold OpR.vals at EN
  go_wp2_with fail
  refine EN.out.mono ?_
  rintro e w8 ⟨B, av, cv, rfl, hB, hR, B8⟩
  have HBB := Lib.hid (show W2.heap.size ≤ B ∧ B < w8.heap.size from ⟨Nat.le_trans HB7.out.size hB, hR.k.lt⟩)
  have HCV := Lib.hid (show o.n ≤ cv from hR.o.nc)
  have HL8 := Lib.hid (show OrdL W2 o B w8.heap.size av (newR (atC o av cv)) [] (.slice none 0 0) w8 from ⟨HB7.out.trans (B8.mono HB7.out.size), hR.k, hR.o.b, ⟨rfl, .inl ⟨rfl, rfl⟩⟩, Nat.le_refl _⟩)
  clear hB hR B8 EN HB7
  generalize w8.heap.size = base at *
  go_wp2_with fail
  go_loopw [7, 8] (fun v iv wr => (iv = .int .i64 0 ∧ v = .slice none 0 0 ∧ OrdL W2 o B base av (newR (atC o av cv)) [] v wr) ∨ (iv = .int .i64 1 ∧ ∃ g cap, v = .slice (some ⟨g, 0, none⟩) 1 cap ∧ OrdL W2 o B base av ⟨atC o av cv, 1, true, false, ⟨o.key, o.ck, o.kd == 4, av, o.n, cv, o.l⟩, 0, ndN⟩ [o.a0] v wr) ∨ (iv = .int .i64 2 ∧ ∃ g cap, v = .slice (some ⟨g, 0, none⟩) 2 cap ∧ OrdL W2 o B base av ⟨atC o av cv, 2, true, false, ⟨o.key, o.ck, o.kd == 4, av, o.n, cv, o.l⟩, 0, ndN⟩ [o.a0, o.a1] v wr) ∨ (iv = .int .i64 3 ∧ ∃ g cap, v = .slice (some ⟨g, 0, none⟩) 3 cap ∧ OrdL W2 o B base av ⟨atC o av cv, 3, true, false, ⟨o.key, o.ck, o.kd == 4, av, o.n, cv, o.l⟩, 0, ndN⟩ [o.a0, o.a1, o.a2] v wr)) (fun _ iv _ => (4 - intOf iv).toNat)
  case atStart => exact Or.inl ⟨rfl, rfl, HL8.out⟩
  case round =>
    rcases hrel with ⟨rfl, rfl, hL⟩ | ⟨rfl, g, cap, rfl, hL⟩ | ⟨rfl, g, cap, rfl, hL⟩ | ⟨rfl, g, cap, rfl, hL⟩
    · have HL := Lib.hid hL
      have hR := ord_rbl hL HCV.out HON.out rfl (Or.inl rfl) rfl
      have E9 := Lib.hid (show Calls Try.prog 40 #[.pointer (some ⟨B, 0, none⟩)] wr (fun e w' => ∃ a9 c9, e = .returned (.tuple #[.agg #[.int .i64 o.fr, .int .i64 o.a0, .int .i64 o.kd, .int .i64 o.vol, .int .i64 o.l0, .int .u64 o.id, .int .i64 0, .bool true, .int .u64 o.key, .int .u32 o.ck, .bool o.g, .slice a9 o.n c9], errc 0]) ∧ (BOk w' a9 o.n c9 o.l ∧ w'.ownsRow wr.heap.size 5 1 (.slice a9 o.n c9) o.n (o.l.map bv)) ∧ RBl w' B ⟨atC o av cv, 0, true, false, ndN, 0, ndN⟩ ∧ wr.grownBy w' (some B)) from next_put_own wr hR HK.out rfl)
      have HBR := Lib.hid hL.2.2.2.2
      have HVM := Lib.hid fun q (e : Value.ownBlock (.slice none 0 0) = some q) => (hL.2.2.2.1.lt q e).2
      clear hL hR HL8
      go_wp2_with fail
      refine E9.out.mono ?_
      rintro e w9 ⟨a9, c9, rfl, ⟨hb9, how9⟩, hR9, hg9⟩
      have HL9 := Lib.hid (ord_grown HL.out hR9.k hg9 HBB.out.1 HBB.out.2)
      have HQ9 := Lib.hid how9
      have HNC := Lib.hid hb9.nc
      have HSZ := Lib.hid hg9.size
      clear hb9 hR9 hg9 E9 HL how9
      go_upto_region 11 with fail
      obtain ⟨w10, hw10, hM10, hB10⟩ : ∃ X, w9.alloc (.cells #[.int .i64 o.fr, .int .i64 o.a0, .int .i64 o.kd, .int .i64 o.vol, .int .i64 o.l0, .int .u64 o.id, .int .i64 0, .bool true, .int .u64 o.key, .int .u32 o.ck, .bool o.g, .slice a9 o.n c9] 53) = X ∧ Blk X w9.heap.size 53 #[.int .i64 o.fr, .int .i64 o.a0, .int .i64 o.kd, .int .i64 o.vol, .int .i64 o.l0, .int .u64 o.id, .int .i64 0, .bool true, .int .u64 o.key, .int .u32 o.ck, .bool o.g, .slice a9 o.n c9] ∧ Below w9.heap.size w9 X := ⟨_, rfl, Blk.made _ _ _, (Below.refl _ _).alloc (Nat.le_refl _) _⟩
      have HL10 := Lib.hid (ord_below HL9.out hB10)
      have HQ10 := Lib.hid (own_below HQ9.out hB10 (Nat.le_refl _))
      have HM10 := Lib.hid hM10
      have HBM := Lib.hid (show B < w9.heap.size ∧ base ≤ w9.heap.size ∧ wr.heap.size ≤ w9.heap.size from ⟨Nat.lt_of_lt_of_le HBB.out.2 HL9.out.2.2.2.2, HL9.out.2.2.2.2, HSZ.out⟩)
      rw [hw10]
      clear hw10 hM10 hB10 HL9 HQ9 HSZ
      generalize w9.heap.size = M at *
      go_wp2_with fail
      refine (code_c 0 _ (by decide)).mono ?_
      rintro e w11 ⟨rfl, rfl⟩
      go_upto_region 12 with fail
      obtain ⟨q, hq⟩ : ∃ q, ((0 : Int) == lost % 4) = q := ⟨_, rfl⟩
      go_cut [54] (fun vq wx => vq = .bool q ∧ w10 = wx)
      case first =>
        go_wp2_with fail
        go_meet
        exact ⟨rfl, rfl⟩
      obtain ⟨rfl, rfl⟩ := hcut
      clear hq
      rename_i hKq
      refine hKq _ _ ?_
      clear hKq
      go_cut [11] (fun _ wx => OrdL W2 o B base av ⟨atC o av cv, 0, true, false, ndN, 0, ndN⟩ [] (.slice none 0 0) wx ∧ Blk wx M 53 #[.int .i64 o.fr, .int .i64 o.a0, .int .i64 o.kd, .int .i64 o.vol, .int .i64 o.l0, .int .u64 o.id, .int .i64 0, .bool true, .int .u64 o.key, .int .u32 o.ck, .bool o.g, .slice a9 o.n c9] ∧ wx.ownsRow wr.heap.size 5 1 (.slice a9 o.n c9) o.n (o.l.map bv))
      case first =>
        cases q with
        | true =>
          have hR := ord_rbl HL10.out HCV.out HON.out rfl (Or.inl rfl) rfl
          have HRR := Lib.hid hR
          have E10 := Lib.hid (show Calls Try.prog 40 #[.pointer (some ⟨B, 0, none⟩)] w10 (fun e w' => ∃ a10 c10, e = .returned (.tuple #[.agg #[.int .i64 o.fr, .int .i64 o.a0, .int .i64 o.kd, .int .i64 o.vol, .int .i64 o.l0, .int .u64 o.id, .int .i64 0, .bool true, .int .u64 o.key, .int .u32 o.ck, .bool o.g, .slice a10 o.n c10], errc 0]) ∧ (BOk w' a10 o.n c10 o.l ∧ w'.ownsRow w10.heap.size 5 1 (.slice a10 o.n c10) o.n (o.l.map bv)) ∧ RBl w' B ⟨atC o av cv, 0, true, false, ndN, 0, ndN⟩ ∧ w10.grownBy w' (some B)) from next_put_own w10 hR HK.out rfl)
          clear hR
          go_wp2_with fail
          refine E10.out.mono ?_
          rintro e w12 ⟨a10, c10, rfl, ⟨hb12, -⟩, hR12, hg12⟩
          have HL12 := Lib.hid (ord_grown HL10.out hR12.k hg12 HBB.out.1 HBB.out.2)
          have HM12 := Lib.hid (HM10.out.grown hg12 (by intro e; injection e with e; have := HBM.out; omega))
          have HQ12 := Lib.hid (row_far HQ10.out hg12 (by have := HL10.out; have := HBM.out; have := HBB.out; have := HBR.out; omega))
          have HN12 := Lib.hid hb12
          clear hb12 hR12 hg12 E10 HL10 HM10 HQ10 HRR
          go_upto_region 14 with fail
          obtain ⟨w13, hw13, hN13, hB13⟩ : ∃ X, w12.alloc (.cells #[.int .i64 o.fr, .int .i64 o.a0, .int .i64 o.kd, .int .i64 o.vol, .int .i64 o.l0, .int .u64 o.id, .int .i64 0, .bool true, .int .u64 o.key, .int .u32 o.ck, .bool o.g, .slice a10 o.n c10] 53) = X ∧ Blk X w12.heap.size 53 #[.int .i64 o.fr, .int .i64 o.a0, .int .i64 o.kd, .int .i64 o.vol, .int .i64 o.l0, .int .u64 o.id, .int .i64 0, .bool true, .int .u64 o.key, .int .u32 o.ck, .bool o.g, .slice a10 o.n c10] ∧ Below w12.heap.size w12 X := ⟨_, rfl, Blk.made _ _ _, (Below.refl _ _).alloc (Nat.le_refl _) _⟩
          have HL13 := Lib.hid (ord_below HL12.out hB13)
          have HM13 := Lib.hid (HM12.out.below hB13 HM12.out.lt)
          have HQ13 := Lib.hid (own_below HQ12.out hB13 (Nat.le_refl _))
          have ES := Lib.hid (wsame_any (⟨o.fr, o.a0, o.kd, o.vol, o.l0, o.id, 0, true, o.key, o.ck, o.g, a9, o.n, c9, o.l⟩ : MsgR) (⟨o.fr, o.a0, o.kd, o.vol, o.l0, o.id, 0, true, o.key, o.ck, o.g, a10, o.n, c10, o.l⟩ : MsgR) w13 (bsl_own HQ13.out) (HN12.out.on hB13).b)
          rw [show mSame (⟨o.fr, o.a0, o.kd, o.vol, o.l0, o.id, 0, true, o.key, o.ck, o.g, a9, o.n, c9, o.l⟩ : MsgR) (⟨o.fr, o.a0, o.kd, o.vol, o.l0, o.id, 0, true, o.key, o.ck, o.g, a10, o.n, c10, o.l⟩ : MsgR) = true from by simp [mSame, mHead, ndSame]] at ES
          unfold MsgR.vals at ES
          dsimp only at ES
          obtain ⟨n0, n1, n2, n3, n4, n5, n6, n7, n8, n9, n10, n11⟩ := hN13.twelve
          obtain ⟨m0, m1, m2, m3, m4, m5, m6, m7, m8, m9, m10, m11⟩ := HM13.out.twelve
          rw [hw13]
          clear hw13 hN13 hB13 HL12 HM12 HQ12 HN12
          go_wp2_with fail
          refine (code_c 0 _ (by decide)).mono ?_
          rintro e w14 ⟨rfl, rfl⟩
          go_wp2_with fail
          refine ES.out.mono ?_
          rintro e w14 ⟨rfl, B14⟩
          have HF := Lib.hid (show OrdL W2 o B base av ⟨atC o av cv, 0, true, false, ndN, 0, ndN⟩ [] (.slice none 0 0) w14 ∧ Blk w14 M 53 #[.int .i64 o.fr, .int .i64 o.a0, .int .i64 o.kd, .int .i64 o.vol, .int .i64 o.l0, .int .u64 o.id, .int .i64 0, .bool true, .int .u64 o.key, .int .u32 o.ck, .bool o.g, .slice a9 o.n c9] ∧ w14.ownsRow wr.heap.size 5 1 (.slice a9 o.n c9) o.n (o.l.map bv) from ⟨ord_below HL13.out B14, HM13.out.below B14 HM13.out.lt, own_below HQ13.out B14 (Nat.le_refl _)⟩)
          clear B14 ES HL13 HM13 HQ13 n0 n1 n2 n3 n4 n5 n6 n7 n8 n9 n10 n11 m0 m1 m2 m3 m4 m5 m6 m7 m8 m9 m10 m11
          go_wp2_with fail
          go_meet
          exact HF.out
        | false =>
          have HF := Lib.hid (And.intro HL10.out (And.intro HM10.out HQ10.out))
          clear HL10 HM10 HQ10
          go_wp2_with fail
          go_meet
          exact HF.out
      case rest =>
        obtain ⟨hL, hM, hQ⟩ := hcut
        clear HL10 HM10 HQ10
        obtain ⟨g2, cap2, w15, hr, hL15, hg15⟩ : ∃ gn capn X, (Builtin.append_ #[36, 36] 36 #[(.slice none 0 0), .slice (some ⟨wc.heap.size, 0, none⟩) 1 1]).run Try.prog (wc.alloc (.cells #[.int .i64 o.a0] 3)) = .ok (.slice (some ⟨gn, 0, none⟩) 1 capn) X ∧ OrdL W2 o B base av ⟨atC o av cv, 0, true, false, ndN, 0, ndN⟩ [o.a0] (.slice (some ⟨gn, 0, none⟩) 1 capn) X ∧ wc.grownBy X (Value.ownBlock (.slice none 0 0)) := ord_append o.a0 hL HBB.out.1 HBB.out.2 (by simp)
        have HL15 := Lib.hid hL15
        have hM15 := hM.grown hg15 (by intro e; have := HVM.out M e.symm; have := HBM.out; omega)
        have HQ15 := Lib.hid (row_apart hQ hg15 (fun q e => HVM.out q e))
        have x1 : wc.cell? ⟨M, 1, none⟩ = some (.int .i64 o.a0) := hM.cell 1
        have HM15 := Lib.hid hM15
        clear hL hM hQ hL15 hg15 hM15 HVM
        go_upto_region 17 with (at_builtin; refine list_run (by rfl) _ _ rfl rfl rfl hr ?_; clear hr)
        clear x1
        obtain ⟨m0, m1, m2, m3, m4, m5, m6, m7, m8, m9, m10, m11⟩ := HM15.out.twelve
        have b3 : (o.kd == 3) = false := eq_f HK.out
        have E16 := Lib.hid (x_reply o.fr o.a0 o.kd o.vol o.l0 o.id 0 true o.key o.ck o.g a9 o.n c9 0 false o.key o.ck o.g a9 o.n c9 w15)
        go_wp2_with fail
        refine E16.out.mono ?_
        rintro e w16 ⟨rfl, B16⟩
        have hL16 := ord_below HL15.out B16
        have hR16 := ord_rbl hL16 HCV.out HON.out rfl (Or.inl rfl) rfl
        have hbq : BOk w16 a9 o.n c9 o.l := ⟨bsl_own (own_below HQ15.out B16 (Nat.le_refl _)), HNC.out, by have := HON.out; omega⟩
        have HL16 := Lib.hid hL16
        have E17 := Lib.hid (show Calls Try.prog 41 #[.pointer (some ⟨B, 0, none⟩), .agg #[.int .i64 o.a0, .int .i64 o.fr, .int .i64 5, .int .i64 o.vol, .int .i64 o.l0, .int .u64 o.id, .int .i64 0, .bool false, .int .u64 o.key, .int .u32 o.ck, .bool o.g, .slice a9 o.n c9]] w16 (fun e w' => e = .returned (errc 0) ∧ RBl w' B ⟨atC o av cv, 1, true, false, ⟨o.key, o.ck, o.kd == 4, av, o.n, cv, o.l⟩, 0, ndN⟩ ∧ w16.grownBy w' (some B)) from x_put w16 hR16 false ⟨o.key, o.ck, o.g, a9, o.n, c9, o.l⟩ hbq HK.out rfl)
        clear m0 m1 m2 m3 m4 m5 m6 m7 m8 m9 m10 m11 b3 B16 E16 HL15 HM15 HQ15 hL16 hR16 hbq
        go_wp2_with fail
        refine E17.out.mono ?_
        rintro e w17 ⟨rfl, hR17, hg17⟩
        have HL17 := Lib.hid (ord_grown HL16.out hR17.k hg17 HBB.out.1 HBB.out.2)
        skip
        clear hR17 hg17 E17 HL16
        go_wp2_with fail
        go_roundw
        case rel => exact Or.inr (Or.inl ⟨rfl, g2, cap2, rfl, HL17.out⟩)
        case measure => simp [intOf]
    · have HL := Lib.hid hL
      have hR := ord_rbl hL HCV.out HON.out rfl (Or.inr ⟨_, rfl⟩) rfl
      have E9 := Lib.hid (show Calls Try.prog 40 #[.pointer (some ⟨B, 0, none⟩)] wr (fun e w' => ∃ a9 c9, e = .returned (.tuple #[.agg #[.int .i64 o.fr, .int .i64 o.a1, .int .i64 2, .int .i64 o.vol, .int .i64 o.l1, .int .u64 o.id, .int .i64 0, .bool true, .int .u64 o.key, .int .u32 o.ck, .bool (o.kd == 4), .slice a9 o.n c9], errc 0]) ∧ (BOk w' a9 o.n c9 o.l ∧ w'.ownsRow wr.heap.size 5 1 (.slice a9 o.n c9) o.n (o.l.map bv)) ∧ RBl w' B ⟨atC o av cv, 1, true, false, ⟨o.key, o.ck, o.kd == 4, av, o.n, cv, o.l⟩, 0, ndN⟩ ∧ wr.grownBy w' (some B)) from next_1_own wr hR rfl)
      have HBR := Lib.hid hL.2.2.2.2
      have HVM := Lib.hid fun q (e : Value.ownBlock (.slice (some ⟨g, 0, none⟩) 1 cap) = some q) => (hL.2.2.2.1.lt q e).2
      clear hL hR HL8
      go_wp2_with fail
      refine E9.out.mono ?_
      rintro e w9 ⟨a9, c9, rfl, ⟨hb9, how9⟩, hR9, hg9⟩
      have HL9 := Lib.hid (ord_grown HL.out hR9.k hg9 HBB.out.1 HBB.out.2)
      have HQ9 := Lib.hid how9
      have HNC := Lib.hid hb9.nc
      have HSZ := Lib.hid hg9.size
      clear hb9 hR9 hg9 E9 HL how9
      go_upto_region 11 with fail
      obtain ⟨w10, hw10, hM10, hB10⟩ : ∃ X, w9.alloc (.cells #[.int .i64 o.fr, .int .i64 o.a1, .int .i64 2, .int .i64 o.vol, .int .i64 o.l1, .int .u64 o.id, .int .i64 0, .bool true, .int .u64 o.key, .int .u32 o.ck, .bool (o.kd == 4), .slice a9 o.n c9] 53) = X ∧ Blk X w9.heap.size 53 #[.int .i64 o.fr, .int .i64 o.a1, .int .i64 2, .int .i64 o.vol, .int .i64 o.l1, .int .u64 o.id, .int .i64 0, .bool true, .int .u64 o.key, .int .u32 o.ck, .bool (o.kd == 4), .slice a9 o.n c9] ∧ Below w9.heap.size w9 X := ⟨_, rfl, Blk.made _ _ _, (Below.refl _ _).alloc (Nat.le_refl _) _⟩
      have HL10 := Lib.hid (ord_below HL9.out hB10)
      have HQ10 := Lib.hid (own_below HQ9.out hB10 (Nat.le_refl _))
      have HM10 := Lib.hid hM10
      have HBM := Lib.hid (show B < w9.heap.size ∧ base ≤ w9.heap.size ∧ wr.heap.size ≤ w9.heap.size from ⟨Nat.lt_of_lt_of_le HBB.out.2 HL9.out.2.2.2.2, HL9.out.2.2.2.2, HSZ.out⟩)
      rw [hw10]
      clear hw10 hM10 hB10 HL9 HQ9 HSZ
      generalize w9.heap.size = M at *
      go_wp2_with fail
      refine (code_c 0 _ (by decide)).mono ?_
      rintro e w11 ⟨rfl, rfl⟩
      go_upto_region 12 with fail
      obtain ⟨q, hq⟩ : ∃ q, ((1 : Int) == lost % 4) = q := ⟨_, rfl⟩
      go_cut [54] (fun vq wx => vq = .bool q ∧ w10 = wx)
      case first =>
        go_wp2_with fail
        go_meet
        exact ⟨rfl, rfl⟩
      obtain ⟨rfl, rfl⟩ := hcut
      clear hq
      rename_i hKq
      refine hKq _ _ ?_
      clear hKq
      go_cut [11] (fun _ wx => OrdL W2 o B base av ⟨atC o av cv, 1, true, false, ⟨o.key, o.ck, o.kd == 4, av, o.n, cv, o.l⟩, 0, ndN⟩ [o.a0] (.slice (some ⟨g, 0, none⟩) 1 cap) wx ∧ Blk wx M 53 #[.int .i64 o.fr, .int .i64 o.a1, .int .i64 2, .int .i64 o.vol, .int .i64 o.l1, .int .u64 o.id, .int .i64 0, .bool true, .int .u64 o.key, .int .u32 o.ck, .bool (o.kd == 4), .slice a9 o.n c9] ∧ wx.ownsRow wr.heap.size 5 1 (.slice a9 o.n c9) o.n (o.l.map bv))
      case first =>
        cases q with
        | true =>
          have hR := ord_rbl HL10.out HCV.out HON.out rfl (Or.inr ⟨_, rfl⟩) rfl
          have HRR := Lib.hid hR
          have E10 := Lib.hid (show Calls Try.prog 40 #[.pointer (some ⟨B, 0, none⟩)] w10 (fun e w' => ∃ a10 c10, e = .returned (.tuple #[.agg #[.int .i64 o.fr, .int .i64 o.a1, .int .i64 2, .int .i64 o.vol, .int .i64 o.l1, .int .u64 o.id, .int .i64 0, .bool true, .int .u64 o.key, .int .u32 o.ck, .bool (o.kd == 4), .slice a10 o.n c10], errc 0]) ∧ (BOk w' a10 o.n c10 o.l ∧ w'.ownsRow w10.heap.size 5 1 (.slice a10 o.n c10) o.n (o.l.map bv)) ∧ RBl w' B ⟨atC o av cv, 1, true, false, ⟨o.key, o.ck, o.kd == 4, av, o.n, cv, o.l⟩, 0, ndN⟩ ∧ w10.grownBy w' (some B)) from next_1_own w10 hR rfl)
          clear hR
          go_wp2_with fail
          refine E10.out.mono ?_
          rintro e w12 ⟨a10, c10, rfl, ⟨hb12, -⟩, hR12, hg12⟩
          have HL12 := Lib.hid (ord_grown HL10.out hR12.k hg12 HBB.out.1 HBB.out.2)
          have HM12 := Lib.hid (HM10.out.grown hg12 (by intro e; injection e with e; have := HBM.out; omega))
          have HQ12 := Lib.hid (row_far HQ10.out hg12 (by have := HL10.out; have := HBM.out; have := HBB.out; have := HBR.out; omega))
          have HN12 := Lib.hid hb12
          clear hb12 hR12 hg12 E10 HL10 HM10 HQ10 HRR
          go_upto_region 14 with fail
          obtain ⟨w13, hw13, hN13, hB13⟩ : ∃ X, w12.alloc (.cells #[.int .i64 o.fr, .int .i64 o.a1, .int .i64 2, .int .i64 o.vol, .int .i64 o.l1, .int .u64 o.id, .int .i64 0, .bool true, .int .u64 o.key, .int .u32 o.ck, .bool (o.kd == 4), .slice a10 o.n c10] 53) = X ∧ Blk X w12.heap.size 53 #[.int .i64 o.fr, .int .i64 o.a1, .int .i64 2, .int .i64 o.vol, .int .i64 o.l1, .int .u64 o.id, .int .i64 0, .bool true, .int .u64 o.key, .int .u32 o.ck, .bool (o.kd == 4), .slice a10 o.n c10] ∧ Below w12.heap.size w12 X := ⟨_, rfl, Blk.made _ _ _, (Below.refl _ _).alloc (Nat.le_refl _) _⟩
          have HL13 := Lib.hid (ord_below HL12.out hB13)
          have HM13 := Lib.hid (HM12.out.below hB13 HM12.out.lt)
          have HQ13 := Lib.hid (own_below HQ12.out hB13 (Nat.le_refl _))
          have ES := Lib.hid (wsame_any (⟨o.fr, o.a1, 2, o.vol, o.l1, o.id, 0, true, o.key, o.ck, (o.kd == 4), a9, o.n, c9, o.l⟩ : MsgR) (⟨o.fr, o.a1, 2, o.vol, o.l1, o.id, 0, true, o.key, o.ck, (o.kd == 4), a10, o.n, c10, o.l⟩ : MsgR) w13 (bsl_own HQ13.out) (HN12.out.on hB13).b)
          rw [show mSame (⟨o.fr, o.a1, 2, o.vol, o.l1, o.id, 0, true, o.key, o.ck, (o.kd == 4), a9, o.n, c9, o.l⟩ : MsgR) (⟨o.fr, o.a1, 2, o.vol, o.l1, o.id, 0, true, o.key, o.ck, (o.kd == 4), a10, o.n, c10, o.l⟩ : MsgR) = true from by simp [mSame, mHead, ndSame]] at ES
          unfold MsgR.vals at ES
          dsimp only at ES
          obtain ⟨n0, n1, n2, n3, n4, n5, n6, n7, n8, n9, n10, n11⟩ := hN13.twelve
          obtain ⟨m0, m1, m2, m3, m4, m5, m6, m7, m8, m9, m10, m11⟩ := HM13.out.twelve
          rw [hw13]
          clear hw13 hN13 hB13 HL12 HM12 HQ12 HN12
          go_wp2_with fail
          refine (code_c 0 _ (by decide)).mono ?_
          rintro e w14 ⟨rfl, rfl⟩
          go_wp2_with fail
          refine ES.out.mono ?_
          rintro e w14 ⟨rfl, B14⟩
          have HF := Lib.hid (show OrdL W2 o B base av ⟨atC o av cv, 1, true, false, ⟨o.key, o.ck, o.kd == 4, av, o.n, cv, o.l⟩, 0, ndN⟩ [o.a0] (.slice (some ⟨g, 0, none⟩) 1 cap) w14 ∧ Blk w14 M 53 #[.int .i64 o.fr, .int .i64 o.a1, .int .i64 2, .int .i64 o.vol, .int .i64 o.l1, .int .u64 o.id, .int .i64 0, .bool true, .int .u64 o.key, .int .u32 o.ck, .bool (o.kd == 4), .slice a9 o.n c9] ∧ w14.ownsRow wr.heap.size 5 1 (.slice a9 o.n c9) o.n (o.l.map bv) from ⟨ord_below HL13.out B14, HM13.out.below B14 HM13.out.lt, own_below HQ13.out B14 (Nat.le_refl _)⟩)
          clear B14 ES HL13 HM13 HQ13 n0 n1 n2 n3 n4 n5 n6 n7 n8 n9 n10 n11 m0 m1 m2 m3 m4 m5 m6 m7 m8 m9 m10 m11
          go_wp2_with fail
          go_meet
          exact HF.out
        | false =>
          have HF := Lib.hid (And.intro HL10.out (And.intro HM10.out HQ10.out))
          clear HL10 HM10 HQ10
          go_wp2_with fail
          go_meet
          exact HF.out
      case rest =>
        obtain ⟨hL, hM, hQ⟩ := hcut
        clear HL10 HM10 HQ10
        obtain ⟨g2, cap2, w15, hr, hL15, hg15⟩ : ∃ gn capn X, (Builtin.append_ #[36, 36] 36 #[(.slice (some ⟨g, 0, none⟩) 1 cap), .slice (some ⟨wc.heap.size, 0, none⟩) 1 1]).run Try.prog (wc.alloc (.cells #[.int .i64 o.a1] 3)) = .ok (.slice (some ⟨gn, 0, none⟩) 2 capn) X ∧ OrdL W2 o B base av ⟨atC o av cv, 1, true, false, ⟨o.key, o.ck, o.kd == 4, av, o.n, cv, o.l⟩, 0, ndN⟩ [o.a0, o.a1] (.slice (some ⟨gn, 0, none⟩) 2 capn) X ∧ wc.grownBy X (Value.ownBlock (.slice (some ⟨g, 0, none⟩) 1 cap)) := ord_append o.a1 hL HBB.out.1 HBB.out.2 (by simp)
        have HL15 := Lib.hid hL15
        have hM15 := hM.grown hg15 (by intro e; have := HVM.out M e.symm; have := HBM.out; omega)
        have HQ15 := Lib.hid (row_apart hQ hg15 (fun q e => HVM.out q e))
        have x1 : wc.cell? ⟨M, 1, none⟩ = some (.int .i64 o.a1) := hM.cell 1
        have HM15 := Lib.hid hM15
        clear hL hM hQ hL15 hg15 hM15 HVM
        go_upto_region 17 with (at_builtin; refine list_run (by rfl) _ _ rfl rfl rfl hr ?_; clear hr)
        clear x1
        obtain ⟨m0, m1, m2, m3, m4, m5, m6, m7, m8, m9, m10, m11⟩ := HM15.out.twelve
        have b3 : (o.kd == 3) = false := eq_f HK.out
        have E16 := Lib.hid (x_reply o.fr o.a1 2 o.vol o.l1 o.id 0 true o.key o.ck (o.kd == 4) a9 o.n c9 0 false o.key o.ck (o.kd == 4) a9 o.n c9 w15)
        go_wp2_with fail
        refine E16.out.mono ?_
        rintro e w16 ⟨rfl, B16⟩
        have hL16 := ord_below HL15.out B16
        have hR16 := ord_rbl hL16 HCV.out HON.out rfl (Or.inr ⟨_, rfl⟩) rfl
        have hbq : BOk w16 a9 o.n c9 o.l := ⟨bsl_own (own_below HQ15.out B16 (Nat.le_refl _)), HNC.out, by have := HON.out; omega⟩
        have HL16 := Lib.hid hL16
        have E17 := Lib.hid (show Calls Try.prog 41 #[.pointer (some ⟨B, 0, none⟩), .agg #[.int .i64 o.a1, .int .i64 o.fr, .int .i64 5, .int .i64 o.vol, .int .i64 o.l1, .int .u64 o.id, .int .i64 0, .bool false, .int .u64 o.key, .int .u32 o.ck, .bool (o.kd == 4), .slice a9 o.n c9]] w16 (fun e w' => e = .returned (errc 0) ∧ RBl w' B ⟨atC o av cv, 2, true, false, ⟨o.key, o.ck, o.kd == 4, av, o.n, cv, o.l⟩, 0, ndN⟩ ∧ w16.grownBy w' (some B)) from x_next_1 w16 hR16 false ⟨o.key, o.ck, (o.kd == 4), a9, o.n, c9, o.l⟩ hbq rfl)
        clear m0 m1 m2 m3 m4 m5 m6 m7 m8 m9 m10 m11 b3 B16 E16 HL15 HM15 HQ15 hL16 hR16 hbq
        go_wp2_with fail
        refine E17.out.mono ?_
        rintro e w17 ⟨rfl, hR17, hg17⟩
        have HL17 := Lib.hid (ord_grown HL16.out hR17.k hg17 HBB.out.1 HBB.out.2)
        skip
        clear hR17 hg17 E17 HL16
        go_wp2_with fail
        go_roundw
        case rel => exact Or.inr (Or.inr (Or.inl ⟨rfl, g2, cap2, rfl, HL17.out⟩))
        case measure => simp [intOf]
    · have HL := Lib.hid hL
      have hR := ord_rbl hL HCV.out HON.out rfl (Or.inr ⟨_, rfl⟩) rfl
      have E9 := Lib.hid (show Calls Try.prog 40 #[.pointer (some ⟨B, 0, none⟩)] wr (fun e w' => ∃ a9 c9, e = .returned (.tuple #[.agg #[.int .i64 o.fr, .int .i64 o.a2, .int .i64 2, .int .i64 o.vol, .int .i64 o.l2, .int .u64 o.id, .int .i64 0, .bool true, .int .u64 o.key, .int .u32 o.ck, .bool (o.kd == 4), .slice a9 o.n c9], errc 0]) ∧ (BOk w' a9 o.n c9 o.l ∧ w'.ownsRow wr.heap.size 5 1 (.slice a9 o.n c9) o.n (o.l.map bv)) ∧ RBl w' B ⟨atC o av cv, 2, true, false, ⟨o.key, o.ck, o.kd == 4, av, o.n, cv, o.l⟩, 0, ndN⟩ ∧ wr.grownBy w' (some B)) from next_2_own wr hR rfl)
      have HBR := Lib.hid hL.2.2.2.2
      have HVM := Lib.hid fun q (e : Value.ownBlock (.slice (some ⟨g, 0, none⟩) 2 cap) = some q) => (hL.2.2.2.1.lt q e).2
      clear hL hR HL8
      go_wp2_with fail
      refine E9.out.mono ?_
      rintro e w9 ⟨a9, c9, rfl, ⟨hb9, how9⟩, hR9, hg9⟩
      have HL9 := Lib.hid (ord_grown HL.out hR9.k hg9 HBB.out.1 HBB.out.2)
      have HQ9 := Lib.hid how9
      have HNC := Lib.hid hb9.nc
      have HSZ := Lib.hid hg9.size
      clear hb9 hR9 hg9 E9 HL how9
      go_upto_region 11 with fail
      obtain ⟨w10, hw10, hM10, hB10⟩ : ∃ X, w9.alloc (.cells #[.int .i64 o.fr, .int .i64 o.a2, .int .i64 2, .int .i64 o.vol, .int .i64 o.l2, .int .u64 o.id, .int .i64 0, .bool true, .int .u64 o.key, .int .u32 o.ck, .bool (o.kd == 4), .slice a9 o.n c9] 53) = X ∧ Blk X w9.heap.size 53 #[.int .i64 o.fr, .int .i64 o.a2, .int .i64 2, .int .i64 o.vol, .int .i64 o.l2, .int .u64 o.id, .int .i64 0, .bool true, .int .u64 o.key, .int .u32 o.ck, .bool (o.kd == 4), .slice a9 o.n c9] ∧ Below w9.heap.size w9 X := ⟨_, rfl, Blk.made _ _ _, (Below.refl _ _).alloc (Nat.le_refl _) _⟩
      have HL10 := Lib.hid (ord_below HL9.out hB10)
      have HQ10 := Lib.hid (own_below HQ9.out hB10 (Nat.le_refl _))
      have HM10 := Lib.hid hM10
      have HBM := Lib.hid (show B < w9.heap.size ∧ base ≤ w9.heap.size ∧ wr.heap.size ≤ w9.heap.size from ⟨Nat.lt_of_lt_of_le HBB.out.2 HL9.out.2.2.2.2, HL9.out.2.2.2.2, HSZ.out⟩)
      rw [hw10]
      clear hw10 hM10 hB10 HL9 HQ9 HSZ
      generalize w9.heap.size = M at *
      go_wp2_with fail
      refine (code_c 0 _ (by decide)).mono ?_
      rintro e w11 ⟨rfl, rfl⟩
      go_upto_region 12 with fail
      obtain ⟨q, hq⟩ : ∃ q, ((2 : Int) == lost % 4) = q := ⟨_, rfl⟩
      go_cut [54] (fun vq wx => vq = .bool q ∧ w10 = wx)
      case first =>
        go_wp2_with fail
        go_meet
        exact ⟨rfl, rfl⟩
      obtain ⟨rfl, rfl⟩ := hcut
      clear hq
      rename_i hKq
      refine hKq _ _ ?_
      clear hKq
      go_cut [11] (fun _ wx => OrdL W2 o B base av ⟨atC o av cv, 2, true, false, ⟨o.key, o.ck, o.kd == 4, av, o.n, cv, o.l⟩, 0, ndN⟩ [o.a0, o.a1] (.slice (some ⟨g, 0, none⟩) 2 cap) wx ∧ Blk wx M 53 #[.int .i64 o.fr, .int .i64 o.a2, .int .i64 2, .int .i64 o.vol, .int .i64 o.l2, .int .u64 o.id, .int .i64 0, .bool true, .int .u64 o.key, .int .u32 o.ck, .bool (o.kd == 4), .slice a9 o.n c9] ∧ wx.ownsRow wr.heap.size 5 1 (.slice a9 o.n c9) o.n (o.l.map bv))
      case first =>
        cases q with
        | true =>
          have hR := ord_rbl HL10.out HCV.out HON.out rfl (Or.inr ⟨_, rfl⟩) rfl
          have HRR := Lib.hid hR
          have E10 := Lib.hid (show Calls Try.prog 40 #[.pointer (some ⟨B, 0, none⟩)] w10 (fun e w' => ∃ a10 c10, e = .returned (.tuple #[.agg #[.int .i64 o.fr, .int .i64 o.a2, .int .i64 2, .int .i64 o.vol, .int .i64 o.l2, .int .u64 o.id, .int .i64 0, .bool true, .int .u64 o.key, .int .u32 o.ck, .bool (o.kd == 4), .slice a10 o.n c10], errc 0]) ∧ (BOk w' a10 o.n c10 o.l ∧ w'.ownsRow w10.heap.size 5 1 (.slice a10 o.n c10) o.n (o.l.map bv)) ∧ RBl w' B ⟨atC o av cv, 2, true, false, ⟨o.key, o.ck, o.kd == 4, av, o.n, cv, o.l⟩, 0, ndN⟩ ∧ w10.grownBy w' (some B)) from next_2_own w10 hR rfl)
          clear hR
          go_wp2_with fail
          refine E10.out.mono ?_
          rintro e w12 ⟨a10, c10, rfl, ⟨hb12, -⟩, hR12, hg12⟩
          have HL12 := Lib.hid (ord_grown HL10.out hR12.k hg12 HBB.out.1 HBB.out.2)
          have HM12 := Lib.hid (HM10.out.grown hg12 (by intro e; injection e with e; have := HBM.out; omega))
          have HQ12 := Lib.hid (row_far HQ10.out hg12 (by have := HL10.out; have := HBM.out; have := HBB.out; have := HBR.out; omega))
          have HN12 := Lib.hid hb12
          clear hb12 hR12 hg12 E10 HL10 HM10 HQ10 HRR
          go_upto_region 14 with fail
          obtain ⟨w13, hw13, hN13, hB13⟩ : ∃ X, w12.alloc (.cells #[.int .i64 o.fr, .int .i64 o.a2, .int .i64 2, .int .i64 o.vol, .int .i64 o.l2, .int .u64 o.id, .int .i64 0, .bool true, .int .u64 o.key, .int .u32 o.ck, .bool (o.kd == 4), .slice a10 o.n c10] 53) = X ∧ Blk X w12.heap.size 53 #[.int .i64 o.fr, .int .i64 o.a2, .int .i64 2, .int .i64 o.vol, .int .i64 o.l2, .int .u64 o.id, .int .i64 0, .bool true, .int .u64 o.key, .int .u32 o.ck, .bool (o.kd == 4), .slice a10 o.n c10] ∧ Below w12.heap.size w12 X := ⟨_, rfl, Blk.made _ _ _, (Below.refl _ _).alloc (Nat.le_refl _) _⟩
          have HL13 := Lib.hid (ord_below HL12.out hB13)
          have HM13 := Lib.hid (HM12.out.below hB13 HM12.out.lt)
          have HQ13 := Lib.hid (own_below HQ12.out hB13 (Nat.le_refl _))
          have ES := Lib.hid (wsame_any (⟨o.fr, o.a2, 2, o.vol, o.l2, o.id, 0, true, o.key, o.ck, (o.kd == 4), a9, o.n, c9, o.l⟩ : MsgR) (⟨o.fr, o.a2, 2, o.vol, o.l2, o.id, 0, true, o.key, o.ck, (o.kd == 4), a10, o.n, c10, o.l⟩ : MsgR) w13 (bsl_own HQ13.out) (HN12.out.on hB13).b)
          rw [show mSame (⟨o.fr, o.a2, 2, o.vol, o.l2, o.id, 0, true, o.key, o.ck, (o.kd == 4), a9, o.n, c9, o.l⟩ : MsgR) (⟨o.fr, o.a2, 2, o.vol, o.l2, o.id, 0, true, o.key, o.ck, (o.kd == 4), a10, o.n, c10, o.l⟩ : MsgR) = true from by simp [mSame, mHead, ndSame]] at ES
          unfold MsgR.vals at ES
          dsimp only at ES
          obtain ⟨n0, n1, n2, n3, n4, n5, n6, n7, n8, n9, n10, n11⟩ := hN13.twelve
          obtain ⟨m0, m1, m2, m3, m4, m5, m6, m7, m8, m9, m10, m11⟩ := HM13.out.twelve
          rw [hw13]
          clear hw13 hN13 hB13 HL12 HM12 HQ12 HN12
          go_wp2_with fail
          refine (code_c 0 _ (by decide)).mono ?_
          rintro e w14 ⟨rfl, rfl⟩
          go_wp2_with fail
          refine ES.out.mono ?_
          rintro e w14 ⟨rfl, B14⟩
          have HF := Lib.hid (show OrdL W2 o B base av ⟨atC o av cv, 2, true, false, ⟨o.key, o.ck, o.kd == 4, av, o.n, cv, o.l⟩, 0, ndN⟩ [o.a0, o.a1] (.slice (some ⟨g, 0, none⟩) 2 cap) w14 ∧ Blk w14 M 53 #[.int .i64 o.fr, .int .i64 o.a2, .int .i64 2, .int .i64 o.vol, .int .i64 o.l2, .int .u64 o.id, .int .i64 0, .bool true, .int .u64 o.key, .int .u32 o.ck, .bool (o.kd == 4), .slice a9 o.n c9] ∧ w14.ownsRow wr.heap.size 5 1 (.slice a9 o.n c9) o.n (o.l.map bv) from ⟨ord_below HL13.out B14, HM13.out.below B14 HM13.out.lt, own_below HQ13.out B14 (Nat.le_refl _)⟩)
          clear B14 ES HL13 HM13 HQ13 n0 n1 n2 n3 n4 n5 n6 n7 n8 n9 n10 n11 m0 m1 m2 m3 m4 m5 m6 m7 m8 m9 m10 m11
          go_wp2_with fail
          go_meet
          exact HF.out
        | false =>
          have HF := Lib.hid (And.intro HL10.out (And.intro HM10.out HQ10.out))
          clear HL10 HM10 HQ10
          go_wp2_with fail
          go_meet
          exact HF.out
      case rest =>
        obtain ⟨hL, hM, hQ⟩ := hcut
        clear HL10 HM10 HQ10
        obtain ⟨g2, cap2, w15, hr, hL15, hg15⟩ : ∃ gn capn X, (Builtin.append_ #[36, 36] 36 #[(.slice (some ⟨g, 0, none⟩) 2 cap), .slice (some ⟨wc.heap.size, 0, none⟩) 1 1]).run Try.prog (wc.alloc (.cells #[.int .i64 o.a2] 3)) = .ok (.slice (some ⟨gn, 0, none⟩) 3 capn) X ∧ OrdL W2 o B base av ⟨atC o av cv, 2, true, false, ⟨o.key, o.ck, o.kd == 4, av, o.n, cv, o.l⟩, 0, ndN⟩ [o.a0, o.a1, o.a2] (.slice (some ⟨gn, 0, none⟩) 3 capn) X ∧ wc.grownBy X (Value.ownBlock (.slice (some ⟨g, 0, none⟩) 2 cap)) := ord_append o.a2 hL HBB.out.1 HBB.out.2 (by simp)
        have HL15 := Lib.hid hL15
        have hM15 := hM.grown hg15 (by intro e; have := HVM.out M e.symm; have := HBM.out; omega)
        have HQ15 := Lib.hid (row_apart hQ hg15 (fun q e => HVM.out q e))
        have x1 : wc.cell? ⟨M, 1, none⟩ = some (.int .i64 o.a2) := hM.cell 1
        have HM15 := Lib.hid hM15
        clear hL hM hQ hL15 hg15 hM15 HVM
        go_upto_region 17 with (at_builtin; refine list_run (by rfl) _ _ rfl rfl rfl hr ?_; clear hr)
        clear x1
        obtain ⟨m0, m1, m2, m3, m4, m5, m6, m7, m8, m9, m10, m11⟩ := HM15.out.twelve
        have b3 : (o.kd == 3) = false := eq_f HK.out
        have E16 := Lib.hid (x_reply o.fr o.a2 2 o.vol o.l2 o.id 0 true o.key o.ck (o.kd == 4) a9 o.n c9 0 false o.key o.ck (o.kd == 4) a9 o.n c9 w15)
        go_wp2_with fail
        refine E16.out.mono ?_
        rintro e w16 ⟨rfl, B16⟩
        have hL16 := ord_below HL15.out B16
        have hR16 := ord_rbl hL16 HCV.out HON.out rfl (Or.inr ⟨_, rfl⟩) rfl
        have hbq : BOk w16 a9 o.n c9 o.l := ⟨bsl_own (own_below HQ15.out B16 (Nat.le_refl _)), HNC.out, by have := HON.out; omega⟩
        have HL16 := Lib.hid hL16
        have E17 := Lib.hid (show Calls Try.prog 41 #[.pointer (some ⟨B, 0, none⟩), .agg #[.int .i64 o.a2, .int .i64 o.fr, .int .i64 5, .int .i64 o.vol, .int .i64 o.l2, .int .u64 o.id, .int .i64 0, .bool false, .int .u64 o.key, .int .u32 o.ck, .bool (o.kd == 4), .slice a9 o.n c9]] w16 (fun e w' => e = .returned (errc 0) ∧ RBl w' B ⟨atC o av cv, 3, true, false, ⟨o.key, o.ck, o.kd == 4, av, o.n, cv, o.l⟩, 0, ndN⟩ ∧ w16.grownBy w' (some B)) from x_next_2 w16 hR16 false ⟨o.key, o.ck, (o.kd == 4), a9, o.n, c9, o.l⟩ hbq rfl)
        clear m0 m1 m2 m3 m4 m5 m6 m7 m8 m9 m10 m11 b3 B16 E16 HL15 HM15 HQ15 hL16 hR16 hbq
        go_wp2_with fail
        refine E17.out.mono ?_
        rintro e w17 ⟨rfl, hR17, hg17⟩
        have HL17 := Lib.hid (ord_grown HL16.out hR17.k hg17 HBB.out.1 HBB.out.2)
        skip
        clear hR17 hg17 E17 HL16
        go_wp2_with fail
        go_roundw
        case rel => exact Or.inr (Or.inr (Or.inr ⟨rfl, g2, cap2, rfl, HL17.out⟩))
        case measure => simp [intOf]
    · have hR : RBl wr B ⟨atC o av cv, 3, true, false, ⟨o.key, o.ck, o.kd == 4, av, o.n, cv, o.l⟩, 0, ndN⟩ := ord_rbl hL HCV.out HON.out rfl (Or.inr ⟨_, rfl⟩) rfl
      have HL := Lib.hid hL
      have HR := Lib.hid hR
      have EN := Lib.hid (next_no wr hR rfl)
      clear hL hR HL8
      go_wp2_with fail
      refine EN.out.mono ?_
      rintro e w18 ⟨rfl, B18⟩
      have HL18 := Lib.hid (ord_below HL.out B18)
      have HR18 := Lib.hid (HR.out.on B18)
      clear B18 EN HL HR
      go_upto_region 11 with fail
      obtain ⟨w19, hw19, hB19⟩ : ∃ X, w18.alloc (.cells #[.int .i64 0, .int .i64 0, .int .i64 0, .int .i64 0, .int .i64 0, .int .u64 0, .int .i64 0, .bool false, .int .u64 0, .int .u32 0, .bool false, .slice none 0 0] 53) = X ∧ Below w18.heap.size w18 X := ⟨_, rfl, (Below.refl _ _).alloc (Nat.le_refl _) _⟩
      have HL19 := Lib.hid (ord_below HL18.out hB19)
      have HR19 := Lib.hid (HR18.out.on hB19)
      rw [hw19]
      clear hw19 hB19 HL18 HR18
      have EV := Lib.hid (show Calls Try.prog 45 #[.pointer (some ⟨B, 0, none⟩)] w19 (fun e w' => ∃ a c, e = .returned (.tuple #[.agg #[.int .i64 0, .int .u64 0, .int .u32 0, .bool false, .slice a 0 c], .bool true]) ∧ Below w19.heap.size w19 w') from oend_yes w19 HR19.out rfl)
      go_wp2_with fail
      refine (code_c 16 _ (by decide)).mono ?_
      rintro e w20 ⟨rfl, rfl⟩
      go_wp2_with fail
      refine EV.out.mono ?_
      rintro e w20 ⟨a20, c20, rfl, B20⟩
      have HL20 := Lib.hid (ord_below HL19.out B20)
      have HR20 := Lib.hid (HR19.out.on B20)
      clear B20 EV HL19 HR19
      go_upto_region 19 with fail
      obtain ⟨w21, hw21, hE21, hB21⟩ : ∃ X, w20.alloc (.cells #[.int .i64 0, .int .u64 0, .int .u32 0, .bool false, .slice a20 0 c20] 88) = X ∧ Blk X w20.heap.size 88 #[.int .i64 0, .int .u64 0, .int .u32 0, .bool false, .slice a20 0 c20] ∧ Below w20.heap.size w20 X := ⟨_, rfl, Blk.made _ _ _, (Below.refl _ _).alloc (Nat.le_refl _) _⟩
      have HL21 := Lib.hid (ord_below HL20.out hB21)
      have ES := Lib.hid (show Calls Try.prog 43 #[.pointer (some ⟨B, 0, none⟩)] w21 (fun e w' => e = .returned (.int .i64 3) ∧ w21 = w') from stage_any w21 (HR20.out.on hB21).k)
      obtain ⟨e0, e1, e2, e3, e4⟩ := hE21.five
      rw [hw21]
      clear hw21 hE21 hB21 HL20 HR20
      go_wp2_with fail
      refine ES.out.mono ?_
      rintro e w22 ⟨rfl, rfl⟩
      clear e0 e1 e2 e3 e4 ES
      go_wp2_with fail
      refine (next_nil _).mono ?_
      rintro e w23 ⟨rfl, B23⟩
      have HL23 := Lib.hid (ord_below HL21.out B23)
      clear B23 HL21
      go_upto_region 23 with fail
      obtain ⟨w24, hw24, hB24⟩ : ∃ X, w23.alloc (.cells #[.int .i64 0, .int .i64 0, .int .i64 0, .int .i64 0, .int .i64 0, .int .u64 0, .int .i64 0, .bool false, .int .u64 0, .int .u32 0, .bool false, .slice none 0 0] 53) = X ∧ Below w23.heap.size w23 X := ⟨_, rfl, (Below.refl _ _).alloc (Nat.le_refl _) _⟩
      have HL24 := Lib.hid (ord_below HL23.out hB24)
      rw [hw24]
      clear hw24 hB24 HL23
      go_wp2_with fail
      refine (oend_nil _).mono ?_
      rintro e w25 ⟨rfl, B25⟩
      have HL25 := Lib.hid (ord_below HL24.out B25)
      clear B25 HL24
      go_upto_region 24 with fail
      obtain ⟨w26, hw26, hB26⟩ : ∃ X, w25.alloc (.cells #[.int .i64 0, .int .u64 0, .int .u32 0, .bool false, .slice none 0 0] 88) = X ∧ Below w25.heap.size w25 X := ⟨_, rfl, (Below.refl _ _).alloc (Nat.le_refl _) _⟩
      have HL26 := Lib.hid (ord_below HL25.out hB26)
      have EG := Lib.hid (show Calls Try.prog 41 #[.pointer none, .agg #[.int .i64 0, .int .i64 0, .int .i64 0, .int .i64 0, .int .i64 0, .int .u64 0, .int .i64 0, .bool false, .int .u64 0, .int .u32 0, .bool false, .slice none 0 0]] w26 (fun e w' => e = .returned (errc 15) ∧ Below w26.heap.size w26 w') from got_nil w26 mNone)
      rw [hw26]
      clear hw26 hB26 HL25
      go_wp2_with fail
      refine (code_c 15 _ (by decide)).mono ?_
      rintro e w27 ⟨rfl, rfl⟩
      go_wp2_with fail
      refine EG.out.mono ?_
      rintro e w27 ⟨rfl, B27⟩
      have HL27 := Lib.hid (ord_below HL26.out B27)
      clear B27 EG HL26
      go_wp2_with fail
      refine (code_c 15 _ (by decide)).mono ?_
      rintro e w28 ⟨rfl, rfl⟩
      go_wp2_with fail
      refine (giveup_nil _).mono ?_
      rintro e w28 ⟨rfl, rfl⟩
      go_wp2_with fail
      refine (code_c 15 _ (by decide)).mono ?_
      rintro e w28 ⟨rfl, rfl⟩
      go_wp2_with fail
      refine (stage_nil _).mono ?_
      rintro e w28 ⟨rfl, rfl⟩
      have b3 : (o.kd == 3) = false := eq_f HK.out
      obtain ⟨k0, -, -, -, -, -, -, -, -, -, -, -, -, -⟩ := HCO.out _ HL27.out.1
      go_upto_region 28 with fail
      clear k0 b3
      have HC := Lib.hid fun (W : World) (B0 : Below w27.heap.size w27 W) => (show W.cell? ⟨g, 0, none⟩ = some (.int .i64 o.a0) ∧ W.cell? ⟨g, 1, none⟩ = some (.int .i64 o.a1) ∧ W.cell? ⟨g, 2, none⟩ = some (.int .i64 o.a2) from
        have h := (ord_below HL27.out B0).2.2.2.1
        ⟨h.cellAt 0 (by decide), h.cellAt 1 (by decide), h.cellAt 2 (by decide)⟩)
      refine wp_region_held_drew (S := fun W => Below w27.heap.size w27 W) (by kernel_rfl) ((Below.refl _ _).drew) (fun hS => ?_)
      refine wpAnyH_take (i := 0) (v := ?_) rfl (by kernel_rfl) (by kernel_rfl) (by kernel_rfl) (fun _ _ _ h => h) (Or.inl ⟨by kernel_rfl, ?_⟩) hS ?_
      rotate_left
      · intro W hW; go_simp; try with_reducible rfl
      refine wpAnyH_take (i := 1) (v := ?_) rfl (by kernel_rfl) (by kernel_rfl) (by kernel_rfl) (fun _ _ _ h => h) (Or.inl ⟨by kernel_rfl, ?_⟩) hS ?_
      rotate_left
      · intro W hW; go_simp; try with_reducible rfl
      refine wpAnyH_take (i := 2) (v := ?_) rfl (by kernel_rfl) (by kernel_rfl) (by kernel_rfl) (fun _ _ _ h => h) (Or.inl ⟨by kernel_rfl, ?_⟩) hS ?_
      rotate_left
      · intro W hW; go_simp; try with_reducible rfl
      refine wpAnyH_take (i := 3) (v := ?_) rfl (by kernel_rfl) (by kernel_rfl) (by kernel_rfl) (fun _ _ _ h => h) (Or.inl ⟨by kernel_rfl, ?_⟩) hS ?_
      rotate_left
      · intro W hW; go_simp; try with_reducible rfl
      refine wpAnyH_take (i := 4) (v := ?_) rfl (by kernel_rfl) (by kernel_rfl) (by kernel_rfl) (fun _ _ _ h => h) (Or.inl ⟨by kernel_rfl, ?_⟩) hS ?_
      rotate_left
      · intro W hW; go_simp; try with_reducible rfl
      refine wpAnyH_take (i := 5) (v := ?_) rfl (by kernel_rfl) (by kernel_rfl) (by kernel_rfl) (fun _ _ _ h => h) (Or.inl ⟨by kernel_rfl, ?_⟩) hS ?_
      rotate_left
      · intro W hW; go_simp; try with_reducible rfl
      refine wpAnyH_take (i := 6) (v := ?_) rfl (by kernel_rfl) (by kernel_rfl) (by kernel_rfl) (fun _ _ _ h => h) (Or.inl ⟨by kernel_rfl, ?_⟩) hS ?_
      rotate_left
      · intro W hW; obtain ⟨k0, k1, k2, k3, k4, k5, k6, k7, k8, k9, k10, k11, k12, k13⟩ := HCO.out W (HL27.out.1.trans (hW.mono HL27.out.1.size)); obtain ⟨t0, t1, t2⟩ := HC.out W hW; go_simp; try with_reducible rfl
      refine wpAnyH_take (i := 7) (v := ?_) rfl (by kernel_rfl) (by kernel_rfl) (by kernel_rfl) (fun _ _ _ h => h) (Or.inl ⟨by kernel_rfl, ?_⟩) hS ?_
      rotate_left
      · intro W hW; go_simp; try with_reducible rfl
      refine wpAnyH_take (i := 8) (v := ?_) rfl (by kernel_rfl) (by kernel_rfl) (by kernel_rfl) (fun _ _ _ h => h) (Or.inl ⟨by kernel_rfl, ?_⟩) hS ?_
      rotate_left
      · intro W hW; go_simp; try with_reducible rfl
      refine wpAnyH_take (i := 9) (v := ?_) rfl (by kernel_rfl) (by kernel_rfl) (by kernel_rfl) (fun _ _ _ h => h) (Or.inl ⟨by kernel_rfl, ?_⟩) hS ?_
      rotate_left
      · intro W hW; obtain ⟨k0, k1, k2, k3, k4, k5, k6, k7, k8, k9, k10, k11, k12, k13⟩ := HCO.out W (HL27.out.1.trans (hW.mono HL27.out.1.size)); obtain ⟨t0, t1, t2⟩ := HC.out W hW; go_simp; try with_reducible rfl
      refine wpAnyH_take (i := 10) (v := ?_) rfl (by kernel_rfl) (by kernel_rfl) (by kernel_rfl) (fun _ _ _ h => h) (Or.inl ⟨by kernel_rfl, ?_⟩) hS ?_
      rotate_left
      · intro W hW; go_simp; try with_reducible rfl
      refine wpAnyH_take (i := 11) (v := ?_) rfl (by kernel_rfl) (by kernel_rfl) (by kernel_rfl) (fun _ _ _ h => h) (Or.inl ⟨by kernel_rfl, ?_⟩) hS ?_
      rotate_left
      · intro W hW; go_simp; try with_reducible rfl
      refine wpAnyH_take (i := 12) (v := ?_) rfl (by kernel_rfl) (by kernel_rfl) (by kernel_rfl) (fun _ _ _ h => h) (Or.inl ⟨by kernel_rfl, ?_⟩) hS ?_
      rotate_left
      · intro W hW; go_simp; try with_reducible rfl
      refine wpAnyH_take (i := 13) (v := ?_) rfl (by kernel_rfl) (by kernel_rfl) (by kernel_rfl) (fun _ _ _ h => h) (Or.inl ⟨by kernel_rfl, ?_⟩) hS ?_
      rotate_left
      · intro W hW; go_simp; try with_reducible rfl
      refine wpAnyH_take (i := 14) (v := ?_) rfl (by kernel_rfl) (by kernel_rfl) (by kernel_rfl) (fun _ _ _ h => h) (Or.inl ⟨by kernel_rfl, ?_⟩) hS ?_
      rotate_left
      · intro W hW; go_simp; try with_reducible rfl
      refine wpAnyH_take (i := 15) (v := ?_) rfl (by kernel_rfl) (by kernel_rfl) (by kernel_rfl) (fun _ _ _ h => h) (Or.inl ⟨by kernel_rfl, ?_⟩) hS ?_
      rotate_left
      · intro W hW; obtain ⟨k0, k1, k2, k3, k4, k5, k6, k7, k8, k9, k10, k11, k12, k13⟩ := HCO.out W (HL27.out.1.trans (hW.mono HL27.out.1.size)); obtain ⟨t0, t1, t2⟩ := HC.out W hW; go_simp; try with_reducible rfl
      refine wpAnyH_take (i := 16) (v := ?_) rfl (by kernel_rfl) (by kernel_rfl) (by kernel_rfl) (fun _ _ _ h => h) (Or.inl ⟨by kernel_rfl, ?_⟩) hS ?_
      rotate_left
      · intro W hW; go_simp; try with_reducible rfl
      refine wpAnyH_take (i := 17) (v := ?_) rfl (by kernel_rfl) (by kernel_rfl) (by kernel_rfl) (fun _ _ _ h => h) (Or.inl ⟨by kernel_rfl, ?_⟩) hS ?_
      rotate_left
      · intro W hW; go_simp; try with_reducible rfl
      refine wpAnyH_take (i := 18) (v := ?_) rfl (by kernel_rfl) (by kernel_rfl) (by kernel_rfl) (fun _ _ _ h => h) (Or.inl ⟨by kernel_rfl, ?_⟩) hS ?_
      rotate_left
      · intro W hW; obtain ⟨k0, k1, k2, k3, k4, k5, k6, k7, k8, k9, k10, k11, k12, k13⟩ := HCO.out W (HL27.out.1.trans (hW.mono HL27.out.1.size)); obtain ⟨t0, t1, t2⟩ := HC.out W hW; go_simp; try with_reducible rfl
      refine wpAnyH_take (i := 19) (v := ?_) rfl (by kernel_rfl) (by kernel_rfl) (by kernel_rfl) (fun _ _ _ h => h) (Or.inl ⟨by kernel_rfl, ?_⟩) hS ?_
      rotate_left
      · intro W hW; go_simp; try with_reducible rfl
      refine wpAnyH_take (i := 20) (v := ?_) rfl (by kernel_rfl) (by kernel_rfl) (by kernel_rfl) (fun _ _ _ h => h) (Or.inl ⟨by kernel_rfl, ?_⟩) hS ?_
      rotate_left
      · intro W hW; go_simp; try with_reducible rfl
      refine wpAnyH_take (i := 21) (v := ?_) rfl (by kernel_rfl) (by kernel_rfl) (by kernel_rfl) (fun _ _ _ h => h) (Or.inl ⟨by kernel_rfl, ?_⟩) hS ?_
      rotate_left
      · intro W hW; go_simp; try with_reducible rfl
      refine wpAnyH_take (i := 22) (v := ?_) rfl (by kernel_rfl) (by kernel_rfl) (by kernel_rfl) (fun _ _ _ h => h) (Or.inl ⟨by kernel_rfl, ?_⟩) hS ?_
      rotate_left
      · intro W hW; go_simp; try with_reducible rfl
      refine wpAnyH_take (i := 23) (v := ?_) rfl (by kernel_rfl) (by kernel_rfl) (by kernel_rfl) (fun _ _ _ h => h) (Or.inl ⟨by kernel_rfl, ?_⟩) hS ?_
      rotate_left
      · intro W hW; go_simp; try with_reducible rfl
      refine wpAnyH_take (i := 24) (v := ?_) rfl (by kernel_rfl) (by kernel_rfl) (by kernel_rfl) (fun _ _ _ h => h) (Or.inl ⟨by kernel_rfl, ?_⟩) hS ?_
      rotate_left
      · intro W hW; obtain ⟨k0, k1, k2, k3, k4, k5, k6, k7, k8, k9, k10, k11, k12, k13⟩ := HCO.out W (HL27.out.1.trans (hW.mono HL27.out.1.size)); obtain ⟨t0, t1, t2⟩ := HC.out W hW; go_simp; try with_reducible rfl
      refine wpAnyH_take (i := 25) (v := ?_) rfl (by kernel_rfl) (by kernel_rfl) (by kernel_rfl) (fun _ _ _ h => h) (Or.inl ⟨by kernel_rfl, ?_⟩) hS ?_
      rotate_left
      · intro W hW; go_simp; try with_reducible rfl
      refine wpAnyH_take (i := 26) (v := ?_) rfl (by kernel_rfl) (by kernel_rfl) (by kernel_rfl) (fun _ _ _ h => h) (Or.inl ⟨by kernel_rfl, ?_⟩) hS ?_
      rotate_left
      · intro W hW; go_simp; try with_reducible rfl
      refine wpAnyH_take (i := 27) (v := ?_) rfl (by kernel_rfl) (by kernel_rfl) (by kernel_rfl) (fun _ _ _ h => h) (Or.inl ⟨by kernel_rfl, ?_⟩) hS ?_
      rotate_left
      · intro W hW; obtain ⟨k0, k1, k2, k3, k4, k5, k6, k7, k8, k9, k10, k11, k12, k13⟩ := HCO.out W (HL27.out.1.trans (hW.mono HL27.out.1.size)); obtain ⟨t0, t1, t2⟩ := HC.out W hW; go_simp; try with_reducible rfl
      refine wpAnyH_take (i := 28) (v := ?_) rfl (by kernel_rfl) (by kernel_rfl) (by kernel_rfl) (fun _ _ _ h => h) (Or.inl ⟨by kernel_rfl, ?_⟩) hS ?_
      rotate_left
      · intro W hW; go_simp; try with_reducible rfl
      refine wpAnyH_take (i := 29) (v := ?_) rfl (by kernel_rfl) (by kernel_rfl) (by kernel_rfl) (fun _ _ _ h => h) (Or.inl ⟨by kernel_rfl, ?_⟩) hS ?_
      rotate_left
      · intro W hW; go_simp; try with_reducible rfl
      refine wpAnyH_take (i := 30) (v := ?_) rfl (by kernel_rfl) (by kernel_rfl) (by kernel_rfl) (fun _ _ _ h => h) (Or.inl ⟨by kernel_rfl, ?_⟩) hS ?_
      rotate_left
      · intro W hW; go_simp; try with_reducible rfl
      refine wpAnyH_done (by kernel_rfl) ?_ _
      go_simp
      have HF := Lib.hid (HL27.out.1.trans (hS.mono HL27.out.1.size))
      clear hS HC HL27
      go_wp2_with fail
      go_ret
      exact ⟨rfl, HBW.out.trans (HF.out.mono HBW.out.size)⟩
set_option maxRecDepth 100000 in
set_option maxHeartbeats 8000000 in
theorem order_get (o : OpR) (lost : Int) (w : World) (ho : BSl w w.heap.size o.a o.n o.l) (hoc : o.n ≤ o.c) (hon : o.n ≤ 300) (h0 : 0 ≤ lost) (h1 : lost ≤ 255) (hk : o.kd = 3) :
    Calls Try.prog 12 #[o.vals, .int .u8 lost] w fun e w' => e = .returned (.bool true) ∧ Below w.heap.size w w' := by
  unfold OpR.vals
  obtain ⟨W2, hW2⟩ : ∃ W, w.alloc (.cells #[.int .i64 o.kd, .int .i64 o.fr, .int .i64 o.vol, .int .i64 o.a0, .int .i64 o.a1, .int .i64 o.a2, .int .u64 o.id, .int .i64 o.l0, .int .i64 o.l1, .int .i64 o.l2, .int .u64 o.key, .int .u32 o.ck, .bool o.g, .slice o.a o.n o.c] 75) = W := ⟨_, rfl⟩
  have HBW := Lib.hid (show Below w.heap.size w W2 from by rw [← hW2]; exact (Below.refl _ _).alloc (Nat.le_refl _) _)
  have hm : Blk W2 w.heap.size 75 #[.int .i64 o.kd, .int .i64 o.fr, .int .i64 o.vol, .int .i64 o.a0, .int .i64 o.a1, .int .i64 o.a2, .int .u64 o.id, .int .i64 o.l0, .int .i64 o.l1, .int .i64 o.l2, .int .u64 o.key, .int .u32 o.ck, .bool o.g, .slice o.a o.n o.c] := by rw [← hW2]; exact Blk.made w _ _
  have HCO := Lib.hid fun (W : World) (B0 : Below W2.heap.size W2 W) => op14 (hm.below B0 hm.lt)
  clear hm
  have b0 : decide (300 < (o.n : Int)) = false := decide_eq_false (by omega)
  have HON := Lib.hid hon
  have HK := Lib.hid hk
  have HBO := Lib.hid fun (W : World) (B0 : Below W2.heap.size W2 W) => (⟨(ho.below (HBW.out.trans (B0.mono HBW.out.size))).more (HBW.out.trans (B0.mono HBW.out.size)).size, hoc, by have := HON.out; omega⟩ : BOk W o.a o.n o.c o.l)
  clear ho hoc hon hk
  go_enter Try.func12, Try.ntmps12
  go_wp2_with fail
  refine (client_alive _).mono ?_
  rintro e w4 ⟨rfl, B4⟩
  have HB4 := Lib.hid B4
  try clear hW2
  clear B4
  obtain ⟨k0, k1, k2, k3, k4, k5, k6, k7, k8, k9, k10, k11, k12, k13⟩ := HCO.out _ HB4.out
  have ER := Lib.hid (right21 o w4 (HBO.out _ HB4.out).b (HBO.out _ HB4.out).le)
  unfold OpR.vals at ER
  go_wp2_with fail
  refine ER.out.mono ?_
  rintro e w5 ⟨b, rfl, hRt, B5⟩
  have HB5 := Lib.hid (HB4.out.trans (B5.mono HB4.out.size))
  clear k0 k1 k2 k3 k4 k5 k6 k7 k8 k9 k10 k11 k12 k13 B5 ER HB4
  cases b with
  | false =>
    clear hRt
    go_wp2_with fail
    go_ret
    exact ⟨rfl, HBW.out.trans (HB5.out.mono HBW.out.size)⟩
  | true =>
  have HRT := Lib.hid (hRt rfl)
  clear hRt
  obtain ⟨k0, k1, k2, k3, k4, k5, k6, k7, k8, k9, k10, k11, k12, k13⟩ := HCO.out _ HB5.out
  have EO := Lib.hid (ofop_any o w5)
  unfold OpR.vals at EO
  go_wp2_with fail
  refine EO.out.mono ?_
  rintro e w7 ⟨rfl, B7⟩
  have HB7 := Lib.hid (HB5.out.trans (B7.mono HB5.out.size))
  clear k0 k1 k2 k3 k4 k5 k6 k7 k8 k9 k10 k11 k12 k13 B7 EO HB5
  have EN := Lib.hid (cnew_ok w7 HRT.out (HBO.out _ HB7.out))
  unfold OpR.vals at EN
  go_wp2_with fail
  refine EN.out.mono ?_
  rintro e w8 ⟨B, av, cv, rfl, hB, hR, B8⟩
  have HBB := Lib.hid (show W2.heap.size ≤ B ∧ B < w8.heap.size from ⟨Nat.le_trans HB7.out.size hB, hR.k.lt⟩)
  have HCV := Lib.hid (show o.n ≤ cv from hR.o.nc)
  have HL8 := Lib.hid (show OrdL W2 o B w8.heap.size av (newR (atC o av cv)) [] (.slice none 0 0) w8 from ⟨HB7.out.trans (B8.mono HB7.out.size), hR.k, hR.o.b, ⟨rfl, .inl ⟨rfl, rfl⟩⟩, Nat.le_refl _⟩)
  clear hB hR B8 EN HB7
  generalize w8.heap.size = base at *
  go_wp2_with fail
  go_loopw [7, 8] (fun v iv wr => (iv = .int .i64 0 ∧ v = .slice none 0 0 ∧ OrdL W2 o B base av (newR (atC o av cv)) [] v wr) ∨ (iv = .int .i64 1 ∧ ∃ g cap az cz, v = .slice (some ⟨g, 0, none⟩) 1 cap ∧ OrdL W2 o B base av ⟨atC o av cv, 3, true, false, ndN, 0, ⟨o.key, o.ck, o.g, az, o.n, cz, o.l⟩⟩ [o.a2] v wr ∧ BOk wr az o.n cz o.l)) (fun _ iv _ => (4 - intOf iv).toNat)
  case atStart => exact Or.inl ⟨rfl, rfl, HL8.out⟩
  case round =>
    rcases hrel with ⟨rfl, rfl, hL⟩ | ⟨rfl, g, cap, az, cz, rfl, hL, hZ⟩
    · have HL := Lib.hid hL
      have hR := ord_rbl hL HCV.out HON.out rfl (Or.inl rfl) rfl
      have E9 := Lib.hid (show Calls Try.prog 40 #[.pointer (some ⟨B, 0, none⟩)] wr (fun e w' => ∃ a9 c9, e = .returned (.tuple #[.agg #[.int .i64 o.fr, .int .i64 o.a2, .int .i64 o.kd, .int .i64 o.vol, .int .i64 o.l2, .int .u64 o.id, .int .i64 0, .bool true, .int .u64 o.key, .int .u32 o.ck, .bool o.g, .slice a9 o.n c9], errc 0]) ∧ (BOk w' a9 o.n c9 o.l ∧ w'.ownsRow wr.heap.size 5 1 (.slice a9 o.n c9) o.n (o.l.map bv)) ∧ RBl w' B ⟨atC o av cv, 0, true, false, ndN, 0, ndN⟩ ∧ wr.grownBy w' (some B)) from next_get_own wr hR HK.out rfl)
      have HBR := Lib.hid hL.2.2.2.2
      have HVM := Lib.hid fun q (e : Value.ownBlock (.slice none 0 0) = some q) => (hL.2.2.2.1.lt q e).2
      clear hL hR HL8
      go_wp2_with fail
      refine E9.out.mono ?_
      rintro e w9 ⟨a9, c9, rfl, ⟨hb9, how9⟩, hR9, hg9⟩
      have HL9 := Lib.hid (ord_grown HL.out hR9.k hg9 HBB.out.1 HBB.out.2)
      have HQ9 := Lib.hid how9
      have HNC := Lib.hid hb9.nc
      have HSZ := Lib.hid hg9.size
      clear hb9 hR9 hg9 E9 HL how9
      go_upto_region 11 with fail
      obtain ⟨w10, hw10, hM10, hB10⟩ : ∃ X, w9.alloc (.cells #[.int .i64 o.fr, .int .i64 o.a2, .int .i64 o.kd, .int .i64 o.vol, .int .i64 o.l2, .int .u64 o.id, .int .i64 0, .bool true, .int .u64 o.key, .int .u32 o.ck, .bool o.g, .slice a9 o.n c9] 53) = X ∧ Blk X w9.heap.size 53 #[.int .i64 o.fr, .int .i64 o.a2, .int .i64 o.kd, .int .i64 o.vol, .int .i64 o.l2, .int .u64 o.id, .int .i64 0, .bool true, .int .u64 o.key, .int .u32 o.ck, .bool o.g, .slice a9 o.n c9] ∧ Below w9.heap.size w9 X := ⟨_, rfl, Blk.made _ _ _, (Below.refl _ _).alloc (Nat.le_refl _) _⟩
      have HL10 := Lib.hid (ord_below HL9.out hB10)
      have HQ10 := Lib.hid (own_below HQ9.out hB10 (Nat.le_refl _))
      have HM10 := Lib.hid hM10
      have HBM := Lib.hid (show B < w9.heap.size ∧ base ≤ w9.heap.size ∧ wr.heap.size ≤ w9.heap.size from ⟨Nat.lt_of_lt_of_le HBB.out.2 HL9.out.2.2.2.2, HL9.out.2.2.2.2, HSZ.out⟩)
      rw [hw10]
      clear hw10 hM10 hB10 HL9 HQ9 HSZ
      generalize w9.heap.size = M at *
      go_wp2_with fail
      refine (code_c 0 _ (by decide)).mono ?_
      rintro e w11 ⟨rfl, rfl⟩
      go_upto_region 12 with fail
      obtain ⟨q, hq⟩ : ∃ q, ((0 : Int) == lost % 4) = q := ⟨_, rfl⟩
      go_cut [54] (fun vq wx => vq = .bool q ∧ w10 = wx)
      case first =>
        go_wp2_with fail
        go_meet
        exact ⟨rfl, rfl⟩
      obtain ⟨rfl, rfl⟩ := hcut
      clear hq
      rename_i hKq
      refine hKq _ _ ?_
      clear hKq
      go_cut [11] (fun _ wx => OrdL W2 o B base av ⟨atC o av cv, 0, true, false, ndN, 0, ndN⟩ [] (.slice none 0 0) wx ∧ Blk wx M 53 #[.int .i64 o.fr, .int .i64 o.a2, .int .i64 o.kd, .int .i64 o.vol, .int .i64 o.l2, .int .u64 o.id, .int .i64 0, .bool true, .int .u64 o.key, .int .u32 o.ck, .bool o.g, .slice a9 o.n c9] ∧ wx.ownsRow wr.heap.size 5 1 (.slice a9 o.n c9) o.n (o.l.map bv))
      case first =>
        cases q with
        | true =>
          have hR := ord_rbl HL10.out HCV.out HON.out rfl (Or.inl rfl) rfl
          have HRR := Lib.hid hR
          have E10 := Lib.hid (show Calls Try.prog 40 #[.pointer (some ⟨B, 0, none⟩)] w10 (fun e w' => ∃ a10 c10, e = .returned (.tuple #[.agg #[.int .i64 o.fr, .int .i64 o.a2, .int .i64 o.kd, .int .i64 o.vol, .int .i64 o.l2, .int .u64 o.id, .int .i64 0, .bool true, .int .u64 o.key, .int .u32 o.ck, .bool o.g, .slice a10 o.n c10], errc 0]) ∧ (BOk w' a10 o.n c10 o.l ∧ w'.ownsRow w10.heap.size 5 1 (.slice a10 o.n c10) o.n (o.l.map bv)) ∧ RBl w' B ⟨atC o av cv, 0, true, false, ndN, 0, ndN⟩ ∧ w10.grownBy w' (some B)) from next_get_own w10 hR HK.out rfl)
          clear hR
          go_wp2_with fail
          refine E10.out.mono ?_
          rintro e w12 ⟨a10, c10, rfl, ⟨hb12, -⟩, hR12, hg12⟩
          have HL12 := Lib.hid (ord_grown HL10.out hR12.k hg12 HBB.out.1 HBB.out.2)
          have HM12 := Lib.hid (HM10.out.grown hg12 (by intro e; injection e with e; have := HBM.out; omega))
          have HQ12 := Lib.hid (row_far HQ10.out hg12 (by have := HL10.out; have := HBM.out; have := HBB.out; have := HBR.out; omega))
          have HN12 := Lib.hid hb12
          clear hb12 hR12 hg12 E10 HL10 HM10 HQ10 HRR
          go_upto_region 14 with fail
          obtain ⟨w13, hw13, hN13, hB13⟩ : ∃ X, w12.alloc (.cells #[.int .i64 o.fr, .int .i64 o.a2, .int .i64 o.kd, .int .i64 o.vol, .int .i64 o.l2, .int .u64 o.id, .int .i64 0, .bool true, .int .u64 o.key, .int .u32 o.ck, .bool o.g, .slice a10 o.n c10] 53) = X ∧ Blk X w12.heap.size 53 #[.int .i64 o.fr, .int .i64 o.a2, .int .i64 o.kd, .int .i64 o.vol, .int .i64 o.l2, .int .u64 o.id, .int .i64 0, .bool true, .int .u64 o.key, .int .u32 o.ck, .bool o.g, .slice a10 o.n c10] ∧ Below w12.heap.size w12 X := ⟨_, rfl, Blk.made _ _ _, (Below.refl _ _).alloc (Nat.le_refl _) _⟩
          have HL13 := Lib.hid (ord_below HL12.out hB13)
          have HM13 := Lib.hid (HM12.out.below hB13 HM12.out.lt)
          have HQ13 := Lib.hid (own_below HQ12.out hB13 (Nat.le_refl _))
          have ES := Lib.hid (wsame_any (⟨o.fr, o.a2, o.kd, o.vol, o.l2, o.id, 0, true, o.key, o.ck, o.g, a9, o.n, c9, o.l⟩ : MsgR) (⟨o.fr, o.a2, o.kd, o.vol, o.l2, o.id, 0, true, o.key, o.ck, o.g, a10, o.n, c10, o.l⟩ : MsgR) w13 (bsl_own HQ13.out) (HN12.out.on hB13).b)
          rw [show mSame (⟨o.fr, o.a2, o.kd, o.vol, o.l2, o.id, 0, true, o.key, o.ck, o.g, a9, o.n, c9, o.l⟩ : MsgR) (⟨o.fr, o.a2, o.kd, o.vol, o.l2, o.id, 0, true, o.key, o.ck, o.g, a10, o.n, c10, o.l⟩ : MsgR) = true from by simp [mSame, mHead, ndSame]] at ES
          unfold MsgR.vals at ES
          dsimp only at ES
          obtain ⟨n0, n1, n2, n3, n4, n5, n6, n7, n8, n9, n10, n11⟩ := hN13.twelve
          obtain ⟨m0, m1, m2, m3, m4, m5, m6, m7, m8, m9, m10, m11⟩ := HM13.out.twelve
          rw [hw13]
          clear hw13 hN13 hB13 HL12 HM12 HQ12 HN12
          go_wp2_with fail
          refine (code_c 0 _ (by decide)).mono ?_
          rintro e w14 ⟨rfl, rfl⟩
          go_wp2_with fail
          refine ES.out.mono ?_
          rintro e w14 ⟨rfl, B14⟩
          have HF := Lib.hid (show OrdL W2 o B base av ⟨atC o av cv, 0, true, false, ndN, 0, ndN⟩ [] (.slice none 0 0) w14 ∧ Blk w14 M 53 #[.int .i64 o.fr, .int .i64 o.a2, .int .i64 o.kd, .int .i64 o.vol, .int .i64 o.l2, .int .u64 o.id, .int .i64 0, .bool true, .int .u64 o.key, .int .u32 o.ck, .bool o.g, .slice a9 o.n c9] ∧ w14.ownsRow wr.heap.size 5 1 (.slice a9 o.n c9) o.n (o.l.map bv) from ⟨ord_below HL13.out B14, HM13.out.below B14 HM13.out.lt, own_below HQ13.out B14 (Nat.le_refl _)⟩)
          clear B14 ES HL13 HM13 HQ13 n0 n1 n2 n3 n4 n5 n6 n7 n8 n9 n10 n11 m0 m1 m2 m3 m4 m5 m6 m7 m8 m9 m10 m11
          go_wp2_with fail
          go_meet
          exact HF.out
        | false =>
          have HF := Lib.hid (And.intro HL10.out (And.intro HM10.out HQ10.out))
          clear HL10 HM10 HQ10
          go_wp2_with fail
          go_meet
          exact HF.out
      case rest =>
        obtain ⟨hL, hM, hQ⟩ := hcut
        clear HL10 HM10 HQ10
        obtain ⟨g2, cap2, w15, hr, hL15, hg15⟩ : ∃ gn capn X, (Builtin.append_ #[36, 36] 36 #[(.slice none 0 0), .slice (some ⟨wc.heap.size, 0, none⟩) 1 1]).run Try.prog (wc.alloc (.cells #[.int .i64 o.a2] 3)) = .ok (.slice (some ⟨gn, 0, none⟩) 1 capn) X ∧ OrdL W2 o B base av ⟨atC o av cv, 0, true, false, ndN, 0, ndN⟩ [o.a2] (.slice (some ⟨gn, 0, none⟩) 1 capn) X ∧ wc.grownBy X (Value.ownBlock (.slice none 0 0)) := ord_append o.a2 hL HBB.out.1 HBB.out.2 (by simp)
        have HL15 := Lib.hid hL15
        have hM15 := hM.grown hg15 (by intro e; have := HVM.out M e.symm; have := HBM.out; omega)
        have HQ15 := Lib.hid (row_apart hQ hg15 (fun q e => HVM.out q e))
        have x1 : wc.cell? ⟨M, 1, none⟩ = some (.int .i64 o.a2) := hM.cell 1
        have HM15 := Lib.hid hM15
        clear hL hM hQ hL15 hg15 hM15 HVM
        go_upto_region 17 with (at_builtin; refine list_run (by rfl) _ _ rfl rfl rfl hr ?_; clear hr)
        clear x1
        obtain ⟨m0, m1, m2, m3, m4, m5, m6, m7, m8, m9, m10, m11⟩ := HM15.out.twelve
        have b3 : (o.kd == 3) = true := eq_t HK.out
        have E16 := Lib.hid (x_reply o.fr o.a2 o.kd o.vol o.l2 o.id 0 true o.key o.ck o.g a9 o.n c9 0 true o.key o.ck o.g a9 o.n c9 w15)
        go_wp2_with fail
        refine E16.out.mono ?_
        rintro e w16 ⟨rfl, B16⟩
        have hL16 := ord_below HL15.out B16
        have hR16 := ord_rbl hL16 HCV.out HON.out rfl (Or.inl rfl) rfl
        have hbq : BOk w16 a9 o.n c9 o.l := ⟨bsl_own (own_below HQ15.out B16 (Nat.le_refl _)), HNC.out, by have := HON.out; omega⟩
        have HL16 := Lib.hid hL16
        have E17 := Lib.hid (show Calls Try.prog 41 #[.pointer (some ⟨B, 0, none⟩), .agg #[.int .i64 o.a2, .int .i64 o.fr, .int .i64 5, .int .i64 o.vol, .int .i64 o.l2, .int .u64 o.id, .int .i64 0, .bool true, .int .u64 o.key, .int .u32 o.ck, .bool o.g, .slice a9 o.n c9]] w16 (fun e w' => ∃ az cz, e = .returned (errc 0) ∧ RBl w' B ⟨atC o av cv, 3, true, false, ndN, 0, ⟨o.key, o.ck, o.g, az, o.n, cz, o.l⟩⟩ ∧ w16.grownBy w' (some B)) from x_get w16 hR16 true ⟨o.key, o.ck, o.g, a9, o.n, c9, o.l⟩ hbq HK.out rfl)
        clear m0 m1 m2 m3 m4 m5 m6 m7 m8 m9 m10 m11 b3 B16 E16 HL15 HM15 HQ15 hL16 hR16 hbq
        go_wp2_with fail
        refine E17.out.mono ?_
        rintro e w17 ⟨az, cz, rfl, hR17, hg17⟩
        have HL17 := Lib.hid (ord_grown HL16.out hR17.k hg17 HBB.out.1 HBB.out.2)
        have HZ17 := Lib.hid hR17.z
        clear hR17 hg17 E17 HL16
        go_wp2_with fail
        go_roundw
        case rel => exact Or.inr ⟨rfl, g2, cap2, az, cz, rfl, HL17.out, HZ17.out⟩
        case measure => simp [intOf]
    · have hR : RBl wr B ⟨atC o av cv, 3, true, false, ndN, 0, ⟨o.key, o.ck, o.g, az, o.n, cz, o.l⟩⟩ := ⟨hL.2.1, ⟨hL.2.2.1.more hL.2.2.2.2, HCV.out, by have := HON.out; show o.n ≤ _; omega⟩, BOk.nil _ _ _, hZ⟩
      have HL := Lib.hid hL
      have HR := Lib.hid hR
      have EN := Lib.hid (next_no wr hR rfl)
      clear hL hR HL8
      go_wp2_with fail
      refine EN.out.mono ?_
      rintro e w18 ⟨rfl, B18⟩
      have HL18 := Lib.hid (ord_below HL.out B18)
      have HR18 := Lib.hid (HR.out.on B18)
      clear B18 EN HL HR
      go_upto_region 11 with fail
      obtain ⟨w19, hw19, hB19⟩ : ∃ X, w18.alloc (.cells #[.int .i64 0, .int .i64 0, .int .i64 0, .int .i64 0, .int .i64 0, .int .u64 0, .int .i64 0, .bool false, .int .u64 0, .int .u32 0, .bool false, .slice none 0 0] 53) = X ∧ Below w18.heap.size w18 X := ⟨_, rfl, (Below.refl _ _).alloc (Nat.le_refl _) _⟩
      have HL19 := Lib.hid (ord_below HL18.out hB19)
      have HR19 := Lib.hid (HR18.out.on hB19)
      rw [hw19]
      clear hw19 hB19 HL18 HR18
      have EV := Lib.hid (show Calls Try.prog 45 #[.pointer (some ⟨B, 0, none⟩)] w19 (fun e w' => ∃ a c, e = .returned (.tuple #[.agg #[.int .i64 0, .int .u64 o.key, .int .u32 o.ck, .bool o.g, .slice a o.n c], .bool true]) ∧ Below w19.heap.size w19 w') from oend_yes w19 HR19.out rfl)
      go_wp2_with fail
      refine (code_c 16 _ (by decide)).mono ?_
      rintro e w20 ⟨rfl, rfl⟩
      go_wp2_with fail
      refine EV.out.mono ?_
      rintro e w20 ⟨a20, c20, rfl, B20⟩
      have HL20 := Lib.hid (ord_below HL19.out B20)
      have HR20 := Lib.hid (HR19.out.on B20)
      clear B20 EV HL19 HR19
      go_upto_region 19 with fail
      obtain ⟨w21, hw21, hE21, hB21⟩ : ∃ X, w20.alloc (.cells #[.int .i64 0, .int .u64 o.key, .int .u32 o.ck, .bool o.g, .slice a20 o.n c20] 88) = X ∧ Blk X w20.heap.size 88 #[.int .i64 0, .int .u64 o.key, .int .u32 o.ck, .bool o.g, .slice a20 o.n c20] ∧ Below w20.heap.size w20 X := ⟨_, rfl, Blk.made _ _ _, (Below.refl _ _).alloc (Nat.le_refl _) _⟩
      have HL21 := Lib.hid (ord_below HL20.out hB21)
      have ES := Lib.hid (show Calls Try.prog 43 #[.pointer (some ⟨B, 0, none⟩)] w21 (fun e w' => e = .returned (.int .i64 3) ∧ w21 = w') from stage_any w21 (HR20.out.on hB21).k)
      obtain ⟨e0, e1, e2, e3, e4⟩ := hE21.five
      rw [hw21]
      clear hw21 hE21 hB21 HL20 HR20
      go_wp2_with fail
      refine ES.out.mono ?_
      rintro e w22 ⟨rfl, rfl⟩
      clear e0 e1 e2 e3 e4 ES
      go_wp2_with fail
      refine (next_nil _).mono ?_
      rintro e w23 ⟨rfl, B23⟩
      have HL23 := Lib.hid (ord_below HL21.out B23)
      clear B23 HL21
      go_upto_region 23 with fail
      obtain ⟨w24, hw24, hB24⟩ : ∃ X, w23.alloc (.cells #[.int .i64 0, .int .i64 0, .int .i64 0, .int .i64 0, .int .i64 0, .int .u64 0, .int .i64 0, .bool false, .int .u64 0, .int .u32 0, .bool false, .slice none 0 0] 53) = X ∧ Below w23.heap.size w23 X := ⟨_, rfl, (Below.refl _ _).alloc (Nat.le_refl _) _⟩
      have HL24 := Lib.hid (ord_below HL23.out hB24)
      rw [hw24]
      clear hw24 hB24 HL23
      go_wp2_with fail
      refine (oend_nil _).mono ?_
      rintro e w25 ⟨rfl, B25⟩
      have HL25 := Lib.hid (ord_below HL24.out B25)
      clear B25 HL24
      go_upto_region 24 with fail
      obtain ⟨w26, hw26, hB26⟩ : ∃ X, w25.alloc (.cells #[.int .i64 0, .int .u64 0, .int .u32 0, .bool false, .slice none 0 0] 88) = X ∧ Below w25.heap.size w25 X := ⟨_, rfl, (Below.refl _ _).alloc (Nat.le_refl _) _⟩
      have HL26 := Lib.hid (ord_below HL25.out hB26)
      have EG := Lib.hid (show Calls Try.prog 41 #[.pointer none, .agg #[.int .i64 0, .int .i64 0, .int .i64 0, .int .i64 0, .int .i64 0, .int .u64 0, .int .i64 0, .bool false, .int .u64 0, .int .u32 0, .bool false, .slice none 0 0]] w26 (fun e w' => e = .returned (errc 15) ∧ Below w26.heap.size w26 w') from got_nil w26 mNone)
      rw [hw26]
      clear hw26 hB26 HL25
      go_wp2_with fail
      refine (code_c 15 _ (by decide)).mono ?_
      rintro e w27 ⟨rfl, rfl⟩
      go_wp2_with fail
      refine EG.out.mono ?_
      rintro e w27 ⟨rfl, B27⟩
      have HL27 := Lib.hid (ord_below HL26.out B27)
      clear B27 EG HL26
      go_wp2_with fail
      refine (code_c 15 _ (by decide)).mono ?_
      rintro e w28 ⟨rfl, rfl⟩
      go_wp2_with fail
      refine (giveup_nil _).mono ?_
      rintro e w28 ⟨rfl, rfl⟩
      go_wp2_with fail
      refine (code_c 15 _ (by decide)).mono ?_
      rintro e w28 ⟨rfl, rfl⟩
      go_wp2_with fail
      refine (stage_nil _).mono ?_
      rintro e w28 ⟨rfl, rfl⟩
      have b3 : (o.kd == 3) = true := eq_t HK.out
      obtain ⟨k0, -, -, -, -, -, -, -, -, -, -, -, -, -⟩ := HCO.out _ HL27.out.1
      go_upto_region 27 with fail
      clear k0 b3
      have HC := Lib.hid fun (W : World) (B0 : Below w27.heap.size w27 W) => (show W.cell? ⟨g, 0, none⟩ = some (.int .i64 o.a2) from
        have h := (ord_below HL27.out B0).2.2.2.1
        h.cellAt 0 (by decide))
      refine wp_region_held_drew (S := fun W => Below w27.heap.size w27 W) (by kernel_rfl) ((Below.refl _ _).drew) (fun hS => ?_)
      refine wpAnyH_take (i := 0) (v := ?_) rfl (by kernel_rfl) (by kernel_rfl) (by kernel_rfl) (fun _ _ _ h => h) (Or.inl ⟨by kernel_rfl, ?_⟩) hS ?_
      rotate_left
      · intro W hW; go_simp; try with_reducible rfl
      refine wpAnyH_take (i := 1) (v := ?_) rfl (by kernel_rfl) (by kernel_rfl) (by kernel_rfl) (fun _ _ _ h => h) (Or.inl ⟨by kernel_rfl, ?_⟩) hS ?_
      rotate_left
      · intro W hW; go_simp; try with_reducible rfl
      refine wpAnyH_take (i := 2) (v := ?_) rfl (by kernel_rfl) (by kernel_rfl) (by kernel_rfl) (fun _ _ _ h => h) (Or.inl ⟨by kernel_rfl, ?_⟩) hS ?_
      rotate_left
      · intro W hW; go_simp; try with_reducible rfl
      refine wpAnyH_take (i := 3) (v := ?_) rfl (by kernel_rfl) (by kernel_rfl) (by kernel_rfl) (fun _ _ _ h => h) (Or.inl ⟨by kernel_rfl, ?_⟩) hS ?_
      rotate_left
      · intro W hW; go_simp; try with_reducible rfl
      refine wpAnyH_take (i := 4) (v := ?_) rfl (by kernel_rfl) (by kernel_rfl) (by kernel_rfl) (fun _ _ _ h => h) (Or.inl ⟨by kernel_rfl, ?_⟩) hS ?_
      rotate_left
      · intro W hW; go_simp; try with_reducible rfl
      refine wpAnyH_take (i := 5) (v := ?_) rfl (by kernel_rfl) (by kernel_rfl) (by kernel_rfl) (fun _ _ _ h => h) (Or.inl ⟨by kernel_rfl, ?_⟩) hS ?_
      rotate_left
      · intro W hW; go_simp; try with_reducible rfl
      refine wpAnyH_take (i := 6) (v := ?_) rfl (by kernel_rfl) (by kernel_rfl) (by kernel_rfl) (fun _ _ _ h => h) (Or.inl ⟨by kernel_rfl, ?_⟩) hS ?_
      rotate_left
      · intro W hW; obtain ⟨k0, k1, k2, k3, k4, k5, k6, k7, k8, k9, k10, k11, k12, k13⟩ := HCO.out W (HL27.out.1.trans (hW.mono HL27.out.1.size)); have t0 := HC.out W hW; go_simp; try with_reducible rfl
      refine wpAnyH_take (i := 7) (v := ?_) rfl (by kernel_rfl) (by kernel_rfl) (by kernel_rfl) (fun _ _ _ h => h) (Or.inl ⟨by kernel_rfl, ?_⟩) hS ?_
      rotate_left
      · intro W hW; go_simp; try with_reducible rfl
      refine wpAnyH_take (i := 8) (v := ?_) rfl (by kernel_rfl) (by kernel_rfl) (by kernel_rfl) (fun _ _ _ h => h) (Or.inl ⟨by kernel_rfl, ?_⟩) hS ?_
      rotate_left
      · intro W hW; go_simp; try with_reducible rfl
      refine wpAnyH_take (i := 9) (v := ?_) rfl (by kernel_rfl) (by kernel_rfl) (by kernel_rfl) (fun _ _ _ h => h) (Or.inl ⟨by kernel_rfl, ?_⟩) hS ?_
      rotate_left
      · intro W hW; obtain ⟨k0, k1, k2, k3, k4, k5, k6, k7, k8, k9, k10, k11, k12, k13⟩ := HCO.out W (HL27.out.1.trans (hW.mono HL27.out.1.size)); have t0 := HC.out W hW; go_simp; try with_reducible rfl
      refine wpAnyH_take (i := 10) (v := ?_) rfl (by kernel_rfl) (by kernel_rfl) (by kernel_rfl) (fun _ _ _ h => h) (Or.inl ⟨by kernel_rfl, ?_⟩) hS ?_
      rotate_left
      · intro W hW; go_simp; try with_reducible rfl
      refine wpAnyH_take (i := 11) (v := ?_) rfl (by kernel_rfl) (by kernel_rfl) (by kernel_rfl) (fun _ _ _ h => h) (Or.inl ⟨by kernel_rfl, ?_⟩) hS ?_
      rotate_left
      · intro W hW; go_simp; try with_reducible rfl
      refine wpAnyH_take (i := 12) (v := ?_) rfl (by kernel_rfl) (by kernel_rfl) (by kernel_rfl) (fun _ _ _ h => h) (Or.inl ⟨by kernel_rfl, ?_⟩) hS ?_
      rotate_left
      · intro W hW; go_simp; try with_reducible rfl
      refine wpAnyH_done (by kernel_rfl) ?_ _
      go_simp
      have HF := Lib.hid (HL27.out.1.trans (hS.mono HL27.out.1.size))
      clear hS HC HL27
      go_wp2_with fail
      go_ret
      exact ⟨rfl, HBW.out.trans (HF.out.mono HBW.out.size)⟩
theorem order_all (o : OpR) (lost : Int) (w : World) (ho : BSl w w.heap.size o.a o.n o.l) (hoc : o.n ≤ o.c) (h0 : 0 ≤ lost) (h1 : lost ≤ 255) :
    Calls Try.prog 12 #[o.vals, .int .u8 lost] w fun e w' => e = .returned (.bool true) ∧ Below w.heap.size w w' := by
  by_cases hbig : 300 < o.n
  · exact order_big o lost w hbig
  · by_cases hk : o.kd = 3
    · exact order_get o lost w ho hoc (by omega) h0 h1 hk
    · exact order_put o lost w ho hoc (by omega) h0 h1 hk
end Go.Proofs.Ytboadalojimdlaa
