/-
  Messages: their cells; wire.small, Check, Same, Reply; the document's byteful, Check, Same; Of and To.
-/
import Derived.Test.YtpkfjnhjcdcoaaaNdlSame
import Derived.Deep.DeepCutAuto
import Derived.Deep.RegionHeld3
namespace Go.Proofs.Ytpkfjnhjcdcoaaa
open Go.RowKit

/-- A message, with where its bytes stand. -/
structure MsgR where
  fr : Int
  tt : Int
  kd : Int
  vol : Int
  life : Int
  id : Nat
  cd : Int
  has : Bool
  key : Nat
  ck : Nat
  g : Bool
  a : Option Addr
  n : Nat
  c : Nat
  l : List (BitVec 8)
def MsgR.cells (m : MsgR) : List Value := [.int .i64 m.fr, .int .i64 m.tt, .int .i64 m.kd, .int .i64 m.vol, .int .i64 m.life, .int .u64 m.id, .int .i64 m.cd, .bool m.has, .int .u64 m.key, .int .u32 m.ck, .bool m.g, .slice m.a m.n m.c]
def MsgR.vals (m : MsgR) : Value := .agg #[.int .i64 m.fr, .int .i64 m.tt, .int .i64 m.kd, .int .i64 m.vol, .int .i64 m.life, .int .u64 m.id, .int .i64 m.cd, .bool m.has, .int .u64 m.key, .int .u32 m.ck, .bool m.g, .slice m.a m.n m.c]
def mNone : MsgR := ⟨0, 0, 0, 0, 0, 0, 0, false, 0, 0, false, none, 0, 0, []⟩
/-- What holds of one in memory. -/
structure MOk (w : World) (B : Nat) (m : MsgR) : Prop where
  hb : BSl w B m.a m.n m.l
  hc : m.n ≤ m.c
  hn : m.n ≤ 1099511627776
  fr0 : -9223372036854775808 ≤ m.fr
  fr1 : m.fr ≤ 9223372036854775807
  to0 : -9223372036854775808 ≤ m.tt
  to1 : m.tt ≤ 9223372036854775807
  kd0 : -9223372036854775808 ≤ m.kd
  kd1 : m.kd ≤ 9223372036854775807
  vol0 : -9223372036854775808 ≤ m.vol
  vol1 : m.vol ≤ 9223372036854775807
  life0 : -9223372036854775808 ≤ m.life
  life1 : m.life ≤ 9223372036854775807
  id1 : m.id < 18446744073709551616
  cd0 : -9223372036854775808 ≤ m.cd
  cd1 : m.cd ≤ 9223372036854775807
  key1 : m.key < 18446744073709551616
  ck1 : m.ck < 4294967296
theorem MOk.below {w w' : World} {B : Nat} {m : MsgR} (h : MOk w B m) (hb : Below B w w') : MOk w' B m := { h with hb := h.hb.below hb }
theorem MOk.more {w : World} {B B' : Nat} {m : MsgR} (h : MOk w B m) (hB : B ≤ B') : MOk w B' m := { h with hb := h.hb.more hB }
theorem MOk.on {w w' : World} {m : MsgR} (h : MOk w w.heap.size m) (hb : Below w.heap.size w w') : MOk w' w'.heap.size m := (h.below hb).more hb.size

theorem Blk.twelve {w : World} {g : Nat} {t : TypeId} {v0 v1 v2 v3 v4 v5 v6 v7 v8 v9 v10 v11 : Value} (k : Blk w g t #[v0, v1, v2, v3, v4, v5, v6, v7, v8, v9, v10, v11]) :
    w.cell? ⟨g, 0, none⟩ = some v0 ∧ w.cell? ⟨g, 1, none⟩ = some v1 ∧ w.cell? ⟨g, 2, none⟩ = some v2 ∧ w.cell? ⟨g, 3, none⟩ = some v3 ∧ w.cell? ⟨g, 4, none⟩ = some v4 ∧ w.cell? ⟨g, 5, none⟩ = some v5 ∧
    w.cell? ⟨g, 6, none⟩ = some v6 ∧ w.cell? ⟨g, 7, none⟩ = some v7 ∧ w.cell? ⟨g, 8, none⟩ = some v8 ∧ w.cell? ⟨g, 9, none⟩ = some v9 ∧ w.cell? ⟨g, 10, none⟩ = some v10 ∧ w.cell? ⟨g, 11, none⟩ = some v11 :=
  ⟨k.cell 0, k.cell 1, k.cell 2, k.cell 3, k.cell 4, k.cell 5, k.cell 6, k.cell 7, k.cell 8, k.cell 9, k.cell 10, k.cell 11⟩
theorem made_two (w : World) (t t' : TypeId) (cs cs' : Array Value) : Blk ((w.alloc (.cells cs t)).alloc (.cells cs' t')) w.heap.size t cs ∧ Blk ((w.alloc (.cells cs t)).alloc (.cells cs' t')) (w.heap.size + 1) t' cs' :=
  ⟨(Blk.made w t cs).alloc _, by have := Blk.made (w.alloc (.cells cs t)) t' cs'; simpa using this⟩
theorem eq_t {a b : Int} (h : a = b) : (a == b) = true := by rw [h]; exact beq_self_eq_true b
theorem eq_f {a b : Int} (h : a ≠ b) : (a == b) = false := by rw [beq_eq_false_iff_ne]; exact h
theorem ne_t {a b : Int} (h : a ≠ b) : (a != b) = true := by rw [bne_iff_ne]; exact h
theorem ne_f {a b : Int} (h : a = b) : (a != b) = false := by rw [h]; exact bne_self_eq_false b

/-- Does a number fit one byte? -/
def smB (n : Int) : Bool := decide (0 ≤ n ∧ n ≤ 255)
/-- May it be? -/
def mchk (m : MsgR) : Nat :=
  if smB m.fr = true ∧ smB m.tt = true ∧ 1 ≤ m.vol ∧ m.vol ≤ 65535 ∧ 0 ≤ m.life ∧ m.life ≤ 2147483647 ∧ 1 ≤ m.kd ∧ m.kd ≤ 5 ∧ (m.kd < 5 → m.cd = 0) ∧ smB m.cd = true then
    (if m.has = true then chk m.g m.n else if ndSame m.key m.ck m.g m.l 0 0 false [] = true then 0 else 1)
  else 1
theorem mchk_le (m : MsgR) : mchk m ≤ 17 := by
  unfold mchk
  split
  · split
    · exact chk_le _ _
    · split <;> omega
  · omega
/-- Are they alike? -/
def mHead (m m' : MsgR) : Bool := decide (m.fr = m'.fr ∧ m.tt = m'.tt ∧ m.kd = m'.kd ∧ m.vol = m'.vol ∧ m.life = m'.life ∧ m.id = m'.id ∧ m.cd = m'.cd ∧ m.has = m'.has)
def mSame (m m' : MsgR) : Bool := mHead m m' && ndSame m.key m.ck m.g m.l m'.key m'.ck m'.g m'.l

theorem small_any (n : Int) (w : World) : Calls Try.prog 67 #[.int .i64 n] w fun e w' => e = .returned (.bool (smB n)) ∧ w = w' := by
  by_cases h0 : 0 ≤ n
  · by_cases h1 : n ≤ 255
    · have HE := Lib.hid (show smB n = true from decide_eq_true ⟨h0, h1⟩)
      skip
      go_enter Try.func67, Try.ntmps67
      go_wp2_with fail
      go_ret
      exact ⟨by rw [HE.out]; rfl, rfl⟩
    · have HE := Lib.hid (show smB n = false from decide_eq_false (fun h => h1 h.2))
      skip
      go_enter Try.func67, Try.ntmps67
      go_wp2_with fail
      go_ret
      exact ⟨by rw [HE.out]; rfl, rfl⟩
  · have HE := Lib.hid (show smB n = false from decide_eq_false (fun h => h0 h.1))
    go_enter Try.func67, Try.ntmps67
    go_wp2_with fail
    go_ret
    exact ⟨by rw [HE.out]; rfl, rfl⟩

theorem byteful_any (n : Int) (w : World) : Calls Try.prog 46 #[.int .i64 n] w fun e w' => e = .returned (.bool (smB n)) ∧ w = w' := by
  by_cases h0 : 0 ≤ n
  · by_cases h1 : n ≤ 255
    · have HE := Lib.hid (show smB n = true from decide_eq_true ⟨h0, h1⟩)
      have h2 : n < 256 := by omega
      go_enter Try.func46, Try.ntmps46
      go_wp2_with fail
      go_ret
      exact ⟨by rw [HE.out]; rfl, rfl⟩
    · have HE := Lib.hid (show smB n = false from decide_eq_false (fun h => h1 h.2))
      have h2 : ¬ n < 256 := by omega
      go_enter Try.func46, Try.ntmps46
      go_wp2_with fail
      go_ret
      exact ⟨by rw [HE.out]; rfl, rfl⟩
  · have HE := Lib.hid (show smB n = false from decide_eq_false (fun h => h0 h.1))
    go_enter Try.func46, Try.ntmps46
    go_wp2_with fail
    go_ret
    exact ⟨by rw [HE.out]; rfl, rfl⟩

set_option maxRecDepth 100000 in
set_option maxHeartbeats 4000000 in
theorem wsame_any (m m' : MsgR) (w : World) (h : BSl w w.heap.size m.a m.n m.l) (h' : BSl w w.heap.size m'.a m'.n m'.l) :
    Calls Try.prog 20 #[m.vals, m'.vals] w fun e w' => e = .returned (.bool (mSame m m')) ∧ Below w.heap.size w w' := by
  have HY := Lib.hid fun (e : mHead m m' = true) => (show mSame m m' = ndSame m.key m.ck m.g m.l m'.key m'.ck m'.g m'.l from by unfold mSame; rw [e]; rfl)
  have HN := Lib.hid fun (e : mHead m m' = false) => (show mSame m m' = false from by unfold mSame; rw [e]; rfl)
  have HH : mHead m m' = decide (m.fr = m'.fr ∧ m.tt = m'.tt ∧ m.kd = m'.kd ∧ m.vol = m'.vol ∧ m.life = m'.life ∧ m.id = m'.id ∧ m.cd = m'.cd ∧ m.has = m'.has) := rfl
  obtain ⟨fr, tt, kd, vol, life, id, cd, has, key, ck, g, a, n, c, l⟩ := m
  obtain ⟨fr', tt', kd', vol', life', id', cd', has', key', ck', g', a', n', c', l'⟩ := m'
  generalize mSame ⟨fr, tt, kd, vol, life, id, cd, has, key, ck, g, a, n, c, l⟩ ⟨fr', tt', kd', vol', life', id', cd', has', key', ck', g', a', n', c', l'⟩ = sm at *
  generalize mHead ⟨fr, tt, kd, vol, life, id, cd, has, key, ck, g, a, n, c, l⟩ ⟨fr', tt', kd', vol', life', id', cd', has', key', ck', g', a', n', c', l'⟩ = hd at *
  unfold MsgR.vals
  dsimp only at *
  have BA := ((Below.refl w.heap.size w).alloc (Nat.le_refl _) (.cells #[.int .i64 fr, .int .i64 tt, .int .i64 kd, .int .i64 vol, .int .i64 life, .int .u64 id, .int .i64 cd, .bool has, .int .u64 key, .int .u32 ck, .bool g, .slice a n c] 29)).alloc (by simp) (.cells #[.int .i64 fr', .int .i64 tt', .int .i64 kd', .int .i64 vol', .int .i64 life', .int .u64 id', .int .i64 cd', .bool has', .int .u64 key', .int .u32 ck', .bool g', .slice a' n' c'] 29)
  obtain ⟨hK, hK'⟩ := made_two w 29 29 #[.int .i64 fr, .int .i64 tt, .int .i64 kd, .int .i64 vol, .int .i64 life, .int .u64 id, .int .i64 cd, .bool has, .int .u64 key, .int .u32 ck, .bool g, .slice a n c] #[.int .i64 fr', .int .i64 tt', .int .i64 kd', .int .i64 vol', .int .i64 life', .int .u64 id', .int .i64 cd', .bool has', .int .u64 key', .int .u32 ck', .bool g', .slice a' n' c']
  have E := Lib.hid (needle_same key ck g a n c l key' ck' g' a' n' c' l' _ ((h.below BA).more BA.size) ((h'.below BA).more BA.size))
  have HB := Lib.hid BA
  clear h h' BA
  have HHH := Lib.hid HH
  clear HH

  by_cases h0 : fr = fr'
  rotate_left
  · have HR := Lib.hid (HN.out (HHH.out.trans (decide_eq_false (fun q => h0 q.1))))
    have b0 : (fr == fr') = false := eq_f (by omega)
    clear hK hK'
    go_enter Try.func20, Try.ntmps20
    go_wp2_with fail
    go_ret
    exact ⟨by rw [HR.out]; rfl, HB.out⟩
  have b0 : (fr == fr') = true := eq_t (by omega)
  have G0 := Lib.hid h0
  clear h0
  by_cases h1 : tt = tt'
  rotate_left
  · have HR := Lib.hid (HN.out (HHH.out.trans (decide_eq_false (fun q => h1 q.2.1))))
    have b1 : (tt == tt') = false := eq_f (by omega)
    clear hK hK'
    go_enter Try.func20, Try.ntmps20
    go_wp2_with fail
    go_ret
    exact ⟨by rw [HR.out]; rfl, HB.out⟩
  have b1 : (tt == tt') = true := eq_t (by omega)
  have G1 := Lib.hid h1
  clear h1
  by_cases h2 : kd = kd'
  rotate_left
  · have HR := Lib.hid (HN.out (HHH.out.trans (decide_eq_false (fun q => h2 q.2.2.1))))
    have b2 : (kd == kd') = false := eq_f (by omega)
    clear hK hK'
    go_enter Try.func20, Try.ntmps20
    go_wp2_with fail
    go_ret
    exact ⟨by rw [HR.out]; rfl, HB.out⟩
  have b2 : (kd == kd') = true := eq_t (by omega)
  have G2 := Lib.hid h2
  clear h2
  by_cases h3 : vol = vol'
  rotate_left
  · have HR := Lib.hid (HN.out (HHH.out.trans (decide_eq_false (fun q => h3 q.2.2.2.1))))
    have b3 : (vol == vol') = false := eq_f (by omega)
    clear hK hK'
    go_enter Try.func20, Try.ntmps20
    go_wp2_with fail
    go_ret
    exact ⟨by rw [HR.out]; rfl, HB.out⟩
  have b3 : (vol == vol') = true := eq_t (by omega)
  have G3 := Lib.hid h3
  clear h3
  by_cases h4 : life = life'
  rotate_left
  · have HR := Lib.hid (HN.out (HHH.out.trans (decide_eq_false (fun q => h4 q.2.2.2.2.1))))
    have b4 : (life == life') = false := eq_f (by omega)
    clear hK hK'
    go_enter Try.func20, Try.ntmps20
    go_wp2_with fail
    go_ret
    exact ⟨by rw [HR.out]; rfl, HB.out⟩
  have b4 : (life == life') = true := eq_t (by omega)
  have G4 := Lib.hid h4
  clear h4
  by_cases h5 : id = id'
  rotate_left
  · have HR := Lib.hid (HN.out (HHH.out.trans (decide_eq_false (fun q => h5 q.2.2.2.2.2.1))))
    have b5 : ((id : Int) == (id' : Int)) = false := eq_f (by omega)
    clear hK hK'
    go_enter Try.func20, Try.ntmps20
    go_wp2_with fail
    go_ret
    exact ⟨by rw [HR.out]; rfl, HB.out⟩
  have b5 : ((id : Int) == (id' : Int)) = true := eq_t (by omega)
  have G5 := Lib.hid h5
  clear h5
  by_cases h6 : cd = cd'
  rotate_left
  · have HR := Lib.hid (HN.out (HHH.out.trans (decide_eq_false (fun q => h6 q.2.2.2.2.2.2.1))))
    have b6 : (cd == cd') = false := eq_f (by omega)
    clear hK hK'
    go_enter Try.func20, Try.ntmps20
    go_wp2_with fail
    go_ret
    exact ⟨by rw [HR.out]; rfl, HB.out⟩
  have b6 : (cd == cd') = true := eq_t (by omega)
  have G6 := Lib.hid h6
  clear h6
  cases has <;> cases has'
  · have HR := Lib.hid (HY.out (HHH.out.trans (decide_eq_true ⟨G0.out, G1.out, G2.out, G3.out, G4.out, G5.out, G6.out, rfl⟩)))
    clear hK hK'
    go_enter Try.func20, Try.ntmps20
    go_wp2_with fail
    refine E.out.mono ?_
    rintro e w1 ⟨rfl, B1⟩
    have HE := Lib.hid (HB.out.trans (B1.mono HB.out.size))
    clear B1
    go_wp2_with fail
    go_ret
    exact ⟨by rw [HR.out]; rfl, HE.out⟩
  · have HR := Lib.hid (HN.out (HHH.out.trans (decide_eq_false (fun q => by cases q.2.2.2.2.2.2.2))))
    clear hK hK'
    go_enter Try.func20, Try.ntmps20
    go_wp2_with fail
    go_ret
    exact ⟨by rw [HR.out]; rfl, HB.out⟩
  · have HR := Lib.hid (HN.out (HHH.out.trans (decide_eq_false (fun q => by cases q.2.2.2.2.2.2.2))))
    clear hK hK'
    go_enter Try.func20, Try.ntmps20
    go_wp2_with fail
    go_ret
    exact ⟨by rw [HR.out]; rfl, HB.out⟩
  · have HR := Lib.hid (HY.out (HHH.out.trans (decide_eq_true ⟨G0.out, G1.out, G2.out, G3.out, G4.out, G5.out, G6.out, rfl⟩)))
    clear hK hK'
    go_enter Try.func20, Try.ntmps20
    go_wp2_with fail
    refine E.out.mono ?_
    rintro e w1 ⟨rfl, B1⟩
    have HE := Lib.hid (HB.out.trans (B1.mono HB.out.size))
    clear B1
    go_wp2_with fail
    go_ret
    exact ⟨by rw [HR.out]; rfl, HE.out⟩

set_option maxRecDepth 100000 in
set_option maxHeartbeats 4000000 in
theorem rsame_any (m m' : MsgR) (w : World) (h : BSl w w.heap.size m.a m.n m.l) (h' : BSl w w.heap.size m'.a m'.n m'.l) (hn : m.n ≤ 1099511627776) :
    Calls Try.prog 15 #[m.vals, m'.vals] w fun e w' => e = .returned (.bool (mSame m m')) ∧ Below w.heap.size w w' := by
  have HY := Lib.hid fun (e : mHead m m' = true) => (show mSame m m' = ndSame m.key m.ck m.g m.l m'.key m'.ck m'.g m'.l from by unfold mSame; rw [e]; rfl)
  have HN := Lib.hid fun (e : mHead m m' = false) => (show mSame m m' = false from by unfold mSame; rw [e]; rfl)
  have HH : mHead m m' = decide (m.fr = m'.fr ∧ m.tt = m'.tt ∧ m.kd = m'.kd ∧ m.vol = m'.vol ∧ m.life = m'.life ∧ m.id = m'.id ∧ m.cd = m'.cd ∧ m.has = m'.has) := rfl
  obtain ⟨fr, tt, kd, vol, life, id, cd, has, key, ck, g, a, n, c, l⟩ := m
  obtain ⟨fr', tt', kd', vol', life', id', cd', has', key', ck', g', a', n', c', l'⟩ := m'
  generalize mSame ⟨fr, tt, kd, vol, life, id, cd, has, key, ck, g, a, n, c, l⟩ ⟨fr', tt', kd', vol', life', id', cd', has', key', ck', g', a', n', c', l'⟩ = sm at *
  generalize mHead ⟨fr, tt, kd, vol, life, id, cd, has, key, ck, g, a, n, c, l⟩ ⟨fr', tt', kd', vol', life', id', cd', has', key', ck', g', a', n', c', l'⟩ = hd at *
  unfold MsgR.vals
  dsimp only at *
  have BA := ((Below.refl w.heap.size w).alloc (Nat.le_refl _) (.cells #[.int .i64 fr, .int .i64 tt, .int .i64 kd, .int .i64 vol, .int .i64 life, .int .u64 id, .int .i64 cd, .bool has, .int .u64 key, .int .u32 ck, .bool g, .slice a n c] 36)).alloc (by simp) (.cells #[.int .i64 fr', .int .i64 tt', .int .i64 kd', .int .i64 vol', .int .i64 life', .int .u64 id', .int .i64 cd', .bool has', .int .u64 key', .int .u32 ck', .bool g', .slice a' n' c'] 36)
  obtain ⟨hK, hK'⟩ := made_two w 36 36 #[.int .i64 fr, .int .i64 tt, .int .i64 kd, .int .i64 vol, .int .i64 life, .int .u64 id, .int .i64 cd, .bool has, .int .u64 key, .int .u32 ck, .bool g, .slice a n c] #[.int .i64 fr', .int .i64 tt', .int .i64 kd', .int .i64 vol', .int .i64 life', .int .u64 id', .int .i64 cd', .bool has', .int .u64 key', .int .u32 ck', .bool g', .slice a' n' c']
  have E := Lib.hid (ref3_same key ck g a n c l key' ck' g' a' n' c' l' _ ((h.below BA).more BA.size) ((h'.below BA).more BA.size) hn)
  have HB := Lib.hid BA
  clear h h' BA
  have HHH := Lib.hid HH
  clear HH

  by_cases h0 : fr = fr'
  rotate_left
  · have HR := Lib.hid (HN.out (HHH.out.trans (decide_eq_false (fun q => h0 q.1))))
    have b0 : (fr == fr') = false := eq_f (by omega)
    clear hK hK'
    go_enter Try.func15, Try.ntmps15
    go_wp2_with fail
    go_ret
    exact ⟨by rw [HR.out]; rfl, HB.out⟩
  have b0 : (fr == fr') = true := eq_t (by omega)
  have G0 := Lib.hid h0
  clear h0
  by_cases h1 : tt = tt'
  rotate_left
  · have HR := Lib.hid (HN.out (HHH.out.trans (decide_eq_false (fun q => h1 q.2.1))))
    have b1 : (tt == tt') = false := eq_f (by omega)
    clear hK hK'
    go_enter Try.func15, Try.ntmps15
    go_wp2_with fail
    go_ret
    exact ⟨by rw [HR.out]; rfl, HB.out⟩
  have b1 : (tt == tt') = true := eq_t (by omega)
  have G1 := Lib.hid h1
  clear h1
  by_cases h2 : kd = kd'
  rotate_left
  · have HR := Lib.hid (HN.out (HHH.out.trans (decide_eq_false (fun q => h2 q.2.2.1))))
    have b2 : (kd == kd') = false := eq_f (by omega)
    clear hK hK'
    go_enter Try.func15, Try.ntmps15
    go_wp2_with fail
    go_ret
    exact ⟨by rw [HR.out]; rfl, HB.out⟩
  have b2 : (kd == kd') = true := eq_t (by omega)
  have G2 := Lib.hid h2
  clear h2
  by_cases h3 : vol = vol'
  rotate_left
  · have HR := Lib.hid (HN.out (HHH.out.trans (decide_eq_false (fun q => h3 q.2.2.2.1))))
    have b3 : (vol == vol') = false := eq_f (by omega)
    clear hK hK'
    go_enter Try.func15, Try.ntmps15
    go_wp2_with fail
    go_ret
    exact ⟨by rw [HR.out]; rfl, HB.out⟩
  have b3 : (vol == vol') = true := eq_t (by omega)
  have G3 := Lib.hid h3
  clear h3
  by_cases h4 : life = life'
  rotate_left
  · have HR := Lib.hid (HN.out (HHH.out.trans (decide_eq_false (fun q => h4 q.2.2.2.2.1))))
    have b4 : (life == life') = false := eq_f (by omega)
    clear hK hK'
    go_enter Try.func15, Try.ntmps15
    go_wp2_with fail
    go_ret
    exact ⟨by rw [HR.out]; rfl, HB.out⟩
  have b4 : (life == life') = true := eq_t (by omega)
  have G4 := Lib.hid h4
  clear h4
  by_cases h5 : id = id'
  rotate_left
  · have HR := Lib.hid (HN.out (HHH.out.trans (decide_eq_false (fun q => h5 q.2.2.2.2.2.1))))
    have b5 : ((id : Int) == (id' : Int)) = false := eq_f (by omega)
    clear hK hK'
    go_enter Try.func15, Try.ntmps15
    go_wp2_with fail
    go_ret
    exact ⟨by rw [HR.out]; rfl, HB.out⟩
  have b5 : ((id : Int) == (id' : Int)) = true := eq_t (by omega)
  have G5 := Lib.hid h5
  clear h5
  by_cases h6 : cd = cd'
  rotate_left
  · have HR := Lib.hid (HN.out (HHH.out.trans (decide_eq_false (fun q => h6 q.2.2.2.2.2.2.1))))
    have b6 : (cd == cd') = false := eq_f (by omega)
    clear hK hK'
    go_enter Try.func15, Try.ntmps15
    go_wp2_with fail
    go_ret
    exact ⟨by rw [HR.out]; rfl, HB.out⟩
  have b6 : (cd == cd') = true := eq_t (by omega)
  have G6 := Lib.hid h6
  clear h6
  cases has <;> cases has'
  · have HR := Lib.hid (HY.out (HHH.out.trans (decide_eq_true ⟨G0.out, G1.out, G2.out, G3.out, G4.out, G5.out, G6.out, rfl⟩)))
    clear hK hK'
    go_enter Try.func15, Try.ntmps15
    go_wp2_with fail
    refine E.out.mono ?_
    rintro e w1 ⟨rfl, B1⟩
    have HE := Lib.hid (HB.out.trans (B1.mono HB.out.size))
    clear B1
    go_wp2_with fail
    go_ret
    exact ⟨by rw [HR.out]; rfl, HE.out⟩
  · have HR := Lib.hid (HN.out (HHH.out.trans (decide_eq_false (fun q => by cases q.2.2.2.2.2.2.2))))
    clear hK hK'
    go_enter Try.func15, Try.ntmps15
    go_wp2_with fail
    go_ret
    exact ⟨by rw [HR.out]; rfl, HB.out⟩
  · have HR := Lib.hid (HN.out (HHH.out.trans (decide_eq_false (fun q => by cases q.2.2.2.2.2.2.2))))
    clear hK hK'
    go_enter Try.func15, Try.ntmps15
    go_wp2_with fail
    go_ret
    exact ⟨by rw [HR.out]; rfl, HB.out⟩
  · have HR := Lib.hid (HY.out (HHH.out.trans (decide_eq_true ⟨G0.out, G1.out, G2.out, G3.out, G4.out, G5.out, G6.out, rfl⟩)))
    clear hK hK'
    go_enter Try.func15, Try.ntmps15
    go_wp2_with fail
    refine E.out.mono ?_
    rintro e w1 ⟨rfl, B1⟩
    have HE := Lib.hid (HB.out.trans (B1.mono HB.out.size))
    clear B1
    go_wp2_with fail
    go_ret
    exact ⟨by rw [HR.out]; rfl, HE.out⟩

set_option maxRecDepth 100000 in
theorem ofm_any (m : MsgR) (w : World) : Calls Try.prog 19 #[m.vals] w fun e w' => e = .returned m.vals ∧ Below w.heap.size w w' := by
  obtain ⟨fr, tt, kd, vol, life, id, cd, has, key, ck, g, a, n, c, l⟩ := m
  unfold MsgR.vals
  dsimp only
  have HB := Lib.hid (((Below.refl w.heap.size w).alloc (Nat.le_refl _) (.cells #[.int .i64 fr, .int .i64 tt, .int .i64 kd, .int .i64 vol, .int .i64 life, .int .u64 id, .int .i64 cd, .bool has, .int .u64 key, .int .u32 ck, .bool g, .slice a n c] 36)).alloc (by simp) (.cells #[.int .i64 fr, .int .i64 tt, .int .i64 kd, .int .i64 vol, .int .i64 life, .int .u64 id, .int .i64 cd, .bool has, .int .u64 key, .int .u32 ck, .bool g, .slice a n c] 29))
  obtain ⟨hK, hK'⟩ := made_two w 36 29 #[.int .i64 fr, .int .i64 tt, .int .i64 kd, .int .i64 vol, .int .i64 life, .int .u64 id, .int .i64 cd, .bool has, .int .u64 key, .int .u32 ck, .bool g, .slice a n c] #[.int .i64 fr, .int .i64 tt, .int .i64 kd, .int .i64 vol, .int .i64 life, .int .u64 id, .int .i64 cd, .bool has, .int .u64 key, .int .u32 ck, .bool g, .slice a n c]
  obtain ⟨y0, y1, y2, y3, y4, y5, y6, y7, y8, y9, y10, y11⟩ := hK'.twelve
  clear hK hK'
  go_enter Try.func19, Try.ntmps19
  go_wp2_with fail
  exact bodyPost_ret (v := .agg #[.int .i64 fr, .int .i64 tt, .int .i64 kd, .int .i64 vol, .int .i64 life, .int .u64 id, .int .i64 cd, .bool has, .int .u64 key, .int .u32 ck, .bool g, .slice a n c]) (by simp [results, Try.results19, go_sem, y0, y1, y2, y3, y4, y5, y6, y7, y8, y9, y10, y11]) rfl ⟨rfl, HB.out⟩

set_option maxRecDepth 100000 in
theorem tom_any (m : MsgR) (w : World) : Calls Try.prog 16 #[m.vals] w fun e w' => e = .returned m.vals ∧ Below w.heap.size w w' := by
  obtain ⟨fr, tt, kd, vol, life, id, cd, has, key, ck, g, a, n, c, l⟩ := m
  unfold MsgR.vals
  dsimp only
  have HB := Lib.hid (((Below.refl w.heap.size w).alloc (Nat.le_refl _) (.cells #[.int .i64 fr, .int .i64 tt, .int .i64 kd, .int .i64 vol, .int .i64 life, .int .u64 id, .int .i64 cd, .bool has, .int .u64 key, .int .u32 ck, .bool g, .slice a n c] 29)).alloc (by simp) (.cells #[.int .i64 fr, .int .i64 tt, .int .i64 kd, .int .i64 vol, .int .i64 life, .int .u64 id, .int .i64 cd, .bool has, .int .u64 key, .int .u32 ck, .bool g, .slice a n c] 36))
  obtain ⟨hK, hK'⟩ := made_two w 29 36 #[.int .i64 fr, .int .i64 tt, .int .i64 kd, .int .i64 vol, .int .i64 life, .int .u64 id, .int .i64 cd, .bool has, .int .u64 key, .int .u32 ck, .bool g, .slice a n c] #[.int .i64 fr, .int .i64 tt, .int .i64 kd, .int .i64 vol, .int .i64 life, .int .u64 id, .int .i64 cd, .bool has, .int .u64 key, .int .u32 ck, .bool g, .slice a n c]
  obtain ⟨y0, y1, y2, y3, y4, y5, y6, y7, y8, y9, y10, y11⟩ := hK'.twelve
  clear hK hK'
  go_enter Try.func16, Try.ntmps16
  go_wp2_with fail
  exact bodyPost_ret (v := .agg #[.int .i64 fr, .int .i64 tt, .int .i64 kd, .int .i64 vol, .int .i64 life, .int .u64 id, .int .i64 cd, .bool has, .int .u64 key, .int .u32 ck, .bool g, .slice a n c]) (by simp [results, Try.results16, go_sem, y0, y1, y2, y3, y4, y5, y6, y7, y8, y9, y10, y11]) rfl ⟨rfl, HB.out⟩


end Go.Proofs.Ytpkfjnhjcdcoaaa
