/-
  wire.Bytes: the bytes of any message.
-/
import Derived.Test.YtpkfjnhjcdcoaaaWir
import Derived.Test.YtpkfjnhjcdcoaaaMsgChk
import Derived.Test.YtpkfjnhjcdcoaaaNdlPut
import Derived.Test.YtpkfjnhjcdcoaaaSeal
import Derived.Test.YtpkfjnhjcdcoaaaPackAlive
namespace Go.Proofs.Ytpkfjnhjcdcoaaa
open Go.RowKit
set_option linter.unusedVariables false

/-- A message's bytes, ahead of the sum. -/
def msRaw (m : MsgR) : List (BitVec 8) :=
  [BitVec.ofNat 8 m.fr.toNat, BitVec.ofNat 8 m.tt.toNat, BitVec.ofNat 8 m.kd.toNat, BitVec.ofNat 8 m.cd.toNat] ++ Num.le m.vol.toNat 4 ++ Num.le m.life.toNat 4 ++ Num.le m.id 8 ++ Num.le (if m.has = true then 1 else 0) 4 ++ (if m.has = true then ndBytes m.key m.ck m.g m.l else [])
/-- A message's bytes. -/
def msBytes (m : MsgR) : List (BitVec 8) := msRaw m ++ Num.le (Crc.of (msRaw m)).toNat 4
def msLen (m : MsgR) : Nat := if m.has = true then 24 + (32 + m.n + padn m.n) else 24
theorem msRaw_length (m : MsgR) (h : m.l.length = m.n) : (msRaw m).length = msLen m := by
  unfold msRaw msLen
  cases m.has
  · simp [Num.le_length]
  · simp [Num.le_length, ndBytes_length, h]
    omega
theorem msBytes_length (m : MsgR) (h : m.l.length = m.n) : (msBytes m).length = msLen m + 4 := by
  unfold msBytes
  rw [List.length_append, msRaw_length m h, Num.le_length]
theorem put_row {base g k c : Nat} {l : List (BitVec 8)} (n sz k' : Nat) (w : World) (ho : w.ownsRow base 5 1 (.slice (some ⟨g, 0, none⟩) k c) k (l.map bv)) (hk : k ≤ 1099511627776) (hs : isSize (sz : Int) = true) (hf : n < 256 ^ sz) (hk' : k + sz = k') :
    Calls Try.prog 48 #[.slice (some ⟨g, 0, none⟩) k c, .int .u64 n, .int .i64 sz] w fun e w' => ∃ g' c', e = .returned (.tuple #[.slice (some ⟨g', 0, none⟩) k' c', .nilIface]) ∧ w'.ownsRow w.heap.size 5 1 (.slice (some ⟨g', 0, none⟩) k' c') k' ((l ++ Num.le n sz).map bv) ∧ Below w.heap.size w w' := by
  subst hk'
  exact put_ok (some ⟨g, 0, none⟩) k c l n sz w (bsl_own ho) hk (fun e => by cases e) hs hf
theorem smB_le {n : Int} (h : smB n = true) : 0 ≤ n ∧ n ≤ 255 := of_decide_eq_true h
/-- What a message that may be is. -/
theorem mchk_ok {m : MsgR} (h : mchk m = 0) : (0 ≤ m.fr ∧ m.fr ≤ 255) ∧ (0 ≤ m.tt ∧ m.tt ≤ 255) ∧ (1 ≤ m.vol ∧ m.vol ≤ 65535) ∧ (0 ≤ m.life ∧ m.life ≤ 2147483647) ∧ (1 ≤ m.kd ∧ m.kd ≤ 5) ∧ (0 ≤ m.cd ∧ m.cd ≤ 255) ∧ (m.kd < 5 → m.cd = 0) ∧ (m.has = true → chk m.g m.n = 0) ∧ (m.has = false → m.key = 0 ∧ m.ck = 0 ∧ m.g = false ∧ m.l = []) := by
  unfold mchk at h
  split at h
  · rename_i hc
    obtain ⟨h1, h2, h3, h4, h5, h6, h7, h8, h9, h10⟩ := hc
    refine ⟨smB_le h1, smB_le h2, ⟨h3, h4⟩, ⟨h5, h6⟩, ⟨h7, h8⟩, smB_le h10, h9, fun e => ?_, fun e => ?_⟩
    · rw [if_pos e] at h
      exact h
    · rw [if_neg (by rw [e]; decide)] at h
      split at h
      · rename_i hs
        unfold ndSame at hs
        exact of_decide_eq_true hs
      · cases h
  · cases h
theorem bv_small {n : Nat} (h : n ≤ 255) : bv (BitVec.ofNat 8 n) = .int .u8 (n : Int) := by
  unfold bv
  rw [BitVec.toNat_ofNat, Nat.mod_eq_of_lt (by omega)]
/-- The message as it stands in the box, by numbers. -/
theorem wbytes_bad (m : MsgR) (w : World) (h : BSl w w.heap.size m.a m.n m.l) (hn : m.n ≤ 1099511627776) (hb : mchk m ≠ 0) :
    Calls Try.prog 18 #[m.vals] w fun e w' => e = .returned (.tuple #[.slice none 0 0, errc (mchk m)]) ∧ Below w.heap.size w w' := by
  have EC := Lib.hid fun (W : World) (B : Below w.heap.size w W) => wcheck_any m W ((h.below B).more B.size) hn
  have he : errc (mchk m) = er (mchk m) := by unfold errc; rw [if_neg hb]
  rw [he] at EC
  rw [he]
  generalize mchk m = q at *
  obtain ⟨fr, tt, kd, vol, life, id, cd, has, key, ck, g, a, n, c, l⟩ := m
  unfold MsgR.vals at *
  dsimp only at *
  have hK := Blk.made w 29 #[.int .i64 fr, .int .i64 tt, .int .i64 kd, .int .i64 vol, .int .i64 life, .int .u64 id, .int .i64 cd, .bool has, .int .u64 key, .int .u32 ck, .bool g, .slice a n c]
  have BA := Lib.hid ((Below.refl w.heap.size w).alloc (Nat.le_refl _) (.cells #[.int .i64 fr, .int .i64 tt, .int .i64 kd, .int .i64 vol, .int .i64 life, .int .u64 id, .int .i64 cd, .bool has, .int .u64 key, .int .u32 ck, .bool g, .slice a n c] 29))
  obtain ⟨k0, k1, k2, k3, k4, k5, k6, k7, k8, k9, k10, k11⟩ := hK.twelve
  clear hK h
  go_enter Try.func18, Try.ntmps18
  go_wp2_with fail
  refine (EC.out _ BA.out).mono ?_
  rintro e w1 ⟨rfl, B1⟩
  have HB := Lib.hid (BA.out.trans (B1.mono BA.out.size))
  clear B1 k0 k1 k2 k3 k4 k5 k6 k7 k8 k9 k10 k11
  go_wp2_with fail
  go_ret2
  exact ⟨rfl, HB.out⟩

set_option maxRecDepth 100000 in
set_option maxHeartbeats 4000000 in
theorem wbytes_true (fr tt kd vol life id cd key ck : Nat) (g : Bool) (a : Option Addr) (n c : Nat) (l : List (BitVec 8)) (w : World) (h : BSl w w.heap.size a n l) (hn : n ≤ 1099511627776) (hid : id < 18446744073709551616) (hkey : key < 18446744073709551616) (hck : ck < 4294967296) (hq : mchk ⟨(fr : Int), (tt : Int), (kd : Int), (vol : Int), (life : Int), id, (cd : Int), true, key, ck, g, a, n, c, l⟩ = 0) :
    Calls Try.prog 18 #[.agg #[.int .i64 (fr : Int), .int .i64 (tt : Int), .int .i64 (kd : Int), .int .i64 (vol : Int), .int .i64 (life : Int), .int .u64 (id : Int), .int .i64 (cd : Int), .bool true, .int .u64 (key : Int), .int .u32 (ck : Int), .bool g, .slice a n c]] w fun e w' => ∃ b cap, e = .returned (.tuple #[.slice (some ⟨b, 0, none⟩) (msLen ⟨(fr : Int), (tt : Int), (kd : Int), (vol : Int), (life : Int), id, (cd : Int), true, key, ck, g, a, n, c, l⟩ + 4) cap, .nilIface]) ∧ msLen ⟨(fr : Int), (tt : Int), (kd : Int), (vol : Int), (life : Int), id, (cd : Int), true, key, ck, g, a, n, c, l⟩ + 4 ≤ cap ∧
      w'.ownsRow w.heap.size 5 1 (.slice (some ⟨b, 0, none⟩) (msLen ⟨(fr : Int), (tt : Int), (kd : Int), (vol : Int), (life : Int), id, (cd : Int), true, key, ck, g, a, n, c, l⟩ + 4) cap) (msLen ⟨(fr : Int), (tt : Int), (kd : Int), (vol : Int), (life : Int), id, (cd : Int), true, key, ck, g, a, n, c, l⟩ + 4) ((msBytes ⟨(fr : Int), (tt : Int), (kd : Int), (vol : Int), (life : Int), id, (cd : Int), true, key, ck, g, a, n, c, l⟩).map bv) ∧ Below w.heap.size w w' := by
  have EC := Lib.hid fun (W : World) (B : Below w.heap.size w W) => wcheck_any ⟨(fr : Int), (tt : Int), (kd : Int), (vol : Int), (life : Int), id, (cd : Int), true, key, ck, g, a, n, c, l⟩ W ((h.below B).more B.size) hn
  rw [hq, show errc 0 = Value.nilIface from rfl] at EC
  unfold MsgR.vals at EC
  dsimp only at EC
  obtain ⟨⟨-, h1⟩, ⟨-, h2⟩, ⟨-, h3⟩, ⟨-, h4⟩, ⟨-, h5⟩, ⟨-, h6⟩, -, h8, -⟩ := mchk_ok hq
  dsimp only at h1 h2 h3 h4 h5 h6 h8
  have hK := Blk.made w 29 #[.int .i64 (fr : Int), .int .i64 (tt : Int), .int .i64 (kd : Int), .int .i64 (vol : Int), .int .i64 (life : Int), .int .u64 (id : Int), .int .i64 (cd : Int), .bool true, .int .u64 (key : Int), .int .u32 (ck : Int), .bool g, .slice a n c]
  have BA := (Below.refl w.heap.size w).alloc (Nat.le_refl _) (.cells #[.int .i64 (fr : Int), .int .i64 (tt : Int), .int .i64 (kd : Int), .int .i64 (vol : Int), .int .i64 (life : Int), .int .u64 (id : Int), .int .i64 (cd : Int), .bool true, .int .u64 (key : Int), .int .u32 (ck : Int), .bool g, .slice a n c] 29)
  have HSB := Lib.hid (show msBytes ⟨(fr : Int), (tt : Int), (kd : Int), (vol : Int), (life : Int), id, (cd : Int), true, key, ck, g, a, n, c, l⟩ = ([BitVec.ofNat 8 fr, BitVec.ofNat 8 tt, BitVec.ofNat 8 kd, BitVec.ofNat 8 cd] ++ Num.le vol 4 ++ Num.le life 4 ++ Num.le id 8 ++ Num.le 1 4 ++ ndBytes key ck g l) ++ Num.le (Crc.of ([BitVec.ofNat 8 fr, BitVec.ofNat 8 tt, BitVec.ofNat 8 kd, BitVec.ofNat 8 cd] ++ Num.le vol 4 ++ Num.le life 4 ++ Num.le id 8 ++ Num.le 1 4 ++ ndBytes key ck g l)).toNat 4 from rfl)
  have HSL := Lib.hid (show msLen ⟨(fr : Int), (tt : Int), (kd : Int), (vol : Int), (life : Int), id, (cd : Int), true, key, ck, g, a, n, c, l⟩ = 24 + (32 + n + padn n) from rfl)
  have HBL := Lib.hid fun (W : World) (B : Below w.heap.size w W) => (h.below B).more B.size
  have HK := Lib.hid hK
  have HBA := Lib.hid BA
  have HN8 := Lib.hid h8
  have u1 : IntKind.u8.wrap (fr : Int) = fr := IntWalk.u8_in _ (by omega)
  have u2 : IntKind.u8.wrap (tt : Int) = tt := IntWalk.u8_in _ (by omega)
  have u3 : IntKind.u8.wrap (kd : Int) = kd := IntWalk.u8_in _ (by omega)
  have u4 : IntKind.u8.wrap (cd : Int) = cd := IntWalk.u8_in _ (by omega)
  have u5 : IntKind.u64.wrap (vol : Int) = vol := IntWalk.u64_in _ (by omega)
  have u6 : IntKind.u64.wrap (life : Int) = life := IntWalk.u64_in _ (by omega)
  have HU := Lib.hid (And.intro u1 (And.intro u2 (And.intro u3 (And.intro u4 (And.intro u5 u6)))))
  have hl4 : ([.int .u8 (fr : Int), .int .u8 (tt : Int), .int .u8 (kd : Int), .int .u8 (cd : Int)] : List Value) = ([BitVec.ofNat 8 fr, BitVec.ofNat 8 tt, BitVec.ofNat 8 kd, BitVec.ofNat 8 cd] : List (BitVec 8)).map bv := by
    simp only [List.map_cons, List.map_nil, bv_small (show fr ≤ 255 by omega), bv_small (show tt ≤ 255 by omega), bv_small (show kd ≤ 255 by omega), bv_small (show cd ≤ 255 by omega)]
  have HL4 := Lib.hid hl4
  have f1 : vol < 256 ^ 4 := Nat.lt_of_le_of_lt (show vol ≤ 65535 by omega) (by decide)
  have f2 : life < 256 ^ 4 := Nat.lt_of_le_of_lt (show life ≤ 2147483647 by omega) (by decide)
  clear hK BA h hq hl4 h8
  rw [HSL.out, HSB.out]
  clear HSB HSL
  go_enter Try.func18, Try.ntmps18
  go_upto_region 1 with fail
  generalize (w.alloc (.cells #[.int .i64 (fr : Int), .int .i64 (tt : Int), .int .i64 (kd : Int), .int .i64 (vol : Int), .int .i64 (life : Int), .int .u64 (id : Int), .int .i64 (cd : Int), .bool true, .int .u64 (key : Int), .int .u32 (ck : Int), .bool g, .slice a n c] 29)) = W0 at *
  have hk0 := HK.out
  obtain ⟨k0, k1, k2, k3, k4, k5, k6, k7, k8, k9, k10, k11⟩ := hk0.twelve
  clear hk0
  go_wp2_with fail
  refine (EC.out _ HBA.out).mono ?_
  rintro e w1 ⟨rfl, B1⟩
  clear k0 k1 k2 k3 k4 k5 k6 k7 k8 k9 k10 k11
  have HB1 := Lib.hid (HBA.out.trans (B1.mono HBA.out.size))
  have hk0 := HK.out.below B1 HK.out.lt
  obtain ⟨k0, k1, k2, k3, k4, k5, k6, k7, k8, k9, k10, k11⟩ := hk0.twelve
  have HK1 := Lib.hid hk0
  clear hk0 EC HK B1
  have EP := Lib.hid (nput_ok key ck g a n c l w1 (HBL.out _ HB1.out) hkey hck (HN8.out trivial))
  have hn4 := (chk_ok (HN8.out trivial)).1
  go_wp2_with fail
  refine EP.out.mono ?_
  rintro e w2 ⟨b1, c1, rfl, ho1, B2⟩
  rw [show errc 0 = Value.nilIface from rfl]
  clear k0 k1 k2 k3 k4 k5 k6 k7 k8 k9 k10 k11
  have HB2 := Lib.hid (HB1.out.trans (B2.mono HB1.out.size))
  have hk0 := HK1.out.below B2 HK1.out.lt
  obtain ⟨k0, k1, k2, k3, k4, k5, k6, k7, k8, k9, k10, k11⟩ := hk0.twelve
  have HK2 := Lib.hid hk0
  have HNB := Lib.hid fun (W : World) (B : Below w2.heap.size w2 W) => ((bsl_own ho1).below B).more B.size
  clear hk0 EP HK1 B2 ho1
  have BW := Lib.hid ((Below.refl w2.heap.size w2).alloc (Nat.le_refl _) (.cells #[.int .u8 (fr : Int), .int .u8 (tt : Int), .int .u8 (kd : Int), .int .u8 (cd : Int)] 5))
  have HKS := Lib.hid (HK2.out.alloc (.cells #[.int .u8 (fr : Int), .int .u8 (tt : Int), .int .u8 (kd : Int), .int .u8 (cd : Int)] 5))
  have hb4 := Blk.made w2 5 #[.int .u8 (fr : Int), .int .u8 (tt : Int), .int .u8 (kd : Int), .int .u8 (cd : Int)]
  have P1 := Lib.hid (show Calls Try.prog 48 #[.slice (some ⟨w2.heap.size, 0, none⟩) 4 4, .int .u64 (vol : Int), .int .i64 4] (w2.alloc (.cells #[.int .u8 (fr : Int), .int .u8 (tt : Int), .int .u8 (kd : Int), .int .u8 (cd : Int)] 5)) fun e w' => ∃ g' c', e = .returned (.tuple #[.slice (some ⟨g', 0, none⟩) 8 c', .nilIface]) ∧ w'.ownsRow (w2.alloc (.cells #[.int .u8 (fr : Int), .int .u8 (tt : Int), .int .u8 (kd : Int), .int .u8 (cd : Int)] 5)).heap.size 5 1 (.slice (some ⟨g', 0, none⟩) 8 c') 8 (([BitVec.ofNat 8 fr, BitVec.ofNat 8 tt, BitVec.ofNat 8 kd, BitVec.ofNat 8 cd] ++ Num.le vol 4).map bv) ∧ Below (w2.alloc (.cells #[.int .u8 (fr : Int), .int .u8 (tt : Int), .int .u8 (kd : Int), .int .u8 (cd : Int)] 5)).heap.size (w2.alloc (.cells #[.int .u8 (fr : Int), .int .u8 (tt : Int), .int .u8 (kd : Int), .int .u8 (cd : Int)] 5)) w' from
    put_ok (some ⟨w2.heap.size, 0, none⟩) 4 4 [BitVec.ofNat 8 fr, BitVec.ofNat 8 tt, BitVec.ofNat 8 kd, BitVec.ofNat 8 cd] vol 4 _ (blk_bytes [BitVec.ofNat 8 fr, BitVec.ofNat 8 tt, BitVec.ofNat 8 kd, BitVec.ofNat 8 cd] hb4 HL4.out hb4.lt rfl) (by decide) (fun e => by cases e) rfl f1)
  have HW2 := Lib.hid (show w2.heap.size ≤ (w2.alloc (.cells #[.int .u8 (fr : Int), .int .u8 (tt : Int), .int .u8 (kd : Int), .int .u8 (cd : Int)] 5)).heap.size from BW.out.size)
  clear hb4
  go_upto_region 10 with fail
  try simp only [HU.out.1, HU.out.2.1, HU.out.2.2.1, HU.out.2.2.2.1]
  generalize (w2.alloc (.cells #[.int .u8 (fr : Int), .int .u8 (tt : Int), .int .u8 (kd : Int), .int .u8 (cd : Int)] 5)) = W3 at *
  clear k0 k1 k2 k3 k4 k5 k6 k7 k8 k9 k10 k11
  have hk0 := HKS.out
  obtain ⟨k0, k1, k2, k3, k4, k5, k6, k7, k8, k9, k10, k11⟩ := hk0.twelve
  clear hk0
  go_wp2_with fail
  refine P1.out.mono ?_
  rintro e w4 ⟨b4, c4, rfl, ho4, B4⟩
  have HB4 := Lib.hid (BW.out.trans (B4.mono BW.out.size))
  have hk0 := HKS.out.below B4 HKS.out.lt
  clear k0 k1 k2 k3 k4 k5 k6 k7 k8 k9 k10 k11
  obtain ⟨k0, k1, k2, k3, k4, k5, k6, k7, k8, k9, k10, k11⟩ := hk0.twelve
  have HK4 := Lib.hid hk0
  have P2 := Lib.hid (show Calls Try.prog 48 #[.slice (some ⟨b4, 0, none⟩) 8 c4, .int .u64 (life : Int), .int .i64 4] w4 fun e w' => ∃ g' c', e = .returned (.tuple #[.slice (some ⟨g', 0, none⟩) 12 c', .nilIface]) ∧ w'.ownsRow w4.heap.size 5 1 (.slice (some ⟨g', 0, none⟩) 12 c') 12 (([BitVec.ofNat 8 fr, BitVec.ofNat 8 tt, BitVec.ofNat 8 kd, BitVec.ofNat 8 cd] ++ Num.le vol 4 ++ Num.le life 4).map bv) ∧ Below w4.heap.size w4 w' from
    put_row life 4 12 w4 ho4 (by decide) rfl f2 rfl)
  clear hk0 HKS B4 ho4 P1
  go_wp2_with fail
  refine P2.out.mono ?_
  rintro e w5 ⟨b5, c5, rfl, ho5, B5⟩
  have HB5 := Lib.hid (HB4.out.trans (B5.mono HB4.out.size))
  have hk0 := HK4.out.below B5 HK4.out.lt
  clear k0 k1 k2 k3 k4 k5 k6 k7 k8 k9 k10 k11
  obtain ⟨k0, k1, k2, k3, k4, k5, k6, k7, k8, k9, k10, k11⟩ := hk0.twelve
  have HK5 := Lib.hid hk0
  have P3 := Lib.hid (show Calls Try.prog 48 #[.slice (some ⟨b5, 0, none⟩) 12 c5, .int .u64 (id : Int), .int .i64 8] w5 fun e w' => ∃ g' c', e = .returned (.tuple #[.slice (some ⟨g', 0, none⟩) 20 c', .nilIface]) ∧ w'.ownsRow w5.heap.size 5 1 (.slice (some ⟨g', 0, none⟩) 20 c') 20 (([BitVec.ofNat 8 fr, BitVec.ofNat 8 tt, BitVec.ofNat 8 kd, BitVec.ofNat 8 cd] ++ Num.le vol 4 ++ Num.le life 4 ++ Num.le id 8).map bv) ∧ Below w5.heap.size w5 w' from
    put_row id 8 20 w5 ho5 (by decide) rfl hid rfl)
  clear hk0 HK4 B5 ho5 P2
  go_wp2_with fail
  refine P3.out.mono ?_
  rintro e w6 ⟨b6, c6, rfl, ho6, B6⟩
  have HB6 := Lib.hid (HB5.out.trans (B6.mono HB5.out.size))
  clear k0 k1 k2 k3 k4 k5 k6 k7 k8 k9 k10 k11 HK5
  have P4 := Lib.hid (show Calls Try.prog 48 #[.slice (some ⟨b6, 0, none⟩) 20 c6, .int .u64 1, .int .i64 4] w6 fun e w' => ∃ g' c', e = .returned (.tuple #[.slice (some ⟨g', 0, none⟩) 24 c', .nilIface]) ∧ w'.ownsRow w6.heap.size 5 1 (.slice (some ⟨g', 0, none⟩) 24 c') 24 (([BitVec.ofNat 8 fr, BitVec.ofNat 8 tt, BitVec.ofNat 8 kd, BitVec.ofNat 8 cd] ++ Num.le vol 4 ++ Num.le life 4 ++ Num.le id 8 ++ Num.le 1 4).map bv) ∧ Below w6.heap.size w6 w' from
    put_row 1 4 24 w6 ho6 (by decide) rfl (by decide) rfl)
  clear B6 ho6 P3
  go_wp2_with fail
  refine P4.out.mono ?_
  rintro e w7 ⟨b7, c7, rfl, ho7, B7⟩
  have HB7 := Lib.hid (HB6.out.trans (B7.mono HB6.out.size))
  clear P4
  obtain ⟨b8, c8, W8, hr8, ho8, hg8, -⟩ := append_bytes ho7 c1 (HNB.out _ HB7.out) (fun e => by cases e) (by have := hn4; unfold padn; omega) B7.size
  have HB8 := Lib.hid (HB7.out.grown hg8 HB7.out.size (fun k e => by injection e with e; have := (ho7.lt b7 rfl).1; have := HB6.out.size; omega))
  rw [← List.map_append] at ho8
  have ES := Lib.hid (seal_any (some ⟨b8, 0, none⟩) (24 + (32 + n + padn n)) c8 _ W8 (bsl_own ho8) (by have := hn4; unfold padn; omega))
  have HBF := Lib.hid (HB2.out.trans (HB8.out.mono HB2.out.size))
  clear ho7 ho8 hg8 B7
  go_wp2_with (at_builtin; refine list_run (by rfl) _ _ rfl rfl rfl hr8 ?_; clear hr8)
  refine ES.out.mono ?_
  rintro e w9 ⟨b9, c9, rfl, hc9, ho9, B9⟩
  have HO9 := Lib.hid (row_base ho9 HBF.out.size)
  have HB9 := Lib.hid (HBF.out.trans (B9.mono HBF.out.size))
  clear ho9 B9
  go_wp2_with fail
  go_ret2
  exact ⟨b9, c9, rfl, hc9, HO9.out, HB9.out⟩

set_option maxRecDepth 100000 in
set_option maxHeartbeats 4000000 in
theorem wbytes_false (fr tt kd vol life id cd key ck : Nat) (g : Bool) (a : Option Addr) (n c : Nat) (l : List (BitVec 8)) (w : World) (h : BSl w w.heap.size a n l) (hn : n ≤ 1099511627776) (hid : id < 18446744073709551616) (hkey : key < 18446744073709551616) (hck : ck < 4294967296) (hq : mchk ⟨(fr : Int), (tt : Int), (kd : Int), (vol : Int), (life : Int), id, (cd : Int), false, key, ck, g, a, n, c, l⟩ = 0) :
    Calls Try.prog 18 #[.agg #[.int .i64 (fr : Int), .int .i64 (tt : Int), .int .i64 (kd : Int), .int .i64 (vol : Int), .int .i64 (life : Int), .int .u64 (id : Int), .int .i64 (cd : Int), .bool false, .int .u64 (key : Int), .int .u32 (ck : Int), .bool g, .slice a n c]] w fun e w' => ∃ b cap, e = .returned (.tuple #[.slice (some ⟨b, 0, none⟩) (msLen ⟨(fr : Int), (tt : Int), (kd : Int), (vol : Int), (life : Int), id, (cd : Int), false, key, ck, g, a, n, c, l⟩ + 4) cap, .nilIface]) ∧ msLen ⟨(fr : Int), (tt : Int), (kd : Int), (vol : Int), (life : Int), id, (cd : Int), false, key, ck, g, a, n, c, l⟩ + 4 ≤ cap ∧
      w'.ownsRow w.heap.size 5 1 (.slice (some ⟨b, 0, none⟩) (msLen ⟨(fr : Int), (tt : Int), (kd : Int), (vol : Int), (life : Int), id, (cd : Int), false, key, ck, g, a, n, c, l⟩ + 4) cap) (msLen ⟨(fr : Int), (tt : Int), (kd : Int), (vol : Int), (life : Int), id, (cd : Int), false, key, ck, g, a, n, c, l⟩ + 4) ((msBytes ⟨(fr : Int), (tt : Int), (kd : Int), (vol : Int), (life : Int), id, (cd : Int), false, key, ck, g, a, n, c, l⟩).map bv) ∧ Below w.heap.size w w' := by
  have EC := Lib.hid fun (W : World) (B : Below w.heap.size w W) => wcheck_any ⟨(fr : Int), (tt : Int), (kd : Int), (vol : Int), (life : Int), id, (cd : Int), false, key, ck, g, a, n, c, l⟩ W ((h.below B).more B.size) hn
  rw [hq, show errc 0 = Value.nilIface from rfl] at EC
  unfold MsgR.vals at EC
  dsimp only at EC
  obtain ⟨⟨-, h1⟩, ⟨-, h2⟩, ⟨-, h3⟩, ⟨-, h4⟩, ⟨-, h5⟩, ⟨-, h6⟩, -, h8, -⟩ := mchk_ok hq
  dsimp only at h1 h2 h3 h4 h5 h6 h8
  have hK := Blk.made w 29 #[.int .i64 (fr : Int), .int .i64 (tt : Int), .int .i64 (kd : Int), .int .i64 (vol : Int), .int .i64 (life : Int), .int .u64 (id : Int), .int .i64 (cd : Int), .bool false, .int .u64 (key : Int), .int .u32 (ck : Int), .bool g, .slice a n c]
  have BA := (Below.refl w.heap.size w).alloc (Nat.le_refl _) (.cells #[.int .i64 (fr : Int), .int .i64 (tt : Int), .int .i64 (kd : Int), .int .i64 (vol : Int), .int .i64 (life : Int), .int .u64 (id : Int), .int .i64 (cd : Int), .bool false, .int .u64 (key : Int), .int .u32 (ck : Int), .bool g, .slice a n c] 29)
  have HSB := Lib.hid (show msBytes ⟨(fr : Int), (tt : Int), (kd : Int), (vol : Int), (life : Int), id, (cd : Int), false, key, ck, g, a, n, c, l⟩ = ([BitVec.ofNat 8 fr, BitVec.ofNat 8 tt, BitVec.ofNat 8 kd, BitVec.ofNat 8 cd] ++ Num.le vol 4 ++ Num.le life 4 ++ Num.le id 8 ++ Num.le 0 4) ++ Num.le (Crc.of ([BitVec.ofNat 8 fr, BitVec.ofNat 8 tt, BitVec.ofNat 8 kd, BitVec.ofNat 8 cd] ++ Num.le vol 4 ++ Num.le life 4 ++ Num.le id 8 ++ Num.le 0 4)).toNat 4 from by unfold msBytes msRaw; simp only [Bool.false_eq_true, if_false, List.append_nil]; rfl)
  have HSL := Lib.hid (show msLen ⟨(fr : Int), (tt : Int), (kd : Int), (vol : Int), (life : Int), id, (cd : Int), false, key, ck, g, a, n, c, l⟩ = 24 from rfl)
  have HBL := Lib.hid fun (W : World) (B : Below w.heap.size w W) => (h.below B).more B.size
  have HK := Lib.hid hK
  have HBA := Lib.hid BA
  have HN8 := Lib.hid h8
  have u1 : IntKind.u8.wrap (fr : Int) = fr := IntWalk.u8_in _ (by omega)
  have u2 : IntKind.u8.wrap (tt : Int) = tt := IntWalk.u8_in _ (by omega)
  have u3 : IntKind.u8.wrap (kd : Int) = kd := IntWalk.u8_in _ (by omega)
  have u4 : IntKind.u8.wrap (cd : Int) = cd := IntWalk.u8_in _ (by omega)
  have u5 : IntKind.u64.wrap (vol : Int) = vol := IntWalk.u64_in _ (by omega)
  have u6 : IntKind.u64.wrap (life : Int) = life := IntWalk.u64_in _ (by omega)
  have HU := Lib.hid (And.intro u1 (And.intro u2 (And.intro u3 (And.intro u4 (And.intro u5 u6)))))
  have hl4 : ([.int .u8 (fr : Int), .int .u8 (tt : Int), .int .u8 (kd : Int), .int .u8 (cd : Int)] : List Value) = ([BitVec.ofNat 8 fr, BitVec.ofNat 8 tt, BitVec.ofNat 8 kd, BitVec.ofNat 8 cd] : List (BitVec 8)).map bv := by
    simp only [List.map_cons, List.map_nil, bv_small (show fr ≤ 255 by omega), bv_small (show tt ≤ 255 by omega), bv_small (show kd ≤ 255 by omega), bv_small (show cd ≤ 255 by omega)]
  have HL4 := Lib.hid hl4
  have f1 : vol < 256 ^ 4 := Nat.lt_of_le_of_lt (show vol ≤ 65535 by omega) (by decide)
  have f2 : life < 256 ^ 4 := Nat.lt_of_le_of_lt (show life ≤ 2147483647 by omega) (by decide)
  clear hK BA h hq hl4 h8
  rw [HSL.out, HSB.out]
  clear HSB HSL
  go_enter Try.func18, Try.ntmps18
  go_upto_region 1 with fail
  generalize (w.alloc (.cells #[.int .i64 (fr : Int), .int .i64 (tt : Int), .int .i64 (kd : Int), .int .i64 (vol : Int), .int .i64 (life : Int), .int .u64 (id : Int), .int .i64 (cd : Int), .bool false, .int .u64 (key : Int), .int .u32 (ck : Int), .bool g, .slice a n c] 29)) = W0 at *
  have hk0 := HK.out
  obtain ⟨k0, k1, k2, k3, k4, k5, k6, k7, k8, k9, k10, k11⟩ := hk0.twelve
  clear hk0
  go_wp2_with fail
  refine (EC.out _ HBA.out).mono ?_
  rintro e w1 ⟨rfl, B1⟩
  clear k0 k1 k2 k3 k4 k5 k6 k7 k8 k9 k10 k11
  have HB1 := Lib.hid (HBA.out.trans (B1.mono HBA.out.size))
  have hk0 := HK.out.below B1 HK.out.lt
  obtain ⟨k0, k1, k2, k3, k4, k5, k6, k7, k8, k9, k10, k11⟩ := hk0.twelve
  have HK1 := Lib.hid hk0
  clear hk0 EC HK B1
  clear HN8
  have HB2 := HB1
  have HK2 := HK1
  have BW := Lib.hid ((Below.refl w1.heap.size w1).alloc (Nat.le_refl _) (.cells #[.int .u8 (fr : Int), .int .u8 (tt : Int), .int .u8 (kd : Int), .int .u8 (cd : Int)] 5))
  have HKS := Lib.hid (HK2.out.alloc (.cells #[.int .u8 (fr : Int), .int .u8 (tt : Int), .int .u8 (kd : Int), .int .u8 (cd : Int)] 5))
  have hb4 := Blk.made w1 5 #[.int .u8 (fr : Int), .int .u8 (tt : Int), .int .u8 (kd : Int), .int .u8 (cd : Int)]
  have P1 := Lib.hid (show Calls Try.prog 48 #[.slice (some ⟨w1.heap.size, 0, none⟩) 4 4, .int .u64 (vol : Int), .int .i64 4] (w1.alloc (.cells #[.int .u8 (fr : Int), .int .u8 (tt : Int), .int .u8 (kd : Int), .int .u8 (cd : Int)] 5)) fun e w' => ∃ g' c', e = .returned (.tuple #[.slice (some ⟨g', 0, none⟩) 8 c', .nilIface]) ∧ w'.ownsRow (w1.alloc (.cells #[.int .u8 (fr : Int), .int .u8 (tt : Int), .int .u8 (kd : Int), .int .u8 (cd : Int)] 5)).heap.size 5 1 (.slice (some ⟨g', 0, none⟩) 8 c') 8 (([BitVec.ofNat 8 fr, BitVec.ofNat 8 tt, BitVec.ofNat 8 kd, BitVec.ofNat 8 cd] ++ Num.le vol 4).map bv) ∧ Below (w1.alloc (.cells #[.int .u8 (fr : Int), .int .u8 (tt : Int), .int .u8 (kd : Int), .int .u8 (cd : Int)] 5)).heap.size (w1.alloc (.cells #[.int .u8 (fr : Int), .int .u8 (tt : Int), .int .u8 (kd : Int), .int .u8 (cd : Int)] 5)) w' from
    put_ok (some ⟨w1.heap.size, 0, none⟩) 4 4 [BitVec.ofNat 8 fr, BitVec.ofNat 8 tt, BitVec.ofNat 8 kd, BitVec.ofNat 8 cd] vol 4 _ (blk_bytes [BitVec.ofNat 8 fr, BitVec.ofNat 8 tt, BitVec.ofNat 8 kd, BitVec.ofNat 8 cd] hb4 HL4.out hb4.lt rfl) (by decide) (fun e => by cases e) rfl f1)
  have HW2 := Lib.hid (show w1.heap.size ≤ (w1.alloc (.cells #[.int .u8 (fr : Int), .int .u8 (tt : Int), .int .u8 (kd : Int), .int .u8 (cd : Int)] 5)).heap.size from BW.out.size)
  clear hb4
  go_upto_region 10 with fail
  try simp only [HU.out.1, HU.out.2.1, HU.out.2.2.1, HU.out.2.2.2.1]
  generalize (w1.alloc (.cells #[.int .u8 (fr : Int), .int .u8 (tt : Int), .int .u8 (kd : Int), .int .u8 (cd : Int)] 5)) = W3 at *
  clear k0 k1 k2 k3 k4 k5 k6 k7 k8 k9 k10 k11
  have hk0 := HKS.out
  obtain ⟨k0, k1, k2, k3, k4, k5, k6, k7, k8, k9, k10, k11⟩ := hk0.twelve
  clear hk0
  go_wp2_with fail
  refine P1.out.mono ?_
  rintro e w4 ⟨b4, c4, rfl, ho4, B4⟩
  have HB4 := Lib.hid (BW.out.trans (B4.mono BW.out.size))
  have hk0 := HKS.out.below B4 HKS.out.lt
  clear k0 k1 k2 k3 k4 k5 k6 k7 k8 k9 k10 k11
  obtain ⟨k0, k1, k2, k3, k4, k5, k6, k7, k8, k9, k10, k11⟩ := hk0.twelve
  have HK4 := Lib.hid hk0
  have P2 := Lib.hid (show Calls Try.prog 48 #[.slice (some ⟨b4, 0, none⟩) 8 c4, .int .u64 (life : Int), .int .i64 4] w4 fun e w' => ∃ g' c', e = .returned (.tuple #[.slice (some ⟨g', 0, none⟩) 12 c', .nilIface]) ∧ w'.ownsRow w4.heap.size 5 1 (.slice (some ⟨g', 0, none⟩) 12 c') 12 (([BitVec.ofNat 8 fr, BitVec.ofNat 8 tt, BitVec.ofNat 8 kd, BitVec.ofNat 8 cd] ++ Num.le vol 4 ++ Num.le life 4).map bv) ∧ Below w4.heap.size w4 w' from
    put_row life 4 12 w4 ho4 (by decide) rfl f2 rfl)
  clear hk0 HKS B4 ho4 P1
  go_wp2_with fail
  refine P2.out.mono ?_
  rintro e w5 ⟨b5, c5, rfl, ho5, B5⟩
  have HB5 := Lib.hid (HB4.out.trans (B5.mono HB4.out.size))
  have hk0 := HK4.out.below B5 HK4.out.lt
  clear k0 k1 k2 k3 k4 k5 k6 k7 k8 k9 k10 k11
  obtain ⟨k0, k1, k2, k3, k4, k5, k6, k7, k8, k9, k10, k11⟩ := hk0.twelve
  have HK5 := Lib.hid hk0
  have P3 := Lib.hid (show Calls Try.prog 48 #[.slice (some ⟨b5, 0, none⟩) 12 c5, .int .u64 (id : Int), .int .i64 8] w5 fun e w' => ∃ g' c', e = .returned (.tuple #[.slice (some ⟨g', 0, none⟩) 20 c', .nilIface]) ∧ w'.ownsRow w5.heap.size 5 1 (.slice (some ⟨g', 0, none⟩) 20 c') 20 (([BitVec.ofNat 8 fr, BitVec.ofNat 8 tt, BitVec.ofNat 8 kd, BitVec.ofNat 8 cd] ++ Num.le vol 4 ++ Num.le life 4 ++ Num.le id 8).map bv) ∧ Below w5.heap.size w5 w' from
    put_row id 8 20 w5 ho5 (by decide) rfl hid rfl)
  clear hk0 HK4 B5 ho5 P2
  go_wp2_with fail
  refine P3.out.mono ?_
  rintro e w6 ⟨b6, c6, rfl, ho6, B6⟩
  have HB6 := Lib.hid (HB5.out.trans (B6.mono HB5.out.size))
  clear k0 k1 k2 k3 k4 k5 k6 k7 k8 k9 k10 k11 HK5
  have P4 := Lib.hid (show Calls Try.prog 48 #[.slice (some ⟨b6, 0, none⟩) 20 c6, .int .u64 0, .int .i64 4] w6 fun e w' => ∃ g' c', e = .returned (.tuple #[.slice (some ⟨g', 0, none⟩) 24 c', .nilIface]) ∧ w'.ownsRow w6.heap.size 5 1 (.slice (some ⟨g', 0, none⟩) 24 c') 24 (([BitVec.ofNat 8 fr, BitVec.ofNat 8 tt, BitVec.ofNat 8 kd, BitVec.ofNat 8 cd] ++ Num.le vol 4 ++ Num.le life 4 ++ Num.le id 8 ++ Num.le 0 4).map bv) ∧ Below w6.heap.size w6 w' from
    put_row 0 4 24 w6 ho6 (by decide) rfl (by decide) rfl)
  clear B6 ho6 P3
  go_wp2_with fail
  refine P4.out.mono ?_
  rintro e w7 ⟨b7, c7, rfl, ho7, B7⟩
  have HB7 := Lib.hid (HB6.out.trans (B7.mono HB6.out.size))
  clear P4
  have hr8 := append_nil_run (c := 0) ho7
  have ES := Lib.hid (seal_any (some ⟨b7, 0, none⟩) 24 c7 _ w7 (bsl_own ho7) (by decide))
  have HBF := Lib.hid (HB2.out.trans (HB7.out.mono HB2.out.size))
  clear ho7 B7
  go_wp2_with (at_builtin; refine list_run (by rfl) _ _ rfl rfl rfl hr8 ?_; clear hr8)
  refine ES.out.mono ?_
  rintro e w9 ⟨b9, c9, rfl, hc9, ho9, B9⟩
  have HO9 := Lib.hid (row_base ho9 HBF.out.size)
  have HB9 := Lib.hid (HBF.out.trans (B9.mono HBF.out.size))
  clear ho9 B9
  go_wp2_with fail
  go_ret2
  exact ⟨b9, c9, rfl, hc9, HO9.out, HB9.out⟩

/-- wire.Bytes of a message that may be. -/
theorem wbytes_ok (m : MsgR) (w : World) (h : BSl w w.heap.size m.a m.n m.l) (hn : m.n ≤ 1099511627776) (hi : m.id < 18446744073709551616) (hk : m.key < 18446744073709551616) (hck : m.ck < 4294967296) (hq : mchk m = 0) :
    Calls Try.prog 18 #[m.vals] w fun e w' => ∃ b cap, e = .returned (.tuple #[.slice (some ⟨b, 0, none⟩) (msLen m + 4) cap, .nilIface]) ∧ msLen m + 4 ≤ cap ∧
      w'.ownsRow w.heap.size 5 1 (.slice (some ⟨b, 0, none⟩) (msLen m + 4) cap) (msLen m + 4) ((msBytes m).map bv) ∧ Below w.heap.size w w' := by
  obtain ⟨⟨a1, -⟩, ⟨a2, -⟩, ⟨a3, -⟩, ⟨a4, -⟩, ⟨a5, -⟩, ⟨a6, -⟩, -⟩ := mchk_ok hq
  obtain ⟨fr, tt, kd, vol, life, id, cd, has, key, ck, g, a, n, c, l⟩ := m
  dsimp only at *
  obtain ⟨fr, rfl⟩ := Int.eq_ofNat_of_zero_le a1
  obtain ⟨tt, rfl⟩ := Int.eq_ofNat_of_zero_le a2
  obtain ⟨vol, rfl⟩ := Int.eq_ofNat_of_zero_le (show 0 ≤ vol by omega)
  obtain ⟨life, rfl⟩ := Int.eq_ofNat_of_zero_le a4
  obtain ⟨kd, rfl⟩ := Int.eq_ofNat_of_zero_le (show 0 ≤ kd by omega)
  obtain ⟨cd, rfl⟩ := Int.eq_ofNat_of_zero_le a6
  cases has
  · exact wbytes_false fr tt kd vol life id cd key ck g a n c l w h hn hi hk hck hq
  · exact wbytes_true fr tt kd vol life id cd key ck g a n c l w h hn hi hk hck hq
end Go.Proofs.Ytpkfjnhjcdcoaaa
