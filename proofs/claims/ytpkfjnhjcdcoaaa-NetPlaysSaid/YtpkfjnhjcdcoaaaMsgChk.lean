/-
  Messages: wire.Check and the document's Check.
-/
import Derived.Test.YtpkfjnhjcdcoaaaMsg
namespace Go.Proofs.Ytpkfjnhjcdcoaaa
open Go.RowKit

theorem sm_t {n : Int} (h : n = 0) : smB n = true := by subst h; decide

set_option maxRecDepth 100000 in
set_option maxHeartbeats 8000000 in
theorem wcheck_any (m : MsgR) (w : World) (h : BSl w w.heap.size m.a m.n m.l) (hn : m.n ≤ 1099511627776) :
    Calls Try.prog 40 #[m.vals] w fun e w' => e = .returned (errc (mchk m)) ∧ Below w.heap.size w w' := by
  have HN := Lib.hid fun (e : ¬ (smB m.fr = true ∧ smB m.tt = true ∧ 1 ≤ m.vol ∧ m.vol ≤ 65535 ∧ 0 ≤ m.life ∧ m.life ≤ 2147483647 ∧ 1 ≤ m.kd ∧ m.kd ≤ 5 ∧ (m.kd < 5 → m.cd = 0) ∧ smB m.cd = true)) => (show mchk m = 1 from by unfold mchk; rw [if_neg e])
  have HY := Lib.hid fun (e : smB m.fr = true ∧ smB m.tt = true ∧ 1 ≤ m.vol ∧ m.vol ≤ 65535 ∧ 0 ≤ m.life ∧ m.life ≤ 2147483647 ∧ 1 ≤ m.kd ∧ m.kd ≤ 5 ∧ (m.kd < 5 → m.cd = 0) ∧ smB m.cd = true) => (show mchk m = if m.has = true then chk m.g m.n else if ndSame m.key m.ck m.g m.l 0 0 false [] = true then 0 else 1 from by unfold mchk; rw [if_pos e])
  obtain ⟨fr, tt, kd, vol, life, id, cd, has, key, ck, g, a, n, c, l⟩ := m
  generalize mchk ⟨fr, tt, kd, vol, life, id, cd, has, key, ck, g, a, n, c, l⟩ = q at *
  unfold MsgR.vals
  dsimp only at *
  have BA := (Below.refl w.heap.size w).alloc (Nat.le_refl _) (.cells #[.int .i64 fr, .int .i64 tt, .int .i64 kd, .int .i64 vol, .int .i64 life, .int .u64 id, .int .i64 cd, .bool has, .int .u64 key, .int .u32 ck, .bool g, .slice a n c] 29)
  have hK := Blk.made w 29 #[.int .i64 fr, .int .i64 tt, .int .i64 kd, .int .i64 vol, .int .i64 life, .int .u64 id, .int .i64 cd, .bool has, .int .u64 key, .int .u32 ck, .bool g, .slice a n c]
  have E := Lib.hid (needle_same key ck g a n c l 0 0 false none 0 0 [] _ ((h.below BA).more BA.size) (BSl.nil _ _ none))
  have E3 := Lib.hid (needle_check key ck g a n c (w.alloc (.cells #[.int .i64 fr, .int .i64 tt, .int .i64 kd, .int .i64 vol, .int .i64 life, .int .u64 id, .int .i64 cd, .bool has, .int .u64 key, .int .u32 ck, .bool g, .slice a n c] 29)) (by omega))
  have HB := Lib.hid BA
  clear h hn BA

  cases efr : smB fr
  · skip
    have HR := Lib.hid (HN.out (fun q => absurd (efr.symm.trans q.1) (by decide)))
    clear HN HY E E3
    go_enter Try.func40, Try.ntmps40
    go_wp2_with fail
    refine (small_any _ _).mono ?_
    rintro e w1 ⟨rfl, rfl⟩
    go_wp2_with fail
    go_ret
    exact ⟨by rw [HR.out]; rfl, HB.out⟩
  cases ett : smB tt
  · skip
    have HR := Lib.hid (HN.out (fun q => absurd (ett.symm.trans q.2.1) (by decide)))
    clear HN HY E E3
    go_enter Try.func40, Try.ntmps40
    go_wp2_with fail
    refine (small_any _ _).mono ?_
    rintro e w1 ⟨rfl, rfl⟩
    go_wp2_with fail
    refine (small_any _ _).mono ?_
    rintro e w1 ⟨rfl, rfl⟩
    go_wp2_with fail
    go_ret
    exact ⟨by rw [HR.out]; rfl, HB.out⟩
  by_cases evol1 : 1 ≤ vol
  rotate_left
  · skip
    have HR := Lib.hid (HN.out (fun q => evol1 q.2.2.1))
    clear HN HY E E3
    go_enter Try.func40, Try.ntmps40
    go_wp2_with fail
    refine (small_any _ _).mono ?_
    rintro e w1 ⟨rfl, rfl⟩
    go_wp2_with fail
    refine (small_any _ _).mono ?_
    rintro e w1 ⟨rfl, rfl⟩
    go_wp2_with fail
    go_ret
    exact ⟨by rw [HR.out]; rfl, HB.out⟩
  by_cases evol2 : vol ≤ 65535
  rotate_left
  · skip
    have HR := Lib.hid (HN.out (fun q => evol2 q.2.2.2.1))
    clear HN HY E E3
    go_enter Try.func40, Try.ntmps40
    go_wp2_with fail
    refine (small_any _ _).mono ?_
    rintro e w1 ⟨rfl, rfl⟩
    go_wp2_with fail
    refine (small_any _ _).mono ?_
    rintro e w1 ⟨rfl, rfl⟩
    go_wp2_with fail
    go_ret
    exact ⟨by rw [HR.out]; rfl, HB.out⟩
  by_cases elife1 : 0 ≤ life
  rotate_left
  · skip
    have HR := Lib.hid (HN.out (fun q => elife1 q.2.2.2.2.1))
    clear HN HY E E3
    go_enter Try.func40, Try.ntmps40
    go_wp2_with fail
    refine (small_any _ _).mono ?_
    rintro e w1 ⟨rfl, rfl⟩
    go_wp2_with fail
    refine (small_any _ _).mono ?_
    rintro e w1 ⟨rfl, rfl⟩
    go_wp2_with fail
    go_ret
    exact ⟨by rw [HR.out]; rfl, HB.out⟩
  by_cases elife2 : life ≤ 2147483647
  rotate_left
  · skip
    have HR := Lib.hid (HN.out (fun q => elife2 q.2.2.2.2.2.1))
    clear HN HY E E3
    go_enter Try.func40, Try.ntmps40
    go_wp2_with fail
    refine (small_any _ _).mono ?_
    rintro e w1 ⟨rfl, rfl⟩
    go_wp2_with fail
    refine (small_any _ _).mono ?_
    rintro e w1 ⟨rfl, rfl⟩
    go_wp2_with fail
    go_ret
    exact ⟨by rw [HR.out]; rfl, HB.out⟩
  by_cases k1 : kd = 1
  · subst k1
    by_cases ecd0 : cd = 0
    rotate_left
    · skip
      have HR := Lib.hid (HN.out (fun q => ecd0 (q.2.2.2.2.2.2.2.2.1 (by decide))))
      clear HN HY E E3
      go_enter Try.func40, Try.ntmps40
      go_wp2_with fail
      refine (small_any _ _).mono ?_
      rintro e w1 ⟨rfl, rfl⟩
      go_wp2_with fail
      refine (small_any _ _).mono ?_
      rintro e w1 ⟨rfl, rfl⟩
      go_wp2_with fail
      go_ret
      exact ⟨by rw [HR.out]; rfl, HB.out⟩
    subst ecd0
    have ecds : smB 0 = true := by decide
    have HQ := Lib.hid (HY.out ⟨efr, ett, evol1, evol2, elife1, elife2, by decide, by decide, fun _ => rfl, ecds⟩)
    clear HN HY
    cases has
    · cases es : ndSame key ck g l 0 0 false []
      · rw [es] at E
        have HR := Lib.hid (show q = 1 from by rw [HQ.out, es]; rfl)
        clear HQ es E3
        go_enter Try.func40, Try.ntmps40
        go_wp2_with fail
        refine (small_any _ _).mono ?_
        rintro e w1 ⟨rfl, rfl⟩
        go_wp2_with fail
        refine (small_any _ _).mono ?_
        rintro e w1 ⟨rfl, rfl⟩
        go_wp2_with fail
        refine (small_any _ _).mono ?_
        rintro e w1 ⟨rfl, rfl⟩
        go_wp2_with fail
        refine E.out.mono ?_
        rintro e w1 ⟨rfl, B1⟩
        have HE := Lib.hid (HB.out.trans (B1.mono HB.out.size))
        clear B1
        go_wp2_with fail
        go_ret
        exact ⟨by rw [HR.out]; rfl, HE.out⟩
      · rw [es] at E
        have HR := Lib.hid (show q = 0 from by rw [HQ.out, es]; rfl)
        clear HQ es E3
        go_enter Try.func40, Try.ntmps40
        go_wp2_with fail
        refine (small_any _ _).mono ?_
        rintro e w1 ⟨rfl, rfl⟩
        go_wp2_with fail
        refine (small_any _ _).mono ?_
        rintro e w1 ⟨rfl, rfl⟩
        go_wp2_with fail
        refine (small_any _ _).mono ?_
        rintro e w1 ⟨rfl, rfl⟩
        go_wp2_with fail
        refine E.out.mono ?_
        rintro e w1 ⟨rfl, B1⟩
        have HE := Lib.hid (HB.out.trans (B1.mono HB.out.size))
        clear B1
        go_wp2_with fail
        go_ret
        exact ⟨by rw [HR.out]; rfl, HE.out⟩
    · have HR := Lib.hid (show q = chk g n from by rw [HQ.out]; rfl)
      clear HQ E
      go_enter Try.func40, Try.ntmps40
      go_wp2_with fail
      refine (small_any _ _).mono ?_
      rintro e w1 ⟨rfl, rfl⟩
      go_wp2_with fail
      refine (small_any _ _).mono ?_
      rintro e w1 ⟨rfl, rfl⟩
      go_wp2_with fail
      refine (small_any _ _).mono ?_
      rintro e w1 ⟨rfl, rfl⟩
      go_wp2_with fail
      refine E3.out.mono ?_
      rintro e w1 ⟨rfl, B1⟩
      have HE := Lib.hid (HB.out.trans (B1.mono HB.out.size))
      clear B1
      go_wp2_with fail
      go_ret
      exact ⟨by rw [HR.out]; rfl, HE.out⟩
  by_cases k2 : kd = 2
  · subst k2
    by_cases ecd0 : cd = 0
    rotate_left
    · skip
      have HR := Lib.hid (HN.out (fun q => ecd0 (q.2.2.2.2.2.2.2.2.1 (by decide))))
      clear HN HY E E3
      go_enter Try.func40, Try.ntmps40
      go_wp2_with fail
      refine (small_any _ _).mono ?_
      rintro e w1 ⟨rfl, rfl⟩
      go_wp2_with fail
      refine (small_any _ _).mono ?_
      rintro e w1 ⟨rfl, rfl⟩
      go_wp2_with fail
      go_ret
      exact ⟨by rw [HR.out]; rfl, HB.out⟩
    subst ecd0
    have ecds : smB 0 = true := by decide
    have HQ := Lib.hid (HY.out ⟨efr, ett, evol1, evol2, elife1, elife2, by decide, by decide, fun _ => rfl, ecds⟩)
    clear HN HY
    cases has
    · cases es : ndSame key ck g l 0 0 false []
      · rw [es] at E
        have HR := Lib.hid (show q = 1 from by rw [HQ.out, es]; rfl)
        clear HQ es E3
        go_enter Try.func40, Try.ntmps40
        go_wp2_with fail
        refine (small_any _ _).mono ?_
        rintro e w1 ⟨rfl, rfl⟩
        go_wp2_with fail
        refine (small_any _ _).mono ?_
        rintro e w1 ⟨rfl, rfl⟩
        go_wp2_with fail
        refine (small_any _ _).mono ?_
        rintro e w1 ⟨rfl, rfl⟩
        go_wp2_with fail
        refine E.out.mono ?_
        rintro e w1 ⟨rfl, B1⟩
        have HE := Lib.hid (HB.out.trans (B1.mono HB.out.size))
        clear B1
        go_wp2_with fail
        go_ret
        exact ⟨by rw [HR.out]; rfl, HE.out⟩
      · rw [es] at E
        have HR := Lib.hid (show q = 0 from by rw [HQ.out, es]; rfl)
        clear HQ es E3
        go_enter Try.func40, Try.ntmps40
        go_wp2_with fail
        refine (small_any _ _).mono ?_
        rintro e w1 ⟨rfl, rfl⟩
        go_wp2_with fail
        refine (small_any _ _).mono ?_
        rintro e w1 ⟨rfl, rfl⟩
        go_wp2_with fail
        refine (small_any _ _).mono ?_
        rintro e w1 ⟨rfl, rfl⟩
        go_wp2_with fail
        refine E.out.mono ?_
        rintro e w1 ⟨rfl, B1⟩
        have HE := Lib.hid (HB.out.trans (B1.mono HB.out.size))
        clear B1
        go_wp2_with fail
        go_ret
        exact ⟨by rw [HR.out]; rfl, HE.out⟩
    · have HR := Lib.hid (show q = chk g n from by rw [HQ.out]; rfl)
      clear HQ E
      go_enter Try.func40, Try.ntmps40
      go_wp2_with fail
      refine (small_any _ _).mono ?_
      rintro e w1 ⟨rfl, rfl⟩
      go_wp2_with fail
      refine (small_any _ _).mono ?_
      rintro e w1 ⟨rfl, rfl⟩
      go_wp2_with fail
      refine (small_any _ _).mono ?_
      rintro e w1 ⟨rfl, rfl⟩
      go_wp2_with fail
      refine E3.out.mono ?_
      rintro e w1 ⟨rfl, B1⟩
      have HE := Lib.hid (HB.out.trans (B1.mono HB.out.size))
      clear B1
      go_wp2_with fail
      go_ret
      exact ⟨by rw [HR.out]; rfl, HE.out⟩
  by_cases k3 : kd = 3
  · subst k3
    by_cases ecd0 : cd = 0
    rotate_left
    · skip
      have HR := Lib.hid (HN.out (fun q => ecd0 (q.2.2.2.2.2.2.2.2.1 (by decide))))
      clear HN HY E E3
      go_enter Try.func40, Try.ntmps40
      go_wp2_with fail
      refine (small_any _ _).mono ?_
      rintro e w1 ⟨rfl, rfl⟩
      go_wp2_with fail
      refine (small_any _ _).mono ?_
      rintro e w1 ⟨rfl, rfl⟩
      go_wp2_with fail
      go_ret
      exact ⟨by rw [HR.out]; rfl, HB.out⟩
    subst ecd0
    have ecds : smB 0 = true := by decide
    have HQ := Lib.hid (HY.out ⟨efr, ett, evol1, evol2, elife1, elife2, by decide, by decide, fun _ => rfl, ecds⟩)
    clear HN HY
    cases has
    · cases es : ndSame key ck g l 0 0 false []
      · rw [es] at E
        have HR := Lib.hid (show q = 1 from by rw [HQ.out, es]; rfl)
        clear HQ es E3
        go_enter Try.func40, Try.ntmps40
        go_wp2_with fail
        refine (small_any _ _).mono ?_
        rintro e w1 ⟨rfl, rfl⟩
        go_wp2_with fail
        refine (small_any _ _).mono ?_
        rintro e w1 ⟨rfl, rfl⟩
        go_wp2_with fail
        refine (small_any _ _).mono ?_
        rintro e w1 ⟨rfl, rfl⟩
        go_wp2_with fail
        refine E.out.mono ?_
        rintro e w1 ⟨rfl, B1⟩
        have HE := Lib.hid (HB.out.trans (B1.mono HB.out.size))
        clear B1
        go_wp2_with fail
        go_ret
        exact ⟨by rw [HR.out]; rfl, HE.out⟩
      · rw [es] at E
        have HR := Lib.hid (show q = 0 from by rw [HQ.out, es]; rfl)
        clear HQ es E3
        go_enter Try.func40, Try.ntmps40
        go_wp2_with fail
        refine (small_any _ _).mono ?_
        rintro e w1 ⟨rfl, rfl⟩
        go_wp2_with fail
        refine (small_any _ _).mono ?_
        rintro e w1 ⟨rfl, rfl⟩
        go_wp2_with fail
        refine (small_any _ _).mono ?_
        rintro e w1 ⟨rfl, rfl⟩
        go_wp2_with fail
        refine E.out.mono ?_
        rintro e w1 ⟨rfl, B1⟩
        have HE := Lib.hid (HB.out.trans (B1.mono HB.out.size))
        clear B1
        go_wp2_with fail
        go_ret
        exact ⟨by rw [HR.out]; rfl, HE.out⟩
    · have HR := Lib.hid (show q = chk g n from by rw [HQ.out]; rfl)
      clear HQ E
      go_enter Try.func40, Try.ntmps40
      go_wp2_with fail
      refine (small_any _ _).mono ?_
      rintro e w1 ⟨rfl, rfl⟩
      go_wp2_with fail
      refine (small_any _ _).mono ?_
      rintro e w1 ⟨rfl, rfl⟩
      go_wp2_with fail
      refine (small_any _ _).mono ?_
      rintro e w1 ⟨rfl, rfl⟩
      go_wp2_with fail
      refine E3.out.mono ?_
      rintro e w1 ⟨rfl, B1⟩
      have HE := Lib.hid (HB.out.trans (B1.mono HB.out.size))
      clear B1
      go_wp2_with fail
      go_ret
      exact ⟨by rw [HR.out]; rfl, HE.out⟩
  by_cases k4 : kd = 4
  · subst k4
    by_cases ecd0 : cd = 0
    rotate_left
    · skip
      have HR := Lib.hid (HN.out (fun q => ecd0 (q.2.2.2.2.2.2.2.2.1 (by decide))))
      clear HN HY E E3
      go_enter Try.func40, Try.ntmps40
      go_wp2_with fail
      refine (small_any _ _).mono ?_
      rintro e w1 ⟨rfl, rfl⟩
      go_wp2_with fail
      refine (small_any _ _).mono ?_
      rintro e w1 ⟨rfl, rfl⟩
      go_wp2_with fail
      go_ret
      exact ⟨by rw [HR.out]; rfl, HB.out⟩
    subst ecd0
    have ecds : smB 0 = true := by decide
    have HQ := Lib.hid (HY.out ⟨efr, ett, evol1, evol2, elife1, elife2, by decide, by decide, fun _ => rfl, ecds⟩)
    clear HN HY
    cases has
    · cases es : ndSame key ck g l 0 0 false []
      · rw [es] at E
        have HR := Lib.hid (show q = 1 from by rw [HQ.out, es]; rfl)
        clear HQ es E3
        go_enter Try.func40, Try.ntmps40
        go_wp2_with fail
        refine (small_any _ _).mono ?_
        rintro e w1 ⟨rfl, rfl⟩
        go_wp2_with fail
        refine (small_any _ _).mono ?_
        rintro e w1 ⟨rfl, rfl⟩
        go_wp2_with fail
        refine (small_any _ _).mono ?_
        rintro e w1 ⟨rfl, rfl⟩
        go_wp2_with fail
        refine E.out.mono ?_
        rintro e w1 ⟨rfl, B1⟩
        have HE := Lib.hid (HB.out.trans (B1.mono HB.out.size))
        clear B1
        go_wp2_with fail
        go_ret
        exact ⟨by rw [HR.out]; rfl, HE.out⟩
      · rw [es] at E
        have HR := Lib.hid (show q = 0 from by rw [HQ.out, es]; rfl)
        clear HQ es E3
        go_enter Try.func40, Try.ntmps40
        go_wp2_with fail
        refine (small_any _ _).mono ?_
        rintro e w1 ⟨rfl, rfl⟩
        go_wp2_with fail
        refine (small_any _ _).mono ?_
        rintro e w1 ⟨rfl, rfl⟩
        go_wp2_with fail
        refine (small_any _ _).mono ?_
        rintro e w1 ⟨rfl, rfl⟩
        go_wp2_with fail
        refine E.out.mono ?_
        rintro e w1 ⟨rfl, B1⟩
        have HE := Lib.hid (HB.out.trans (B1.mono HB.out.size))
        clear B1
        go_wp2_with fail
        go_ret
        exact ⟨by rw [HR.out]; rfl, HE.out⟩
    · have HR := Lib.hid (show q = chk g n from by rw [HQ.out]; rfl)
      clear HQ E
      go_enter Try.func40, Try.ntmps40
      go_wp2_with fail
      refine (small_any _ _).mono ?_
      rintro e w1 ⟨rfl, rfl⟩
      go_wp2_with fail
      refine (small_any _ _).mono ?_
      rintro e w1 ⟨rfl, rfl⟩
      go_wp2_with fail
      refine (small_any _ _).mono ?_
      rintro e w1 ⟨rfl, rfl⟩
      go_wp2_with fail
      refine E3.out.mono ?_
      rintro e w1 ⟨rfl, B1⟩
      have HE := Lib.hid (HB.out.trans (B1.mono HB.out.size))
      clear B1
      go_wp2_with fail
      go_ret
      exact ⟨by rw [HR.out]; rfl, HE.out⟩
  by_cases k5 : kd = 5
  · subst k5
    cases ecds : smB cd
    · skip
      have HR := Lib.hid (HN.out (fun q => absurd (ecds.symm.trans q.2.2.2.2.2.2.2.2.2) (by decide)))
      clear HN HY E E3
      go_enter Try.func40, Try.ntmps40
      go_wp2_with fail
      refine (small_any _ _).mono ?_
      rintro e w1 ⟨rfl, rfl⟩
      go_wp2_with fail
      refine (small_any _ _).mono ?_
      rintro e w1 ⟨rfl, rfl⟩
      go_wp2_with fail
      refine (small_any _ _).mono ?_
      rintro e w1 ⟨rfl, rfl⟩
      go_wp2_with fail
      go_ret
      exact ⟨by rw [HR.out]; rfl, HB.out⟩
    have HQ := Lib.hid (HY.out ⟨efr, ett, evol1, evol2, elife1, elife2, by decide, by decide, fun h => absurd h (by decide), ecds⟩)
    clear HN HY
    cases has
    · cases es : ndSame key ck g l 0 0 false []
      · rw [es] at E
        have HR := Lib.hid (show q = 1 from by rw [HQ.out, es]; rfl)
        clear HQ es E3
        go_enter Try.func40, Try.ntmps40
        go_wp2_with fail
        refine (small_any _ _).mono ?_
        rintro e w1 ⟨rfl, rfl⟩
        go_wp2_with fail
        refine (small_any _ _).mono ?_
        rintro e w1 ⟨rfl, rfl⟩
        go_wp2_with fail
        refine (small_any _ _).mono ?_
        rintro e w1 ⟨rfl, rfl⟩
        go_wp2_with fail
        refine E.out.mono ?_
        rintro e w1 ⟨rfl, B1⟩
        have HE := Lib.hid (HB.out.trans (B1.mono HB.out.size))
        clear B1
        go_wp2_with fail
        go_ret
        exact ⟨by rw [HR.out]; rfl, HE.out⟩
      · rw [es] at E
        have HR := Lib.hid (show q = 0 from by rw [HQ.out, es]; rfl)
        clear HQ es E3
        go_enter Try.func40, Try.ntmps40
        go_wp2_with fail
        refine (small_any _ _).mono ?_
        rintro e w1 ⟨rfl, rfl⟩
        go_wp2_with fail
        refine (small_any _ _).mono ?_
        rintro e w1 ⟨rfl, rfl⟩
        go_wp2_with fail
        refine (small_any _ _).mono ?_
        rintro e w1 ⟨rfl, rfl⟩
        go_wp2_with fail
        refine E.out.mono ?_
        rintro e w1 ⟨rfl, B1⟩
        have HE := Lib.hid (HB.out.trans (B1.mono HB.out.size))
        clear B1
        go_wp2_with fail
        go_ret
        exact ⟨by rw [HR.out]; rfl, HE.out⟩
    · have HR := Lib.hid (show q = chk g n from by rw [HQ.out]; rfl)
      clear HQ E
      go_enter Try.func40, Try.ntmps40
      go_wp2_with fail
      refine (small_any _ _).mono ?_
      rintro e w1 ⟨rfl, rfl⟩
      go_wp2_with fail
      refine (small_any _ _).mono ?_
      rintro e w1 ⟨rfl, rfl⟩
      go_wp2_with fail
      refine (small_any _ _).mono ?_
      rintro e w1 ⟨rfl, rfl⟩
      go_wp2_with fail
      refine E3.out.mono ?_
      rintro e w1 ⟨rfl, B1⟩
      have HE := Lib.hid (HB.out.trans (B1.mono HB.out.size))
      clear B1
      go_wp2_with fail
      go_ret
      exact ⟨by rw [HR.out]; rfl, HE.out⟩
  have HR := Lib.hid (HN.out (fun q => by have q1 := q.2.2.2.2.2.2.1; have q2 := q.2.2.2.2.2.2.2.1; omega))
  clear HN HY E E3
  have b1 : (kd == 1) = false := eq_f k1
  have b2 : (kd == 2) = false := eq_f k2
  have b3 : (kd == 3) = false := eq_f k3
  have b4 : (kd == 4) = false := eq_f k4
  have b5 : (kd == 5) = false := eq_f k5
  clear k1 k2 k3 k4 k5
  go_enter Try.func40, Try.ntmps40
  go_wp2_with fail
  refine (small_any _ _).mono ?_
  rintro e w1 ⟨rfl, rfl⟩
  go_wp2_with fail
  refine (small_any _ _).mono ?_
  rintro e w1 ⟨rfl, rfl⟩
  go_wp2_with fail
  go_ret
  exact ⟨by rw [HR.out]; rfl, HB.out⟩

set_option maxRecDepth 100000 in
set_option maxHeartbeats 8000000 in
theorem rcheck_any (m : MsgR) (w : World) (h : BSl w w.heap.size m.a m.n m.l) (hn : m.n ≤ 1099511627776) :
    Calls Try.prog 17 #[m.vals] w fun e w' => e = .returned (.int .i64 (mchk m : Nat)) ∧ Below w.heap.size w w' := by
  have HN := Lib.hid fun (e : ¬ (smB m.fr = true ∧ smB m.tt = true ∧ 1 ≤ m.vol ∧ m.vol ≤ 65535 ∧ 0 ≤ m.life ∧ m.life ≤ 2147483647 ∧ 1 ≤ m.kd ∧ m.kd ≤ 5 ∧ (m.kd < 5 → m.cd = 0) ∧ smB m.cd = true)) => (show mchk m = 1 from by unfold mchk; rw [if_neg e])
  have HY := Lib.hid fun (e : smB m.fr = true ∧ smB m.tt = true ∧ 1 ≤ m.vol ∧ m.vol ≤ 65535 ∧ 0 ≤ m.life ∧ m.life ≤ 2147483647 ∧ 1 ≤ m.kd ∧ m.kd ≤ 5 ∧ (m.kd < 5 → m.cd = 0) ∧ smB m.cd = true) => (show mchk m = if m.has = true then chk m.g m.n else if ndSame m.key m.ck m.g m.l 0 0 false [] = true then 0 else 1 from by unfold mchk; rw [if_pos e])
  obtain ⟨fr, tt, kd, vol, life, id, cd, has, key, ck, g, a, n, c, l⟩ := m
  generalize mchk ⟨fr, tt, kd, vol, life, id, cd, has, key, ck, g, a, n, c, l⟩ = q at *
  unfold MsgR.vals
  dsimp only at *
  have BA := (Below.refl w.heap.size w).alloc (Nat.le_refl _) (.cells #[.int .i64 fr, .int .i64 tt, .int .i64 kd, .int .i64 vol, .int .i64 life, .int .u64 id, .int .i64 cd, .bool has, .int .u64 key, .int .u32 ck, .bool g, .slice a n c] 36)
  have hK := Blk.made w 36 #[.int .i64 fr, .int .i64 tt, .int .i64 kd, .int .i64 vol, .int .i64 life, .int .u64 id, .int .i64 cd, .bool has, .int .u64 key, .int .u32 ck, .bool g, .slice a n c]
  have E := Lib.hid (ref3_same key ck g a n c l 0 0 false none 0 0 [] _ ((h.below BA).more BA.size) (BSl.nil _ _ none) hn)
  have E3 := Lib.hid (ref3_check key ck g a n c (w.alloc (.cells #[.int .i64 fr, .int .i64 tt, .int .i64 kd, .int .i64 vol, .int .i64 life, .int .u64 id, .int .i64 cd, .bool has, .int .u64 key, .int .u32 ck, .bool g, .slice a n c] 36)) (by omega))
  have HB := Lib.hid BA
  clear h hn BA

  cases efr : smB fr
  · skip
    have HR := Lib.hid (HN.out (fun q => absurd (efr.symm.trans q.1) (by decide)))
    clear HN HY E E3
    go_enter Try.func17, Try.ntmps17
    go_wp2_with fail
    refine (byteful_any _ _).mono ?_
    rintro e w1 ⟨rfl, rfl⟩
    go_wp2_with fail
    go_ret
    exact ⟨by rw [HR.out]; rfl, HB.out⟩
  cases ett : smB tt
  · skip
    have HR := Lib.hid (HN.out (fun q => absurd (ett.symm.trans q.2.1) (by decide)))
    clear HN HY E E3
    go_enter Try.func17, Try.ntmps17
    go_wp2_with fail
    refine (byteful_any _ _).mono ?_
    rintro e w1 ⟨rfl, rfl⟩
    go_wp2_with fail
    refine (byteful_any _ _).mono ?_
    rintro e w1 ⟨rfl, rfl⟩
    go_wp2_with fail
    go_ret
    exact ⟨by rw [HR.out]; rfl, HB.out⟩
  cases ecds : smB cd
  · skip
    have HR := Lib.hid (HN.out (fun q => absurd (ecds.symm.trans q.2.2.2.2.2.2.2.2.2) (by decide)))
    clear HN HY E E3
    go_enter Try.func17, Try.ntmps17
    go_wp2_with fail
    refine (byteful_any _ _).mono ?_
    rintro e w1 ⟨rfl, rfl⟩
    go_wp2_with fail
    refine (byteful_any _ _).mono ?_
    rintro e w1 ⟨rfl, rfl⟩
    go_wp2_with fail
    refine (byteful_any _ _).mono ?_
    rintro e w1 ⟨rfl, rfl⟩
    go_wp2_with fail
    go_ret
    exact ⟨by rw [HR.out]; rfl, HB.out⟩
  by_cases ekd1 : 1 ≤ kd
  rotate_left
  · skip
    have HR := Lib.hid (HN.out (fun q => ekd1 q.2.2.2.2.2.2.1))
    clear HN HY E E3
    go_enter Try.func17, Try.ntmps17
    go_wp2_with fail
    refine (byteful_any _ _).mono ?_
    rintro e w1 ⟨rfl, rfl⟩
    go_wp2_with fail
    refine (byteful_any _ _).mono ?_
    rintro e w1 ⟨rfl, rfl⟩
    go_wp2_with fail
    refine (byteful_any _ _).mono ?_
    rintro e w1 ⟨rfl, rfl⟩
    go_wp2_with fail
    go_ret
    exact ⟨by rw [HR.out]; rfl, HB.out⟩
  by_cases ekd2 : kd ≤ 5
  rotate_left
  · skip
    have HR := Lib.hid (HN.out (fun q => ekd2 q.2.2.2.2.2.2.2.1))
    clear HN HY E E3
    go_enter Try.func17, Try.ntmps17
    go_wp2_with fail
    refine (byteful_any _ _).mono ?_
    rintro e w1 ⟨rfl, rfl⟩
    go_wp2_with fail
    refine (byteful_any _ _).mono ?_
    rintro e w1 ⟨rfl, rfl⟩
    go_wp2_with fail
    refine (byteful_any _ _).mono ?_
    rintro e w1 ⟨rfl, rfl⟩
    go_wp2_with fail
    go_ret
    exact ⟨by rw [HR.out]; rfl, HB.out⟩
  by_cases e5 : kd < 5
  · by_cases ecd0 : cd = 0
    rotate_left
    · have bcd : (cd != 0) = true := ne_t ecd0
      have HR := Lib.hid (HN.out (fun q => ecd0 (q.2.2.2.2.2.2.2.2.1 e5)))
      clear HN HY E E3
      go_enter Try.func17, Try.ntmps17
      go_wp2_with fail
      refine (byteful_any _ _).mono ?_
      rintro e w1 ⟨rfl, rfl⟩
      go_wp2_with fail
      refine (byteful_any _ _).mono ?_
      rintro e w1 ⟨rfl, rfl⟩
      go_wp2_with fail
      refine (byteful_any _ _).mono ?_
      rintro e w1 ⟨rfl, rfl⟩
      go_wp2_with fail
      go_ret
      exact ⟨by rw [HR.out]; rfl, HB.out⟩
    subst ecd0
    by_cases evol1 : 1 ≤ vol
    rotate_left
    · skip
      have HR := Lib.hid (HN.out (fun q => evol1 q.2.2.1))
      clear HN HY E E3
      go_enter Try.func17, Try.ntmps17
      go_wp2_with fail
      refine (byteful_any _ _).mono ?_
      rintro e w1 ⟨rfl, rfl⟩
      go_wp2_with fail
      refine (byteful_any _ _).mono ?_
      rintro e w1 ⟨rfl, rfl⟩
      go_wp2_with fail
      refine (byteful_any _ _).mono ?_
      rintro e w1 ⟨rfl, rfl⟩
      go_wp2_with fail
      go_ret
      exact ⟨by rw [HR.out]; rfl, HB.out⟩
    by_cases evol2 : vol ≤ 65535
    rotate_left
    · skip
      have HR := Lib.hid (HN.out (fun q => evol2 q.2.2.2.1))
      clear HN HY E E3
      go_enter Try.func17, Try.ntmps17
      go_wp2_with fail
      refine (byteful_any _ _).mono ?_
      rintro e w1 ⟨rfl, rfl⟩
      go_wp2_with fail
      refine (byteful_any _ _).mono ?_
      rintro e w1 ⟨rfl, rfl⟩
      go_wp2_with fail
      refine (byteful_any _ _).mono ?_
      rintro e w1 ⟨rfl, rfl⟩
      go_wp2_with fail
      go_ret
      exact ⟨by rw [HR.out]; rfl, HB.out⟩
    by_cases elife1 : 0 ≤ life
    rotate_left
    · skip
      have HR := Lib.hid (HN.out (fun q => elife1 q.2.2.2.2.1))
      clear HN HY E E3
      go_enter Try.func17, Try.ntmps17
      go_wp2_with fail
      refine (byteful_any _ _).mono ?_
      rintro e w1 ⟨rfl, rfl⟩
      go_wp2_with fail
      refine (byteful_any _ _).mono ?_
      rintro e w1 ⟨rfl, rfl⟩
      go_wp2_with fail
      refine (byteful_any _ _).mono ?_
      rintro e w1 ⟨rfl, rfl⟩
      go_wp2_with fail
      go_ret
      exact ⟨by rw [HR.out]; rfl, HB.out⟩
    by_cases elife2 : life ≤ 2147483647
    rotate_left
    · skip
      have HR := Lib.hid (HN.out (fun q => elife2 q.2.2.2.2.2.1))
      clear HN HY E E3
      go_enter Try.func17, Try.ntmps17
      go_wp2_with fail
      refine (byteful_any _ _).mono ?_
      rintro e w1 ⟨rfl, rfl⟩
      go_wp2_with fail
      refine (byteful_any _ _).mono ?_
      rintro e w1 ⟨rfl, rfl⟩
      go_wp2_with fail
      refine (byteful_any _ _).mono ?_
      rintro e w1 ⟨rfl, rfl⟩
      go_wp2_with fail
      go_ret
      exact ⟨by rw [HR.out]; rfl, HB.out⟩
    have HQ := Lib.hid (HY.out ⟨efr, ett, evol1, evol2, elife1, elife2, ekd1, ekd2, fun _ => rfl, ecds⟩)
    clear HN HY
    cases has
    · cases es : ndSame key ck g l 0 0 false []
      · rw [es] at E
        have HR := Lib.hid (show q = 1 from by rw [HQ.out, es]; rfl)
        clear HQ es E3
        go_enter Try.func17, Try.ntmps17
        go_wp2_with fail
        refine (byteful_any _ _).mono ?_
        rintro e w1 ⟨rfl, rfl⟩
        go_wp2_with fail
        refine (byteful_any _ _).mono ?_
        rintro e w1 ⟨rfl, rfl⟩
        go_wp2_with fail
        refine (byteful_any _ _).mono ?_
        rintro e w1 ⟨rfl, rfl⟩
        go_wp2_with fail
        refine E.out.mono ?_
        rintro e w1 ⟨rfl, B1⟩
        have HE := Lib.hid (HB.out.trans (B1.mono HB.out.size))
        clear B1
        go_wp2_with fail
        go_ret
        exact ⟨by rw [HR.out]; rfl, HE.out⟩
      · rw [es] at E
        have HR := Lib.hid (show q = 0 from by rw [HQ.out, es]; rfl)
        clear HQ es E3
        go_enter Try.func17, Try.ntmps17
        go_wp2_with fail
        refine (byteful_any _ _).mono ?_
        rintro e w1 ⟨rfl, rfl⟩
        go_wp2_with fail
        refine (byteful_any _ _).mono ?_
        rintro e w1 ⟨rfl, rfl⟩
        go_wp2_with fail
        refine (byteful_any _ _).mono ?_
        rintro e w1 ⟨rfl, rfl⟩
        go_wp2_with fail
        refine E.out.mono ?_
        rintro e w1 ⟨rfl, B1⟩
        have HE := Lib.hid (HB.out.trans (B1.mono HB.out.size))
        clear B1
        go_wp2_with fail
        go_ret
        exact ⟨by rw [HR.out]; rfl, HE.out⟩
    · have HR := Lib.hid (show q = chk g n from by rw [HQ.out]; rfl)
      clear HQ E
      go_enter Try.func17, Try.ntmps17
      go_wp2_with fail
      refine (byteful_any _ _).mono ?_
      rintro e w1 ⟨rfl, rfl⟩
      go_wp2_with fail
      refine (byteful_any _ _).mono ?_
      rintro e w1 ⟨rfl, rfl⟩
      go_wp2_with fail
      refine (byteful_any _ _).mono ?_
      rintro e w1 ⟨rfl, rfl⟩
      go_wp2_with fail
      refine E3.out.mono ?_
      rintro e w1 ⟨rfl, B1⟩
      have HE := Lib.hid (HB.out.trans (B1.mono HB.out.size))
      clear B1
      go_wp2_with fail
      go_ret
      exact ⟨by rw [HR.out]; rfl, HE.out⟩
  by_cases evol1 : 1 ≤ vol
  rotate_left
  · skip
    have HR := Lib.hid (HN.out (fun q => evol1 q.2.2.1))
    clear HN HY E E3
    go_enter Try.func17, Try.ntmps17
    go_wp2_with fail
    refine (byteful_any _ _).mono ?_
    rintro e w1 ⟨rfl, rfl⟩
    go_wp2_with fail
    refine (byteful_any _ _).mono ?_
    rintro e w1 ⟨rfl, rfl⟩
    go_wp2_with fail
    refine (byteful_any _ _).mono ?_
    rintro e w1 ⟨rfl, rfl⟩
    go_wp2_with fail
    go_ret
    exact ⟨by rw [HR.out]; rfl, HB.out⟩
  by_cases evol2 : vol ≤ 65535
  rotate_left
  · skip
    have HR := Lib.hid (HN.out (fun q => evol2 q.2.2.2.1))
    clear HN HY E E3
    go_enter Try.func17, Try.ntmps17
    go_wp2_with fail
    refine (byteful_any _ _).mono ?_
    rintro e w1 ⟨rfl, rfl⟩
    go_wp2_with fail
    refine (byteful_any _ _).mono ?_
    rintro e w1 ⟨rfl, rfl⟩
    go_wp2_with fail
    refine (byteful_any _ _).mono ?_
    rintro e w1 ⟨rfl, rfl⟩
    go_wp2_with fail
    go_ret
    exact ⟨by rw [HR.out]; rfl, HB.out⟩
  by_cases elife1 : 0 ≤ life
  rotate_left
  · skip
    have HR := Lib.hid (HN.out (fun q => elife1 q.2.2.2.2.1))
    clear HN HY E E3
    go_enter Try.func17, Try.ntmps17
    go_wp2_with fail
    refine (byteful_any _ _).mono ?_
    rintro e w1 ⟨rfl, rfl⟩
    go_wp2_with fail
    refine (byteful_any _ _).mono ?_
    rintro e w1 ⟨rfl, rfl⟩
    go_wp2_with fail
    refine (byteful_any _ _).mono ?_
    rintro e w1 ⟨rfl, rfl⟩
    go_wp2_with fail
    go_ret
    exact ⟨by rw [HR.out]; rfl, HB.out⟩
  by_cases elife2 : life ≤ 2147483647
  rotate_left
  · skip
    have HR := Lib.hid (HN.out (fun q => elife2 q.2.2.2.2.2.1))
    clear HN HY E E3
    go_enter Try.func17, Try.ntmps17
    go_wp2_with fail
    refine (byteful_any _ _).mono ?_
    rintro e w1 ⟨rfl, rfl⟩
    go_wp2_with fail
    refine (byteful_any _ _).mono ?_
    rintro e w1 ⟨rfl, rfl⟩
    go_wp2_with fail
    refine (byteful_any _ _).mono ?_
    rintro e w1 ⟨rfl, rfl⟩
    go_wp2_with fail
    go_ret
    exact ⟨by rw [HR.out]; rfl, HB.out⟩
  have HQ := Lib.hid (HY.out ⟨efr, ett, evol1, evol2, elife1, elife2, ekd1, ekd2, fun h => absurd h e5, ecds⟩)
  clear HN HY
  cases has
  · cases es : ndSame key ck g l 0 0 false []
    · rw [es] at E
      have HR := Lib.hid (show q = 1 from by rw [HQ.out, es]; rfl)
      clear HQ es E3
      go_enter Try.func17, Try.ntmps17
      go_wp2_with fail
      refine (byteful_any _ _).mono ?_
      rintro e w1 ⟨rfl, rfl⟩
      go_wp2_with fail
      refine (byteful_any _ _).mono ?_
      rintro e w1 ⟨rfl, rfl⟩
      go_wp2_with fail
      refine (byteful_any _ _).mono ?_
      rintro e w1 ⟨rfl, rfl⟩
      go_wp2_with fail
      refine E.out.mono ?_
      rintro e w1 ⟨rfl, B1⟩
      have HE := Lib.hid (HB.out.trans (B1.mono HB.out.size))
      clear B1
      go_wp2_with fail
      go_ret
      exact ⟨by rw [HR.out]; rfl, HE.out⟩
    · rw [es] at E
      have HR := Lib.hid (show q = 0 from by rw [HQ.out, es]; rfl)
      clear HQ es E3
      go_enter Try.func17, Try.ntmps17
      go_wp2_with fail
      refine (byteful_any _ _).mono ?_
      rintro e w1 ⟨rfl, rfl⟩
      go_wp2_with fail
      refine (byteful_any _ _).mono ?_
      rintro e w1 ⟨rfl, rfl⟩
      go_wp2_with fail
      refine (byteful_any _ _).mono ?_
      rintro e w1 ⟨rfl, rfl⟩
      go_wp2_with fail
      refine E.out.mono ?_
      rintro e w1 ⟨rfl, B1⟩
      have HE := Lib.hid (HB.out.trans (B1.mono HB.out.size))
      clear B1
      go_wp2_with fail
      go_ret
      exact ⟨by rw [HR.out]; rfl, HE.out⟩
  · have HR := Lib.hid (show q = chk g n from by rw [HQ.out]; rfl)
    clear HQ E
    go_enter Try.func17, Try.ntmps17
    go_wp2_with fail
    refine (byteful_any _ _).mono ?_
    rintro e w1 ⟨rfl, rfl⟩
    go_wp2_with fail
    refine (byteful_any _ _).mono ?_
    rintro e w1 ⟨rfl, rfl⟩
    go_wp2_with fail
    refine (byteful_any _ _).mono ?_
    rintro e w1 ⟨rfl, rfl⟩
    go_wp2_with fail
    refine E3.out.mono ?_
    rintro e w1 ⟨rfl, B1⟩
    have HE := Lib.hid (HB.out.trans (B1.mono HB.out.size))
    clear B1
    go_wp2_with fail
    go_ret
    exact ⟨by rw [HR.out]; rfl, HE.out⟩


end Go.Proofs.Ytpkfjnhjcdcoaaa
