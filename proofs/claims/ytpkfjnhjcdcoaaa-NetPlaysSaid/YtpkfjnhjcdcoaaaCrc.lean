/-
  Plain facts on the steps of the sum (CRC-32C): no program in sight.
-/
namespace Go.Proofs.Ytpkfjnhjcdcoaaa.Crc

/-- The sixteen numbers of the program's short table. -/
def tab (i : BitVec 4) : BitVec 32 :=
  ([0x00000000#32, 0x105EC76F#32, 0x20BD8EDE#32, 0x30E349B1#32, 0x417B1DBC#32, 0x5125DAD3#32, 0x61C69362#32, 0x7198540D#32,
    0x82F63B78#32, 0x92A8FC17#32, 0xA24BB5A6#32, 0xB21572C9#32, 0xC38D26C4#32, 0xD3D3E1AB#32, 0xE330A81A#32, 0xF36E6F75#32] : List (BitVec 32)).getD i.toNat 0#32

/-- Four steps with nought. -/
def nib (n : BitVec 32) : BitVec 32 := tab (n.setWidth 4) ^^^ (n >>> 4)
/-- Eight steps with nought. -/
def oct (n : BitVec 32) : BitVec 32 := nib (nib n)
/-- One byte goes in. -/
def byte (r : BitVec 32) (c : BitVec 8) : BitVec 32 := oct (r ^^^ c.setWidth 32)
/-- Many bytes go in. -/
def run (r : BitVec 32) (l : List (BitVec 8)) : BitVec 32 := l.foldl byte r
/-- The sum, gone on with. -/
def more (s : BitVec 32) (l : List (BitVec 8)) : BitVec 32 := ~~~ (run (~~~ s) l)
/-- The sum. -/
def of (l : List (BitVec 8)) : BitVec 32 := more 0#32 l

theorem tab_xor : ∀ x y : BitVec 4, tab (x ^^^ y) = tab x ^^^ tab y := by decide +kernel
theorem tab_zero : tab 0#4 = 0#32 := by decide +kernel
theorem tab_high : ∀ x : BitVec 4, (tab x) >>> 28 = 0#32 → x = 0#4 := by decide +kernel

theorem xor4 (a b c d : BitVec 32) : (a ^^^ b) ^^^ (c ^^^ d) = (a ^^^ c) ^^^ (b ^^^ d) := by
  rw [BitVec.xor_assoc, BitVec.xor_assoc, ← BitVec.xor_assoc b c d, BitVec.xor_comm b c, BitVec.xor_assoc c b d]

theorem nib_xor (a b : BitVec 32) : nib (a ^^^ b) = nib a ^^^ nib b := by
  unfold nib
  rw [BitVec.setWidth_xor, tab_xor, BitVec.ushiftRight_xor_distrib, xor4]
theorem oct_xor (a b : BitVec 32) : oct (a ^^^ b) = oct a ^^^ oct b := by unfold oct; rw [nib_xor, nib_xor]
theorem nib_zero : nib 0#32 = 0#32 := by decide +kernel
theorem oct_zero : oct 0#32 = 0#32 := by decide +kernel

theorem nib_low {x : BitVec 32} (h : x.setWidth 4 = 0#4) : nib x = x >>> 4 := by
  unfold nib; rw [h, tab_zero, BitVec.zero_xor]

theorem low_bit {x : BitVec 32} {k : Nat} (h : x.setWidth k = 0#k) (i : Nat) (hi : i < k) : x.getLsbD i = false := by
  have := congrArg (fun y => BitVec.getLsbD y i) h
  simpa [BitVec.getLsbD_setWidth, hi] using this

theorem low_of_bits {x : BitVec 32} {k : Nat} (h : ∀ i, i < k → x.getLsbD i = false) : x.setWidth k = 0#k := by
  apply BitVec.eq_of_getLsbD_eq
  intro i hi
  simp [hi, h i hi]

theorem oct_low {x : BitVec 32} (h : x.setWidth 8 = 0#8) : oct x = x >>> 8 := by
  have h4 : x.setWidth 4 = 0#4 := low_of_bits fun i hi => low_bit h i (by omega)
  have h8 : (x >>> 4).setWidth 4 = 0#4 := low_of_bits fun i hi => by
    rw [BitVec.getLsbD_ushiftRight]; exact low_bit h _ (by omega)
  unfold oct
  rw [nib_low h4, nib_low h8, ← BitVec.shiftRight_add]

theorem nib_inj0 {x : BitVec 32} (h : nib x = 0#32) : x = 0#32 := by
  unfold nib at h
  have e : tab (x.setWidth 4) = x >>> 4 := BitVec.xor_eq_zero_iff.1 h
  have hz : (tab (x.setWidth 4)) >>> 28 = 0#32 := by
    rw [e, ← BitVec.shiftRight_add]
    apply BitVec.eq_of_getLsbD_eq
    intro i hi
    rw [BitVec.getLsbD_ushiftRight]
    simp
  have h4 := tab_high _ hz
  rw [h4, tab_zero] at e
  apply BitVec.eq_of_getLsbD_eq
  intro i hi
  rcases Nat.lt_or_ge i 4 with hl | hg
  · rw [low_bit h4 i hl]; simp
  · have := congrArg (fun y => BitVec.getLsbD y (i - 4)) e.symm
    simp only [BitVec.getLsbD_ushiftRight] at this
    rw [show 4 + (i - 4) = i from by omega] at this
    rw [this]; simp
theorem oct_inj0 {x : BitVec 32} (h : oct x = 0#32) : x = 0#32 := nib_inj0 (nib_inj0 h)
theorem oct_inj {x y : BitVec 32} (h : oct x = oct y) : x = y := by
  have : oct (x ^^^ y) = 0#32 := by rw [oct_xor, h, BitVec.xor_self]
  exact BitVec.xor_eq_zero_iff.1 (oct_inj0 this)

theorem byte_inj {r s : BitVec 32} {c : BitVec 8} (h : byte r c = byte s c) : r = s := by
  have := oct_inj h
  have h2 := congrArg (fun y => y ^^^ BitVec.setWidth 32 c) this
  simpa [BitVec.xor_assoc, BitVec.xor_self] using h2
theorem run_inj {l : List (BitVec 8)} : ∀ {r s : BitVec 32}, run r l = run s l → r = s := by
  induction l with
  | nil => intro r s h; exact h
  | cons c l ih => intro r s h; exact byte_inj (ih h)
theorem run_append (r : BitVec 32) (a b : List (BitVec 8)) : run r (a ++ b) = run (run r a) b := by simp [run]
theorem run_snoc (r : BitVec 32) (a : List (BitVec 8)) (c : BitVec 8) : run r (a ++ [c]) = byte (run r a) c := by simp [run]
theorem more_append (s : BitVec 32) (a b : List (BitVec 8)) : more (more s a) b = more s (a ++ b) := by
  unfold more; rw [BitVec.not_not, run_append]
theorem more_nil (s : BitVec 32) : more s [] = s := by simp [more, run]
theorem not_inj {a b : BitVec 32} (h : ~~~ a = ~~~ b) : a = b := by
  have := congrArg (fun x => ~~~ x) h
  simpa using this

/-- Two texts that differ in one byte alone have unlike sums. -/
theorem of_ne_one (a z : List (BitVec 8)) (c d : BitVec 8) (h : c ≠ d) : of (a ++ c :: z) ≠ of (a ++ d :: z) := by
  intro e
  have e1 := not_inj e
  rw [run_append, run_append] at e1
  have e2 : byte (run (~~~ 0#32) a) c = byte (run (~~~ 0#32) a) d := run_inj (l := z) e1
  have e3 := oct_inj e2
  apply h
  have e4 : BitVec.setWidth 32 c = BitVec.setWidth 32 d := by
    have := congrArg (fun y => run (~~~ 0#32) a ^^^ y) e3
    simpa [← BitVec.xor_assoc, BitVec.xor_self] using this
  have e5 := congrArg (fun y => BitVec.setWidth 8 y) e4
  simpa using e5

/-- The byte of a number at place k. -/
def part (t : BitVec 32) (k : Nat) : BitVec 8 := (t >>> (8 * k)).setWidth 8

theorem oct_step (u y : BitVec 32) : oct ((u ^^^ y) ^^^ (y.setWidth 8).setWidth 32) = oct u ^^^ (y >>> 8) := by
  rw [BitVec.xor_assoc, oct_xor]
  congr 1
  have hlow : (y ^^^ (y.setWidth 8).setWidth 32).setWidth 8 = 0#8 := low_of_bits fun i hi => by
    rw [BitVec.getLsbD_xor, BitVec.getLsbD_setWidth, BitVec.getLsbD_setWidth]
    simp [show i < 8 from hi, show i < 32 from by omega]
  rw [oct_low hlow, BitVec.ushiftRight_xor_distrib]
  have hz : ((y.setWidth 8).setWidth 32) >>> 8 = 0#32 := by
    apply BitVec.eq_of_getLsbD_eq
    intro i hi
    rw [BitVec.getLsbD_ushiftRight, BitVec.getLsbD_setWidth, BitVec.getLsbD_setWidth]
    simp [show ¬ (8 + i < 8) from by omega]
  rw [hz, BitVec.xor_zero]

/-- What four bytes in a row turn. -/
theorem byte_diff (r d y : BitVec 32) (c : BitVec 8) : byte (r ^^^ (d ^^^ y)) (c ^^^ y.setWidth 8) = byte r c ^^^ (oct d ^^^ (y >>> 8)) := by
  unfold byte
  rw [BitVec.setWidth_xor, xor4, oct_xor, oct_step]

theorem four_diff (r t : BitVec 32) (c0 c1 c2 c3 : BitVec 8) :
    run r [c0 ^^^ part t 0, c1 ^^^ part t 1, c2 ^^^ part t 2, c3 ^^^ part t 3] = run r [c0, c1, c2, c3] ^^^ oct (oct (oct (oct t))) := by
  have h0 : byte r (c0 ^^^ part t 0) = byte r c0 ^^^ (oct t ^^^ (t >>> 8)) := by
    have := byte_diff r t t c0
    rw [BitVec.xor_self, BitVec.xor_zero] at this
    simpa [part] using this
  have h1 : ∀ s, byte (s ^^^ (oct t ^^^ (t >>> 8))) (c1 ^^^ part t 1) = byte s c1 ^^^ (oct (oct t) ^^^ (t >>> 16)) := by
    intro s
    have := byte_diff s (oct t) (t >>> 8) c1
    rw [← BitVec.shiftRight_add] at this
    simpa [part] using this
  have h2 : ∀ s, byte (s ^^^ (oct (oct t) ^^^ (t >>> 16))) (c2 ^^^ part t 2) = byte s c2 ^^^ (oct (oct (oct t)) ^^^ (t >>> 24)) := by
    intro s
    have := byte_diff s (oct (oct t)) (t >>> 16) c2
    rw [← BitVec.shiftRight_add] at this
    simpa [part] using this
  have h3 : ∀ s, byte (s ^^^ (oct (oct (oct t)) ^^^ (t >>> 24))) (c3 ^^^ part t 3) = byte s c3 ^^^ oct (oct (oct (oct t))) := by
    intro s
    have := byte_diff s (oct (oct (oct t))) (t >>> 24) c3
    rw [← BitVec.shiftRight_add] at this
    have hz : t >>> (24 + 8) = 0#32 := by
      apply BitVec.eq_of_getLsbD_eq
      intro i hi
      rw [BitVec.getLsbD_ushiftRight]; simp
    rw [hz, BitVec.xor_zero] at this
    simpa [part] using this
  simp only [run, List.foldl_cons, List.foldl_nil]
  rw [h0, h1, h2, h3]

/-- Four bytes in a row, not all of them turned by nought: another sum. -/
theorem of_ne_four (a z : List (BitVec 8)) (c0 c1 c2 c3 : BitVec 8) (t : BitVec 32) (ht : t ≠ 0#32) :
    of (a ++ ([c0, c1, c2, c3] ++ z)) ≠ of (a ++ ([c0 ^^^ part t 0, c1 ^^^ part t 1, c2 ^^^ part t 2, c3 ^^^ part t 3] ++ z)) := by
  intro e
  have e1 := not_inj e
  rw [run_append, run_append, run_append, run_append] at e1
  have e2 := run_inj (l := z) e1
  rw [four_diff] at e2
  have e3 := congrArg (fun y => run (run (~~~ 0#32) a) [c0, c1, c2, c3] ^^^ y) e2
  simp only [← BitVec.xor_assoc, BitVec.xor_self, BitVec.zero_xor] at e3
  exact ht (oct_inj0 (oct_inj0 (oct_inj0 (oct_inj0 e3.symm))))

/-! ### The document's steps, bit by bit -/

/-- One step with nought. -/
def one (r : BitVec 32) : BitVec 32 := (r >>> 1) ^^^ (if r.getLsbD 0 then 0x82F63B78#32 else 0#32)
theorem one_xor (a b : BitVec 32) : one (a ^^^ b) = one a ^^^ one b := by
  unfold one
  rw [BitVec.ushiftRight_xor_distrib, BitVec.getLsbD_xor, xor4]
  congr 1
  cases a.getLsbD 0 <;> cases b.getLsbD 0 <;> simp
theorem one_low {x : BitVec 32} (h : x.getLsbD 0 = false) : one x = x >>> 1 := by unfold one; rw [h]; simp
def four (r : BitVec 32) : BitVec 32 := one (one (one (one r)))
theorem four_xor (a b : BitVec 32) : four (a ^^^ b) = four a ^^^ four b := by unfold four; rw [one_xor, one_xor, one_xor, one_xor]
theorem four_tab : ∀ x : BitVec 4, four (x.setWidth 32) = tab x := by decide +kernel
theorem four_low {x : BitVec 32} (h : x.setWidth 4 = 0#4) : four x = x >>> 4 := by
  have b := low_bit h
  unfold four
  rw [one_low (b 0 (by omega)), one_low (x := x >>> 1) (by rw [BitVec.getLsbD_ushiftRight]; exact b 1 (by omega)), ← BitVec.shiftRight_add,
    one_low (x := x >>> (1 + 1)) (by rw [BitVec.getLsbD_ushiftRight]; exact b 2 (by omega)), ← BitVec.shiftRight_add,
    one_low (x := x >>> (1 + 1 + 1)) (by rw [BitVec.getLsbD_ushiftRight]; exact b 3 (by omega)), ← BitVec.shiftRight_add]
theorem split4 (x : BitVec 32) : x = (x.setWidth 4).setWidth 32 ^^^ (x ^^^ (x.setWidth 4).setWidth 32) := by
  rw [BitVec.xor_comm x, ← BitVec.xor_assoc, BitVec.xor_self, BitVec.zero_xor]
theorem low_rest (x : BitVec 32) : (x ^^^ (x.setWidth 4).setWidth 32).setWidth 4 = 0#4 := low_of_bits fun i hi => by
  rw [BitVec.getLsbD_xor, BitVec.getLsbD_setWidth, BitVec.getLsbD_setWidth]
  simp [show i < 4 from hi, show i < 32 from by omega]
theorem four_nib (x : BitVec 32) : four x = nib x := by
  conv => lhs; rw [split4 x]
  rw [four_xor, four_tab, four_low (low_rest x), BitVec.ushiftRight_xor_distrib]
  have hz : ((x.setWidth 4).setWidth 32) >>> 4 = 0#32 := by
    apply BitVec.eq_of_getLsbD_eq
    intro i hi
    rw [BitVec.getLsbD_ushiftRight, BitVec.getLsbD_setWidth, BitVec.getLsbD_setWidth]
    simp [show ¬ (4 + i < 4) from by omega]
  rw [hz, BitVec.xor_zero]
  rfl

/-- k steps with nought. -/
def ones : Nat → BitVec 32 → BitVec 32
  | 0, r => r
  | k + 1, r => one (ones k r)
theorem ones8 (r : BitVec 32) : ones 8 r = oct r := by
  show four (four r) = _
  rw [four_nib, four_nib]; rfl

/-- The register behind k steps with a byte's bits, from the lowest one on. -/
def steps (r : BitVec 32) (c : BitVec 8) : Nat → BitVec 32
  | 0 => r
  | k + 1 => one (steps r c k ^^^ (if c.getLsbD k then 1#32 else 0#32))

theorem steps_eq (r : BitVec 32) (c : BitVec 8) (k : Nat) : steps r c k = ones k (r ^^^ c.setWidth 32) ^^^ (c.setWidth 32 >>> k) := by
  induction k with
  | zero => simp [steps, ones, BitVec.xor_assoc]
  | succ k ih =>
    have hl : ((c.setWidth 32 >>> k) ^^^ (if c.getLsbD k then 1#32 else 0#32)).getLsbD 0 = false := by
      rw [BitVec.getLsbD_xor, BitVec.getLsbD_ushiftRight, BitVec.getLsbD_setWidth]
      rcases Nat.lt_or_ge k 32 with h | h
      · cases hc : c.getLsbD k <;> simp [h]
      · have : c.getLsbD k = false := BitVec.getLsbD_of_ge _ _ (by omega)
        simp [this]
    have hs : ((if c.getLsbD k then 1#32 else 0#32 : BitVec 32)) >>> 1 = 0#32 := by cases c.getLsbD k <;> decide
    show one (steps r c k ^^^ _) = one (ones k _) ^^^ _
    rw [ih, BitVec.xor_assoc, one_xor, one_low hl, BitVec.ushiftRight_xor_distrib, hs, BitVec.xor_zero, ← BitVec.shiftRight_add]

theorem steps8 (r : BitVec 32) (c : BitVec 8) : steps r c 8 = byte r c := by
  rw [steps_eq, ones8]
  have hz : (c.setWidth 32) >>> 8 = 0#32 := by
    apply BitVec.eq_of_getLsbD_eq
    intro i hi
    rw [BitVec.getLsbD_ushiftRight, BitVec.getLsbD_setWidth]
    simp
  rw [hz, BitVec.xor_zero]
  rfl

end Go.Proofs.Ytpkfjnhjcdcoaaa.Crc
