/- The plain law of the check sum CRC-32 over 32-bit words: no program, no memory. No conditions. -/
namespace Go.Proofs.Ytolpnbeepiblkaa.Crc
abbrev R := BitVec 32
def poly : R := 0xedb88320#32
/-- one zero bit -/
def M (r : R) : R := (r >>> 1) ^^^ (if r.getLsbD 0 then poly else 0#32)
theorem M_xor (a b : R) : M (a ^^^ b) = M a ^^^ M b := by
  unfold M
  rw [BitVec.ushiftRight_xor_distrib, BitVec.getLsbD_xor]
  have hx : ∀ x y p : R, (x ^^^ p) ^^^ (y ^^^ p) = x ^^^ y := by
    intro x y p
    rw [BitVec.xor_assoc, BitVec.xor_comm y p, ← BitVec.xor_assoc p p y, BitVec.xor_self, BitVec.zero_xor]
  cases ha : a.getLsbD 0 <;> cases hb : b.getLsbD 0 <;> simp only [Bool.xor_self, Bool.bne_false, Bool.xor_true, Bool.not_false, if_true, Bool.false_eq_true, if_false, BitVec.xor_zero]
  · ac_rfl
  · ac_rfl
  · exact (hx _ _ _).symm
theorem M_zero : M 0#32 = 0#32 := by decide
def Mn : Nat → R → R
  | 0, r => r
  | n + 1, r => Mn n (M r)
theorem Mn_succ (n : Nat) (r : R) : Mn (n + 1) r = M (Mn n r) := by
  induction n generalizing r with
  | zero => rfl
  | succ n ih => exact ih (M r)
theorem Mn_add (m n : Nat) (r : R) : Mn (m + n) r = Mn n (Mn m r) := by
  induction m generalizing r with
  | zero => simp [Mn]
  | succ m ih => rw [Nat.succ_add]; exact ih (M r)
theorem Mn_xor (n : Nat) (a b : R) : Mn n (a ^^^ b) = Mn n a ^^^ Mn n b := by
  induction n generalizing a b with
  | zero => rfl
  | succ n ih => show Mn n (M (a ^^^ b)) = _; rw [M_xor, ih]; rfl
theorem Mn_zero (n : Nat) : Mn n 0#32 = 0#32 := by
  induction n with
  | zero => rfl
  | succ n ih => show Mn n (M 0#32) = _; rw [M_zero, ih]
/-- M can be undone -/
def U (r : R) : R := if r.getLsbD 31 then ((r ^^^ poly) <<< 1) ||| 1#32 else r <<< 1
theorem U_M (r : R) : U (M r) = r := by
  have hp : poly.getLsbD 31 = true := by decide
  have h0 : (r >>> 1).getLsbD 31 = false := by simp
  by_cases h : r.getLsbD 0 = true
  · have e : M r = (r >>> 1) ^^^ poly := by unfold M; rw [if_pos h]
    have hb : (M r).getLsbD 31 = true := by rw [e, BitVec.getLsbD_xor, h0, hp]; rfl
    unfold U; rw [if_pos hb, e, BitVec.xor_assoc, BitVec.xor_self, BitVec.xor_zero]
    apply BitVec.eq_of_getLsbD_eq
    intro i hi
    by_cases i0 : i = 0
    · subst i0; rw [h]; simp
    · have : 1 + (i - 1) = i := by omega
      simp [hi, this, i0]
  · have h' : r.getLsbD 0 = false := by simpa using h
    have e : M r = r >>> 1 := by unfold M; rw [if_neg h]; simp
    have hb : ¬ (M r).getLsbD 31 = true := by rw [e, h0]; decide
    unfold U; rw [if_neg hb, e]
    apply BitVec.eq_of_getLsbD_eq
    intro i hi
    by_cases i0 : i = 0
    · subst i0; rw [h']; simp
    · have : 1 + (i - 1) = i := by omega
      simp [hi, this, i0]
theorem M_inj {r : R} (h : M r = 0#32) : r = 0#32 := by
  have := U_M r
  rw [h] at this
  rw [← this]; decide
theorem Mn_inj (n : Nat) {r : R} (h : Mn n r = 0#32) : r = 0#32 := by
  induction n generalizing r with
  | zero => exact h
  | succ n ih => exact M_inj (ih h)

/-- a byte, a text -/
def byteStep (r : R) (c : UInt8) : R := Mn 8 (r ^^^ BitVec.ofNat 32 c.toNat)
def reg (r : R) (l : List UInt8) : R := l.foldl byteStep r
def ones : R := 0xffffffff#32
def crc (l : List UInt8) : R := ones ^^^ reg ones l
theorem reg_nil (r : R) : reg r [] = r := rfl
theorem reg_cons (r : R) (c : UInt8) (l : List UInt8) : reg r (c :: l) = reg (byteStep r c) l := rfl
theorem reg_append (r : R) (l m : List UInt8) : reg r (l ++ m) = reg (reg r l) m := by
  unfold reg; rw [List.foldl_append]
/-- the table's step -/
def tab (i : Nat) : R := Mn 4 (BitVec.ofNat 32 i)
theorem M_even (r : R) (h : r.getLsbD 0 = false) : M r = r >>> 1 := by
  unfold M; rw [if_neg (by rw [h]; decide)]; exact BitVec.xor_zero
theorem low15 (i : Nat) (h : 4 ≤ i) : (15#32).getLsbD i = false := by
  have h1 : 15 < 2 ^ i := Nat.lt_of_lt_of_le (by decide : 15 < 2 ^ 4) (Nat.pow_le_pow_right (by decide) h)
  rw [BitVec.getLsbD_ofNat, Nat.testBit_lt_two_pow h1]; simp
theorem nibble (n : R) : (n >>> 4) ^^^ tab ((n &&& 15#32).toNat) = Mn 4 n := by
  have hs : n = (n &&& ~~~15#32) ^^^ (n &&& 15#32) := by
    apply BitVec.eq_of_getLsbD_eq
    intro i hi
    rw [BitVec.getLsbD_xor, BitVec.getLsbD_and, BitVec.getLsbD_and, BitVec.getLsbD_not]
    cases n.getLsbD i <;> cases (15#32).getLsbD i <;> simp [hi]
  have hl : ∀ j, j < 4 → ((n &&& ~~~15#32) >>> j).getLsbD 0 = false := by
    intro j hj
    rw [BitVec.getLsbD_ushiftRight, BitVec.getLsbD_and, BitVec.getLsbD_not]
    have hc : j = 0 ∨ j = 1 ∨ j = 2 ∨ j = 3 := by omega
    rcases hc with rfl | rfl | rfl | rfl <;> simp
  have hh : Mn 4 (n &&& ~~~15#32) = n >>> 4 := by
    have e0 := M_even _ (hl 0 (by omega))
    have e1 := M_even _ (hl 1 (by omega))
    have e2 := M_even _ (hl 2 (by omega))
    have e3 := M_even _ (hl 3 (by omega))
    rw [← BitVec.shiftRight_add] at e1 e2 e3
    rw [BitVec.ushiftRight_zero] at e0
    show M (M (M (M _))) = _
    rw [e0, e1, e2, e3]
    apply BitVec.eq_of_getLsbD_eq
    intro i hi
    rw [BitVec.getLsbD_ushiftRight, BitVec.getLsbD_ushiftRight, BitVec.getLsbD_and, BitVec.getLsbD_not]
    by_cases h32 : 4 + i < 32
    · rw [low15 _ (by omega)]; simp [h32]
    · rw [BitVec.getLsbD_of_ge _ _ (by omega)]; rfl
  have ht : tab ((n &&& 15#32).toNat) = Mn 4 (n &&& 15#32) := by
    unfold tab; rw [BitVec.ofNat_toNat, BitVec.setWidth_eq]
  rw [ht]
  conv => rhs; rw [hs, Mn_xor, hh]
/-- bit by bit, the byte shifted beside -/
def bitStep (p : R × R) : R × R := (M (p.1 ^^^ (p.2 &&& 1#32)), p.2 >>> 1)
theorem bitStep_xor (r c : R) : (bitStep (r, c)).1 ^^^ (bitStep (r, c)).2 = M (r ^^^ c) := by
  have hs : c = (c &&& ~~~1#32) ^^^ (c &&& 1#32) := by
    apply BitVec.eq_of_getLsbD_eq
    intro i hi
    rw [BitVec.getLsbD_xor, BitVec.getLsbD_and, BitVec.getLsbD_and, BitVec.getLsbD_not]
    cases c.getLsbD i <;> cases (1#32).getLsbD i <;> simp [hi]
  have hl : (c &&& ~~~1#32).getLsbD 0 = false := by
    rw [BitVec.getLsbD_and, BitVec.getLsbD_not]; simp
  have hh : M (c &&& ~~~1#32) = c >>> 1 := by
    rw [M_even _ hl]
    apply BitVec.eq_of_getLsbD_eq
    intro i hi
    rw [BitVec.getLsbD_ushiftRight, BitVec.getLsbD_ushiftRight, BitVec.getLsbD_and, BitVec.getLsbD_not]
    by_cases h32 : 1 + i < 32
    · have h1 : (1#32).getLsbD (1 + i) = false := by
        have h1 : 1 < 2 ^ (1 + i) := Nat.one_lt_two_pow (by omega)
        rw [BitVec.getLsbD_ofNat, Nat.testBit_lt_two_pow h1]; simp
      rw [h1]; simp [h32]
    · rw [BitVec.getLsbD_of_ge _ _ (by omega)]; rfl
  show M (r ^^^ (c &&& 1#32)) ^^^ (c >>> 1) = _
  conv => rhs; rw [hs, BitVec.xor_comm (c &&& ~~~1#32), ← BitVec.xor_assoc, M_xor, hh]
def bitSteps : Nat → R × R → R × R
  | 0, p => p
  | n + 1, p => bitSteps n (bitStep p)
theorem bitSteps_succ (n : Nat) (p : R × R) : bitSteps (n + 1) p = bitStep (bitSteps n p) := by
  induction n generalizing p with
  | zero => rfl
  | succ n ih => exact ih (bitStep p)
theorem bitSteps_xor (n : Nat) (p : R × R) : (bitSteps n p).1 ^^^ (bitSteps n p).2 = Mn n (p.1 ^^^ p.2) := by
  induction n generalizing p with
  | zero => rfl
  | succ n ih => show (bitSteps n (bitStep p)).1 ^^^ (bitSteps n (bitStep p)).2 = _; rw [ih, bitStep_xor]; rfl
theorem bitSteps_snd (n : Nat) (p : R × R) : (bitSteps n p).2 = p.2 >>> n := by
  induction n generalizing p with
  | zero => show p.2 = p.2 >>> 0; rw [BitVec.ushiftRight_zero]
  | succ n ih => show (bitSteps n (bitStep p)).2 = _; rw [ih]; show (p.2 >>> 1) >>> n = _; rw [← BitVec.shiftRight_add, Nat.add_comm]
theorem byte8 (c : UInt8) : (BitVec.ofNat 32 c.toNat) >>> 8 = 0#32 := by
  apply BitVec.eq_of_toNat_eq
  have := c.toNat_lt
  rw [BitVec.toNat_ushiftRight, BitVec.toNat_ofNat, Nat.shiftRight_eq_div_pow]
  simp
  omega
theorem bitSteps_byte (r : R) (c : UInt8) : (bitSteps 8 (r, BitVec.ofNat 32 c.toNat)).1 = byteStep r c := by
  have h := bitSteps_xor 8 (r, BitVec.ofNat 32 c.toNat)
  rw [bitSteps_snd, byte8, BitVec.xor_zero] at h
  exact h
theorem nibbles_byte (r : R) (c : UInt8) : Mn 4 (Mn 4 (r ^^^ BitVec.ofNat 32 c.toNat)) = byteStep r c := rfl

/-! ### three texts put together -/
theorem byteStep_xor (a b : R) (c d : UInt8) : byteStep (a ^^^ b) (c ^^^ d) = byteStep a c ^^^ byteStep b d := by
  unfold byteStep
  have h : BitVec.ofNat 32 (c ^^^ d).toNat = BitVec.ofNat 32 c.toNat ^^^ BitVec.ofNat 32 d.toNat := by
    apply BitVec.eq_of_toNat_eq
    rw [BitVec.toNat_xor, BitVec.toNat_ofNat, BitVec.toNat_ofNat, BitVec.toNat_ofNat, UInt8.toNat_xor]
    have h1 := c.toNat_lt
    have h2 := d.toNat_lt
    have h3 : c.toNat ^^^ d.toNat < 2 ^ 8 := Nat.xor_lt_two_pow h1 h2
    rw [Nat.mod_eq_of_lt (by omega), Nat.mod_eq_of_lt (by omega), Nat.mod_eq_of_lt (by omega)]
  rw [h, ← Mn_xor]
  congr 1
  ac_rfl
theorem reg_xor (l m : List UInt8) : ∀ (a b : R), l.length = m.length → reg (a ^^^ b) (List.zipWith (· ^^^ ·) l m) = reg a l ^^^ reg b m := by
  induction l generalizing m with
  | nil => intro a b h; cases m with
    | nil => rfl
    | cons x m => simp at h
  | cons c l ih => intro a b h; cases m with
    | nil => simp at h
    | cons d m =>
      rw [List.zipWith_cons_cons, reg_cons, reg_cons, reg_cons, byteStep_xor]
      exact ih m _ _ (by simpa using h)
theorem crc_affine (a b c : List UInt8) (h1 : b.length = a.length) (h2 : c.length = a.length) :
    crc (List.zipWith (· ^^^ ·) (List.zipWith (· ^^^ ·) a b) c) = crc a ^^^ crc b ^^^ crc c := by
  unfold crc
  have e : ones = (ones ^^^ ones) ^^^ ones := by decide
  have h := reg_xor (List.zipWith (· ^^^ ·) a b) c (ones ^^^ ones) ones (by simp [h1, h2])
  rw [reg_xor a b ones ones h1.symm, ← e] at h
  rw [h]
  generalize reg ones a = x
  generalize reg ones b = y
  generalize reg ones c = z
  have e2 : ones ^^^ x ^^^ (ones ^^^ y) ^^^ (ones ^^^ z) = (ones ^^^ ones ^^^ ones) ^^^ (x ^^^ y ^^^ z) := by ac_rfl
  rw [e2, ← e]
/-! ### a byte more -/
theorem crc_snoc (l : List UInt8) (c : UInt8) : crc (l ++ [c]) = Mn 8 (crc l ^^^ ones ^^^ BitVec.ofNat 32 c.toNat) ^^^ ones := by
  unfold crc
  rw [reg_append, BitVec.xor_comm ones (reg ones l), BitVec.xor_assoc (reg ones l), BitVec.xor_self, BitVec.xor_zero, BitVec.xor_comm]
  rfl
/-! ### bits that are turned -/
theorem Mn_shl (k : Nat) : ∀ (x : Nat), x * 2 ^ k < 2 ^ 32 → Mn k (BitVec.ofNat 32 (x * 2 ^ k)) = BitVec.ofNat 32 x := by
  induction k with
  | zero => intro x _; rw [Nat.pow_zero, Nat.mul_one]; rfl
  | succ k ih =>
    intro x h
    rw [Nat.pow_succ, Nat.mul_comm (2 ^ k) 2, ← Nat.mul_assoc] at h ⊢
    rw [Mn_succ, ih (x * 2) h]
    have hx : x * 2 < 2 ^ 32 := Nat.lt_of_le_of_lt (Nat.le_mul_of_pos_right _ (Nat.two_pow_pos k)) h
    have hl : (BitVec.ofNat 32 (x * 2)).getLsbD 0 = false := by
      rw [BitVec.getLsbD_ofNat]; simp
    rw [M_even _ hl]
    apply BitVec.eq_of_toNat_eq
    rw [BitVec.toNat_ushiftRight, BitVec.toNat_ofNat, BitVec.toNat_ofNat, Nat.mod_eq_of_lt hx, Nat.mod_eq_of_lt (by omega), Nat.shiftRight_eq_div_pow]
    omega
theorem reg_lin (l : List UInt8) : ∀ (a b : R), reg (a ^^^ b) l = reg a l ^^^ Mn (8 * l.length) b := by
  induction l with
  | nil => intro a b; rfl
  | cons c l ih =>
    intro a b
    rw [reg_cons, reg_cons]
    have e : byteStep (a ^^^ b) c = byteStep a c ^^^ Mn 8 b := by
      unfold byteStep; rw [← Mn_xor]; congr 1; ac_rfl
    rw [e, ih, ← Mn_add]
    congr 2
    rw [List.length_cons]; omega
/-- a byte of a text turned -/
theorem reg_set (l : List UInt8) (i : Nat) (h : i < l.length) (r : R) (d : UInt8) :
    reg r (l.set i (l[i] ^^^ d)) = reg r l ^^^ Mn (8 * (l.length - i)) (BitVec.ofNat 32 d.toNat) := by
  induction l generalizing i r with
  | nil => simp at h
  | cons c l ih =>
    cases i with
    | zero =>
      rw [List.set_cons_zero, List.getElem_cons_zero, reg_cons, reg_cons]
      have e : byteStep r (c ^^^ d) = byteStep r c ^^^ Mn 8 (BitVec.ofNat 32 d.toNat) := by
        have := byteStep_xor r 0#32 c d
        rw [BitVec.xor_zero] at this
        rw [this]; congr 1; unfold byteStep; rw [BitVec.zero_xor]
      rw [e, reg_lin, ← Mn_add]
      congr 2
      rw [List.length_cons]; omega
    | succ i =>
      rw [List.set_cons_succ, List.getElem_cons_succ, reg_cons, reg_cons, ih i (by simpa using h)]
      congr 3
      rw [List.length_cons]; omega
/-- a bit of a text turned: what it does to the register hangs on how far it is from the end -/
theorem reg_flip (l : List UInt8) (p : Nat) (h : p < 8 * l.length) (r : R) (d : UInt8) (hd : d.toNat = 2 ^ (p % 8)) :
    reg r (l.set (p / 8) (l[p / 8]'(by omega) ^^^ d)) = reg r l ^^^ Mn (8 * l.length - p) 1#32 := by
  rw [reg_set l (p / 8) (by omega) r d, hd]
  congr 1
  have e : 8 * (l.length - p / 8) = p % 8 + (8 * l.length - p) := by omega
  rw [e, Mn_add]
  congr 1
  have hb : 2 ^ (p % 8) < 2 ^ 32 := Nat.pow_lt_pow_right (by decide) (by omega)
  have := Mn_shl (p % 8) 1 (by simpa using hb)
  rw [Nat.one_mul] at this
  exact this
/-- the first k bits of a number that is turned in from bit 'at' on -/
def win (at_ N which k : Nat) : R := Mn (N - at_) (BitVec.ofNat 32 (which % 2 ^ k))
theorem mod_succ (x k : Nat) : x % 2 ^ (k + 1) = x % 2 ^ k + (if x / 2 ^ k % 2 = 1 then 2 ^ k else 0) := by
  rw [Nat.pow_succ, Nat.mod_mul]
  have := Nat.mod_two_eq_zero_or_one (x / 2 ^ k)
  rcases this with h | h <;> simp [h]
theorem win_no (at_ N which k : Nat) (h : ¬ which / 2 ^ k % 2 = 1) : win at_ N which (k + 1) = win at_ N which k := by
  unfold win; rw [mod_succ, if_neg h, Nat.add_zero]
theorem win_yes (at_ N which k : Nat) (hk : k < 32) (hN : at_ + k < N) (h : which / 2 ^ k % 2 = 1) :
    win at_ N which (k + 1) = win at_ N which k ^^^ Mn (N - (at_ + k)) 1#32 := by
  unfold win
  rw [mod_succ, if_pos h]
  have hlt : which % 2 ^ k < 2 ^ k := Nat.mod_lt _ (Nat.two_pow_pos k)
  have hb : 2 ^ k < 2 ^ 32 := Nat.pow_lt_pow_right (by decide) hk
  have e : BitVec.ofNat 32 (which % 2 ^ k + 2 ^ k) = BitVec.ofNat 32 (which % 2 ^ k) ^^^ BitVec.ofNat 32 (1 * 2 ^ k) := by
    revert hlt
    generalize which % 2 ^ k = y
    intro hlt
    apply BitVec.eq_of_toNat_eq
    have hor := Nat.two_pow_add_eq_or_of_lt hlt 1
    have hle : 2 ^ (k + 1) ≤ 2 ^ 32 := Nat.pow_le_pow_right (by decide) (by omega)
    rw [Nat.pow_succ] at hle
    rw [BitVec.toNat_xor, BitVec.toNat_ofNat, BitVec.toNat_ofNat, BitVec.toNat_ofNat, Nat.one_mul, Nat.mod_eq_of_lt (a := y) (by omega), Nat.mod_eq_of_lt (a := 2 ^ k) (by omega), Nat.mod_eq_of_lt (a := y + 2 ^ k) (by omega)]
    apply Nat.eq_of_testBit_eq
    intro i
    rw [Nat.mul_one] at hor
    rw [Nat.testBit_xor, Nat.add_comm, hor, Nat.testBit_or]
    by_cases hi : i = k
    · subst hi; rw [Nat.testBit_lt_two_pow hlt]; cases (2 ^ i).testBit i <;> rfl
    · rw [Nat.testBit_two_pow_of_ne (fun h => hi h.symm)]; cases y.testBit i <;> rfl
  rw [e, Mn_xor]
  congr 1
  have e2 : N - at_ = k + (N - (at_ + k)) := by omega
  rw [e2, Mn_add, Mn_shl k 1 (by omega)]
theorem win_zero (at_ N which : Nat) : win at_ N which 0 = 0#32 := by
  unfold win; rw [Nat.pow_zero, Nat.mod_one]; exact Mn_zero _
theorem win_ne (at_ N which k : Nat) (hk : k ≤ 32) (h : which % 2 ^ k ≠ 0) : win at_ N which k ≠ 0#32 := by
  intro e
  have := Mn_inj _ e
  have hlt : which % 2 ^ k < 2 ^ k := Nat.mod_lt _ (Nat.two_pow_pos k)
  have hle : 2 ^ k ≤ 2 ^ 32 := Nat.pow_le_pow_right (by decide) hk
  have ht := congrArg BitVec.toNat this
  rw [BitVec.toNat_ofNat, Nat.mod_eq_of_lt (by omega)] at ht
  exact h ht
/-! ### what is sealed -/
theorem Mn32 (x : R) : Mn 32 x = Mn 8 (Mn 8 (Mn 8 (Mn 8 x))) := rfl
/-- what the last four bytes say -/
def num4 (a b c d : UInt8) : Nat := a.toNat + 256 * b.toNat + 65536 * c.toNat + 16777216 * d.toNat
theorem reg_four (r : R) (a b c d : UInt8) : reg r [a, b, c, d] = Mn 32 (r ^^^ BitVec.ofNat 32 (num4 a b c d)) := by
  have ha := a.toNat_lt
  have hb := b.toNat_lt
  have hc := c.toNat_lt
  have hd := d.toNat_lt
  have hor : ∀ (x y k : Nat), x < 2 ^ k → y * 2 ^ k + x < 2 ^ 32 → BitVec.ofNat 32 (x + 2 ^ k * y) = BitVec.ofNat 32 x ^^^ BitVec.ofNat 32 (y * 2 ^ k) := by
    intro x y k hx hy
    apply BitVec.eq_of_toNat_eq
    rw [Nat.mul_comm (2 ^ k)]
    rw [BitVec.toNat_xor, BitVec.toNat_ofNat, BitVec.toNat_ofNat, BitVec.toNat_ofNat, Nat.mod_eq_of_lt (by omega), Nat.mod_eq_of_lt (by omega), Nat.mod_eq_of_lt (by omega)]
    apply Nat.eq_of_testBit_eq
    intro i
    have h := Nat.two_pow_add_eq_or_of_lt hx y
    rw [Nat.add_comm, Nat.mul_comm y, h, Nat.testBit_xor, Nat.testBit_or]
    by_cases hi : i < k
    · rw [Nat.testBit_two_pow_mul]; simp [Nat.not_le.2 hi]
    · rw [Nat.testBit_lt_two_pow (Nat.lt_of_lt_of_le hx (Nat.pow_le_pow_right (by decide) (by omega)))]; simp
  have e1 : BitVec.ofNat 32 (num4 a b c d) = BitVec.ofNat 32 a.toNat ^^^ BitVec.ofNat 32 ((b.toNat + 2 ^ 8 * (c.toNat + 2 ^ 8 * d.toNat)) * 2 ^ 8) := by
    rw [← hor _ _ 8 ha (by omega)]; congr 1; unfold num4; omega
  have e2 : BitVec.ofNat 32 (b.toNat + 2 ^ 8 * (c.toNat + 2 ^ 8 * d.toNat)) = BitVec.ofNat 32 b.toNat ^^^ BitVec.ofNat 32 ((c.toNat + 2 ^ 8 * d.toNat) * 2 ^ 8) :=
    hor _ _ 8 hb (by omega)
  have e3 : BitVec.ofNat 32 (c.toNat + 2 ^ 8 * d.toNat) = BitVec.ofNat 32 c.toNat ^^^ BitVec.ofNat 32 (d.toNat * 2 ^ 8) :=
    hor _ _ 8 hc (by omega)
  rw [reg_cons, reg_cons, reg_cons, reg_cons, reg_nil, e1, Mn32]
  unfold byteStep
  rw [← BitVec.xor_assoc, Mn_xor 8 (r ^^^ _), Mn_shl 8 _ (by omega), e2, ← BitVec.xor_assoc, Mn_xor 8 (_ ^^^ BitVec.ofNat 32 b.toNat),
    Mn_shl 8 _ (by omega), e3, ← BitVec.xor_assoc, Mn_xor 8 (_ ^^^ BitVec.ofNat 32 c.toNat), Mn_shl 8 _ (by omega)]
theorem num4_lt (a b c d : UInt8) : num4 a b c d < 2 ^ 32 := by
  have ha := a.toNat_lt
  have hb := b.toNat_lt
  have hc := c.toNat_lt
  have hd := d.toNat_lt
  unfold num4; omega
/-- the last four bytes are the sum of those ahead just if the register comes to one number -/
theorem sealed_iff (l : List UInt8) (a b c d : UInt8) : (crc l).toNat = num4 a b c d ↔ reg ones (l ++ [a, b, c, d]) = Mn 32 ones := by
  rw [reg_append, reg_four]
  have h1 : (crc l).toNat = num4 a b c d ↔ crc l = BitVec.ofNat 32 (num4 a b c d) := by
    constructor
    · intro h; rw [← h, BitVec.ofNat_toNat, BitVec.setWidth_eq]
    · intro h; rw [h, BitVec.toNat_ofNat, Nat.mod_eq_of_lt (num4_lt a b c d)]
  rw [h1]
  generalize BitVec.ofNat 32 (num4 a b c d) = t
  unfold crc
  generalize reg ones l = x
  constructor
  · intro h
    rw [← h]; congr 1
    rw [BitVec.xor_comm ones, ← BitVec.xor_assoc, BitVec.xor_self, BitVec.zero_xor]
  · intro h
    have h2 : Mn 32 (x ^^^ t ^^^ ones) = 0#32 := by rw [Mn_xor, h, BitVec.xor_self]
    have h3 := Mn_inj _ h2
    have h4 : x ^^^ t ^^^ ones ^^^ t = 0#32 ^^^ t := by rw [h3]
    rw [BitVec.zero_xor] at h4
    rw [← h4]
    have : x ^^^ t ^^^ ones ^^^ t = (t ^^^ t) ^^^ (ones ^^^ x) := by ac_rfl
    rw [this, BitVec.xor_self, BitVec.zero_xor]
end Go.Proofs.Ytolpnbeepiblkaa.Crc
