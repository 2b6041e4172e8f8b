/- The plain laws of numbers as bytes, the lowest first: no program, no memory. No conditions. -/
namespace Go.Proofs.Ytolpnbeepiblkaa.LeP
/-- the k lowest bytes of n, the lowest first -/
def bytes : Nat → Nat → List UInt8
  | 0, _ => []
  | k + 1, n => UInt8.ofNat (n % 256) :: bytes k (n / 256)
/-- what bytes say -/
def num : List UInt8 → Nat
  | [] => 0
  | c :: l => c.toNat + 256 * num l
def get (l : List UInt8) : Nat := num (l.take 8)
theorem bytes_length (k n : Nat) : (bytes k n).length = k := by
  induction k generalizing n with
  | zero => rfl
  | succ k ih => simp [bytes, ih]
theorem bytes_snoc (k n : Nat) : bytes (k + 1) n = bytes k n ++ [UInt8.ofNat (n / 256 ^ k % 256)] := by
  induction k generalizing n with
  | zero => simp [bytes]
  | succ k ih =>
    rw [bytes, ih]
    simp only [bytes, List.cons_append]
    rw [Nat.div_div_eq_div_mul, Nat.pow_succ', Nat.mul_comm]
theorem bytes_take (k j n : Nat) (h : j ≤ k) : (bytes k n).take j = bytes j n := by
  induction k generalizing j n with
  | zero => obtain rfl : j = 0 := by omega
            rfl
  | succ k ih =>
    cases j with
    | zero => rfl
    | succ j => rw [bytes, List.take_succ_cons, ih _ _ (by omega), bytes]
theorem bytes_get (k n i : Nat) (h : i < k) : (bytes k n)[i]? = some (UInt8.ofNat (n / 256 ^ i % 256)) := by
  induction k generalizing n i with
  | zero => omega
  | succ k ih =>
    cases i with
    | zero => simp [bytes]
    | succ i =>
      rw [bytes, List.getElem?_cons_succ, ih _ _ (by omega), Nat.div_div_eq_div_mul, Nat.pow_succ', Nat.mul_comm]
theorem toNat_ofNat_mod (n : Nat) : (UInt8.ofNat (n % 256)).toNat = n % 256 := by
  simp
theorem num_lt (l : List UInt8) : num l < 256 ^ l.length := by
  induction l with
  | nil => simp [num]
  | cons c l ih =>
    have := c.toNat_lt
    rw [num, List.length_cons, Nat.pow_succ]
    omega
theorem num_append (l m : List UInt8) : num (l ++ m) = num l + 256 ^ l.length * num m := by
  induction l with
  | nil => simp [num]
  | cons c l ih =>
    rw [List.cons_append, num, num, ih, List.length_cons, Nat.pow_succ', Nat.mul_add, Nat.mul_assoc]
    omega
theorem num_snoc (l : List UInt8) (c : UInt8) : num (l ++ [c]) = num l + 256 ^ l.length * c.toNat := by
  rw [num_append]; simp [num]
theorem num_bytes (k n : Nat) : num (bytes k n) = n % 256 ^ k := by
  induction k generalizing n with
  | zero => simp [num, bytes, Nat.mod_one]
  | succ k ih => rw [bytes, num, ih, toNat_ofNat_mod, Nat.pow_succ', Nat.mod_mul]
theorem bytes_num (l : List UInt8) : bytes l.length (num l) = l := by
  induction l with
  | nil => rfl
  | cons c l ih =>
    have h := c.toNat_lt
    rw [List.length_cons, bytes, num]
    have e1 : (c.toNat + 256 * num l) % 256 = c.toNat := by omega
    have e2 : (c.toNat + 256 * num l) / 256 = num l := by omega
    rw [e1, e2, ih, UInt8.ofNat_toNat]
theorem num_inj (l m : List UInt8) (h : l.length = m.length) (e : num l = num m) : l = m := by
  rw [← bytes_num l, ← bytes_num m, h, e]
theorem get_lt (l : List UInt8) : get l < 2 ^ 64 := by
  unfold get
  have h := num_lt (l.take 8)
  have h2 : (l.take 8).length ≤ 8 := List.length_take_le _ _
  exact Nat.lt_of_lt_of_le h (Nat.le_trans (Nat.pow_le_pow_right (by decide) h2) (by decide))
theorem get_bytes (k n : Nat) (h : k ≤ 8) : get (bytes k n) = n % 256 ^ k := by
  unfold get
  rw [List.take_of_length_le (by rw [bytes_length]; exact h), num_bytes]
/-- or of what does not meet -/
theorem or_shift (x c k : Nat) (h : x < 2 ^ k) : x ||| (c * 2 ^ k) = x + 2 ^ k * c := by
  rw [Nat.add_comm, Nat.mul_comm c, Nat.two_pow_add_eq_or_of_lt h, Nat.or_comm]
/-- one byte more, by or and shift -/
theorem num_take_or (l : List UInt8) (i : Nat) (h : i < l.length) : num (l.take i) ||| (l[i].toNat * 2 ^ (8 * i)) = num (l.take (i + 1)) := by
  have e : l.take (i + 1) = l.take i ++ [l[i]] := by rw [List.take_succ_eq_append_getElem h]
  have hl : (l.take i).length = i := by rw [List.length_take]; omega
  have hp : (256 : Nat) ^ i = 2 ^ (8 * i) := by rw [Nat.pow_mul]
  have hb := num_lt (l.take i)
  rw [hl, hp] at hb
  rw [or_shift _ _ _ hb, e, num_snoc, hl, hp]
/-- one byte more from above -/
theorem num_drop (l : List UInt8) (i : Nat) (h : i < l.length) : num (l.drop (i + 1)) * 256 + l[i].toNat = num (l.drop i) := by
  rw [List.drop_eq_getElem_cons h, num]; omega
end Go.Proofs.Ytolpnbeepiblkaa.LeP
