/- The plain laws of numbers put one behind another, and read again. No program, no memory. -/
import Derived.Test.YtcgmgfhnpjojaaaLeRest
namespace Go.Proofs.Ytcgmgfhnpjojaaa
/-- the bytes of m numbers from the k-th on, the k-th in 1 + k % 8 bytes -/
def tl (f : Nat → Nat) : Nat → Nat → List UInt8
  | 0, _ => []
  | m + 1, k => LeP.bytes (1 + k % 8) (f k) ++ tl f m (k + 1)
theorem tl_length_le (f : Nat → Nat) (m k : Nat) : (tl f m k).length ≤ 8 * m := by
  induction m generalizing k with
  | zero => simp [tl]
  | succ m ih =>
    have := ih (k + 1)
    rw [tl, List.length_append, LeP.bytes_length]
    omega
theorem tl_pos (f : Nat → Nat) (m k : Nat) (h : 0 < m) : 0 < (tl f m k).length := by
  cases m with
  | zero => omega
  | succ m => rw [tl, List.length_append, LeP.bytes_length]; omega
theorem tl_at (f : Nat → Nat) (len k : Nat) (h : k < len) : tl f (len - k) k = LeP.bytes (1 + k % 8) (f k) ++ tl f (len - (k + 1)) (k + 1) := by
  rw [show len - k = (len - (k + 1)) + 1 by omega, tl]
theorem clamp8_at (k : Nat) : clamp8 (1 + (k : Int) % 8) = 1 + k % 8 := by unfold clamp8; omega
theorem bytes_mod (k n : Nat) : LeP.bytes k (n % 256 ^ k) = LeP.bytes k n := by
  have h := LeP.bytes_num (LeP.bytes k n)
  rw [LeP.bytes_length, LeP.num_bytes] at h
  exact h
def arr (l : List UInt8) : ByteArray := ⟨l.toArray⟩
theorem arr_size (l : List UInt8) : (arr l).size = l.length := by unfold arr; exact List.size_toArray
theorem arr_extract (l : List UInt8) (i j : Nat) : (arr l).extract i j = arr ((l.take j).drop i) := by
  apply ByteArray.ext
  apply Array.ext'
  unfold arr
  rw [ByteArray.data_extract]
  simp [List.extract_eq_take_drop, List.drop_take]
theorem arr_append (l m : List UInt8) : arr l ++ arr m = arr (l ++ m) := by
  apply ByteArray.ext
  apply Array.ext'
  unfold arr
  simp [ByteArray.data_append]
/-- a number is read off the front -/
theorem rdN_front (j n : Nat) (hj : j ≤ 7) (t : List UInt8) : rdN (arr (LeP.bytes (1 + j) n ++ t)) false ((1 + j : Nat) : Int) = (n % 256 ^ (1 + j), arr t, false) := by
  have hb := LeP.bytes_length (1 + j) n
  unfold rdN
  rw [if_neg (by omega), rdT_good _ _ (by rw [arr_size, List.length_append, hb]; omega)]
  simp only []
  rw [arr_extract, arr_extract, arr_size, List.length_append, hb]
  have e1 : ((LeP.bytes (1 + j) n ++ t).take (1 + j)).drop 0 = LeP.bytes (1 + j) n := by
    rw [List.drop_zero, List.take_left' hb]
  have e2 : ((LeP.bytes (1 + j) n ++ t).take (1 + j + t.length)).drop (1 + j) = t := by
    rw [List.take_of_length_le (by rw [List.length_append, hb]; omega), List.drop_left' hb]
  rw [e1, e2]
  have e3 : (arr (LeP.bytes (1 + j) n)).data.toList = LeP.bytes (1 + j) n := rfl
  rw [e3, LeP.get_bytes _ _ (by omega)]
/-- a byte too few -/
theorem rdN_short (j : Nat) (l : List UInt8) (h : l.length ≤ j) (hj : j ≤ 7) : rdN (arr l) false ((1 + j : Nat) : Int) = (0, arr l, true) := by
  unfold rdN
  rw [if_neg (by omega), rdT_bad _ _ _ (.inr (.inr (by rw [arr_size]; omega)))]
  rfl
theorem int_at (k : Nat) : (1 + (k : Int) % 8) = ((1 + k % 8 : Nat) : Int) := by omega
theorem rd_r (f : Nat → Nat) (len k : Nat) (h : k < len) : rdN (arr (tl f (len - k) k)) false (1 + (k : Int) % 8) = (f k % 256 ^ (1 + k % 8), arr (tl f (len - (k + 1)) (k + 1)), false) := by
  rw [int_at, tl_at f len k h, rdN_front _ _ (by omega)]
theorem rd_q (f : Nat → Nat) (len k : Nat) (h : k + 1 < len) : rdN (arr (tl f (len - k) k).dropLast) false (1 + (k : Int) % 8) = (f k % 256 ^ (1 + k % 8), arr (tl f (len - (k + 1)) (k + 1)).dropLast, false) := by
  have hp := tl_pos f (len - (k + 1)) (k + 1) (by omega)
  rw [int_at, tl_at f len k (by omega), List.dropLast_append_of_ne_nil (by intro e; rw [e] at hp; simp at hp), rdN_front _ _ (by omega)]
theorem rd_last (f : Nat → Nat) (len k : Nat) (h : k + 1 = len) : rdN (arr (tl f (len - k) k).dropLast) false (1 + (k : Int) % 8) = (0, arr (tl f (len - k) k).dropLast, true) := by
  rw [int_at, rdN_short _ _ ?_ (by omega)]
  rw [List.length_dropLast, tl_at f len k (by omega), List.length_append, LeP.bytes_length, show len - (k + 1) = 0 by omega]
  simp [tl]
theorem mod_all (n k : Nat) (hn : n < 18446744073709551616) (h : k % 8 = 7) : n % 256 ^ (1 + k % 8) = n := by
  rw [h]; exact Nat.mod_eq_of_lt hn
theorem rdO_end (f : Nat → Nat) (len k : Nat) (h : k = len) : rdO (arr (tl f (len - k) k)) false = true := by
  subst h
  rw [Nat.sub_self]
  show rdO (arr []) false = true
  decide +kernel
theorem rdO_bad (x : ByteArray) : rdO x true = false := by unfold rdO; simp
end Go.Proofs.Ytcgmgfhnpjojaaa
