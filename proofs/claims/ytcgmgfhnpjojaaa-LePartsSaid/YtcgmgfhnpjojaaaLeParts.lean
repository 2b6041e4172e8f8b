/- The walk of rootcellarlaw2.LeParts: it returns true whatever is handed in; nothing that was there is turned. Conditions: lengths within the reach, numbers fit their kinds. -/
import Derived.Test.YtcgmgfhnpjojaaaLeParts0
import Derived.Test.YtcgmgfhnpjojaaaLeParts1
import Derived.Test.YtcgmgfhnpjojaaaLeParts2
namespace Go.Proofs.Ytcgmgfhnpjojaaa
open Go.RowKit
set_option linter.unusedVariables false
set_option maxRecDepth 100000 in
set_option maxHeartbeats 3200000 in
theorem leParts_walk (a0 many : Int) (s : ByteArray) (w : World) (w0 : (Lit.int .u64 a0).wf = true) (w1 : (Lit.int .i64 many).wf = true) (w2 : s.size ≤ 140737488351232) :
    Calls Try.prog 4 #[.int .u64 a0, .int .i64 many, .string s] w fun e w' => e = .returned (.bool true) ∧ Below w.heap.size w w' := by
  obtain ⟨a, rfl, ha⟩ := u64_nat w0
  clear w0
  obtain ⟨k, hk, hk8⟩ : ∃ k, clamp8 many = k ∧ k ≤ 8 := ⟨_, rfl, by unfold clamp8; omega⟩
  obtain ⟨p, hp⟩ : ∃ p, p = (⟨(LeP.bytes 8 a).toArray⟩ : ByteArray) := ⟨_, rfl⟩
  obtain ⟨t, ht⟩ : ∃ t, t = (⟨(LeP.bytes k a).toArray⟩ : ByteArray) := ⟨_, rfl⟩
  have hpl : p.data.toList = LeP.bytes 8 a := by rw [hp]
  have htl : t.data.toList = LeP.bytes k a := by rw [ht]
  have hps : p.size = 8 := by have : p.data.toList.length = p.size := Array.length_toList; rw [← this, hpl, LeP.bytes_length]
  have hts : t.size = k := by have : t.data.toList.length = t.size := Array.length_toList; rw [← this, htl, LeP.bytes_length]
  have hex : p.extract 0 k = t := by
    apply ByteArray.ext
    apply Array.ext'
    rw [extract_list, hpl, htl, LeP.bytes_take 8 k a hk8]
  have h1 : ∀ w : World, Calls Try.prog 11 #[.int .u64 (a : Int), .int .i64 8] w fun e w' => e = .returned (.string p) ∧ Below w.heap.size w w' := by
    rw [hp]; exact put_any a 8 ha
  have h2 : ∀ w : World, Calls Try.prog 11 #[.int .u64 (a : Int), .int .i64 many] w fun e w' => e = .returned (.string t) ∧ Below w.heap.size w w' := by
    rw [ht, ← hk]; exact put_any a many ha
  have h3 : ∀ w : World, Calls Try.prog 13 #[.string p] w fun e w' => e = .returned (.int .u64 (a : Int)) ∧ Below w.heap.size w w' := by
    have := get_any p (by rw [hps]; unfold maxLen; omega)
    rw [hpl, LeP.get_bytes 8 a (by omega), Nat.mod_eq_of_lt ha] at this
    exact this
  have h4 : ∀ w : World, Calls Try.prog 13 #[.string (p ++ s)] w fun e w' => e = .returned (.int .u64 (a : Int)) ∧ Below w.heap.size w w' := by
    have := get_any (p ++ s) (by rw [ByteArray.size_append, hps]; unfold maxLen; omega)
    have e : LeP.get (p ++ s).data.toList = a := by
      rw [ByteArray.data_append, Array.toList_append, hpl]
      unfold LeP.get
      rw [List.take_left' (LeP.bytes_length 8 a), LeP.num_bytes, Nat.mod_eq_of_lt ha]
    rw [e] at this
    exact this
  have h5 : ∀ w : World, Calls Try.prog 13 #[.string t] w fun e w' => e = .returned (.int .u64 ((a % 256 ^ k : Nat) : Int)) ∧ Below w.heap.size w w' := by
    have := get_any t (by rw [hts]; unfold maxLen; omega)
    rw [htl, LeP.get_bytes k a hk8] at this
    exact this
  have hp8 : p.size ≤ 8 := by omega
  have hp8' : 8 ≤ p.size := by omega
  rcases Int.lt_or_le 8 many with h8 | h8
  · obtain rfl : k = 8 := by unfold clamp8 at hk; omega
    exact leParts_case2 a ha many h8 p t s w2 hp8 hp8' hex h1 h2 h3 h4 h5 w
  · rcases Int.lt_or_le 0 many with h0 | h0
    · obtain ⟨m, rfl⟩ : ∃ m : Nat, many = (m : Int) := ⟨many.toNat, by omega⟩
      obtain rfl : k = m := by unfold clamp8 at hk; omega
      exact leParts_case1 a ha k (by omega) (by omega) p t s w2 hp8 hp8' hex h1 h2 h3 h4 h5 w
    · obtain rfl : k = 0 := by unfold clamp8 at hk; omega
      obtain rfl : t = ByteArray.empty := by rw [ht]; rfl
      exact leParts_case0 a ha many h0 p s w2 hp8 hp8' (by decide +kernel) h1 h2 h3 h4 h5 w
end Go.Proofs.Ytcgmgfhnpjojaaa
