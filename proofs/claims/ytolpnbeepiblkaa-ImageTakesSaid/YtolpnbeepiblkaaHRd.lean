/- The readers' contracts over lists of bytes; rows of cells of one's own. Conditions: lengths are those of texts; a reader lies in a block of its own. -/
import Derived.Test.YtolpnbeepiblkaaHRight
import Derived.Test.YtolpnbeepiblkaaHFlat0
import Derived.Test.YtolpnbeepiblkaaReaders
import Derived.Test.YtolpnbeepiblkaaTakeP
namespace Go.Proofs.Ytolpnbeepiblkaa
open Go.RowKit
theorem rdT_list (l : List UInt8) (bad : Bool) (n : Nat) : rdT (bs l) bad (n : Int) = (bs (rT l bad n).1, bs (rT l bad n).2.1, (rT l bad n).2.2) := by
  unfold rdT rT
  by_cases h : bad = true ∨ l.length < n
  · rw [if_pos h, if_pos (by rw [bs_size]; rcases h with h | h; (· exact .inl h); exact .inr (.inr (by omega)))]
  · rw [if_neg h, if_neg (by rw [bs_size]; rintro (h1 | h1 | h1); (· exact h (.inl h1)); (· omega); exact h (.inr (by omega)))]
    rw [Int.toNat_natCast, take_at]
    have e : (bs l).extract n (bs l).size = bs (l.drop n) := by
      have := extract_list2 (bs l) n
      rw [bs_list] at this
      rw [← this, bs_data]
    rw [e]
theorem rdN_list (l : List UInt8) (bad : Bool) (n : Nat) (h8 : n ≤ 8) : rdN (bs l) bad (n : Int) = ((rN l bad n).1, bs (rN l bad n).2.1, (rN l bad n).2.2) := by
  unfold rdN
  rw [if_neg (by omega), rdT_list]
  show (LeP.get (bs (rT l bad n).1).data.toList, bs (rT l bad n).2.1, (rT l bad n).2.2) = _
  rw [bs_list]
  unfold LeP.get rN
  rw [List.take_of_length_le (by have := (rT_le l bad n).1; omega)]
abbrev Rdr (w : World) (g : Nat) (l : List UInt8) (bad : Bool) : Prop := Blk w g 73 #[.string (bs l), .bool bad]
abbrev RRdr (w : World) (g : Nat) (l : List UInt8) (bad : Bool) : Prop := Blk w g 77 #[.string (bs l), .bool bad]
theorem text_l (g : Nat) (l : List UInt8) (bad : Bool) (n : Nat) (hs : l.length ≤ maxLen) (w : World) (hr : Rdr w g l bad) :
    Calls Try.prog 32 #[.pointer (some ⟨g, 0, none⟩), .int .i64 n] w fun e w' => e = .returned (.string (bs (rT l bad n).1)) ∧ Rdr w' g (rT l bad n).2.1 (rT l bad n).2.2 ∧ w.grownBy w' (some g) := by
  have := text_any g (bs l) bad (n : Int) (by rw [bs_size]; exact hs) w hr
  rw [rdT_list] at this
  exact this
theorem rtext_l (g : Nat) (l : List UInt8) (bad : Bool) (n : Nat) (hs : l.length ≤ maxLen) (w : World) (hr : RRdr w g l bad) :
    Calls Try.prog 36 #[.pointer (some ⟨g, 0, none⟩), .int .i64 n] w fun e w' => e = .returned (.string (bs (rT l bad n).1)) ∧ RRdr w' g (rT l bad n).2.1 (rT l bad n).2.2 ∧ w.grownBy w' (some g) := by
  have := rtext_any g (bs l) bad (n : Int) (by rw [bs_size]; exact hs) w hr
  rw [rdT_list] at this
  exact this
theorem number_l (g : Nat) (l : List UInt8) (bad : Bool) (n : Nat) (h8 : n ≤ 8) (hs : l.length ≤ maxLen) (w : World) (hr : Rdr w g l bad) :
    Calls Try.prog 33 #[.pointer (some ⟨g, 0, none⟩), .int .i64 n] w fun e w' => e = .returned (.int .u64 (((rN l bad n).1 : Nat) : Int)) ∧ Rdr w' g (rN l bad n).2.1 (rN l bad n).2.2 ∧ w.grownBy w' (some g) := by
  have := number_any g (bs l) bad (n : Int) (by rw [bs_size]; exact hs) w hr
  rw [rdN_list l bad n h8] at this
  exact this
theorem rnumber_l (g : Nat) (l : List UInt8) (bad : Bool) (n : Nat) (h8 : n ≤ 8) (hs : l.length ≤ maxLen) (w : World) (hr : RRdr w g l bad) :
    Calls Try.prog 37 #[.pointer (some ⟨g, 0, none⟩), .int .i64 n] w fun e w' => e = .returned (.int .u64 (((rN l bad n).1 : Nat) : Int)) ∧ RRdr w' g (rN l bad n).2.1 (rN l bad n).2.2 ∧ w.grownBy w' (some g) := by
  have := rnumber_any g (bs l) bad (n : Int) (by rw [bs_size]; exact hs) w hr
  rw [rdN_list l bad n h8] at this
  exact this
theorem over_l (g : Nat) (l : List UInt8) (bad : Bool) (w : World) (hr : Rdr w g l bad) :
    Calls Try.prog 34 #[.pointer (some ⟨g, 0, none⟩)] w fun e w' => e = .returned (.bool (l.isEmpty && !bad)) ∧ w = w' := by
  have := over_any g (bs l) bad w hr
  have e : rdO (bs l) bad = (l.isEmpty && !bad) := by
    unfold rdO
    rw [ByteArray.toList_eq, bs_list]
  rw [e] at this
  exact this
theorem rN_left (l : List UInt8) (bad : Bool) (n : Nat) : (rN l bad n).2.1.length ≤ l.length := (rT_le l bad n).2.1
end Go.Proofs.Ytolpnbeepiblkaa
namespace Go.Proofs.Ytolpnbeepiblkaa.Pr
open Go.RowKit Go.Proofs.YtolpnbeepiblkaaW.PrintWords Go.Proofs.YtolpnbeepiblkaaW.PrintLast Go.Proofs.Ytolpnbeepiblkaa
set_option linter.unusedVariables false
def encC (x : SC) : List Value := [.int .i64 x.f0, .string x.f1]
theorem encC_len (x : SC) : (encC x).length = 2 := rfl
theorem encC_one (x : SC) : ∀ u ∈ encC x, u.oneCell' = true := by intro u hu; simp [encC] at hu; rcases hu with rfl | rfl <;> rfl
theorem encC_mk (w : World) (base : Nat) (ok : Nat → Prop) (x : SC) : kC.M w base ok x (encC x) := k33_mkM w base ok x
theorem encC_open (w : World) (base : Nat) (ok : Nat → Prop) (x : SC) (cs : List Value) (h : kC.M w base ok x cs) : cs = encC x := k33_openM h
theorem infoC : (Try.prog.info? 33).map (fun i => (i.zero, i.size, i.bytes)) = some (some (.agg #[.int .i64 0, .string ⟨#[]⟩]), 2, 24) := by kernel_rfl
abbrev ownC (w : World) (base : Nat) (v : Value) (l : List SC) : Prop := w.ownsRow base 33 2 v l.length (flatE encC l)
theorem ownC_R {w : World} {base : Nat} {v : Value} {l : List SC} (h : ownC w base v l) : Kd.R kC 33 w base (fun _ => True) v l := R_of_own (d := kC) encC_len encC_mk h (fun _ _ => trivial)
theorem R_ownC {w : World} {base : Nat} {ok : Nat → Prop} {v : Value} {l : List SC} (h : Kd.R kC 33 w base ok v l) : ownC w base v l := own_of_R (d := kC) encC_len encC_open h
def mkC (c : C) : SC := ⟨c.1, c.2⟩
theorem prs_mk (cs : List C) : prs (cs.map mkC) = cs := by
  unfold prs
  rw [List.map_map]
  exact (List.map_congr_left (fun _ _ => rfl)).trans (List.map_id' cs)
end Go.Proofs.Ytolpnbeepiblkaa.Pr
