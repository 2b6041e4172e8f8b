/- The plain laws of images: tables, texts, and the bytes of a file. No program, no memory. -/
import Derived.Test.YtolpnbeepiblkaaCellRight
import Derived.Test.YtolpnbeepiblkaaLeP
import Derived.Test.YtolpnbeepiblkaaSealC
namespace Go.Proofs.Ytolpnbeepiblkaa
open Go.RowKit
set_option linter.unusedVariables false
def Good (clusters last : Int) : List C → Prop
  | [] => True
  | c :: r => last < c.1 ∧ c.1 < clusters ∧ (c.2.size = 0 ∨ (c.2.size = 16 ∧ zeroB c.2 = false)) ∧ Good clusters c.1 r
theorem good_of_right (clusters : Int) (cs : List C) : ∀ last, rightFrom clusters last cs = true → Good clusters last cs := by
  induction cs with
  | nil => intro _ _; trivial
  | cons c r ih =>
    intro last h
    rw [rightFrom] at h
    cases hb : badC clusters last c with
    | true => rw [hb, if_pos rfl] at h; cases h
    | false =>
      rw [hb, if_neg (by decide)] at h
      unfold badC at hb
      simp only [Bool.or_eq_false_iff, Bool.and_eq_false_iff, decide_eq_false_iff_not, ne_eq, Decidable.not_not] at hb
      obtain ⟨⟨h1, h2⟩, h3⟩ := hb
      exact ⟨by omega, by omega, h3, ih _ h⟩
theorem right_of_good (clusters : Int) (cs : List C) : ∀ last, Good clusters last cs → rightFrom clusters last cs = true := by
  induction cs with
  | nil => intro _ _; rfl
  | cons c r ih =>
    intro last h
    obtain ⟨h1, h2, h3, h4⟩ := h
    have hb : badC clusters last c = false := by
      unfold badC
      simp only [Bool.or_eq_false_iff, Bool.and_eq_false_iff, decide_eq_false_iff_not, ne_eq, Decidable.not_not]
      exact ⟨⟨by omega, by omega⟩, h3⟩
    rw [rightFrom, hb, if_neg (by decide)]
    exact ih _ h4
theorem rightB_parts (clusters : Int) (cs : List C) (h : rightB clusters cs = true) : Good clusters (-1) cs ∧ 1 ≤ clusters ∧ clusters ≤ 64 := by
  unfold rightB at h
  rw [Bool.and_eq_true] at h
  refine ⟨good_of_right _ _ _ h.1, ?_⟩
  have h2 := h.2
  unfold newR at h2
  split at h2
  · simp at h2
  · omega
theorem rightB_of (clusters : Int) (cs : List C) (h : Good clusters (-1) cs) (h1 : 1 ≤ clusters) (h2 : clusters ≤ 64) : rightB clusters cs = true := by
  unfold rightB
  rw [right_of_good _ _ _ h]
  unfold newR
  rw [if_neg (by omega)]
  rfl
theorem Good.drop {clusters : Int} {cs : List C} : ∀ {last : Int} (k : Nat), Good clusters last cs → ∀ (hk : k < cs.length), last < cs[k].1 ∧ cs[k].1 < clusters ∧ (cs[k].2.size = 0 ∨ (cs[k].2.size = 16 ∧ zeroB cs[k].2 = false)) := by
  induction cs with
  | nil => intro _ k _ hk; simp at hk
  | cons c r ih =>
    intro last k h hk
    cases k with
    | zero => exact ⟨h.1, h.2.1, h.2.2.1⟩
    | succ k =>
      have := ih k h.2.2.2 (by simpa using hk)
      have h1 := h.1
      simp only [List.getElem_cons_succ]
      exact ⟨by omega, this.2⟩
/-- no more cells than clusters -/
theorem Good.length {clusters : Int} {cs : List C} : ∀ {last : Int}, Good clusters last cs → last < clusters → (cs.length : Int) ≤ clusters - last - 1 := by
  induction cs with
  | nil => intro last _ h; simp; omega
  | cons c r ih =>
    intro last h hl
    have := ih h.2.2.2 h.2.1
    have h1 := h.1
    simp only [List.length_cons]
    omega
def kindN (c : C) : Nat := if c.2.size = 0 then 1 else 2
/-- the table of a group -/
def tabs : List C → Nat → Nat
  | [], _ => 0
  | c :: r, g => (if c.1.toNat / 8 = g then kindN c * 4 ^ (c.1.toNat % 8) else 0) + tabs r g
theorem tabs_append (l m : List C) (g : Nat) : tabs (l ++ m) g = tabs l g + tabs m g := by
  induction l with
  | nil => simp [tabs]
  | cons c l ih => rw [List.cons_append, tabs, tabs, ih]; omega
theorem kindN_le (c : C) : 1 ≤ kindN c ∧ kindN c ≤ 2 := by unfold kindN; split <;> omega
/-- what lies ahead of a cluster in its group -/
theorem tabs_lt_aux (g m : Nat) (hm : m ≤ 8) (cs : List C) : ∀ (last : Int) (clusters : Int), -1 ≤ last → last < 8 * g + m → Good clusters last cs → (∀ c ∈ cs, c.1 < 8 * g + m) → tabs cs g + 4 ^ ((last + 1).toNat - 8 * g) ≤ 4 ^ m := by
  induction cs with
  | nil =>
    intro last clusters h0 h1 _ _
    rw [tabs, Nat.zero_add]
    exact Nat.pow_le_pow_right (by decide) (by omega)
  | cons c r ih =>
    intro last clusters h0 h1 hg hc
    have hcm := hc c (by simp)
    have hr := ih c.1 clusters (by have := hg.1; omega) hcm hg.2.2.2 (fun x hx => hc x (by simp [hx]))
    have hlc := hg.1
    have hk := kindN_le c
    rw [tabs]
    by_cases hgr : c.1.toNat / 8 = g
    · rw [if_pos hgr]
      have e : (c.1 + 1).toNat - 8 * g = (c.1.toNat % 8) + 1 := by omega
      rw [e, Nat.pow_succ] at hr
      have hp : 4 ^ ((last + 1).toNat - 8 * g) ≤ 4 ^ (c.1.toNat % 8) := Nat.pow_le_pow_right (by decide) (by omega)
      have hm2 : kindN c * 4 ^ (c.1.toNat % 8) ≤ 2 * 4 ^ (c.1.toNat % 8) := Nat.mul_le_mul_right _ hk.2
      omega
    · rw [if_neg hgr, Nat.zero_add]
      have e : (last + 1).toNat - 8 * g ≤ (c.1 + 1).toNat - 8 * g := by omega
      have hp : 4 ^ ((last + 1).toNat - 8 * g) ≤ 4 ^ ((c.1 + 1).toNat - 8 * g) := Nat.pow_le_pow_right (by decide) e
      omega
theorem Good.take {clusters : Int} {cs : List C} : ∀ {last : Int} (k : Nat), Good clusters last cs → Good clusters last (cs.take k) := by
  induction cs with
  | nil => intro _ k _; rw [List.take_nil]; trivial
  | cons c r ih =>
    intro last k h
    cases k with
    | zero => trivial
    | succ k => exact ⟨h.1, h.2.1, h.2.2.1, ih k h.2.2.2⟩
theorem Good.lt_at {clusters : Int} {cs : List C} : ∀ {last : Int} (k : Nat), Good clusters last cs → ∀ (hk : k < cs.length), ∀ c ∈ cs.take k, c.1 < cs[k].1 := by
  induction cs with
  | nil => intro _ k _ hk; simp at hk
  | cons c r ih =>
    intro last k h hk x hx
    cases k with
    | zero => simp at hx
    | succ k =>
      have hk' : k < r.length := by simpa using hk
      simp only [List.getElem_cons_succ]
      rw [List.take_succ_cons, List.mem_cons] at hx
      rcases hx with rfl | hx
      · exact (Good.drop k h.2.2.2 hk').1
      · exact ih k h.2.2.2 hk' x hx
theorem tabs_before {clusters : Int} {cs : List C} (h : Good clusters (-1) cs) (k : Nat) (hk : k < cs.length) (a : Nat) (ha : cs[k].1 = (a : Int)) : tabs (cs.take k) (a / 8) < 4 ^ (a % 8) := by
  have hl := h.lt_at k hk
  have := tabs_lt_aux (a / 8) (a % 8) (by omega) (cs.take k) (-1) clusters (by omega) (by omega) (h.take k) (fun c hc => by have := hl c hc; rw [ha] at this; omega)
  have hp : 0 < 4 ^ ((-1 + 1 : Int).toNat - 8 * (a / 8)) := Nat.pow_pos (by decide)
  omega
theorem tabs_small {clusters : Int} {cs : List C} (h : Good clusters (-1) cs) (h64 : clusters ≤ 64) (g : Nat) : tabs cs g < 65536 := by
  have hkey : ∀ (l : List C) (last : Int), -1 ≤ last → last < 8 * g + 8 → Good clusters last l → tabs l g + 4 ^ ((last + 1).toNat - 8 * g) ≤ 4 ^ 8 := by
    intro l
    induction l with
    | nil =>
      intro last h0 h1 _
      rw [tabs, Nat.zero_add]
      exact Nat.pow_le_pow_right (by decide) (by omega)
    | cons c r ih =>
      intro last h0 h1 hg
      have hk := kindN_le c
      have hlc := hg.1
      by_cases hc : c.1 < 8 * g + 8
      · have hr := ih c.1 (by omega) hc hg.2.2.2
        rw [tabs]
        by_cases hgr : c.1.toNat / 8 = g
        · rw [if_pos hgr]
          have e : (c.1 + 1).toNat - 8 * g = (c.1.toNat % 8) + 1 := by omega
          rw [e, Nat.pow_succ] at hr
          have hp : 4 ^ ((last + 1).toNat - 8 * g) ≤ 4 ^ (c.1.toNat % 8) := Nat.pow_le_pow_right (by decide) (by omega)
          have hm2 : kindN c * 4 ^ (c.1.toNat % 8) ≤ 2 * 4 ^ (c.1.toNat % 8) := Nat.mul_le_mul_right _ hk.2
          omega
        · rw [if_neg hgr, Nat.zero_add]
          have hp : 4 ^ ((last + 1).toNat - 8 * g) ≤ 4 ^ ((c.1 + 1).toNat - 8 * g) := Nat.pow_le_pow_right (by decide) (by omega)
          omega
      · have hz : ∀ (l : List C) (la : Int), 8 * g + 8 ≤ la + 1 → Good clusters la l → tabs l g = 0 := by
          intro l
          induction l with
          | nil => intros; rfl
          | cons x l ihl =>
            intro la hla hgl
            have := hgl.1
            rw [tabs, if_neg (by omega), ihl x.1 (by omega) hgl.2.2.2]
        have h0' : tabs (c :: r) g = 0 := hz (c :: r) (c.1 - 1) (by omega) ⟨by omega, hg.2⟩
        rw [h0', Nat.zero_add]
        exact Nat.pow_le_pow_right (by decide) (by omega)
  have := hkey cs (-1) (by omega) (by omega) h
  have hp : 0 < 4 ^ ((-1 + 1 : Int).toNat - 8 * g) := Nat.pow_pos (by decide)
  have : (4 : Nat) ^ 8 = 65536 := rfl
  omega
def texts (cs : List C) : List UInt8 := cs.flatMap fun c => c.2.data.toList
theorem texts_append (l m : List C) : texts (l ++ m) = texts l ++ texts m := by simp [texts]
theorem texts_le {clusters : Int} (cs : List C) : ∀ (last : Int), Good clusters last cs → (texts cs).length ≤ 16 * cs.length := by
  induction cs with
  | nil => intros; simp [texts]
  | cons c r ih =>
    intro last h
    have := ih _ h.2.2.2
    have hs : c.2.data.toList.length = c.2.size := Array.length_toList
    have e : texts (c :: r) = c.2.data.toList ++ texts r := by simp [texts]
    rw [e, List.length_append, hs, List.length_cons]
    have := h.2.2.1
    omega
/-- which groups have a cell, of the first k -/
def whichTo (t : Nat → Nat) : Nat → Nat
  | 0 => 0
  | k + 1 => whichTo t k + if 0 < t k then 2 ^ k else 0
theorem whichTo_lt (t : Nat → Nat) (k : Nat) : whichTo t k < 2 ^ k := by
  induction k with
  | zero => simp [whichTo]
  | succ k ih => rw [whichTo, Nat.pow_succ]; split <;> omega
def rowTo (t : Nat → Nat) : Nat → List UInt8
  | 0 => []
  | k + 1 => rowTo t k ++ if 0 < t k then LeP.bytes 2 (t k) else []
theorem rowTo_le (t : Nat → Nat) (k : Nat) : (rowTo t k).length ≤ 2 * k := by
  induction k with
  | zero => simp [rowTo]
  | succ k ih =>
    rw [rowTo, List.length_append]
    split
    · rw [LeP.bytes_length]; omega
    · simp; omega
def magicL : List UInt8 := [114, 99, 105, 109]
/-- a file's bytes, without the sum -/
def bodyL (id parent clusters : Nat) (cs : List C) : List UInt8 :=
  magicL ++ LeP.bytes 4 id ++ LeP.bytes 4 parent ++ LeP.bytes 1 clusters ++ LeP.bytes 1 (whichTo (tabs cs) 8) ++ rowTo (tabs cs) 8 ++ texts cs
end Go.Proofs.Ytolpnbeepiblkaa
