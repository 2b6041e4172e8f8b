/- The plain law of files: the same bytes, the same file. No program, no memory. -/
import Derived.Test.YtolpnbeepiblkaaImageP
namespace Go.Proofs.Ytolpnbeepiblkaa
open Go.RowKit
set_option linter.unusedVariables false
theorem Good.gt {clusters : Int} {cs : List C} : ∀ {last : Int}, Good clusters last cs → ∀ c ∈ cs, last < c.1 := by
  induction cs with
  | nil => intro _ _ c hc; simp at hc
  | cons c r ih =>
    intro last h x hx
    rw [List.mem_cons] at hx
    rcases hx with rfl | hx
    · exact h.1
    · have := ih h.2.2.2 x hx
      have := h.1
      omega
theorem tabs_high (a : Nat) (cs : List C) (h : ∀ c ∈ cs, (a : Int) < c.1) : ∃ x, tabs cs (a / 8) = 4 ^ (a % 8 + 1) * x := by
  induction cs with
  | nil => exact ⟨0, by rw [tabs]; omega⟩
  | cons c r ih =>
    obtain ⟨x, hx⟩ := ih fun y hy => h y (by simp [hy])
    rw [tabs, hx]
    by_cases hg : c.1.toNat / 8 = a / 8
    · rw [if_pos hg]
      have h1 := h c (by simp)
      have : c.1.toNat % 8 = (a % 8 + 1) + (c.1.toNat % 8 - (a % 8 + 1)) := by omega
      rw [this, Nat.pow_add]
      exact ⟨kindN c * 4 ^ (c.1.toNat % 8 - (a % 8 + 1)) + x, by rw [Nat.mul_add, Nat.mul_left_comm]⟩
    · rw [if_neg hg]
      exact ⟨x, by omega⟩
theorem tabs_self (c : C) (r : List C) : tabs (c :: r) (c.1.toNat / 8) = kindN c * 4 ^ (c.1.toNat % 8) + tabs r (c.1.toNat / 8) := by rw [tabs, if_pos rfl]
theorem low_digit (p k x k' x' : Nat) (hp : 0 < p) (hk : k < 4) (hk' : k' < 4) (h : k * p + p * 4 * x = k' * p + p * 4 * x') : k = k' ∧ x = x' := by
  have e1 : k * p + p * 4 * x = p * (k + 4 * x) := by rw [Nat.mul_add, Nat.mul_comm k p, Nat.mul_assoc]
  have e2 : k' * p + p * 4 * x' = p * (k' + 4 * x') := by rw [Nat.mul_add, Nat.mul_comm k' p, Nat.mul_assoc]
  rw [e1, e2] at h
  have := Nat.eq_of_mul_eq_mul_left hp h
  omega
theorem kindN_size {c c' : C} (h : kindN c = kindN c') : (c.2.size = 0 ↔ c'.2.size = 0) := by
  unfold kindN at h
  split at h <;> split at h <;> simp_all
theorem list_ba {s t : ByteArray} (h : s.data.toList = t.data.toList) : s = t := ByteArray.ext (Array.ext' h)
theorem cells_same {clusters clusters' : Int} (cs : List C) : ∀ (cs' : List C) (last : Int), -1 ≤ last → Good clusters last cs → Good clusters' last cs' → (∀ g, tabs cs g = tabs cs' g) → texts cs = texts cs' → cs = cs' := by
  induction cs with
  | nil =>
    intro cs' last hl _ h' ht _
    cases cs' with
    | nil => rfl
    | cons c r =>
      have h := ht (c.1.toNat / 8)
      rw [tabs, tabs, if_pos rfl] at h
      have h1 := (kindN_le c).1
      have h2 : 0 < 4 ^ (c.1.toNat % 8) := Nat.pow_pos (by decide)
      have h3 := Nat.mul_pos (show 0 < kindN c by omega) h2
      omega
  | cons c r ih =>
    intro cs' last hl h h' ht hx
    cases cs' with
    | nil =>
      have h := ht (c.1.toNat / 8)
      rw [tabs_self, tabs] at h
      have h1 := (kindN_le c).1
      have h2 : 0 < 4 ^ (c.1.toNat % 8) := Nat.pow_pos (by decide)
      have h3 := Nat.mul_pos (show 0 < kindN c by omega) h2
      omega
    | cons c' r' =>
      have e0 : ((c.1.toNat : Nat) : Int) = c.1 := by have := h.1; omega
      have e0' : ((c'.1.toNat : Nat) : Int) = c'.1 := by have := h'.1; omega
      have hk := kindN_le c
      have hk' := kindN_le c'
      have g1 := h.2.2.2.gt
      have g2 := h'.2.2.2.gt
      have hnlt : ¬ c.1 < c'.1 := by
        intro hlt
        have heq := ht (c.1.toNat / 8)
        obtain ⟨u, hu⟩ := tabs_high c.1.toNat r (fun x hx => by have := g1 x hx; omega)
        obtain ⟨v, hv⟩ := tabs_high c.1.toNat (c' :: r') (fun x hx => by
          rw [List.mem_cons] at hx
          rcases hx with rfl | hx
          · omega
          · have := g2 x hx; omega)
        rw [tabs, if_pos rfl, hu, hv, Nat.pow_succ] at heq
        have := low_digit (4 ^ (c.1.toNat % 8)) (kindN c) u 0 v (Nat.pow_pos (by decide)) (by omega) (by omega) (by omega)
        omega
      have hngt : ¬ c'.1 < c.1 := by
        intro hlt
        have heq := ht (c'.1.toNat / 8)
        obtain ⟨u, hu⟩ := tabs_high c'.1.toNat r' (fun x hx => by have := g2 x hx; omega)
        obtain ⟨v, hv⟩ := tabs_high c'.1.toNat (c :: r) (fun x hx => by
          rw [List.mem_cons] at hx
          rcases hx with rfl | hx
          · omega
          · have := g1 x hx; omega)
        rw [tabs_self c' r', hu, hv, Nat.pow_succ] at heq
        have := low_digit (4 ^ (c'.1.toNat % 8)) 0 v (kindN c') u (Nat.pow_pos (by decide)) (by omega) (by omega) (by omega)
        omega
      have hat : c.1 = c'.1 := by omega
      have hkk : kindN c = kindN c' := by
        have heq := ht (c.1.toNat / 8)
        obtain ⟨u, hu⟩ := tabs_high c.1.toNat r (fun x hx => by have := g1 x hx; omega)
        obtain ⟨v, hv⟩ := tabs_high c.1.toNat r' (fun x hx => by have := g2 x hx; omega)
        rw [tabs, tabs, if_pos rfl, if_pos (by rw [hat]), hu, hv, Nat.pow_succ, ← hat] at heq
        exact (low_digit (4 ^ (c.1.toNat % 8)) (kindN c) u (kindN c') v (Nat.pow_pos (by decide)) (by omega) (by omega) heq).1
      have hsz := kindN_size hkk
      have hl : c.2.data.toList.length = c'.2.data.toList.length := by
        have e1 : c.2.data.toList.length = c.2.size := Array.length_toList
        have e2 : c'.2.data.toList.length = c'.2.size := Array.length_toList
        rw [e1, e2]
        rcases h.2.2.1 with h1 | h1 <;> rcases h'.2.2.1 with h2 | h2 <;> omega
      have hx' : c.2.data.toList ++ texts r = c'.2.data.toList ++ texts r' := by simpa [texts] using hx
      obtain ⟨hx1, hx2⟩ := List.append_inj hx' hl
      have hcc : c = c' := Prod.ext hat (list_ba hx1)
      subst hcc
      have hr := ih r' c.1 (by have := h.1; omega) h.2.2.2 h'.2.2.2 (fun g => by have := ht g; rw [tabs, tabs] at this; omega) hx2
      rw [hr]
theorem bytes_inj (k n m : Nat) (hn : n < 256 ^ k) (hm : m < 256 ^ k) (h : LeP.bytes k n = LeP.bytes k m) : n = m := by
  have := congrArg LeP.num h
  rw [LeP.num_bytes, LeP.num_bytes, Nat.mod_eq_of_lt hn, Nat.mod_eq_of_lt hm] at this
  exact this
theorem which_inj (t t' : Nat → Nat) (k : Nat) (h : whichTo t k = whichTo t' k) : ∀ g, g < k → (0 < t g ↔ 0 < t' g) := by
  induction k with
  | zero => intro g hg; omega
  | succ k ih =>
    have l1 := whichTo_lt t k
    have l2 := whichTo_lt t' k
    rw [whichTo, whichTo] at h
    have hk : (0 < t k ↔ 0 < t' k) ∧ whichTo t k = whichTo t' k := by
      by_cases h1 : 0 < t k <;> by_cases h2 : 0 < t' k
      · rw [if_pos h1, if_pos h2] at h; exact ⟨by simp [h1, h2], by omega⟩
      · rw [if_pos h1, if_neg h2] at h; omega
      · rw [if_neg h1, if_pos h2] at h; omega
      · rw [if_neg h1, if_neg h2] at h; exact ⟨by simp [h1, h2], by omega⟩
    intro g hg
    by_cases e : g = k
    · rw [e]; exact hk.1
    · exact ih hk.2 g (by omega)
theorem row_length_eq (t t' : Nat → Nat) (k : Nat) (h : ∀ g, g < k → (0 < t g ↔ 0 < t' g)) : (rowTo t k).length = (rowTo t' k).length := by
  induction k with
  | zero => rfl
  | succ k ih =>
    rw [rowTo, rowTo, List.length_append, List.length_append, ih fun g hg => h g (by omega)]
    have := h k (by omega)
    by_cases h1 : 0 < t k
    · rw [if_pos h1, if_pos (this.1 h1), LeP.bytes_length, LeP.bytes_length]
    · rw [if_neg h1, if_neg (fun h2 => h1 (this.2 h2))]
theorem row_inj (t t' : Nat → Nat) (hs : ∀ g, t g < 65536) (hs' : ∀ g, t' g < 65536) (k : Nat) (h : ∀ g, g < k → (0 < t g ↔ 0 < t' g)) (hr : rowTo t k = rowTo t' k) : ∀ g, g < k → t g = t' g := by
  induction k with
  | zero => intro g hg; omega
  | succ k ih =>
    rw [rowTo, rowTo] at hr
    obtain ⟨h1, h2⟩ := List.append_inj hr (row_length_eq t t' k fun g hg => h g (by omega))
    intro g hg
    by_cases e : g = k
    · subst e
      have := h g (by omega)
      by_cases hp : 0 < t g
      · rw [if_pos hp, if_pos (this.1 hp)] at h2
        exact bytes_inj 2 _ _ (hs g) (hs' g) h2
      · have : ¬ 0 < t' g := fun h2 => hp (this.2 h2)
        omega
    · exact ih (fun g hg => h g (by omega)) h1 g (by omega)
theorem tabs_zero {clusters : Int} (cs : List C) : ∀ (last : Int), -1 ≤ last → Good clusters last cs → clusters ≤ 64 → ∀ g, 8 ≤ g → tabs cs g = 0 := by
  induction cs with
  | nil => intros; rfl
  | cons c r ih =>
    intro last hl h hc g hg
    have h1 := h.1
    have h2 := h.2.1
    rw [tabs, if_neg (by omega), ih c.1 (by omega) h.2.2.2 hc g hg]
theorem body_inj {I Q M I' Q' M' : Nat} {cs cs' : List C} (hI : I < 4294967296) (hQ : Q < 4294967296) (hM : M ≤ 64) (hI' : I' < 4294967296) (hQ' : Q' < 4294967296) (hM' : M' ≤ 64)
    (h : Good (M : Int) (-1) cs) (h' : Good (M' : Int) (-1) cs') (e : bodyL I Q M cs = bodyL I' Q' M' cs') : I = I' ∧ Q = Q' ∧ M = M' ∧ cs = cs' := by
  unfold bodyL at e
  have lb : ∀ k n m, (LeP.bytes k n).length = (LeP.bytes k m).length := fun k n m => by rw [LeP.bytes_length, LeP.bytes_length]
  simp only [List.append_assoc] at e
  obtain ⟨_, e⟩ := List.append_inj e rfl
  obtain ⟨e1, e⟩ := List.append_inj e (lb _ _ _)
  obtain ⟨e2, e⟩ := List.append_inj e (lb _ _ _)
  obtain ⟨e3, e⟩ := List.append_inj e (lb _ _ _)
  obtain ⟨e4, e⟩ := List.append_inj e (lb _ _ _)
  have hw := bytes_inj 1 _ _ (whichTo_lt _ 8) (whichTo_lt _ 8) e4
  have hpos := which_inj _ _ 8 hw
  obtain ⟨e5, e6⟩ := List.append_inj e (row_length_eq _ _ 8 hpos)
  have ht := row_inj _ _ (tabs_small h (by omega)) (tabs_small h' (by omega)) 8 hpos e5
  refine ⟨bytes_inj 4 _ _ hI hI' e1, bytes_inj 4 _ _ hQ hQ' e2, bytes_inj 1 _ _ (by omega) (by omega) e3, cells_same cs cs' (-1) (by omega) h h' (fun g => ?_) e6⟩
  rcases Nat.lt_or_ge g 8 with hg | hg
  · exact ht g hg
  · rw [tabs_zero cs _ (by omega) h (by omega) g hg, tabs_zero cs' _ (by omega) h' (by omega) g hg]
theorem sealed_inj {l m : List UInt8} (h : sealed l = sealed m) : l = m := by
  have hl := congrArg List.length h
  rw [sealed_length, sealed_length] at hl
  exact (List.append_inj h (by omega)).1
end Go.Proofs.Ytolpnbeepiblkaa
