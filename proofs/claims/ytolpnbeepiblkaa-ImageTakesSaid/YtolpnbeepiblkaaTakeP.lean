/- The plain laws of files that are read: what image.Take and the reference's Take make of bytes, and that they agree. No program, no memory. -/
import Derived.Test.YtolpnbeepiblkaaApartP
import Derived.Test.YtolpnbeepiblkaaRefSealC
import Derived.Test.YtolpnbeepiblkaaImageRight
namespace Go.Proofs.Ytolpnbeepiblkaa
open Go.RowKit
set_option linter.unusedVariables false
/-- a reader of bytes: what is taken, what is left, is it bad -/
def rT (l : List UInt8) (bad : Bool) (n : Nat) : List UInt8 × List UInt8 × Bool := if bad = true ∨ l.length < n then ([], l, true) else (l.take n, l.drop n, false)
def rN (l : List UInt8) (bad : Bool) (n : Nat) : Nat × List UInt8 × Bool := (LeP.num (rT l bad n).1, (rT l bad n).2.1, (rT l bad n).2.2)
theorem rT_good (a b : List UInt8) : rT (a ++ b) false a.length = (a, b, false) := by
  unfold rT
  rw [if_neg (by simp), List.take_left, List.drop_left]
theorem rN_good (k n : Nat) (b : List UInt8) (h : n < 256 ^ k) : rN (LeP.bytes k n ++ b) false k = (n, b, false) := by
  unfold rN
  have := rT_good (LeP.bytes k n) b
  rw [LeP.bytes_length] at this
  rw [this]
  show (LeP.num (LeP.bytes k n), b, false) = _
  rw [LeP.num_bytes, Nat.mod_eq_of_lt h]
theorem rT_back {l : List UInt8} {bad : Bool} {n : Nat} (h : (rT l bad n).2.2 = false) : bad = false ∧ l = (rT l bad n).1 ++ (rT l bad n).2.1 ∧ (rT l bad n).1.length = n := by
  unfold rT at h ⊢
  by_cases hc : bad = true ∨ l.length < n
  · rw [if_pos hc] at h; cases h
  · rw [if_neg hc]
    refine ⟨?_, (List.take_append_drop _ _).symm, ?_⟩
    · cases bad
      · rfl
      · exact absurd (Or.inl rfl) hc
    · show (l.take n).length = n
      rw [List.length_take]; omega
theorem rN_back {l : List UInt8} {bad : Bool} {n : Nat} (h : (rN l bad n).2.2 = false) : bad = false ∧ l = LeP.bytes n (rN l bad n).1 ++ (rN l bad n).2.1 ∧ (rN l bad n).1 < 256 ^ n := by
  obtain ⟨h1, h2, h3⟩ := rT_back h
  refine ⟨h1, ?_, ?_⟩
  · have e : LeP.bytes n (rN l bad n).1 = (rT l bad n).1 := by
      have := LeP.bytes_num (rT l bad n).1
      rw [h3] at this
      exact this
    rw [e]; exact h2
  · have := LeP.num_lt (rT l bad n).1
    rw [h3] at this
    exact this
theorem rT_le (l : List UInt8) (bad : Bool) (n : Nat) : (rT l bad n).1.length ≤ n ∧ (rT l bad n).2.1.length ≤ l.length ∧ (rT l bad n).1.length ≤ l.length := by
  unfold rT
  split
  · exact ⟨Nat.zero_le _, Nat.le_refl _, Nat.zero_le _⟩
  · refine ⟨List.length_take_le _ _, ?_, ?_⟩
    · show (l.drop n).length ≤ _
      rw [List.length_drop]; omega
    · exact List.length_take_le' _ _
theorem rN_lt (l : List UInt8) (bad : Bool) (n : Nat) : (rN l bad n).1 < 256 ^ n := by
  have h1 := LeP.num_lt (rT l bad n).1
  have h2 := (rT_le l bad n).1
  exact Nat.lt_of_lt_of_le h1 (Nat.pow_le_pow_right (by decide) h2)
/-- the head of a file -/
structure Hd where
  nm : List UInt8
  id : Nat
  pa : Nat
  cl : Nat
  wh : Nat
  left : List UInt8
  bad : Bool
def hdr (l : List UInt8) : Hd :=
  ⟨(rT l false 4).1,
   (rN (rT l false 4).2.1 (rT l false 4).2.2 4).1,
   (rN (rN (rT l false 4).2.1 (rT l false 4).2.2 4).2.1 (rN (rT l false 4).2.1 (rT l false 4).2.2 4).2.2 4).1,
   (rN (rN (rN (rT l false 4).2.1 (rT l false 4).2.2 4).2.1 (rN (rT l false 4).2.1 (rT l false 4).2.2 4).2.2 4).2.1 (rN (rN (rT l false 4).2.1 (rT l false 4).2.2 4).2.1 (rN (rT l false 4).2.1 (rT l false 4).2.2 4).2.2 4).2.2 1).1,
   (rN (rN (rN (rN (rT l false 4).2.1 (rT l false 4).2.2 4).2.1 (rN (rT l false 4).2.1 (rT l false 4).2.2 4).2.2 4).2.1 (rN (rN (rT l false 4).2.1 (rT l false 4).2.2 4).2.1 (rN (rT l false 4).2.1 (rT l false 4).2.2 4).2.2 4).2.2 1).2.1 (rN (rN (rN (rT l false 4).2.1 (rT l false 4).2.2 4).2.1 (rN (rT l false 4).2.1 (rT l false 4).2.2 4).2.2 4).2.1 (rN (rN (rT l false 4).2.1 (rT l false 4).2.2 4).2.1 (rN (rT l false 4).2.1 (rT l false 4).2.2 4).2.2 4).2.2 1).2.2 1).1,
   (rN (rN (rN (rN (rT l false 4).2.1 (rT l false 4).2.2 4).2.1 (rN (rT l false 4).2.1 (rT l false 4).2.2 4).2.2 4).2.1 (rN (rN (rT l false 4).2.1 (rT l false 4).2.2 4).2.1 (rN (rT l false 4).2.1 (rT l false 4).2.2 4).2.2 4).2.2 1).2.1 (rN (rN (rN (rT l false 4).2.1 (rT l false 4).2.2 4).2.1 (rN (rT l false 4).2.1 (rT l false 4).2.2 4).2.2 4).2.1 (rN (rN (rT l false 4).2.1 (rT l false 4).2.2 4).2.1 (rN (rT l false 4).2.1 (rT l false 4).2.2 4).2.2 4).2.2 1).2.2 1).2.1,
   (rN (rN (rN (rN (rT l false 4).2.1 (rT l false 4).2.2 4).2.1 (rN (rT l false 4).2.1 (rT l false 4).2.2 4).2.2 4).2.1 (rN (rN (rT l false 4).2.1 (rT l false 4).2.2 4).2.1 (rN (rT l false 4).2.1 (rT l false 4).2.2 4).2.2 4).2.2 1).2.1 (rN (rN (rN (rT l false 4).2.1 (rT l false 4).2.2 4).2.1 (rN (rT l false 4).2.1 (rT l false 4).2.2 4).2.2 4).2.1 (rN (rN (rT l false 4).2.1 (rT l false 4).2.2 4).2.1 (rN (rT l false 4).2.1 (rT l false 4).2.2 4).2.2 4).2.2 1).2.2 1).2.2⟩
/-- the head, taken step by step -/
theorem hdr_of {l nm l1 l2 l3 l4 l5 : List UInt8} {b1 b2 b3 b4 b5 : Bool} {i p c w : Nat} (h1 : rT l false 4 = (nm, l1, b1)) (h2 : rN l1 b1 4 = (i, l2, b2)) (h3 : rN l2 b2 4 = (p, l3, b3)) (h4 : rN l3 b3 1 = (c, l4, b4)) (h5 : rN l4 b4 1 = (w, l5, b5)) : hdr l = ⟨nm, i, p, c, w, l5, b5⟩ := by
  unfold hdr
  simp only [h1, h2, h3, h4, h5]
theorem hdr_good (id pa cl wh : Nat) (r : List UInt8) (h1 : id < 4294967296) (h2 : pa < 4294967296) (h3 : cl < 256) (h4 : wh < 256) :
    hdr (magicL ++ (LeP.bytes 4 id ++ (LeP.bytes 4 pa ++ (LeP.bytes 1 cl ++ (LeP.bytes 1 wh ++ r))))) = ⟨magicL, id, pa, cl, wh, r, false⟩ :=
  hdr_of (rT_good magicL _) (rN_good 4 id _ h1) (rN_good 4 pa _ h2) (rN_good 1 cl _ h3) (rN_good 1 wh _ h4)
theorem hdr_back (l : List UInt8) (h : (hdr l).bad = false) : l = (hdr l).nm ++ (LeP.bytes 4 (hdr l).id ++ (LeP.bytes 4 (hdr l).pa ++ (LeP.bytes 1 (hdr l).cl ++ (LeP.bytes 1 (hdr l).wh ++ (hdr l).left)))) ∧ (hdr l).id < 4294967296 ∧ (hdr l).pa < 4294967296 ∧ (hdr l).cl < 256 ∧ (hdr l).wh < 256 := by
  obtain ⟨⟨nm, l1, b1⟩, e1⟩ : ∃ x, rT l false 4 = x := ⟨_, rfl⟩
  obtain ⟨⟨i, l2, b2⟩, e2⟩ : ∃ x, rN l1 b1 4 = x := ⟨_, rfl⟩
  obtain ⟨⟨p, l3, b3⟩, e3⟩ : ∃ x, rN l2 b2 4 = x := ⟨_, rfl⟩
  obtain ⟨⟨c, l4, b4⟩, e4⟩ : ∃ x, rN l3 b3 1 = x := ⟨_, rfl⟩
  obtain ⟨⟨w, l5, b5⟩, e5⟩ : ∃ x, rN l4 b4 1 = x := ⟨_, rfl⟩
  rw [hdr_of e1 e2 e3 e4 e5] at h ⊢
  simp only at h ⊢
  subst h
  obtain ⟨q4, f5, g5⟩ := rN_back (by rw [e5])
  rw [e5] at f5 g5
  subst q4
  obtain ⟨q3, f4, g4⟩ := rN_back (by rw [e4])
  rw [e4] at f4 g4
  subst q3
  obtain ⟨q2, f3, g3⟩ := rN_back (by rw [e3])
  rw [e3] at f3 g3
  subst q2
  obtain ⟨q1, f2, g2⟩ := rN_back (by rw [e2])
  rw [e2] at f2 g2
  subst q1
  obtain ⟨_, f1, g1⟩ := rT_back (l := l) (bad := false) (n := 4) (by rw [e1])
  rw [e1] at f1 g1
  simp only at f1 f2 f3 f4 f5 g2 g3 g4 g5
  refine ⟨?_, g2, g3, g4, g5⟩
  rw [← f5, ← f4, ← f3, ← f2, ← f1]
theorem hdr_lt (l : List UInt8) : (hdr l).id < 4294967296 ∧ (hdr l).pa < 4294967296 ∧ (hdr l).cl < 256 ∧ (hdr l).wh < 256 := ⟨rN_lt _ _ 4, rN_lt _ _ 4, rN_lt _ _ 1, rN_lt _ _ 1⟩
/-- the tables -/
structure S1 where
  left : List UInt8
  bad : Bool
  empty : Bool
  T : Nat → Nat
def tab1 (wh k : Nat) (s : S1) : S1 := if wh / 2 ^ k % 2 = 1 then ⟨(rN s.left s.bad 2).2.1, (rN s.left s.bad 2).2.2, s.empty || ((rN s.left s.bad 2).1 == 0), fun g => if g = k then (rN s.left s.bad 2).1 else s.T g⟩ else s
def tab1s (wh : Nat) (s : S1) : Nat → S1
  | 0 => s
  | k + 1 => tab1 wh k (tab1s wh s k)
/-- the cells -/
structure S2 where
  left : List UInt8
  bad : Bool
  empty : Bool
  cs : List C
def dg (T : Nat → Nat) (a : Nat) : Nat := T (a / 8) / 4 ^ (a % 8) % 4
def cell2 (T : Nat → Nat) (a : Nat) (s : S2) : S2 :=
  if dg T a = 0 then s else if dg T a = 1 then ⟨s.left, s.bad, s.empty, s.cs ++ [((a : Int), bs [])]⟩
  else if dg T a = 2 then ⟨(rT s.left s.bad 16).2.1, (rT s.left s.bad 16).2.2, s.empty || ((rT s.left s.bad 16).1 == []), s.cs ++ [((a : Int), bs (rT s.left s.bad 16).1)]⟩
  else ⟨s.left, s.bad, true, s.cs⟩
def cell2s (T : Nat → Nat) (s : S2) : Nat → S2
  | 0 => s
  | k + 1 => cell2 T k (cell2s T s k)
def all1 (h : Hd) : S1 := tab1s h.wh ⟨h.left, h.bad, false, fun _ => 0⟩ 8
def all2 (s : S1) : S2 := cell2s s.T ⟨s.left, s.bad, s.empty, []⟩ 64
def okI (h : Hd) (s : S2) : Bool := s.left.isEmpty && !s.bad && (h.nm == magicL) && !s.empty && frB h.id h.pa h.cl s.cs
/-- what image.Take makes of bytes -/
def takeI (l : List UInt8) : (Int × Int × Int × List C) × Int :=
  if (tk l).2 ≠ 0 then ((0, 0, 0, []), (tk l).2)
  else if okI (hdr (tk l).1) (all2 (all1 (hdr (tk l).1))) = true then (((hdr (tk l).1).id, (hdr (tk l).1).pa, (hdr (tk l).1).cl, (all2 (all1 (hdr (tk l).1))).cs), 0) else ((0, 0, 0, []), 2)
/-- the reference: which clusters a group has, and which of them a text -/
def digs (g n : Nat) : Nat → List (Nat × Bool)
  | 0 => []
  | i + 1 => digs g n i ++ if n / 4 ^ i % 4 = 0 then [] else [(8 * g + i, n / 4 ^ i % 4 == 2)]
structure S3 where
  left : List UInt8
  bad : Bool
  cs : List (Nat × Bool)
def grp3 (wh g : Nat) (s : S3) : S3 := if wh / 2 ^ g % 2 = 0 then s else ⟨(rN s.left s.bad 2).2.1, (rN s.left s.bad 2).2.2, s.cs ++ digs g (rN s.left s.bad 2).1 8⟩
def grp3s (wh : Nat) (s : S3) : Nat → S3
  | 0 => s
  | k + 1 => grp3 wh k (grp3s wh s k)
def all3 (h : Hd) : S3 := grp3s h.wh ⟨h.left, h.bad, []⟩ 8
/-- the texts of the first k cells -/
def fill (cs : List (Nat × Bool)) (l : List UInt8) (bad : Bool) : List C × List UInt8 × Bool :=
  match cs with
  | [] => ([], l, bad)
  | (a, false) :: r => (((a : Int), bs []) :: (fill r l bad).1, (fill r l bad).2)
  | (a, true) :: r => (((a : Int), bs (rT l bad 16).1) :: (fill r (rT l bad 16).2.1 (rT l bad 16).2.2).1, (fill r (rT l bad 16).2.1 (rT l bad 16).2.2).2)
def all4 (s : S3) : List C × List UInt8 × Bool := fill s.cs s.left s.bad
def putL2 (id parent clusters : Int) (cs : List C) : List UInt8 × Int := if frB id parent clusters cs = true then (sealed (bodyL id.toNat parent.toNat clusters.toNat cs), 0) else ([], 1)
def okR (l : List UInt8) (h : Hd) (s : List C × List UInt8 × Bool) : Bool := !s.2.2 && (putL2 h.id h.pa h.cl s.1 == (l, 0))
/-- what the reference's Take makes of bytes -/
def takeR (l : List UInt8) : (Int × Int × Int × List C) × Int :=
  if (tk l).2 ≠ 0 then ((0, 0, 0, []), (tk l).2)
  else if okR l (hdr (tk l).1) (all4 (all3 (hdr (tk l).1))) = true then (((hdr (tk l).1).id, (hdr (tk l).1).pa, (hdr (tk l).1).cl, (all4 (all3 (hdr (tk l).1))).1), 0) else ((0, 0, 0, []), 2)
/-! ### digits -/
theorem digit_split (k x i j : Nat) (hk : k < 4) : (k * 4 ^ j + 4 ^ (j + 1) * x) / 4 ^ i % 4 = if i = j then k else 4 ^ (j + 1) * x / 4 ^ i % 4 := by
  have hp : ∀ n, 0 < 4 ^ n := fun n => Nat.pow_pos (by decide)
  by_cases h1 : i = j
  · subst h1
    rw [if_pos rfl, Nat.pow_succ, Nat.mul_assoc, Nat.mul_comm k, ← Nat.mul_add, Nat.mul_div_cancel_left _ (hp i)]
    omega
  · rw [if_neg h1]
    rcases Nat.lt_or_gt_of_ne h1 with h2 | h2
    · obtain ⟨d, rfl⟩ : ∃ d, j = i + (d + 1) := ⟨j - i - 1, by omega⟩
      have e1 : k * 4 ^ (i + (d + 1)) = 4 ^ i * (4 * (k * 4 ^ d)) := by rw [Nat.pow_add, Nat.pow_succ]; ac_rfl
      have e2 : 4 ^ (i + (d + 1) + 1) * x = 4 ^ i * (4 * (4 ^ (d + 1) * x)) := by rw [Nat.pow_succ 4 (i + (d + 1)), Nat.pow_add]; ac_rfl
      rw [e1, e2, ← Nat.mul_add, Nat.mul_div_cancel_left _ (hp i), Nat.mul_div_cancel_left _ (hp i)]
      omega
    · obtain ⟨d, rfl⟩ : ∃ d, i = j + 1 + d := ⟨i - j - 1, by omega⟩
      rw [Nat.pow_add 4 (j + 1) d, ← Nat.div_div_eq_div_mul, ← Nat.div_div_eq_div_mul, Nat.mul_div_cancel_left _ (hp (j + 1)), Nat.add_mul_div_left _ _ (hp (j + 1))]
      have : k * 4 ^ j / 4 ^ (j + 1) = 0 := by
        apply Nat.div_eq_of_lt
        rw [Nat.pow_succ, Nat.mul_comm]
        exact Nat.mul_lt_mul_of_pos_left hk (hp j)
      rw [this, Nat.zero_add]
/-- the kind of a cluster -/
def kd : List C → Nat → Nat
  | [], _ => 0
  | c :: r, a => if c.1 = (a : Int) then kindN c else kd r a
theorem kd_zero (cs : List C) (a : Nat) (h : ∀ c ∈ cs, c.1 ≠ (a : Int)) : kd cs a = 0 := by
  induction cs with
  | nil => rfl
  | cons c r ih => rw [kd, if_neg (h c (by simp)), ih fun x hx => h x (by simp [hx])]
theorem kd_append (cs ds : List C) (a : Nat) : kd (cs ++ ds) a = if kd cs a = 0 then kd ds a else kd cs a := by
  induction cs with
  | nil => rfl
  | cons c r ih =>
    rw [List.cons_append, kd, kd]
    by_cases h : c.1 = (a : Int)
    · rw [if_pos h, if_pos h, if_neg (by have := kindN_le c; omega)]
    · rw [if_neg h, if_neg h]; exact ih
theorem tabs_digit {clusters : Int} (g i : Nat) (hi : i < 8) (cs : List C) : ∀ (last : Int), -1 ≤ last → Good clusters last cs → tabs cs g / 4 ^ i % 4 = kd cs (8 * g + i) := by
  induction cs with
  | nil => intro _ _ _; rw [tabs, kd, Nat.zero_div]
  | cons c r ih =>
    intro last hl h
    have h1 := h.1
    have hr := ih c.1 (by omega) h.2.2.2
    have hg := h.2.2.2.gt
    rw [tabs, kd]
    by_cases hc : c.1.toNat / 8 = g
    · rw [if_pos hc]
      obtain ⟨x, hx⟩ := tabs_high c.1.toNat r (fun y hy => by have := hg y hy; omega)
      rw [hc] at hx
      rw [hx] at hr
      rw [hx, digit_split _ _ _ _ (by have := kindN_le c; omega)]
      by_cases he : i = c.1.toNat % 8
      · rw [if_pos he, if_pos (by omega)]
      · rw [if_neg he, if_neg (by omega), hr]
    · rw [if_neg hc, Nat.zero_add, if_neg (by omega), hr]
theorem digits_same (n m : Nat) (hn : n < 65536) (hm : m < 65536) (h : ∀ i, i < 8 → n / 4 ^ i % 4 = m / 4 ^ i % 4) : n = m := by
  have h0 := h 0 (by omega)
  have h1 := h 1 (by omega)
  have h2 := h 2 (by omega)
  have h3 := h 3 (by omega)
  have h4 := h 4 (by omega)
  have h5 := h 5 (by omega)
  have h6 := h 6 (by omega)
  have h7 := h 7 (by omega)
  simp only [show (4 : Nat) ^ 0 = 1 from rfl, show (4 : Nat) ^ 1 = 4 from rfl, show (4 : Nat) ^ 2 = 16 from rfl, show (4 : Nat) ^ 3 = 64 from rfl, show (4 : Nat) ^ 4 = 256 from rfl, show (4 : Nat) ^ 5 = 1024 from rfl, show (4 : Nat) ^ 6 = 4096 from rfl, show (4 : Nat) ^ 7 = 16384 from rfl] at h0 h1 h2 h3 h4 h5 h6 h7
  omega
/-! ### what lies ahead of a cluster, and from it on -/
def lo (cs : List C) (a : Nat) : List C := cs.takeWhile fun c => decide (c.1 < (a : Int))
def hi (cs : List C) (a : Nat) : List C := cs.dropWhile fun c => decide (c.1 < (a : Int))
theorem lo_none (cs : List C) (a : Nat) (h : ∀ c ∈ cs, (a : Int) ≤ c.1) : lo cs a = [] ∧ hi cs a = cs := by
  cases cs with
  | nil => exact ⟨rfl, rfl⟩
  | cons c r =>
    have := h c (by simp)
    have hd : decide (c.1 < (a : Int)) = false := by rw [decide_eq_false_iff_not]; omega
    unfold lo hi
    rw [List.takeWhile_cons, List.dropWhile_cons, hd]
    exact ⟨rfl, rfl⟩
theorem lo_cons (c : C) (r : List C) (a : Nat) (h : c.1 < (a : Int)) : lo (c :: r) a = c :: lo r a ∧ hi (c :: r) a = hi r a := by
  have hd : decide (c.1 < (a : Int)) = true := by rw [decide_eq_true_eq]; exact h
  unfold lo hi
  rw [List.takeWhile_cons, List.dropWhile_cons, hd]
  exact ⟨rfl, rfl⟩
theorem lo_all (cs : List C) (a : Nat) (h : ∀ c ∈ cs, c.1 < (a : Int)) : lo cs a = cs ∧ hi cs a = [] := by
  induction cs with
  | nil => exact ⟨rfl, rfl⟩
  | cons c r ih =>
    obtain ⟨h1, h2⟩ := lo_cons c r a (h c (by simp))
    obtain ⟨h3, h4⟩ := ih fun x hx => h x (by simp [hx])
    rw [h1, h2, h3, h4]; exact ⟨rfl, rfl⟩
theorem step_hi {clusters : Int} (a : Nat) (cs : List C) : ∀ (last : Int), Good clusters last cs →
    (∃ c r, hi cs a = c :: r ∧ c.1 = (a : Int) ∧ lo cs (a + 1) = lo cs a ++ [c] ∧ hi cs (a + 1) = r ∧ kd cs a = kindN c ∧ (c.2.size = 0 ∨ (c.2.size = 16 ∧ zeroB c.2 = false))) ∨
    (lo cs (a + 1) = lo cs a ∧ hi cs (a + 1) = hi cs a ∧ kd cs a = 0) := by
  induction cs with
  | nil => intro _ _; exact .inr ⟨rfl, rfl, rfl⟩
  | cons c r ih =>
    intro last h
    have hg := h.2.2.2.gt
    rcases Int.lt_trichotomy c.1 (a : Int) with h1 | h1 | h1
    · obtain ⟨e1, e2⟩ := lo_cons c r a h1
      obtain ⟨e3, e4⟩ := lo_cons c r (a + 1) (by omega)
      rw [e1, e2, e3, e4, kd, if_neg (by omega)]
      rcases ih c.1 h.2.2.2 with ⟨x, y, f1, f2, f3, f4, f5, f6⟩ | ⟨f1, f2, f3⟩
      · exact .inl ⟨x, y, f1, f2, by rw [f3]; rfl, f4, f5, f6⟩
      · exact .inr ⟨by rw [f1], f2, f3⟩
    · obtain ⟨e1, e2⟩ := lo_none (c :: r) a (fun x hx => by
        rw [List.mem_cons] at hx
        rcases hx with rfl | hx
        · omega
        · have := hg x hx; omega)
      obtain ⟨e3, e4⟩ := lo_cons c r (a + 1) (by omega)
      obtain ⟨e5, e6⟩ := lo_none r (a + 1) (fun x hx => by have := hg x hx; omega)
      exact .inl ⟨c, r, e2, h1, by rw [e3, e5, e1]; rfl, by rw [e4, e6], by rw [kd, if_pos h1], h.2.2.1⟩
    · obtain ⟨e1, e2⟩ := lo_none (c :: r) a (fun x hx => by
        rw [List.mem_cons] at hx
        rcases hx with rfl | hx
        · omega
        · have := hg x hx; omega)
      obtain ⟨e3, e4⟩ := lo_none (c :: r) (a + 1) (fun x hx => by
        rw [List.mem_cons] at hx
        rcases hx with rfl | hx
        · omega
        · have := hg x hx; omega)
      refine .inr ⟨by rw [e1, e3], by rw [e2, e4], kd_zero _ _ fun x hx => ?_⟩
      rw [List.mem_cons] at hx
      rcases hx with rfl | hx
      · omega
      · have := hg x hx; omega
/-! ### tables -/
def rowFrom (t : Nat → Nat) (k : Nat) : Nat → List UInt8
  | 0 => []
  | m + 1 => (if 0 < t k then LeP.bytes 2 (t k) else []) ++ rowFrom t (k + 1) m
theorem row_split (t : Nat → Nat) (m : Nat) : ∀ k, rowTo t k ++ rowFrom t k m = rowTo t (k + m) := by
  induction m with
  | zero => intro k; rw [rowFrom, List.append_nil]; rfl
  | succ m ih =>
    intro k
    rw [rowFrom, ← List.append_assoc]
    have := ih (k + 1)
    rw [rowTo] at this
    rw [this]
    congr 1
    omega
theorem whichTo_bit (t : Nat → Nat) (n k : Nat) (h : k < n) : whichTo t n / 2 ^ k % 2 = if 0 < t k then 1 else 0 := by
  induction n with
  | zero => omega
  | succ n ih =>
    rw [whichTo]
    have hp : 0 < 2 ^ k := Nat.pow_pos (by decide)
    by_cases e : k = n
    · subst e
      have hl := whichTo_lt t k
      split
      · rw [Nat.add_div_right _ hp, Nat.div_eq_of_lt hl]
      · rw [Nat.add_zero, Nat.div_eq_of_lt hl]
    · rw [← ih (by omega)]
      split
      · obtain ⟨d, rfl⟩ : ∃ d, n = k + (d + 1) := ⟨n - k - 1, by omega⟩
        rw [Nat.pow_add, Nat.add_mul_div_left _ _ hp, Nat.pow_succ]
        omega
      · rfl
theorem which_of_bits (t : Nat → Nat) (wh k : Nat) (h : ∀ g, g < k → (wh / 2 ^ g % 2 = 1 ↔ 0 < t g)) : whichTo t k = wh % 2 ^ k := by
  induction k with
  | zero => rw [whichTo, Nat.pow_zero, Nat.mod_one]
  | succ k ih =>
    rw [whichTo, ih fun g hg => h g (by omega), Crc.mod_succ]
    have := h k (by omega)
    by_cases hb : wh / 2 ^ k % 2 = 1
    · rw [if_pos hb, if_pos (this.1 hb)]
    · rw [if_neg hb, if_neg fun h2 => hb (this.2 h2)]
theorem rowTo_congr (t u : Nat → Nat) (k : Nat) (h : ∀ g, g < k → t g = u g) : rowTo t k = rowTo u k := by
  induction k with
  | zero => rfl
  | succ k ih => rw [rowTo, rowTo, ih fun g hg => h g (by omega), h k (by omega)]
theorem which_congr (t u : Nat → Nat) (k : Nat) (h : ∀ g, g < k → t g = u g) : whichTo t k = whichTo u k := by
  induction k with
  | zero => rfl
  | succ k ih => rw [whichTo, whichTo, ih fun g hg => h g (by omega), h k (by omega)]
theorem dg_congr (t u : Nat → Nat) (a : Nat) (ha : a < 64) (h : ∀ g, g < 8 → t g = u g) : dg t a = dg u a := by unfold dg; rw [h (a / 8) (by omega)]
/-- the tables of a file that was put -/
theorem tab1s_good (t : Nat → Nat) (ht : ∀ g, t g < 65536) (r : List UInt8) (k : Nat) (hk : k ≤ 8) :
    (tab1s (whichTo t 8) ⟨rowFrom t 0 8 ++ r, false, false, fun _ => 0⟩ k).left = rowFrom t k (8 - k) ++ r ∧ (tab1s (whichTo t 8) ⟨rowFrom t 0 8 ++ r, false, false, fun _ => 0⟩ k).bad = false ∧ (tab1s (whichTo t 8) ⟨rowFrom t 0 8 ++ r, false, false, fun _ => 0⟩ k).empty = false ∧ ∀ g, g < 8 → (tab1s (whichTo t 8) ⟨rowFrom t 0 8 ++ r, false, false, fun _ => 0⟩ k).T g = if g < k then t g else 0 := by
  induction k with
  | zero => exact ⟨rfl, rfl, rfl, fun g _ => by rw [if_neg (by omega)]; rfl⟩
  | succ k ih =>
    obtain ⟨h1, h2, h3, h4⟩ := ih (by omega)
    rw [tab1s]
    generalize tab1s (whichTo t 8) ⟨rowFrom t 0 8 ++ r, false, false, fun _ => 0⟩ k = s at h1 h2 h3 h4 ⊢
    obtain ⟨sl, sb, se, sT⟩ := s
    simp only at h1 h2 h3 h4
    subst h1 h2 h3
    have hf : rowFrom t k (8 - k) = (if 0 < t k then LeP.bytes 2 (t k) else []) ++ rowFrom t (k + 1) (8 - (k + 1)) := by
      rw [show 8 - k = (8 - (k + 1)) + 1 by omega, rowFrom]
    unfold tab1
    rw [whichTo_bit t 8 k (by omega), hf]
    by_cases hp : 0 < t k
    · rw [if_pos hp, if_pos hp, if_pos rfl, List.append_assoc, rN_good 2 (t k) _ (ht k)]
      refine ⟨rfl, rfl, ?_, fun g hg => ?_⟩
      · show (false || (t k == 0)) = false
        rw [Bool.false_or, beq_eq_false_iff_ne]; omega
      · show (if g = k then t k else sT g) = _
        by_cases e : g = k
        · rw [if_pos e, if_pos (by omega), e]
        · rw [if_neg e, h4 g hg]
          by_cases e2 : g < k
          · rw [if_pos e2, if_pos (by omega)]
          · rw [if_neg e2, if_neg (by omega)]
    · rw [if_neg hp, if_neg hp, if_neg (by decide), List.nil_append]
      refine ⟨rfl, rfl, rfl, fun g hg => ?_⟩
      show sT g = _
      rw [h4 g hg]
      by_cases e : g = k
      · rw [if_neg (by omega), if_pos (by omega), e]; omega
      · by_cases e2 : g < k
        · rw [if_pos e2, if_pos (by omega)]
        · rw [if_neg e2, if_neg (by omega)]
theorem texts_cons (c : C) (r : List C) : texts (c :: r) = c.2.data.toList ++ texts r := by simp [texts]
theorem ba_empty (s : ByteArray) (h : s.size = 0) : s = bs [] := by
  rw [← bs_data s]
  have : s.data.toList.length = 0 := by rw [size_list]; exact h
  rw [List.length_eq_zero_iff.1 this]
/-- the cells of a file that was put -/
theorem cell2s_good {clusters : Int} (cs : List C) (hg : Good clusters (-1) cs) (T : Nat → Nat) (hT : ∀ a, a < 64 → dg T a = kd cs a) (k : Nat) (hk : k ≤ 64) :
    cell2s T ⟨texts cs, false, false, []⟩ k = ⟨texts (hi cs k), false, false, lo cs k⟩ := by
  induction k with
  | zero =>
    obtain ⟨h1, h2⟩ := lo_none cs 0 (fun c hc => by have := hg.gt c hc; omega)
    rw [cell2s, h1, h2]
  | succ k ih =>
    rw [cell2s, ih (by omega)]
    unfold cell2
    rw [hT k (by omega)]
    rcases step_hi k cs (-1) hg with ⟨c, r, f1, f2, f3, f4, f5, f6⟩ | ⟨f1, f2, f3⟩
    · rw [f5, f1, f3, f4, texts_cons]
      unfold kindN
      by_cases hz : c.2.size = 0
      · rw [if_pos hz, if_neg (by decide), if_pos rfl, ba_empty c.2 hz]
        have hc : c = ((k : Int), bs []) := Prod.ext f2 (ba_empty c.2 hz)
        rw [← hc]
        rfl
      · have h16 := f6.resolve_left hz
        rw [if_neg hz, if_neg (by decide), if_neg (by decide), if_pos rfl]
        have hl : c.2.data.toList.length = 16 := by rw [size_list]; exact h16.1
        have hr := rT_good c.2.data.toList (texts r)
        rw [hl] at hr
        simp only [hr]
        have hc : c = ((k : Int), bs c.2.data.toList) := Prod.ext f2 (bs_data c.2).symm
        rw [← hc]
        have he : (c.2.data.toList == []) = false := by
          rw [beq_eq_false_iff_ne]; intro e; rw [e] at hl; cases hl
        rw [he]
        rfl
    · rw [f3, if_pos rfl, f1, f2]
theorem body_split (I Q M : Nat) (cs : List C) : bodyL I Q M cs = magicL ++ (LeP.bytes 4 I ++ (LeP.bytes 4 Q ++ (LeP.bytes 1 M ++ (LeP.bytes 1 (whichTo (tabs cs) 8) ++ (rowFrom (tabs cs) 0 8 ++ texts cs))))) := by
  unfold bodyL
  have := row_split (tabs cs) 8 0
  rw [rowTo, List.nil_append] at this
  rw [this]
  simp only [List.append_assoc]
theorem frB_nat {id parent clusters : Int} {cs : List C} (h : frB id parent clusters cs = true) : ∃ I Q M : Nat, id = (I : Int) ∧ parent = (Q : Int) ∧ clusters = (M : Int) ∧ I < 4294967296 ∧ Q < 4294967296 ∧ 1 ≤ M ∧ M ≤ 64 ∧ Good (M : Int) (-1) cs := by
  unfold frB at h
  simp only [Bool.and_eq_true, decide_eq_true_eq] at h
  obtain ⟨hg, h1, h2⟩ := rightB_parts _ _ h.1.1.1.1.1
  refine ⟨id.toNat, parent.toNat, clusters.toNat, by omega, by omega, by omega, by omega, by omega, by omega, by omega, ?_⟩
  rw [show ((clusters.toNat : Nat) : Int) = clusters by omega]
  exact hg
theorem hi_end {M : Nat} {cs : List C} (hg : Good (M : Int) (-1) cs) (hM : M ≤ 64) : lo cs 64 = cs ∧ hi cs 64 = [] :=
  lo_all cs 64 fun c hc => by
    obtain ⟨k, hk, rfl⟩ := List.getElem_of_mem hc
    have := (hg.drop k hk).2.1
    omega
/-- (A) a file that was put is taken -/
theorem takeI_put (id parent clusters : Int) (cs : List C) (h : frB id parent clusters cs = true) : takeI (sealed (bodyL id.toNat parent.toNat clusters.toNat cs)) = ((id, parent, clusters, cs), 0) := by
  obtain ⟨I, Q, M, rfl, rfl, rfl, hI, hQ, hM1, hM, hg⟩ := frB_nat h
  simp only [Int.toNat_natCast]
  have hh : hdr (bodyL I Q M cs) = ⟨magicL, I, Q, M, whichTo (tabs cs) 8, rowFrom (tabs cs) 0 8 ++ texts cs, false⟩ := by
    rw [body_split]
    exact hdr_good I Q M _ _ hI hQ (by omega) (whichTo_lt _ 8)
  have hsm : ∀ g, tabs cs g < 65536 := tabs_small hg (by omega)
  obtain ⟨t1, t2, t3, t4⟩ := tab1s_good (tabs cs) hsm (texts cs) 8 (Nat.le_refl _)
  have ha1 : all1 (hdr (bodyL I Q M cs)) = ⟨texts cs, false, false, (all1 (hdr (bodyL I Q M cs))).T⟩ := by
    rw [hh]
    show tab1s (whichTo (tabs cs) 8) ⟨rowFrom (tabs cs) 0 8 ++ texts cs, false, false, fun _ => 0⟩ 8 = _
    have e : ∀ s : S1, s = ⟨s.left, s.bad, s.empty, s.T⟩ := fun _ => rfl
    rw [e (tab1s (whichTo (tabs cs) 8) ⟨rowFrom (tabs cs) 0 8 ++ texts cs, false, false, fun _ => 0⟩ 8), t1, t2, t3]
    rfl
  have hT : ∀ a, a < 64 → dg (all1 (hdr (bodyL I Q M cs))).T a = kd cs a := by
    intro a ha
    have e1 : dg (all1 (hdr (bodyL I Q M cs))).T a = dg (tabs cs) a := by
      refine dg_congr _ _ a ha fun g hg8 => ?_
      rw [hh]
      have := t4 g hg8
      rw [if_pos hg8] at this
      exact this
    rw [e1]
    unfold dg
    rw [tabs_digit (a / 8) (a % 8) (by omega) cs (-1) (by omega) hg]
    congr 1
    omega
  have ha2 : all2 (all1 (hdr (bodyL I Q M cs))) = ⟨[], false, false, cs⟩ := by
    unfold all2
    rw [ha1]
    simp only
    rw [cell2s_good cs hg _ hT 64 (Nat.le_refl _)]
    obtain ⟨e1, e2⟩ := hi_end hg hM
    rw [e1, e2]
    rfl
  unfold takeI
  rw [tk_sealed]
  simp only
  rw [if_neg (by decide), ha2, hh]
  have : okI ⟨magicL, I, Q, M, whichTo (tabs cs) 8, rowFrom (tabs cs) 0 8 ++ texts cs, false⟩ ⟨[], false, false, cs⟩ = true := by
    unfold okI
    simp only
    rw [h]
    rfl
  rw [if_pos this]
end Go.Proofs.Ytolpnbeepiblkaa
