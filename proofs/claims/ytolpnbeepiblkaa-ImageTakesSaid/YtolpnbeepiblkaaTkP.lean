/- What ImageTakes wants of the plain laws of layer 10: cells, alike files, and what the reference's Put answers. Conditions: texts are no longer than texts can be. -/
import Derived.Test.YtolpnbeepiblkaaHRight
import Derived.Test.YtolpnbeepiblkaaHRefRight
import Derived.Test.YtolpnbeepiblkaaHRLePut
import Derived.Test.YtolpnbeepiblkaaHRSealPut
import Derived.Test.YtolpnbeepiblkaaApartP
import Derived.Test.YtolpnbeepiblkaaImageRight
import Derived.Test.YtolpnbeepiblkaaImagePut
import Derived.Test.YtolpnbeepiblkaaPrx1
import Derived.Test.YtolpnbeepiblkaaPrx2
import Derived.Test.YtolpnbeepiblkaaPrx3
import Derived.Test.YtolpnbeepiblkaaPrx4
namespace Go.Proofs.Ytolpnbeepiblkaa.Pr
open Go.RowKit Go.Proofs.Ytolpnbeepiblkaa Go.Proofs.YtolpnbeepiblkaaW.PrintWords Go.Proofs.YtolpnbeepiblkaaW.PrintLast
theorem w64 {n : Int} (h : -9223372036854775808 ≤ n ∧ n ≤ 9223372036854775807) : wrap64 n = n := by unfold wrap64; omega
def toR (x : SC) : SR := ⟨x.f0, x.f1⟩
theorem rdC_eq {l : List SC} {i : Nat} (h : i < l.length) : rd_T33 l (i : Int) = l[i] := by
  unfold rd_T33
  rw [Int.toNat_natCast, List.getD_eq_getElem?_getD, List.getElem?_eq_getElem h]; rfl
theorem rdR_eq {l : List SR} {i : Nat} (h : i < l.length) : rd_T67 l (i : Int) = l[i] := by
  unfold rd_T67
  rw [Int.toNat_natCast, List.getD_eq_getElem?_getD, List.getElem?_eq_getElem h]; rfl
theorem toC_map (l : List SC) : (l.map toR).map toC = l := by
  rw [List.map_map, show toC ∘ toR = id from rfl, List.map_id]
theorem len_map (l : List SC) : (l.map toR).length = l.length := List.length_map _
theorem rdR_map {l : List SC} {i : Nat} (h : i < l.length) : rd_T67 (l.map toR) (i : Int) = toR l[i] := by
  rw [rdR_eq (by simpa using h), List.getElem_map]
theorem toList_inj {s t : ByteArray} (h : s.toList = t.toList) : s = t := by
  rw [ByteArray.toList_eq, ByteArray.toList_eq] at h
  exact ByteArray.ext (Array.ext' h)
theorem sc_ext {x y : SC} (h : x.f0 = y.f0) (h' : x.f1 = y.f1) : x = y := by
  obtain ⟨a, b⟩ := x; obtain ⟨c, d⟩ := y
  dsimp only at h h'
  subst h h'; rfl
theorem same_l0 (c c' : Int) (l m : List SC) (hl : l.length ≤ 1000000) (hlm : l.length = m.length) (d : Nat) : ∀ (i : Nat), i + d = l.length → ∃ b, Ev (fun k => rootcellarlaw10_same.l0 k (i : Int) c l c' (m.map toR)) b ∧ (b = true ↔ l.drop i = m.drop i) := by
  induction d with
  | zero =>
    intro i hi
    refine ⟨true, Ev.step (f := fun _ => some true) (fun k => ?_) (Ev.now _), by rw [List.drop_of_length_le (by omega), List.drop_of_length_le (by omega)]; simp⟩
    rw [rootcellarlaw10_same.l0, if_neg (by omega)]
  | succ d ih =>
    intro i hi
    have hlt : i < l.length := by omega
    have hlt' : i < m.length := by omega
    have no : l[i] ≠ m[i] → (false = true ↔ l.drop i = m.drop i) := fun h => ⟨fun h => (Bool.noConfusion h), fun e => by
      rw [List.drop_eq_getElem_cons hlt, List.drop_eq_getElem_cons hlt'] at e
      exact absurd (List.cons.inj e).1 h⟩
    by_cases e0 : l[i].f0 = m[i].f0
    · by_cases e1 : l[i].f1 = m[i].f1
      · obtain ⟨b, hb, hi'⟩ := ih (i + 1) (by omega)
        refine ⟨b, Ev.step (f := fun k => rootcellarlaw10_same.l0 k ((i + 1 : Nat) : Int) c l c' (m.map toR)) (fun k => ?_) hb, ?_⟩
        · rw [rootcellarlaw10_same.l0, if_pos (by omega), if_pos (by omega), if_pos (by rw [len_map]; omega), rdC_eq hlt, rdR_map hlt', if_pos (show l[i].f0 = (toR m[i]).f0 from e0), if_pos (show l[i].f1.toList = (toR m[i]).f1.toList from congrArg ByteArray.toList e1), show wrap64 ((i : Int) + 1) = ((i + 1 : Nat) : Int) by rw [w64 (by omega)]; omega]
        · rw [hi', List.drop_eq_getElem_cons hlt, List.drop_eq_getElem_cons hlt', sc_ext e0 e1]
          exact ⟨fun h => by rw [h], fun h => (List.cons.inj h).2⟩
      · refine ⟨false, Ev.step (f := fun _ => some false) (fun k => ?_) (Ev.now _), no (fun h => e1 (by rw [h]))⟩
        rw [rootcellarlaw10_same.l0, if_pos (by omega), if_pos (by omega), if_pos (by rw [len_map]; omega), rdC_eq hlt, rdR_map hlt', if_pos (show l[i].f0 = (toR m[i]).f0 from e0), if_neg (show ¬ l[i].f1.toList = (toR m[i]).f1.toList from fun h => e1 (toList_inj h))]
    · refine ⟨false, Ev.step (f := fun _ => some false) (fun k => ?_) (Ev.now _), no (fun h => e0 (by rw [h]))⟩
      rw [rootcellarlaw10_same.l0, if_pos (by omega), if_pos (by omega), if_pos (by rw [len_map]; omega), rdC_eq hlt, rdR_map hlt', if_neg (show ¬ l[i].f0 = (toR m[i]).f0 from e0)]
theorem same_ev (c c' : Int) (l m : List SC) (hl : l.length ≤ 1000000) : ∃ b, Ev (fun k => rootcellarlaw10_same.f k c l c' (m.map toR)) b ∧ (b = true ↔ c = c' ∧ l = m) := by
  have j0 : Ev (fun k => rootcellarlaw10_same.j0 k true c l c' (m.map toR)) false := Ev.step (f := fun _ => some false) (fun k => by rw [rootcellarlaw10_same.j0, if_pos rfl]) (Ev.now _)
  by_cases hc : c = c'
  · by_cases hlm : l.length = m.length
    · obtain ⟨b, hb, hi⟩ := same_l0 c c' l m hl hlm l.length 0 (by omega)
      refine ⟨b, Ev.congr (f := fun k => rootcellarlaw10_same.j0 k false c l c' (m.map toR)) (fun k => ?_) (Ev.step (f := fun k => rootcellarlaw10_same.l0 k 0 c l c' (m.map toR)) (fun k => ?_) hb), ?_⟩
      · unfold rootcellarlaw10_same.f; rw [if_pos hc, len_map, hlm, bne_self_eq_false]
      · rw [rootcellarlaw10_same.j0, if_neg (by decide)]
      · rw [hi, List.drop_zero, List.drop_zero]; simp [hc]
    · refine ⟨false, Ev.congr (fun k => ?_) j0, ⟨fun h => (Bool.noConfusion h), fun h => absurd (by rw [h.2]) hlm⟩⟩
      unfold rootcellarlaw10_same.f; rw [if_pos hc, len_map, show ((l.length : Int) != (m.length : Int)) = true by simpa using fun h => hlm (by omega)]
  · refine ⟨false, Ev.congr (fun k => ?_) j0, ⟨fun h => (Bool.noConfusion h), fun h => absurd h.1 hc⟩⟩
    unfold rootcellarlaw10_same.f; rw [if_neg hc]
theorem alike_ev (i i' p p' c c' : Int) (l m : List SC) (hl : l.length ≤ 1000000) : ∃ b, Ev (fun k => rootcellarlaw10_alike.f k i p c l i' p' c' (m.map toR)) b ∧ (b = true ↔ i = i' ∧ p = p' ∧ c = c' ∧ l = m) := by
  obtain ⟨b, ⟨K, h⟩, hb⟩ := same_ev c c' l m hl
  by_cases e1 : i = i'
  · by_cases e2 : p = p'
    · refine ⟨b, ⟨K, fun k hk => ?_⟩, by rw [hb]; simp [e1, e2]⟩
      replace h := h k hk
      dsimp only at h ⊢
      unfold rootcellarlaw10_alike.f
      rw [if_pos e1, if_pos e2, h, Option.bind_some]
    · refine ⟨false, Ev.congr (f := fun _ => some false) (fun k => ?_) (Ev.now _), by simp [e2]⟩
      unfold rootcellarlaw10_alike.f
      rw [if_pos e1, if_neg e2]
  · refine ⟨false, Ev.congr (f := fun _ => some false) (fun k => ?_) (Ev.now _), by simp [e1]⟩
    unfold rootcellarlaw10_alike.f
    rw [if_neg e1]
theorem u64w {n : Int} (h : 0 ≤ n ∧ n < 18446744073709551616) : IntKind.u64.wrap n = n := by rw [IntKind.wrap_u64]; omega
def kd : List SC → Int → Nat
  | [], _ => 0
  | x :: r, a => if x.f0 = a then (if x.f1.size = 0 then 1 else 2) else kd r a
theorem kd_le (l : List SC) (a : Int) : kd l a ≤ 2 := by
  induction l with
  | nil => simp [kd]
  | cons x r ih =>
    rw [kd]
    split
    · split <;> omega
    · exact ih
theorem kd_none (l : List SC) (a : Int) (h : ∀ x ∈ l, x.f0 ≠ a) : kd l a = 0 := by
  induction l with
  | nil => rfl
  | cons x r ih => rw [kd, if_neg (h x (by simp))]; exact ih (fun y hy => h y (by simp [hy]))
theorem empty_iff (s : ByteArray) : (s.toList = ([] : List UInt8)) ↔ s.size = 0 := by
  have := empty_list s
  constructor
  · intro h; rw [h] at this; simpa using this.symm
  · intro h; rw [h] at this; simpa using this
theorem kind_l0 (c a : Int) (l : List SC) (hl : l.length ≤ 1000000) (d : Nat) : ∀ i : Nat, i + d = l.length → Ev (fun k => rootcellarref10_kind.l0 k a (i : Int) c (l.map toR)) ((kd (l.drop i) a : Nat) : Int) := by
  induction d with
  | zero =>
    intro i hi
    refine Ev.step (f := fun _ => some 0) (fun k => ?_) (by rw [List.drop_of_length_le (by omega)]; exact Ev.now _)
    rw [rootcellarref10_kind.l0, if_neg (by rw [len_map]; omega)]
  | succ d ih =>
    intro i hi
    have hlt : i < l.length := by omega
    have e1 : wrap64 ((i : Int) + 1) = ((i + 1 : Nat) : Int) := by rw [w64 (by omega)]; omega
    rw [List.drop_eq_getElem_cons hlt, kd]
    by_cases e : l[i].f0 = a
    · rw [if_pos e]
      refine Ev.step (f := fun k => rootcellarref10_kind.j1 k a (i : Int) (l[i].f1.toList == ([] : List UInt8)) c (l.map toR)) (fun k => ?_) ?_
      · rw [rootcellarref10_kind.l0, if_pos (by rw [len_map]; omega), if_pos (by omega), rdR_map hlt, if_pos (show (toR l[i]).f0 = a from e)]; rfl
      · by_cases h0 : l[i].f1.size = 0
        · rw [if_pos h0, (empty_iff _).2 h0]
          exact Ev.step (f := fun _ => some 1) (fun k => by rw [rootcellarref10_kind.j1, if_pos (show (([] : List UInt8) == []) = true from rfl)]) (Ev.now _)
        · rw [if_neg h0, show (l[i].f1.toList == ([] : List UInt8)) = false by simpa using fun h => h0 ((empty_iff _).1 h)]
          refine Ev.step (f := fun _ => some 2) (fun k => ?_) (Ev.now _)
          rw [rootcellarref10_kind.j1, if_neg (by decide), if_pos (by omega), if_pos (by rw [len_map]; omega), rdR_map hlt, if_pos (show (toR l[i]).f0 = a from e)]
    · rw [if_neg e]
      refine Ev.step (f := fun k => rootcellarref10_kind.j1 k a (i : Int) false c (l.map toR)) (fun k => ?_) (Ev.step (f := fun k => rootcellarref10_kind.l0 k a ((i + 1 : Nat) : Int) c (l.map toR)) (fun k => ?_) (ih (i + 1) (by omega)))
      · rw [rootcellarref10_kind.l0, if_pos (by rw [len_map]; omega), if_pos (by omega), rdR_map hlt, if_neg (show ¬ (toR l[i]).f0 = a from e)]
      · rw [rootcellarref10_kind.j1, if_neg (by decide), if_pos (by omega), if_pos (by rw [len_map]; omega), rdR_map hlt, if_neg (show ¬ (toR l[i]).f0 = a from e), e1]
theorem kind_ev (c a : Int) (l : List SC) (hl : l.length ≤ 1000000) : Ev (fun k => rootcellarref10_kind.f k c (l.map toR) a) ((kd l a : Nat) : Int) :=
  kind_l0 c a l hl l.length 0 (by omega)
def S (f : Nat → Nat) : Nat → Nat
  | 0 => 0
  | m + 1 => S f m + f m * 4 ^ m
theorem S_congr (f f' : Nat → Nat) (m : Nat) (h : ∀ i, i < m → f i = f' i) : S f m = S f' m := by
  induction m with
  | zero => rfl
  | succ m ih => rw [S, S, ih (fun i hi => h i (by omega)), h m (by omega)]
theorem S_set (f f' : Nat → Nat) (i0 v : Nat) (h : ∀ i, f' i = if i = i0 then v else f i) (h0 : f i0 = 0) (m : Nat) : S f' m = S f m + if i0 < m then v * 4 ^ i0 else 0 := by
  induction m with
  | zero => simp [S]
  | succ m ih =>
    rw [S, S, ih, h m]
    by_cases e : m = i0
    · subst e
      rw [if_pos rfl, if_neg (by omega), if_pos (by omega), h0]; omega
    · rw [if_neg e]
      by_cases hlt : i0 < m
      · rw [if_pos hlt, if_pos (by omega)]; omega
      · rw [if_neg hlt, if_neg (by omega)]; omega
theorem tabs_kd (g : Nat) (clusters : Int) (l : List SC) : ∀ last, -1 ≤ last → Good clusters last (prs l) → S (fun i => kd l (8 * g + i)) 8 = tabs (prs l) g := by
  induction l with
  | nil =>
    intro _ _ _
    exact (S_congr (fun i => kd [] (8 * g + i)) (fun _ => 0) 8 (fun i _ => rfl)).trans rfl
  | cons x r ih =>
    intro last hl h
    have h1 : last < x.f0 := h.1
    have hr : Good clusters x.f0 (prs r) := h.2.2.2
    have hih := ih x.f0 (by omega) hr
    have hgt : ∀ y ∈ r, x.f0 < y.f0 := fun y hy => hr.gt (y.f0, y.f1) (List.mem_map.2 ⟨y, hy, rfl⟩)
    show S (fun i => kd (x :: r) (8 * g + i)) 8 = (if x.f0.toNat / 8 = g then kindN (x.f0, x.f1) * 4 ^ (x.f0.toNat % 8) else 0) + tabs (prs r) g
    rw [← hih]
    by_cases e : x.f0.toNat / 8 = g
    · rw [if_pos e, S_set (fun i => kd r (8 * g + i)) _ (x.f0.toNat % 8) (kindN (x.f0, x.f1)) (fun i => ?_) (kd_none _ _ (fun y hy => by have := hgt y hy; omega)) 8, if_pos (by omega)]
      · omega
      · rw [kd]
        by_cases hi : i = x.f0.toNat % 8
        · rw [if_pos (by omega), if_pos hi]; rfl
        · rw [if_neg (by omega), if_neg hi]
    · rw [if_neg e, Nat.zero_add]
      refine S_congr _ _ 8 (fun i hi => ?_)
      rw [kd, if_neg (by omega)]
section
variable (i p c : Int) (l : List SC) (hl : l.length ≤ 1000000) (g : Nat) (hg : g < 8) (s : ByteArray) (q : Int) (T : Nat) (hT : T < 65536)
include hl hg hT
theorem put_l1 {r : ByteArray × Int} (h : Ev (fun k => rootcellarref10_Put.l1 k q s (g : Int) (T : Int) (-1) i p c (l.map toR)) r) (j : Nat) : ∀ (x : Nat), S (fun i => kd l (8 * g + i)) j + 4 ^ j * x = T → j ≤ 8 → Ev (fun k => rootcellarref10_Put.l1 k q s (g : Int) (x : Int) ((j : Int) - 1) i p c (l.map toR)) r := by
  induction j with
  | zero =>
    intro x hx _
    rw [S] at hx
    rw [show x = T by simpa using hx]
    exact h
  | succ j ih =>
    intro x hx hj
    have hx' : S (fun i => kd l (8 * g + i)) j + 4 ^ j * (4 * x + kd l (8 * g + j)) = T := by
      rw [S, Nat.pow_succ] at hx
      rw [Nat.mul_add, ← Nat.mul_assoc, Nat.mul_comm (4 ^ j) (kd l (8 * g + j))]
      omega
    have hb : 4 * x + kd l (8 * g + j) ≤ T := by
      have := Nat.le_mul_of_pos_left (4 * x + kd l (8 * g + j)) (Nat.pow_pos (n := j) (show 0 < 4 by omega))
      omega
    refine Ev.step (f := fun k => (rootcellarref10_kind.f k c (l.map toR) (8 * (g : Int) + (j : Int))).bind fun t146 => (rootcellarref10_Put.l1 k q s (g : Int) (wrap64 ((4 * x : Nat) + t146)) ((j : Int) - 1) i p c (l.map toR))) (fun k => ?_) (Ev.bind (kind_ev c _ l hl) (Ev.congr (fun k => ?_) (ih _ hx' (by omega))))
    · rw [rootcellarref10_Put.l1, if_pos (by omega)]
      rw [w64 (n := 8 * (g : Int)) (by omega), show ((j + 1 : Nat) : Int) - 1 = (j : Int) by omega, w64 (n := 8 * (g : Int) + (j : Int)) (by omega), show wrap64 (4 * (x : Int)) = ((4 * x : Nat) : Int) by rw [w64 (by omega)]; omega, w64 (n := (j : Int) - 1) (by omega)]
    · rw [w64 (by omega)]
      congr 1
end
end Go.Proofs.Ytolpnbeepiblkaa.Pr
namespace Go.Proofs.Ytolpnbeepiblkaa.Pr
open Go.RowKit Go.Proofs.Ytolpnbeepiblkaa Go.Proofs.YtolpnbeepiblkaaW.PrintWords Go.Proofs.YtolpnbeepiblkaaW.PrintLast
theorem rlp {x : Int} (h : 0 ≤ x ∧ x < 18446744073709551616) (m : Int) : rootcellarref2_Put.f x m = some ⟨(LeP.bytes (clamp8 m) x.toNat).toArray⟩ := by
  unfold rootcellarref2_Put.f; rw [if_pos h]
theorem leb_size (k n : Nat) : (⟨(LeP.bytes k n).toArray⟩ : ByteArray).size = k := by
  show (LeP.bytes k n).toArray.size = k
  rw [List.size_toArray, LeP.bytes_length]
theorem leb_list (k n : Nat) : (⟨(LeP.bytes k n).toArray⟩ : ByteArray).data.toList = LeP.bytes k n := rfl
theorem ba_append (s t : ByteArray) : (s ++ t).data.toList = s.data.toList ++ t.data.toList := by rw [ByteArray.data_append, Array.toList_append]
theorem shl_pow (g : Nat) (hg : g < 8) : shl .i64 1 (g : Int) = ((2 ^ g : Nat) : Int) := by
  have : g = 0 ∨ g = 1 ∨ g = 2 ∨ g = 3 ∨ g = 4 ∨ g = 5 ∨ g = 6 ∨ g = 7 := by omega
  rcases this with rfl | rfl | rfl | rfl | rfl | rfl | rfl | rfl <;> decide
theorem good_texts {clusters : Int} (l : List SC) : ∀ last, Good clusters last (prs l) → ∀ x ∈ l, x.f1.size ≤ 16 := by
  induction l with
  | nil => intro _ _ x hx; cases hx
  | cons y r ih =>
    intro last h x hx
    rcases List.mem_cons.1 hx with rfl | hx
    · have := h.2.2.1
      dsimp only at this
      omega
    · exact ih _ h.2.2.2 x hx
section
variable (i p c : Int) (l : List SC) (hl : l.length ≤ 64)
include hl
theorem put_l2 (hx : ∀ x ∈ l, x.f1.size ≤ 16) (d : Nat) : ∀ (j : Nat) (s : ByteArray), j + d = l.length → s.size + 16 * d ≤ 10000 → Ev (fun k => rootcellarref10_Put.l2 k s (j : Int) i p c (l.map toR)) (bs (sealed (s.data.toList ++ texts (prs (l.drop j)))), 0) := by
  induction d with
  | zero =>
    intro j s hj hs
    rw [List.drop_of_length_le (by omega), show texts (prs []) = [] from rfl, List.append_nil]
    refine Ev.step (f := fun _ => some (bs (sealed s.data.toList), 0)) (fun k => ?_) (Ev.now _)
    rw [rootcellarref10_Put.l2, if_neg (by rw [len_map]; omega)]
    unfold rootcellarref3_Put.f
    rw [if_pos (by unfold maxLen; omega), Option.bind_some]
  | succ d ih =>
    intro j s hj hs
    have hlt : j < l.length := by omega
    have hsz := hx _ (List.getElem_mem hlt)
    have h' := ih (j + 1) (s ++ l[j].f1) (by omega) (by rw [ByteArray.size_append]; omega)
    rw [List.drop_eq_getElem_cons hlt, show texts (prs (l[j] :: l.drop (j + 1))) = l[j].f1.data.toList ++ texts (prs (l.drop (j + 1))) from rfl, ← List.append_assoc, ← ba_append]
    refine Ev.step (f := fun k => rootcellarref10_Put.l2 k (s ++ l[j].f1) ((j + 1 : Nat) : Int) i p c (l.map toR)) (fun k => ?_) h'
    rw [rootcellarref10_Put.l2, if_pos (by rw [len_map]; omega), if_pos (by omega), rdR_map hlt, if_pos (show s.size + (toR l[j]).f1.size ≤ 9223372036854775807 by rw [show (toR l[j]).f1 = l[j].f1 from rfl]; omega), show wrap64 ((j : Int) + 1) = ((j + 1 : Nat) : Int) by rw [w64 (by omega)]; omega]
    rfl
theorem put_l0 (hg : Good c (-1) (prs l)) (h64 : c ≤ 64) {r : ByteArray × Int} (hend : ∀ s : ByteArray, s.data.toList = rowTo (tabs (prs l)) 8 → Ev (fun k => rootcellarref10_Put.l0 k ((whichTo (tabs (prs l)) 8 : Nat) : Int) s 8 i p c (l.map toR)) r) (d : Nat) : ∀ (g : Nat) (s : ByteArray), g + d = 8 → s.data.toList = rowTo (tabs (prs l)) g → Ev (fun k => rootcellarref10_Put.l0 k ((whichTo (tabs (prs l)) g : Nat) : Int) s (g : Int) i p c (l.map toR)) r := by
  induction d with
  | zero =>
    intro g s hgd hs
    obtain rfl : g = 8 := by omega
    exact hend s hs
  | succ d ih =>
    intro g s hgd hs
    have hg8 : g < 8 := by omega
    have hT := tabs_small hg h64 g
    have hsum := tabs_kd g c l (-1) (by omega) hg
    have hwl := whichTo_lt (tabs (prs l)) g
    have h2g : 2 ^ g ≤ 2 ^ 7 := Nat.pow_le_pow_right (by omega) (by omega)
    have hssz : s.size ≤ 16 := by
      have := congrArg List.length hs
      rw [Array.length_toList] at this
      have h3 : s.data.size = s.size := rfl
      have := rowTo_le (tabs (prs l)) g
      omega
    have e1 : wrap64 ((g : Int) + 1) = ((g + 1 : Nat) : Int) := by rw [w64 (by omega)]; omega
    have hstop : Ev (fun k => rootcellarref10_Put.l1 k ((whichTo (tabs (prs l)) g : Nat) : Int) s (g : Int) ((tabs (prs l) g : Nat) : Int) (-1) i p c (l.map toR)) r := by
      by_cases h0 : 0 < tabs (prs l) g
      · have h' := ih (g + 1) (s ++ ⟨(LeP.bytes 2 (tabs (prs l) g)).toArray⟩) (by omega) (by rw [ba_append, leb_list, rowTo, if_pos h0, hs])
        refine Ev.step (f := fun k => rootcellarref10_Put.l0 k ((whichTo (tabs (prs l)) (g + 1) : Nat) : Int) (s ++ ⟨(LeP.bytes 2 (tabs (prs l) g)).toArray⟩) ((g + 1 : Nat) : Int) i p c (l.map toR)) (fun k => ?_) h'
        rw [rootcellarref10_Put.l1, if_neg (by omega), if_pos (by omega), if_pos (by omega), u64w (by omega), rlp (by omega), Option.bind_some, show clamp8 2 = 2 from rfl, Int.toNat_natCast, if_pos (by rw [leb_size]; omega), e1, shl_pow g hg8, show wrap64 (((whichTo (tabs (prs l)) g : Nat) : Int) + ((2 ^ g : Nat) : Int)) = ((whichTo (tabs (prs l)) (g + 1) : Nat) : Int) by rw [w64 (by omega), show whichTo (tabs (prs l)) (g + 1) = whichTo (tabs (prs l)) g + 2 ^ g by rw [whichTo, if_pos h0]]; omega]
      · have h' := ih (g + 1) s (by omega) (by rw [rowTo, if_neg h0, List.append_nil, hs])
        refine Ev.step (f := fun k => rootcellarref10_Put.l0 k ((whichTo (tabs (prs l)) (g + 1) : Nat) : Int) s ((g + 1 : Nat) : Int) i p c (l.map toR)) (fun k => ?_) h'
        rw [rootcellarref10_Put.l1, if_neg (by omega), if_neg (by omega), e1, show whichTo (tabs (prs l)) (g + 1) = whichTo (tabs (prs l)) g by rw [whichTo, if_neg h0, Nat.add_zero]]
    have := put_l1 i p c l (by omega) g hg8 s ((whichTo (tabs (prs l)) g : Nat) : Int) (tabs (prs l) g) hT hstop 8 0 (by rw [hsum]; omega) (by omega)
    rw [show ((8 : Nat) : Int) - 1 = 7 by omega] at this
    refine Ev.step (f := fun k => rootcellarref10_Put.l1 k ((whichTo (tabs (prs l)) g : Nat) : Int) s (g : Int) 0 7 i p c (l.map toR)) (fun k => ?_) this
    rw [rootcellarref10_Put.l0, if_pos (by omega)]
end
theorem right10_r (i p c : Int) (l : List SC) (hl : l.length ≤ maxLen) (hs : sizedC l = true) : rootcellarref10_Right.f i p c (l.map toR) = some (frB i p c (prs l)) := by
  unfold rootcellarref10_Right.f rootcellarref9_Right.f frB
  rw [toC_map, len_map, if_pos ⟨hl, hs⟩, Option.bind_some]
  cases h0 : rightB c (prs l) with
  | false => rw [if_neg (by decide)]; simp
  | true =>
    rw [if_pos rfl]
    by_cases h1 : i ≥ 1
    · rw [if_pos h1, decide_eq_true (show 0 < i by omega)]
      by_cases h2 : i ≤ 2147483647
      · rw [if_pos h2, decide_eq_true h2]
        by_cases h3 : p ≥ 0
        · rw [if_pos h3, decide_eq_true (show 0 ≤ p by omega)]
          by_cases h4 : p ≤ 2147483647
          · rw [if_pos h4, decide_eq_true h4]
            congr 1
            by_cases h5 : p = i
            · simp [h5]
            · simp [h5]
          · rw [if_neg h4, decide_eq_false h4]; simp
        · rw [if_neg h3, decide_eq_false (show ¬ 0 ≤ p by omega)]; simp
      · rw [if_neg h2, decide_eq_false h2]; simp
    · rw [if_neg h1, decide_eq_false (show ¬ 0 < i by omega)]; simp
set_option maxHeartbeats 3200000 in
theorem refput_ok (i p c : Int) (l : List SC) (hl : l.length ≤ maxLen) (hs : sizedC l = true) : Ev (fun k => rootcellarref10_Put.f k i p c (l.map toR)) (putR i p c (prs l)) := by
  by_cases hf : frB i p c (prs l) = true
  · obtain ⟨hr, a1, a2, a3, a4, _⟩ := frB_parts _ _ _ _ hf
    obtain ⟨hg, hm1, hm2⟩ := rightB_parts _ _ hr
    have hlen : l.length ≤ 64 := by
      have := hg.length (by omega)
      rw [show (prs l).length = l.length by unfold prs; simp] at this
      omega
    have hx := good_texts l (-1) hg
    have hw8 := whichTo_lt (tabs (prs l)) 8
    have hend : ∀ s : ByteArray, s.data.toList = rowTo (tabs (prs l)) 8 → Ev (fun k => rootcellarref10_Put.l0 k ((whichTo (tabs (prs l)) 8 : Nat) : Int) s 8 i p c (l.map toR)) (putR i p c (prs l)) := by
      intro s hsr
      have hssz : s.size ≤ 16 := by
        have := congrArg List.length hsr
        rw [Array.length_toList] at this
        have h3 : s.data.size = s.size := rfl
        have := rowTo_le (tabs (prs l)) 8
        omega
      obtain ⟨b1, hb1⟩ : ∃ b : ByteArray, b = ⟨(LeP.bytes 4 i.toNat).toArray⟩ := ⟨_, rfl⟩
      obtain ⟨b2, hb2⟩ : ∃ b : ByteArray, b = ⟨(LeP.bytes 4 p.toNat).toArray⟩ := ⟨_, rfl⟩
      obtain ⟨b3, hb3⟩ : ∃ b : ByteArray, b = ⟨(LeP.bytes 1 c.toNat).toArray⟩ := ⟨_, rfl⟩
      obtain ⟨b4, hb4⟩ : ∃ b : ByteArray, b = ⟨(LeP.bytes 1 (whichTo (tabs (prs l)) 8)).toArray⟩ := ⟨_, rfl⟩
      have s1 : b1.size = 4 := by rw [hb1, leb_size]
      have s2 : b2.size = 4 := by rw [hb2, leb_size]
      have s3 : b3.size = 1 := by rw [hb3, leb_size]
      have s4 : b4.size = 1 := by rw [hb4, leb_size]
      have d1 : b1.data.toList = LeP.bytes 4 i.toNat := by rw [hb1]
      have d2 : b2.data.toList = LeP.bytes 4 p.toNat := by rw [hb2]
      have d3 : b3.data.toList = LeP.bytes 1 c.toNat := by rw [hb3]
      have d4 : b4.data.toList = LeP.bytes 1 (whichTo (tabs (prs l)) 8) := by rw [hb4]
      have d0 : (⟨#[114, 99, 105, 109]⟩ : ByteArray).data.toList = magicL := rfl
      have q1 : rootcellarref2_Put.f (IntKind.u64.wrap i) 4 = some b1 := by rw [u64w (by omega), rlp (by omega), show clamp8 4 = 4 from rfl, hb1]
      have q2 : rootcellarref2_Put.f (IntKind.u64.wrap p) 4 = some b2 := by rw [u64w (by omega), rlp (by omega), show clamp8 4 = 4 from rfl, hb2]
      have q3 : rootcellarref2_Put.f (IntKind.u64.wrap c) 1 = some b3 := by rw [u64w (by omega), rlp (by omega), show clamp8 1 = 1 from rfl, hb3]
      have q4 : rootcellarref2_Put.f (IntKind.u64.wrap ((whichTo (tabs (prs l)) 8 : Nat) : Int)) 1 = some b4 := by rw [u64w (by omega), rlp (by omega), show clamp8 1 = 1 from rfl, Int.toNat_natCast, hb4]
      clear hb1 hb2 hb3 hb4
      have s0 : (⟨#[114, 99, 105, 109]⟩ : ByteArray).size = 4 := rfl
      have h2 := put_l2 i p c l hlen hx l.length 0 (⟨#[114, 99, 105, 109]⟩ ++ b1 ++ b2 ++ b3 ++ b4 ++ s) (by omega) (by simp only [ByteArray.size_append, s0, s1, s2, s3, s4]; omega)
      have hbody : (⟨#[114, 99, 105, 109]⟩ ++ b1 ++ b2 ++ b3 ++ b4 ++ s : ByteArray).data.toList ++ texts (prs (l.drop 0)) = bodyL i.toNat p.toNat c.toNat (prs l) := by
        rw [ba_append, ba_append, ba_append, ba_append, ba_append, d0, d1, d2, d3, d4, hsr, List.drop_zero]
        rfl
      rw [hbody, show ((0 : Nat) : Int) = 0 from rfl] at h2
      have hp : putR i p c (prs l) = (bs (sealed (bodyL i.toNat p.toNat c.toNat (prs l))), 0) := by unfold putR; rw [if_pos hf]
      rw [hp]
      refine Ev.step (f := fun k => rootcellarref10_Put.l2 k (⟨#[114, 99, 105, 109]⟩ ++ b1 ++ b2 ++ b3 ++ b4 ++ s) 0 i p c (l.map toR)) (fun k => ?_) h2
      rw [rootcellarref10_Put.l0, if_neg (by omega), q1, Option.bind_some, if_pos (by omega), q2, Option.bind_some, if_pos (by simp only [ByteArray.size_append, s0, s1, s2]; omega), q3, Option.bind_some, if_pos (by simp only [ByteArray.size_append, s0, s1, s2, s3]; omega), q4, Option.bind_some, if_pos (by simp only [ByteArray.size_append, s0, s1, s2, s3, s4]; omega), if_pos (by simp only [ByteArray.size_append, s0, s1, s2, s3, s4]; omega)]
    refine Ev.congr (fun k => ?_) (put_l0 i p c l hlen hg hm2 hend 8 0 ⟨#[]⟩ (by omega) rfl)
    unfold rootcellarref10_Put.f
    rw [right10_r i p c l hl hs, Option.bind_some, if_pos hf]
    rfl
  · refine Ev.congr (f := fun _ => some (putR i p c (prs l))) (fun k => ?_) (Ev.now _)
    unfold rootcellarref10_Put.f putR
    rw [right10_r i p c l hl hs, Option.bind_some, if_neg hf, if_neg hf]
end Go.Proofs.Ytolpnbeepiblkaa.Pr
