/- Plain laws of layer 10's helpers: as, same, file, alike. No conditions but that images are short. -/
import Derived.Test.YtolpnbeepiblkaaHRight
import Derived.Test.YtolpnbeepiblkaaHRefRight
import Derived.Test.YtolpnbeepiblkaaPrx1
import Derived.Test.YtolpnbeepiblkaaPrx2
import Derived.Test.YtolpnbeepiblkaaPrx3
import Derived.Test.YtolpnbeepiblkaaPrx4
namespace Go.Proofs.Ytolpnbeepiblkaa.Pr
open Go.RowKit Go.Proofs.Ytolpnbeepiblkaa Go.Proofs.YtolpnbeepiblkaaW.PrintWords Go.Proofs.YtolpnbeepiblkaaW.PrintLast
theorem w64 {n : Int} (h : -9223372036854775808 ≤ n ∧ n ≤ 9223372036854775807) : wrap64 n = n := by unfold wrap64; omega
def toR (x : SC) : SR := ⟨x.f0, x.f1⟩
theorem rdC_eq {l : List SC} {i : Nat} (h : i < l.length) : rd_T33 l (i : Int) = l[i] := by
  unfold rd_T33
  rw [Int.toNat_natCast, List.getD_eq_getElem?_getD, List.getElem?_eq_getElem h]; rfl
theorem rdR_eq {l : List SR} {i : Nat} (h : i < l.length) : rd_T67 l (i : Int) = l[i] := by
  unfold rd_T67
  rw [Int.toNat_natCast, List.getD_eq_getElem?_getD, List.getElem?_eq_getElem h]; rfl
theorem toC_map (l : List SC) : (l.map toR).map toC = l := by
  rw [List.map_map, show toC ∘ toR = id from rfl, List.map_id]
theorem len_map (l : List SC) : (l.map toR).length = l.length := List.length_map _
theorem rdR_map {l : List SC} {i : Nat} (h : i < l.length) : rd_T67 (l.map toR) (i : Int) = toR l[i] := by
  rw [rdR_eq (by simpa using h), List.getElem_map]
theorem as_l0 (c : Int) (l : List SC) (hl : l.length ≤ 1000000) (d : Nat) : ∀ (i : Nat) (acc : List SR), i + d = l.length → acc.length ≤ i → Ev (fun k => rootcellarlaw10_as.l0 k (i : Int) c l c acc) (c, acc ++ (l.drop i).map toR) := by
  induction d with
  | zero =>
    intro i acc hi ha
    refine Ev.step (f := fun _ => some (c, acc ++ (l.drop i).map toR)) (fun k => ?_) (Ev.now _)
    rw [rootcellarlaw10_as.l0, if_neg (by omega), List.drop_of_length_le (by omega)]; simp
  | succ d ih =>
    intro i acc hi ha
    have hlt : i < l.length := by omega
    refine Ev.step (f := fun k => rootcellarlaw10_as.l0 k ((i + 1 : Nat) : Int) c l c (acc ++ [toR l[i]])) (fun k => ?_) ?_
    · rw [rootcellarlaw10_as.l0, if_pos (by omega), if_pos (by omega), if_pos (by omega), rdC_eq hlt, show wrap64 ((i : Int) + 1) = ((i + 1 : Nat) : Int) by rw [w64 (by omega)]; omega]
      rfl
    · have := ih (i + 1) (acc ++ [toR l[i]]) (by omega) (by simp; omega)
      rw [List.drop_eq_getElem_cons hlt, List.map_cons]
      rw [List.append_assoc] at this
      exact this
theorem as_ev (c : Int) (l : List SC) (hl : l.length ≤ 1000000) : Ev (fun k => rootcellarlaw10_as.f k c l) (c, l.map toR) := by
  have := as_l0 c l hl l.length 0 [] (by omega) (by simp)
  simpa [rootcellarlaw10_as.f] using this
theorem toList_inj {s t : ByteArray} (h : s.toList = t.toList) : s = t := by
  rw [ByteArray.toList_eq, ByteArray.toList_eq] at h
  exact ByteArray.ext (Array.ext' h)
theorem sc_ext {x y : SC} (h : x.f0 = y.f0) (h' : x.f1 = y.f1) : x = y := by
  obtain ⟨a, b⟩ := x; obtain ⟨c, d⟩ := y
  dsimp only at h h'
  subst h h'; rfl
theorem same_l0 (c c' : Int) (l m : List SC) (hl : l.length ≤ 1000000) (hlm : l.length = m.length) (d : Nat) : ∀ (i : Nat), i + d = l.length → ∃ b, Ev (fun k => rootcellarlaw10_same.l0 k (i : Int) c l c' (m.map toR)) b ∧ (b = true ↔ l.drop i = m.drop i) := by
  induction d with
  | zero =>
    intro i hi
    refine ⟨true, Ev.step (f := fun _ => some true) (fun k => ?_) (Ev.now _), by rw [List.drop_of_length_le (by omega), List.drop_of_length_le (by omega)]; simp⟩
    rw [rootcellarlaw10_same.l0, if_neg (by omega)]
  | succ d ih =>
    intro i hi
    have hlt : i < l.length := by omega
    have hlt' : i < m.length := by omega
    have no : l[i] ≠ m[i] → (false = true ↔ l.drop i = m.drop i) := fun h => ⟨fun h => (Bool.noConfusion h), fun e => by
      rw [List.drop_eq_getElem_cons hlt, List.drop_eq_getElem_cons hlt'] at e
      exact absurd (List.cons.inj e).1 h⟩
    by_cases e0 : l[i].f0 = m[i].f0
    · by_cases e1 : l[i].f1 = m[i].f1
      · obtain ⟨b, hb, hi'⟩ := ih (i + 1) (by omega)
        refine ⟨b, Ev.step (f := fun k => rootcellarlaw10_same.l0 k ((i + 1 : Nat) : Int) c l c' (m.map toR)) (fun k => ?_) hb, ?_⟩
        · rw [rootcellarlaw10_same.l0, if_pos (by omega), if_pos (by omega), if_pos (by rw [len_map]; omega), rdC_eq hlt, rdR_map hlt', if_pos (show l[i].f0 = (toR m[i]).f0 from e0), if_pos (show l[i].f1.toList = (toR m[i]).f1.toList from congrArg ByteArray.toList e1), show wrap64 ((i : Int) + 1) = ((i + 1 : Nat) : Int) by rw [w64 (by omega)]; omega]
        · rw [hi', List.drop_eq_getElem_cons hlt, List.drop_eq_getElem_cons hlt', sc_ext e0 e1]
          exact ⟨fun h => by rw [h], fun h => (List.cons.inj h).2⟩
      · refine ⟨false, Ev.step (f := fun _ => some false) (fun k => ?_) (Ev.now _), no (fun h => e1 (by rw [h]))⟩
        rw [rootcellarlaw10_same.l0, if_pos (by omega), if_pos (by omega), if_pos (by rw [len_map]; omega), rdC_eq hlt, rdR_map hlt', if_pos (show l[i].f0 = (toR m[i]).f0 from e0), if_neg (show ¬ l[i].f1.toList = (toR m[i]).f1.toList from fun h => e1 (toList_inj h))]
    · refine ⟨false, Ev.step (f := fun _ => some false) (fun k => ?_) (Ev.now _), no (fun h => e0 (by rw [h]))⟩
      rw [rootcellarlaw10_same.l0, if_pos (by omega), if_pos (by omega), if_pos (by rw [len_map]; omega), rdC_eq hlt, rdR_map hlt', if_neg (show ¬ l[i].f0 = (toR m[i]).f0 from e0)]
theorem same_ev (c c' : Int) (l m : List SC) (hl : l.length ≤ 1000000) : ∃ b, Ev (fun k => rootcellarlaw10_same.f k c l c' (m.map toR)) b ∧ (b = true ↔ c = c' ∧ l = m) := by
  have j0 : Ev (fun k => rootcellarlaw10_same.j0 k true c l c' (m.map toR)) false := Ev.step (f := fun _ => some false) (fun k => by rw [rootcellarlaw10_same.j0, if_pos rfl]) (Ev.now _)
  by_cases hc : c = c'
  · by_cases hlm : l.length = m.length
    · obtain ⟨b, hb, hi⟩ := same_l0 c c' l m hl hlm l.length 0 (by omega)
      refine ⟨b, Ev.congr (f := fun k => rootcellarlaw10_same.j0 k false c l c' (m.map toR)) (fun k => ?_) (Ev.step (f := fun k => rootcellarlaw10_same.l0 k 0 c l c' (m.map toR)) (fun k => ?_) hb), ?_⟩
      · unfold rootcellarlaw10_same.f; rw [if_pos hc, len_map, hlm, bne_self_eq_false]
      · rw [rootcellarlaw10_same.j0, if_neg (by decide)]
      · rw [hi, List.drop_zero, List.drop_zero]; simp [hc]
    · refine ⟨false, Ev.congr (fun k => ?_) j0, ⟨fun h => (Bool.noConfusion h), fun h => absurd (by rw [h.2]) hlm⟩⟩
      unfold rootcellarlaw10_same.f; rw [if_pos hc, len_map, show ((l.length : Int) != (m.length : Int)) = true by simpa using fun h => hlm (by omega)]
  · refine ⟨false, Ev.congr (fun k => ?_) j0, ⟨fun h => (Bool.noConfusion h), fun h => absurd h.1 hc⟩⟩
    unfold rootcellarlaw10_same.f; rw [if_neg hc]
theorem file_ev (i p c : Int) (l : List SC) (hl : l.length ≤ 1000000) : Ev (fun k => rootcellarlaw10_file.f k i p c l) (i, p, c, l.map toR) := by
  obtain ⟨K, h⟩ := as_ev c l hl
  refine ⟨K, fun k hk => ?_⟩
  replace h := h k hk
  dsimp only at h ⊢
  unfold rootcellarlaw10_file.f
  rw [h, Option.bind_some]
theorem alike_ev (i i' p p' c c' : Int) (l m : List SC) (hl : l.length ≤ 1000000) : ∃ b, Ev (fun k => rootcellarlaw10_alike.f k i p c l i' p' c' (m.map toR)) b ∧ (b = true ↔ i = i' ∧ p = p' ∧ c = c' ∧ l = m) := by
  obtain ⟨b, ⟨K, h⟩, hb⟩ := same_ev c c' l m hl
  by_cases e1 : i = i'
  · by_cases e2 : p = p'
    · refine ⟨b, ⟨K, fun k hk => ?_⟩, by rw [hb]; simp [e1, e2]⟩
      replace h := h k hk
      dsimp only at h ⊢
      unfold rootcellarlaw10_alike.f
      rw [if_pos e1, if_pos e2, h, Option.bind_some]
    · refine ⟨false, Ev.congr (f := fun _ => some false) (fun k => ?_) (Ev.now _), by simp [e2]⟩
      unfold rootcellarlaw10_alike.f
      rw [if_pos e1, if_neg e2]
  · refine ⟨false, Ev.congr (f := fun _ => some false) (fun k => ?_) (Ev.now _), by simp [e1]⟩
    unfold rootcellarlaw10_alike.f
    rw [if_neg e1]
end Go.Proofs.Ytolpnbeepiblkaa.Pr
