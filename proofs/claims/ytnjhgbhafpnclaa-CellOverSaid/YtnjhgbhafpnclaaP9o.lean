/- CellOver: the plain laws of the document's own images (find, Drop, with, Over, Get, Flat) beside cell's. No conditions but that images are those that a call may get. -/
import Derived.Test.YtnjhgbhafpnclaaP9
import Derived.Test.YtnjhgbhafpnclaaP9f
import Derived.Test.YtnjhgbhafpnclaaHDrop
import Derived.Test.YtnjhgbhafpnclaaPrx12
import Derived.Test.YtnjhgbhafpnclaaPrx13
import Derived.Test.YtnjhgbhafpnclaaPrx14
import Derived.Test.YtnjhgbhafpnclaaPrx15
namespace Go.Proofs.Ytnjhgbhafpnclaa.Pr
open Go.RowKit Go.Proofs.Ytnjhgbhafpnclaa Go.Proofs.YtnjhgbhafpnclaaW.PrintWords Go.Proofs.YtnjhgbhafpnclaaW.PrintLast
theorem filter_look {l : List SC} (hs : Srt l) (a : Int) : Srt (l.filter (other a)) ∧ (∀ i, look (l.filter (other a)) i = if i = a then none else look l i) := by
  refine ⟨List.Pairwise.filter _ hs, fun i => ?_⟩
  induction l with
  | nil => simp [look_nil]
  | cons x l ih =>
    have := ih hs.tail
    rw [List.filter_cons, look_cons]
    by_cases hx : x.f0 = a
    · have ho : other a x = false := by unfold other; simp [hx]
      rw [if_neg (by rw [ho]; decide), this]
      by_cases hi : i = a
      · rw [if_pos hi, if_pos hi]
      · rw [if_neg hi, if_neg hi, if_neg (by omega)]
    · have ho : other a x = true := by unfold other; simp [hx]
      rw [if_pos ho, look_cons, this]
      by_cases hi : i = a
      · rw [if_neg (by omega), if_pos hi, if_pos hi]
      · rw [if_neg hi]
        simp [hi]
theorem toC_map (l : List SC) : (l.map toR).map toC = l := by
  rw [List.map_map, show toC ∘ toR = id from rfl, List.map_id]
theorem rdR_map {l : List SC} {i : Nat} (h : i < l.length) : rd_T64 (l.map toR) (i : Int) = toR l[i] := by
  rw [rdR_eq (by simpa using h), List.getElem_map]
theorem len_map (l : List SC) : (l.map toR).length = l.length := List.length_map _
theorem find_l0 (c a : Int) (l : List SC) (hl : l.length ≤ 1000000) (d : Nat) : ∀ i : Nat, i + d = l.length → (∀ x ∈ l.take i, x.f0 ≠ a) → ∃ v, Ev (fun k => rootcellarref9_find.l0 k a (i : Int) c (l.map toR)) v ∧ ((v = -1 ∧ look l a = none) ∨ ∃ (j : Nat) (h : j < l.length), v = j ∧ look l a = some l[j].f1) := by
  induction d with
  | zero =>
    intro i hi hx
    refine ⟨-1, Ev.step (f := fun _ => some (-1)) (fun k => ?_) (Ev.now _), .inl ⟨rfl, look_none (fun x h => hx x (by rwa [List.take_of_length_le (by omega)]))⟩⟩
    rw [rootcellarref9_find.l0, if_neg (by rw [len_map]; omega)]
  | succ d ih =>
    intro i hi hx
    have hlt : i < l.length := by omega
    have e1 : wrap64 ((i : Int) + 1) = ((i + 1 : Nat) : Int) := by rw [w64 (by omega)]; omega
    by_cases e : l[i].f0 = a
    · refine ⟨i, Ev.step (f := fun _ => some (i : Int)) (fun k => ?_) (Ev.now _), .inr ⟨i, hlt, rfl, ?_⟩⟩
      · rw [rootcellarref9_find.l0, if_pos (by rw [len_map]; omega), if_pos (by omega), rdR_map hlt, if_pos (show (toR l[i]).f0 = a from e)]
      · conv => lhs; rw [← List.take_append_drop i l]
        rw [look_append, look_none hx, List.drop_eq_getElem_cons hlt, look_cons, if_pos e]; rfl
    · obtain ⟨v, hv, hr⟩ := ih (i + 1) (by omega) (fun x h => by
        rw [List.take_succ_eq_append_getElem hlt] at h
        rcases List.mem_append.1 h with h | h
        · exact hx x h
        · rw [List.mem_singleton] at h; rw [h]; exact e)
      refine ⟨v, Ev.step (f := fun k => rootcellarref9_find.l0 k a ((i + 1 : Nat) : Int) c (l.map toR)) (fun k => ?_) hv, hr⟩
      rw [rootcellarref9_find.l0, if_pos (by rw [len_map]; omega), if_pos (by omega), rdR_map hlt, if_neg (show ¬ (toR l[i]).f0 = a from e), e1]
theorem find_ok (c a : Int) (l : List SC) (hl : l.length ≤ 1000000) : ∃ v, Ev (fun k => rootcellarref9_find.f k c (l.map toR) a) v ∧ ((v = -1 ∧ look l a = none) ∨ ∃ (j : Nat) (h : j < l.length), v = j ∧ look l a = some l[j].f1) :=
  find_l0 c a l hl l.length 0 (by omega) (fun x h => by simp at h)
theorem rdrop_l0 (c a : Int) (l : List SC) (hl : l.length ≤ 1000000) (d : Nat) : ∀ (i : Nat) (acc : List SR), i + d = l.length → acc.length ≤ i → Ev (fun k => rootcellarref9_Drop.l0 k a (i : Int) c (l.map toR) c acc) (c, acc ++ ((l.drop i).filter (other a)).map toR, 0) := by
  induction d with
  | zero =>
    intro i acc hi ha
    refine Ev.step (f := fun _ => some (c, acc ++ ((l.drop i).filter (other a)).map toR, 0)) (fun k => ?_) (Ev.now _)
    rw [rootcellarref9_Drop.l0, if_neg (by rw [len_map]; omega), List.drop_of_length_le (by omega)]; simp
  | succ d ih =>
    intro i acc hi ha
    have hlt : i < l.length := by omega
    have e1 : wrap64 ((i : Int) + 1) = ((i + 1 : Nat) : Int) := by rw [w64 (by omega)]; omega
    by_cases e : l[i].f0 = a
    · refine Ev.step (f := fun k => rootcellarref9_Drop.l0 k a ((i + 1 : Nat) : Int) c (l.map toR) c acc) (fun k => ?_) ?_
      · rw [rootcellarref9_Drop.l0, if_pos (by rw [len_map]; omega), if_pos (by omega), rdR_map hlt, if_pos (show (toR l[i]).f0 = a from e), e1]
      · have := ih (i + 1) acc (by omega) (by omega)
        rw [List.drop_eq_getElem_cons hlt, List.filter_cons, if_neg (by unfold other; simp [e])]
        exact this
    · refine Ev.step (f := fun k => rootcellarref9_Drop.l0 k a ((i + 1 : Nat) : Int) c (l.map toR) c (acc ++ [toR l[i]])) (fun k => ?_) ?_
      · rw [rootcellarref9_Drop.l0, if_pos (by rw [len_map]; omega), if_pos (by omega), rdR_map hlt, if_neg (show ¬ (toR l[i]).f0 = a from e), if_pos (by omega), e1]
      · have := ih (i + 1) (acc ++ [toR l[i]]) (by omega) (by simp; omega)
        rw [List.drop_eq_getElem_cons hlt, List.filter_cons, if_pos (by unfold other; simp [e]), List.map_cons]
        rw [List.append_assoc] at this
        exact this
theorem rdrop_ok {c a : Int} (ha : 0 ≤ a ∧ a < c) (l : List SC) (hl : l.length ≤ 1000000) : Ev (fun k => rootcellarref9_Drop.f k c (l.map toR) a) (c, (l.filter (other a)).map toR, 0) := by
  refine Ev.congr (f := fun k => rootcellarref9_Drop.j0 k a (decide (a ≥ c)) c (l.map toR)) (fun k => ?_) (Ev.step (f := fun k => rootcellarref9_Drop.l0 k a 0 c (l.map toR) c []) (fun k => ?_) ?_)
  · unfold rootcellarref9_Drop.f; rw [if_neg (by omega)]
  · rw [rootcellarref9_Drop.j0, if_neg (by simp; omega)]
  · have := rdrop_l0 c a l hl l.length 0 [] (by omega) (by simp)
    simpa using this
/-- a cell in its place -/
def insV (a : Int) (t : ByteArray) : List SC → List SC
  | [] => [⟨a, t⟩]
  | x :: r => if a < x.f0 then ⟨a, t⟩ :: x :: r else x :: insV a t r
theorem insV_spec (a : Int) (t : ByteArray) (l : List SC) (hs : Srt l) (hn : ∀ x ∈ l, x.f0 ≠ a) : Srt (insV a t l) ∧ (∀ i, look (insV a t l) i = if i = a then some t else look l i) ∧ (∀ x ∈ insV a t l, x = ⟨a, t⟩ ∨ x ∈ l) := by
  induction l with
  | nil =>
    refine ⟨List.pairwise_singleton _ _, fun i => ?_, fun x hx => ?_⟩
    · rw [insV, look_cons, look_nil]
      by_cases e : i = a
      · rw [if_pos e.symm, if_pos e]
      · rw [if_neg (fun h => e h.symm), if_neg e]
    · rw [insV, List.mem_singleton] at hx; exact .inl hx
  | cons x r ih =>
    rw [insV]
    have hxa := hn x (by simp)
    split
    · rename_i hlt
      refine ⟨List.pairwise_cons.2 ⟨fun y hy => ?_, hs⟩, fun i => ?_, fun y hy => ?_⟩
      · rcases List.mem_cons.1 hy with rfl | h
        · exact hlt
        · have := hs.head y h; show a < y.f0; omega
      · rw [look_cons]
        by_cases e : i = a
        · rw [if_pos e.symm, if_pos e]
        · rw [if_neg (fun h => e h.symm), if_neg e]
      · rcases List.mem_cons.1 hy with h | h
        · exact .inl h
        · exact .inr h
    · rename_i hlt
      obtain ⟨h1, h2, h3⟩ := ih hs.tail (fun y hy => hn y (by simp [hy]))
      refine ⟨List.pairwise_cons.2 ⟨fun y hy => ?_, h1⟩, fun i => ?_, fun y hy => ?_⟩
      · rcases h3 y hy with rfl | h
        · show x.f0 < a; omega
        · exact hs.head y h
      · rw [look_cons, h2, look_cons]
        by_cases e : i = a
        · rw [if_pos e, if_pos e, if_neg (by omega)]
        · rw [if_neg e, if_neg e]
      · rcases List.mem_cons.1 hy with rfl | h
        · exact .inr (by simp)
        · rcases h3 y h with h | h
          · exact .inl h
          · exact .inr (by simp [h])
theorem with_l0t (c a : Int) (t : ByteArray) (q : Int) (l : List SC) (hl : l.length ≤ 1000000) (d : Nat) : ∀ (i : Nat) (acc : List SR), i + d = l.length → acc.length ≤ i + 1 → Ev (fun k => rootcellarref9_with.l0 k true (i : Int) a t q (l.map toR) c acc) (c, acc ++ (l.drop i).map toR) := by
  induction d with
  | zero =>
    intro i acc hi ha
    refine Ev.step (f := fun _ => some (c, acc ++ (l.drop i).map toR)) (fun k => ?_) (Ev.now _)
    rw [rootcellarref9_with.l0, if_neg (by rw [len_map]; omega), if_pos rfl, List.drop_of_length_le (by omega)]; simp
  | succ d ih =>
    intro i acc hi ha
    have hlt : i < l.length := by omega
    have e1 : wrap64 ((i : Int) + 1) = ((i + 1 : Nat) : Int) := by rw [w64 (by omega)]; omega
    refine Ev.step (f := fun k => rootcellarref9_with.l0 k true ((i + 1 : Nat) : Int) a t q (l.map toR) c (acc ++ [toR l[i]])) (fun k => ?_) ?_
    · rw [rootcellarref9_with.l0, if_pos (by rw [len_map]; omega), if_pos rfl, if_pos (by omega), if_pos (by omega), rdR_map hlt, e1]
    · have := ih (i + 1) (acc ++ [toR l[i]]) (by omega) (by simp; omega)
      rw [List.drop_eq_getElem_cons hlt, List.map_cons]
      rw [List.append_assoc] at this
      exact this
theorem with_l0 (c a : Int) (t : ByteArray) (q : Int) (l : List SC) (hl : l.length ≤ 1000000) (d : Nat) : ∀ (i : Nat) (acc : List SR), i + d = l.length → acc.length ≤ i → Ev (fun k => rootcellarref9_with.l0 k false (i : Int) a t q (l.map toR) c acc) (c, acc ++ (insV a t (l.drop i)).map toR) := by
  induction d with
  | zero =>
    intro i acc hi ha
    refine Ev.step (f := fun _ => some (c, acc ++ (insV a t (l.drop i)).map toR)) (fun k => ?_) (Ev.now _)
    rw [rootcellarref9_with.l0, if_neg (by rw [len_map]; omega), if_neg (by decide), if_pos (by omega), List.drop_of_length_le (by omega)]; rfl
  | succ d ih =>
    intro i acc hi ha
    have hlt : i < l.length := by omega
    have e1 : wrap64 ((i : Int) + 1) = ((i + 1 : Nat) : Int) := by rw [w64 (by omega)]; omega
    by_cases e : a < l[i].f0
    · refine Ev.step (f := fun k => rootcellarref9_with.l0 k true ((i + 1 : Nat) : Int) a t q (l.map toR) c (acc ++ [toR ⟨a, t⟩] ++ [toR l[i]])) (fun k => ?_) ?_
      · rw [rootcellarref9_with.l0, if_pos (by rw [len_map]; omega), if_neg (by decide), if_pos (by omega), rdR_map hlt, if_pos (show a < (toR l[i]).f0 from e), if_pos (by omega), Option.bind_some, if_pos (by simp; omega), e1]; rfl
      · have := with_l0t c a t q l hl d (i + 1) (acc ++ [toR ⟨a, t⟩] ++ [toR l[i]]) (by omega) (by simp; omega)
        rw [List.drop_eq_getElem_cons hlt, insV, if_pos e, List.map_cons, List.map_cons]
        rw [show ∀ X : List SR, acc ++ [toR ⟨a, t⟩] ++ [toR l[i]] ++ X = acc ++ (toR ⟨a, t⟩ :: toR l[i] :: X) from fun X => by simp] at this
        exact this
    · refine Ev.step (f := fun k => rootcellarref9_with.l0 k false ((i + 1 : Nat) : Int) a t q (l.map toR) c (acc ++ [toR l[i]])) (fun k => ?_) ?_
      · rw [rootcellarref9_with.l0, if_pos (by rw [len_map]; omega), if_neg (by decide), if_pos (by omega), rdR_map hlt, if_neg (show ¬ a < (toR l[i]).f0 from e), if_pos (by omega), e1]
      · have := ih (i + 1) (acc ++ [toR l[i]]) (by omega) (by simp; omega)
        rw [List.drop_eq_getElem_cons hlt, insV, if_neg e, List.map_cons]
        rw [List.append_assoc] at this
        exact this
theorem with_ok {c a : Int} (ha : 0 ≤ a ∧ a < c) (t : ByteArray) (l : List SC) (hl : l.length ≤ 1000000) : Ev (fun k => rootcellarref9_with.f k c (l.map toR) a t) (c, (insV a t (l.filter (other a))).map toR) := by
  have hf : (l.filter (other a)).length ≤ 1000000 := Nat.le_trans (List.length_filter_le _ _) hl
  have := with_l0 c a t c (l.filter (other a)) hf _ 0 [] (Nat.zero_add _) (by simp)
  exact Ev.bind (f := fun k bt332 => rootcellarref9_with.l0 k false 0 a t bt332.1 bt332.2.1 c []) (rdrop_ok ha l hl) (by simpa using this)
theorem rover_l0 {n : Int} (h2 : n ≤ 64) {x y : List SC} (hx : Good n x) (hy : Good n y) (d : Nat) : ∀ (i : Nat) (out : List SC), i + d = y.length → Good n out → (∀ a, look out a = (look x a).or (look (y.take i) a)) → ∃ r, Ev (fun k => rootcellarref9_Over.l0 k (i : Int) n (x.map toR) n (y.map toR) n (out.map toR)) (n, r.map toR) ∧ Good n r ∧ ∀ a, look r a = (look x a).or (look y a) := by
  have hxl := hx.length h2
  have hyl := hy.length h2
  induction d with
  | zero =>
    intro i out hi ho hlo
    refine ⟨out, Ev.step (f := fun _ => some (n, out.map toR)) (fun k => ?_) (Ev.now _), ho, fun a => by rw [hlo, List.take_of_length_le (by omega)]⟩
    rw [rootcellarref9_Over.l0, if_neg (by rw [len_map]; omega)]
  | succ d ih =>
    intro i out hi ho hlo
    have hlt : i < y.length := by omega
    have hol := ho.length h2
    have e1 : wrap64 ((i : Int) + 1) = ((i + 1 : Nat) : Int) := by rw [w64 (by omega)]; omega
    have hu := hy.2 y[i] (List.getElem_mem hlt)
    have hti : ∀ a, look (y.take (i + 1)) a = (look (y.take i) a).or (if y[i].f0 = a then some y[i].f1 else none) := fun a => by
      rw [List.take_succ_eq_append_getElem hlt, look_append, look_cons, look_nil]
    have hbefore : look (y.take i) y[i].f0 = none := look_none (fun z hz => by
      obtain ⟨j, hj, rfl⟩ := List.getElem_of_mem hz
      rw [List.length_take] at hj
      rw [List.getElem_take]
      have := List.pairwise_iff_getElem.1 hy.1 j i (by omega) hlt (by omega)
      omega)
    obtain ⟨v, hv, hcase⟩ := find_ok n y[i].f0 x (by omega)
    rcases hcase with ⟨rfl, hnone⟩ | ⟨j, hj, rfl, hsome⟩
    · have hf := filter_look ho.1 y[i].f0
      have hins := insV_spec y[i].f0 y[i].f1 (out.filter (other y[i].f0)) hf.1 (fun z hz e => by
        have := hf.2 y[i].f0
        rw [if_pos rfl] at this
        have h' := mem_look hf.1 hz
        rw [e, this] at h'
        cases h')
      have hgood : Good n (insV y[i].f0 y[i].f1 (out.filter (other y[i].f0))) := ⟨hins.1, fun z hz => by
        rcases hins.2.2 z hz with rfl | h
        · exact hu
        · exact ho.2 z (List.mem_filter.1 h).1⟩
      obtain ⟨r, hr, hg, hlr⟩ := ih (i + 1) _ (by omega) hgood (fun a => by
        rw [hins.2.1, hf.2, hti, hlo]
        by_cases e : a = y[i].f0
        · rw [if_pos e, if_pos e.symm, e, hnone, hbefore]; rfl
        · rw [if_neg e, if_neg e, if_neg (fun h => e h.symm)]
          cases look x a <;> cases look (y.take i) a <;> rfl)
      refine ⟨r, Ev.step (f := fun k => (rootcellarref9_find.f k n (x.map toR) y[i].f0).bind fun t365 => (if t365 < 0 then ((rootcellarref9_with.f k n (out.map toR) y[i].f0 y[i].f1).bind fun bt367 => (rootcellarref9_Over.l0 k ((i + 1 : Nat) : Int) n (x.map toR) n (y.map toR) bt367.1 bt367.2)) else (rootcellarref9_Over.l0 k ((i + 1 : Nat) : Int) n (x.map toR) n (y.map toR) n (out.map toR)))) (fun k => ?_) (Ev.bind hv ?_), hg, hlr⟩
      · rw [rootcellarref9_Over.l0, if_pos (by rw [len_map]; omega), if_pos (by omega), rdR_map hlt, e1]; rfl
      · refine Ev.congr (fun k => ?_) (Ev.bind (f := fun k bt367 => rootcellarref9_Over.l0 k ((i + 1 : Nat) : Int) n (x.map toR) n (y.map toR) bt367.1 bt367.2) (with_ok ⟨hu.1, hu.2.1⟩ y[i].f1 out (by omega)) hr)
        rw [if_pos (by omega)]
    · obtain ⟨r, hr, hg, hlr⟩ := ih (i + 1) out (by omega) ho (fun a => by
        rw [hti, hlo]
        by_cases e : y[i].f0 = a
        · rw [if_pos e, ← e, hsome]; rfl
        · rw [if_neg e]
          cases look x a <;> cases look (y.take i) a <;> rfl)
      refine ⟨r, Ev.step (f := fun k => (rootcellarref9_find.f k n (x.map toR) y[i].f0).bind fun t365 => (if t365 < 0 then ((rootcellarref9_with.f k n (out.map toR) y[i].f0 y[i].f1).bind fun bt367 => (rootcellarref9_Over.l0 k ((i + 1 : Nat) : Int) n (x.map toR) n (y.map toR) bt367.1 bt367.2)) else (rootcellarref9_Over.l0 k ((i + 1 : Nat) : Int) n (x.map toR) n (y.map toR) n (out.map toR)))) (fun k => ?_) (Ev.bind hv ?_), hg, hlr⟩
      · rw [rootcellarref9_Over.l0, if_pos (by rw [len_map]; omega), if_pos (by omega), rdR_map hlt, e1]; rfl
      · refine Ev.congr (fun k => ?_) hr
        rw [if_neg (by omega)]
end Go.Proofs.Ytnjhgbhafpnclaa.Pr
