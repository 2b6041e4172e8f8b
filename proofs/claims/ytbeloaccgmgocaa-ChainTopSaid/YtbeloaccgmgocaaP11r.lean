/- The document's own image of ours, and all its clusters: plain laws of as and of the reference's Flat. Conditions: the image is right. -/
import Derived.Test.YtbeloaccgmgocaaP11
import Derived.Test.YtbeloaccgmgocaaHRefRight
import Derived.Test.YtbeloaccgmgocaaPrx8
import Derived.Test.YtbeloaccgmgocaaPrx9
section
namespace Go.Proofs.Ytbeloaccgmgocaa.Pr
open Go.RowKit Go.Proofs.Ytbeloaccgmgocaa Go.Proofs.YtbeloaccgmgocaaW.PrintWords Go.Proofs.YtbeloaccgmgocaaW.PrintLast
set_option linter.unusedVariables false
theorem row_split {n : Int} {ls : List SL} (h : RowOK n ls) (q : Nat) (hq : ls.length = q + 1) : ls = ls.take q ++ [ls[q]] := by
  rw [← List.take_succ_eq_append_getElem (by omega), List.take_of_length_le (by omega)]
/-- the uppermost link's image is another one -/
def topped (ls : List SL) (q : Nat) (n : Int) (m : List SC) : List SL := ls.take q ++ [⟨((q + 1 : Nat) : Int), (q : Int), ⟨n, m⟩⟩]
theorem topped_ok {n : Int} {ls : List SL} (h : RowOK n ls) (q : Nat) (hq : ls.length = q + 1) {m : List SC} (hm : Good n m) : RowOK n (topped ls q n m) := by
  have := (h.take q).snoc hm
  rw [List.length_take, show min q ls.length = q by omega] at this
  exact this
theorem topped_len {n : Int} {ls : List SL} (q : Nat) (hq : ls.length = q + 1) (m : List SC) : (topped ls q n m).length = q + 1 := by
  unfold topped
  rw [List.length_append, List.length_take, List.length_singleton]; omega
theorem top_rev {n : Int} {ls : List SL} (h : RowOK n ls) (q : Nat) (hq : ls.length = q + 1) : ls.reverse = ls[q] :: (ls.take q).reverse := by
  conv => lhs; rw [row_split h q hq]
  rw [List.reverse_append]; rfl
theorem topped_rev (ls : List SL) (q : Nat) (n : Int) (m : List SC) : (topped ls q n m).reverse = ⟨((q + 1 : Nat) : Int), (q : Int), ⟨n, m⟩⟩ :: (ls.take q).reverse := by
  unfold topped
  rw [List.reverse_append]; rfl
theorem topped_at {n : Int} (ls : List SL) (q : Nat) {c : List SC} (hc : Good n c) (a : Int) (ha : 0 ≤ a ∧ a < n) (s : ByteArray) (hs : s.size = 16) : throughL (topped ls q n (putL c a s)).reverse a = s := by
  have hp := putL_spec hc.1 a s
  rw [topped_rev, throughL]
  simp only
  rw [getB_t hp.1 (t := putT s) (by rw [hp.2.1, if_pos rfl]), if_pos rfl]
  exact txt_put s hs
theorem topped_off {n : Int} {ls : List SL} (h : RowOK n ls) (q : Nat) (hq : ls.length = q + 1) (a i : Int) (hi : i ≠ a) (s : ByteArray) : throughL (topped ls q n (putL (ls[q]).f2.f1 a s)).reverse i = throughL ls.reverse i := by
  have hg := (h.good ls[q] (List.getElem_mem (by omega))).2
  have hp := putL_spec hg.1 a s
  have hl : look (putL (ls[q]).f2.f1 a s) i = look (ls[q]).f2.f1 i := by rw [hp.2.1, if_neg hi]
  rw [topped_rev, top_rev h q hq, throughL, throughL]
  simp only
  cases hk : look (ls[q]).f2.f1 i with
  | none =>
    rw [if_neg (by rw [getB_n hp.1 (by rw [hl, hk])]; decide), if_neg (by rw [getB_n hg.1 hk]; decide)]
  | some t =>
    rw [getB_t hp.1 (t := t) (by rw [hl, hk]), getB_t hg.1 hk]
theorem pre_path {n : Int} {ls : List SL} (h : RowOK n ls) (q : Nat) (x : SL) (hql : q < ls.length) (j : Nat) (hj : j < q) : pathP (ls.take q ++ [x]) ((j + 1 : Nat) : Int) = ((ls.take (j + 1)).reverse, 0) := by
  have ht := h.take q
  have hl : (ls.take q).length = q := by rw [List.length_take]; omega
  have := path_row [x] ht j ((ls.take q ++ [x]).length + 1) [] (by omega) (by rw [List.length_append, hl, List.length_singleton]; omega) (fun x hx => by cases hx)
  rw [List.nil_append, List.take_take, show min (j + 1) q = j + 1 by omega] at this
  exact this
theorem below_same {n : Int} {ls : List SL} (h : RowOK n ls) (q : Nat) (hq : ls.length = q + 1) (m : List SC) (hm : Good n m) (h1 : 1 ≤ n) (h2 : n ≤ 64) (hl : ls.length ≤ 12) (j : Nat) (hj : j < q) :
    flatL ls ((j + 1 : Nat) : Int) = flatL (topped ls q n m) ((j + 1 : Nat) : Int) ∧ (flatL ls ((j + 1 : Nat) : Int)).2 = 0 := by
  have hs := topped_ok h q hq hm
  have hgp : GoodP n (ls.take (j + 1)).reverse := fun x hx => h.good x (List.mem_of_mem_take (List.mem_reverse.1 hx))
  have hne : (ls.take (j + 1)).reverse ≠ [] := by
    intro e
    rw [List.reverse_eq_nil_iff] at e
    have := congrArg List.length e
    rw [List.length_take, List.length_nil] at this
    omega
  have W1 : Way ls ((j + 1 : Nat) : Int) (ls.take (j + 1)).reverse n := ⟨by
    have := pre_path h q ls[q] (by omega) j hj
    rw [← row_split h q hq] at this
    exact this, hne, hgp, h.sized h2, by omega, h1, h2⟩
  have W2 : Way (topped ls q n m) ((j + 1 : Nat) : Int) (ls.take (j + 1)).reverse n := ⟨pre_path h q _ (by omega) j hj, hne, hgp, hs.sized h2, by rw [topped_len q hq]; omega, h1, h2⟩
  have e1 : flatL ls ((j + 1 : Nat) : Int) = (⟨(flatTo (ls.take (j + 1)).reverse n.toNat).toArray⟩, 0) := by
    unfold flatL
    rw [W1.whole]
    simp only
    rw [if_neg (by decide), W1.cl]
  have e2 : flatL (topped ls q n m) ((j + 1 : Nat) : Int) = (⟨(flatTo (ls.take (j + 1)).reverse n.toNat).toArray⟩, 0) := by
    unfold flatL
    rw [W2.whole]
    simp only
    rw [if_neg (by decide), W2.cl]
  exact ⟨by rw [e1, e2], by rw [e1]⟩
theorem read_past {n : Int} {ls : List SL} (h : RowOK n ls) (hp : 0 < ls.length) : readL ls (ls.length : Int) n = (⟨#[]⟩, 11) := by
  unfold readL
  rw [h.path hp]
  simp only
  rw [if_neg (by decide), cl0_row h hp, if_pos (.inr (Int.le_refl n))]
theorem flat_past {n : Int} {ls : List SL} (h : RowOK n ls) : flatL ls ((ls.length + 1 : Nat) : Int) = (⟨#[]⟩, 4) := by
  have hf : ls.findIdx? (fun x => x.f0 == ((ls.length + 1 : Nat) : Int)) = none := by
    rw [List.findIdx?_eq_none_iff]
    intro x hx
    obtain ⟨i, hi, rfl⟩ := List.getElem_of_mem hx
    rw [(h.ids i hi).1, beq_eq_false_iff_ne]
    omega
  have hp : pathP ls ((ls.length + 1 : Nat) : Int) = ([], 4) := by
    unfold pathP
    rw [pathL, hf]
  unfold flatL wholeL
  rw [hp]
  rfl
end Go.Proofs.Ytbeloaccgmgocaa.Pr
end
section
namespace Go.Proofs.Ytbeloaccgmgocaa.Pr
open Go.RowKit Go.Proofs.Ytbeloaccgmgocaa Go.Proofs.YtbeloaccgmgocaaW.PrintWords Go.Proofs.YtbeloaccgmgocaaW.PrintLast
set_option linter.unusedVariables false
def toR (x : SC) : SR := ⟨x.f0, x.f1⟩
theorem rdR_eq {l : List SR} {i : Nat} (h : i < l.length) : rd_T83 l (i : Int) = l[i] := by
  unfold rd_T83
  rw [Int.toNat_natCast, List.getD_eq_getElem?_getD, List.getElem?_eq_getElem h]; rfl
theorem as_l0 (c : Int) (l : List SC) (hl : l.length ≤ 1000000) (d : Nat) : ∀ (i : Nat) (acc : List SR), i + d = l.length → acc.length ≤ i → Ev (fun k => rootcellarlaw11_as.l0 k (i : Int) c l c acc) (c, acc ++ (l.drop i).map toR) := by
  induction d with
  | zero =>
    intro i acc hi ha
    refine Ev.step (f := fun _ => some (c, acc ++ (l.drop i).map toR)) (fun k => ?_) (Ev.now _)
    rw [rootcellarlaw11_as.l0, if_neg (by omega), List.drop_of_length_le (by omega)]; simp
  | succ d ih =>
    intro i acc hi ha
    have hlt : i < l.length := by omega
    refine Ev.step (f := fun k => rootcellarlaw11_as.l0 k ((i + 1 : Nat) : Int) c l c (acc ++ [toR l[i]])) (fun k => ?_) ?_
    · rw [rootcellarlaw11_as.l0, if_pos (by omega), if_pos (by omega), if_pos (by omega), rdC_eq hlt, show wrap64 ((i : Int) + 1) = ((i + 1 : Nat) : Int) by rw [w64 (by omega)]; omega]
      rfl
    · have := ih (i + 1) (acc ++ [toR l[i]]) (by omega) (by simp <;> omega)
      rw [List.drop_eq_getElem_cons hlt, List.map_cons]
      rw [List.append_assoc] at this
      exact this
theorem as_ev (c : Int) (l : List SC) (hl : l.length ≤ 1000000) : Ev (fun k => rootcellarlaw11_as.f k c l) (c, l.map toR) := by
  have := as_l0 c l hl l.length 0 [] (by omega) (by simp)
  simpa [rootcellarlaw11_as.f] using this
theorem toC_map (l : List SC) : (l.map toR).map toC = l := by
  rw [List.map_map, show toC ∘ toR = id from rfl, List.map_id]
theorem rdR_map {l : List SC} {i : Nat} (h : i < l.length) : rd_T83 (l.map toR) (i : Int) = toR l[i] := by
  rw [rdR_eq (by simpa using h), List.getElem_map]
theorem len_map (l : List SC) : (l.map toR).length = l.length := List.length_map _
theorem find_l0 (c a : Int) (l : List SC) (hl : l.length ≤ 1000000) (d : Nat) : ∀ i : Nat, i + d = l.length → (∀ x ∈ l.take i, x.f0 ≠ a) → ∃ v, Ev (fun k => rootcellarref9_find.l0 k a (i : Int) c (l.map toR)) v ∧ ((v = -1 ∧ look l a = none) ∨ ∃ (j : Nat) (h : j < l.length), v = j ∧ look l a = some l[j].f1) := by
  induction d with
  | zero =>
    intro i hi hx
    refine ⟨-1, Ev.step (f := fun _ => some (-1)) (fun k => ?_) (Ev.now _), .inl ⟨rfl, look_none (fun x h => hx x (by rwa [List.take_of_length_le (by omega)]))⟩⟩
    rw [rootcellarref9_find.l0, if_neg (by rw [len_map]; omega)]
  | succ d ih =>
    intro i hi hx
    have hlt : i < l.length := by omega
    have e1 : wrap64 ((i : Int) + 1) = ((i + 1 : Nat) : Int) := by rw [w64 (by omega)]; omega
    by_cases e : l[i].f0 = a
    · refine ⟨i, Ev.step (f := fun _ => some (i : Int)) (fun k => ?_) (Ev.now _), .inr ⟨i, hlt, rfl, ?_⟩⟩
      · rw [rootcellarref9_find.l0, if_pos (by rw [len_map]; omega), if_pos (by omega), rdR_map hlt, if_pos (show (toR l[i]).f0 = a from e)]
      · conv => lhs; rw [← List.take_append_drop i l]
        rw [look_append, look_none hx, List.drop_eq_getElem_cons hlt, look_cons, if_pos e]; rfl
    · obtain ⟨v, hv, hr⟩ := ih (i + 1) (by omega) (fun x h => by
        rw [List.take_succ_eq_append_getElem hlt] at h
        rcases List.mem_append.1 h with h | h
        · exact hx x h
        · rw [List.mem_singleton] at h; rw [h]; exact e)
      refine ⟨v, Ev.step (f := fun k => rootcellarref9_find.l0 k a ((i + 1 : Nat) : Int) c (l.map toR)) (fun k => ?_) hv, hr⟩
      rw [rootcellarref9_find.l0, if_pos (by rw [len_map]; omega), if_pos (by omega), rdR_map hlt, if_neg (show ¬ (toR l[i]).f0 = a from e), e1]
theorem find_ok (c a : Int) (l : List SC) (hl : l.length ≤ 1000000) : ∃ v, Ev (fun k => rootcellarref9_find.f k c (l.map toR) a) v ∧ ((v = -1 ∧ look l a = none) ∨ ∃ (j : Nat) (h : j < l.length), v = j ∧ look l a = some l[j].f1) :=
  find_l0 c a l hl l.length 0 (by omega) (fun x h => by simp at h)
theorem right_r (n : Int) (l : List SC) (h : l.length ≤ maxLen) (hs : sizedC l = true) : rootcellarref9_Right.f n (l.map toR) = some (rightB n (prs l)) := by
  unfold rootcellarref9_Right.f
  rw [toC_map, len_map, if_pos ⟨h, hs⟩]
theorem noughts_16 : rootcellarref9_noughts.f 16 = some zed16 := by
  unfold rootcellarref9_noughts.f
  rw [if_pos (by omega), if_pos (by decide)]; rfl
theorem rget_ok (c a : Int) (l : List SC) (hl : l.length ≤ 1000000) : Ev (fun k => rootcellarref9_Get.f k c (l.map toR) a) (getV l a) := by
  obtain ⟨v, hv, hc⟩ := find_ok c a l hl
  refine Ev.bind hv (Ev.congr (f := fun _ => some (getV l a)) (fun k => ?_) (Ev.now _))
  rcases hc with ⟨rfl, hn⟩ | ⟨j, hj, rfl, hs⟩
  · rw [if_pos (by omega), getV_n hn]
  · rw [if_neg (by omega), if_pos (by omega), if_pos (by rw [len_map]; omega), rdR_map hj, getV_t hs]
    show (if (l[j].f1).toList = ([] : List UInt8) then _ else some (l[j].f1, true)) = _
    unfold txt
    by_cases h0 : (l[j].f1).size = 0
    · rw [if_pos ((toList_empty _).2 h0), if_pos h0, noughts_16, Option.bind_some]
    · rw [if_neg (fun h => h0 ((toList_empty _).1 h)), if_neg h0]
theorem rflat_l0 {n : Int} (h1 : 1 ≤ n) (h2 : n ≤ 64) {l : List SC} (h : Good n l) (d : Nat) : ∀ (i : Nat) (s : ByteArray), (i : Int) + d = n → s.data.toList = (layAll (nts (n.toNat * 16)) l).take (16 * i) → Ev (fun k => rootcellarref9_Flat.l0 k s (i : Int) n (l.map toR)) (flatV n l) := by
  have hll := h.length h2
  have hlen := flat_len h
  induction d with
  | zero =>
    intro i s hi hs
    have e : s = flatV n l := by
      apply ByteArray.ext; apply Array.ext'
      rw [hs, List.take_of_length_le (by omega)]; rfl
    refine Ev.step (f := fun _ => some (flatV n l)) (fun k => ?_) (Ev.now _)
    rw [rootcellarref9_Flat.l0, if_neg (by omega), e]
  | succ d ih =>
    intro i s hi hs
    have e1 : wrap64 ((i : Int) + 1) = ((i + 1 : Nat) : Int) := by rw [w64 (by omega)]; omega
    have hsz : s.size ≤ 1024 := by
      have := congrArg List.length hs
      rw [List.length_take, Array.length_toList] at this
      have h3 : s.data.size = s.size := rfl
      omega
    have hv := valV_size h (i : Int)
    have hnext := ih (i + 1) (s ++ valV l i) (by omega) (by
      rw [ByteArray.data_append, Array.toList_append, hs, ← flat_blk h i (by omega), show 16 * (i + 1) = 16 * i + 16 by omega, List.take_add]; rfl)
    refine Ev.step (f := fun k => (rootcellarref9_Get.f k n (l.map toR) (i : Int)).bind fun bt381 => (if bt381.2 = true then (if s.size + bt381.1.size ≤ 9223372036854775807 then (rootcellarref9_Flat.l0 k (s ++ bt381.1) ((i + 1 : Nat) : Int) n (l.map toR)) else (none)) else ((rootcellarref9_noughts.f 16).bind fun t383 => (if s.size + t383.size ≤ 9223372036854775807 then (rootcellarref9_Flat.l0 k (s ++ t383) ((i + 1 : Nat) : Int) n (l.map toR)) else (none))))) (fun k => ?_) (Ev.bind (rget_ok n (i : Int) l (by omega)) (Ev.congr (fun k => ?_) hnext))
    · rw [rootcellarref9_Flat.l0, if_pos (by omega), e1]
    · unfold valV at hv ⊢
      unfold getV
      cases hk : look l (i : Int) with
      | none =>
        rw [hk] at hv
        dsimp only at hv ⊢
        rw [if_neg (by decide), noughts_16, Option.bind_some, if_pos (by omega)]
      | some t =>
        rw [hk] at hv
        dsimp only at hv ⊢
        rw [if_pos rfl, if_pos (by omega)]
theorem rflat_ev {n : Int} (h1 : 1 ≤ n) (h2 : n ≤ 64) {l : List SC} (h : Good n l) : Ev (fun k => rootcellarref9_Flat.f k n (l.map toR)) (flatV n l) := by
  refine Ev.congr (fun k => ?_) (rflat_l0 h1 h2 h n.toNat 0 ⟨#[]⟩ (by omega) rfl)
  have hl := h.length h2
  unfold rootcellarref9_Flat.f
  rw [right_r _ _ (by unfold maxLen; omega) h.sized, Option.bind_some, if_pos (h.right h1 h2)]; rfl
end Go.Proofs.Ytbeloaccgmgocaa.Pr
end
