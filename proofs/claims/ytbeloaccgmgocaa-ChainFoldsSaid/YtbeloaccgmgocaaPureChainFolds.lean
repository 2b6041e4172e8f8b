/- The plain law of ChainFolds: what is folded, in the place of the links of which it was folded, is read as they were. Condition: the numbers are those of int. -/
import Derived.Test.YtbeloaccgmgocaaP11o
import Derived.Test.YtbeloaccgmgocaaPrx5
namespace Go.Proofs.Ytbeloaccgmgocaa.Pr
open Go.RowKit Go.Proofs.Ytbeloaccgmgocaa Go.Proofs.YtbeloaccgmgocaaW.PrintWords Go.Proofs.YtbeloaccgmgocaaW.PrintLast
theorem left_find {n : Int} {ls : List SL} (h : RowOK n ls) (r : Nat) (hr : r < ls.length) (x : SL) (hx : x.f0 = (ls.length : Int)) : (ls.take r ++ [x]).findIdx? (fun y => y.f0 == (ls.length : Int)) = some r := by
  have htl : (ls.take r).length = r := by rw [List.length_take]; omega
  rw [List.findIdx?_eq_some_iff_getElem]
  refine ⟨by rw [List.length_append, htl, List.length_singleton]; omega, ?_, fun k hk => ?_⟩
  · rw [List.getElem_append_right (by omega)]
    simp only [List.getElem_singleton, hx, beq_self_eq_true]
  · rw [List.getElem_append_left (by omega), List.getElem_take, (h.ids k (by omega)).1]
    simp only [Bool.not_eq_true, beq_eq_false_iff_ne]
    omega
theorem RowOK.left {n : Int} {ls : List SL} (h : RowOK n ls) (r : Nat) (hr : r < ls.length) (hl : ls.length ≤ 12) (h1 : 1 ≤ n) (h2 : n ≤ 64) (m : List SC) (hm : Good n m) :
    Way (ls.take r ++ [⟨(ls.length : Int), (r : Int), ⟨n, m⟩⟩]) (ls.length : Int) (⟨(ls.length : Int), (r : Int), ⟨n, m⟩⟩ :: (ls.take r).reverse) n where
  path := by
    have htl : (ls.take r).length = r := by rw [List.length_take]; omega
    have hg : (ls.take r ++ [(⟨(ls.length : Int), (r : Int), ⟨n, m⟩⟩ : SL)]).getD r ⟨0, 0, ⟨0, []⟩⟩ = ⟨(ls.length : Int), (r : Int), ⟨n, m⟩⟩ := by
      rw [List.getD_eq_getElem?_getD, List.getElem?_append_right (by omega), htl, Nat.sub_self]; rfl
    unfold pathP
    rw [pathL, left_find h r hr _ rfl]
    simp only
    rw [if_neg (show ¬ hasL [] (ls.length : Int) = true from by unfold hasL; simp), hg]
    simp only
    by_cases h0 : r = 0
    · subst h0
      rw [if_pos (show ((0 : Nat) : Int) = 0 from rfl)]; rfl
    · rw [if_neg (by omega)]
      obtain ⟨j, rfl⟩ : ∃ j, r = j + 1 := ⟨r - 1, by omega⟩
      rw [path_row [(⟨(ls.length : Int), ((j + 1 : Nat) : Int), ⟨n, m⟩⟩ : SL)] (h.take (j + 1)) j _ _ (by omega) (by rw [List.length_append, htl, List.length_singleton]; omega) (fun x hx => by
        rw [List.nil_append, List.mem_singleton] at hx
        rw [hx]; show ((j + 1 : Nat) : Int) < (ls.length : Int); omega)]
      rw [List.take_take, Nat.min_self]
      rfl
  ne := by simp
  good := fun x hx => by
    rcases List.mem_cons.1 hx with rfl | hx
    · exact ⟨rfl, hm⟩
    · exact h.good x (List.mem_of_mem_take (List.mem_reverse.1 hx))
  sized := by
    unfold sizedL
    rw [List.all_eq_true]
    intro x hx
    have hg : Good n x.f2.f1 := by
      rcases List.mem_append.1 hx with hx | hx
      · exact (h.good x (List.mem_of_mem_take hx)).2
      · rw [List.mem_singleton.1 hx]; exact hm
    have := hg.length h2
    rw [Bool.and_eq_true, decide_eq_true_eq]
    exact ⟨by omega, hg.sized⟩
  len := by rw [List.length_append, List.length_take, List.length_singleton]; omega
  n1 := h1
  n2 := h2
theorem folds_j1 {n : Int} {ls : List SL} (hr : RowOK n ls) (hlen : ls.length ≤ 12) (w2 : 1 ≤ n) (w3 : n ≤ 64) (hp : 0 < ls.length) (q r : Nat) (hqr : q + 1 + r = ls.length) (m : List SC) (gm : Good n m) (lm : ∀ b, look m b = lookP (ls.reverse.take (q + 1)) b) (k : Nat) :
    rootcellarlaw11_ChainFolds.j1 (k + 1) ((q + 1 : Nat) : Int) ls (ls.length : Int) ⟨(flatTo ls.reverse n.toNat).toArray⟩ (r : Int) false n m = some true := by
  have W := hr.way hp hlen w2 w3
  have W2 := hr.left r (by omega) hlen w2 w3 m gm
  have hsame := ways_same W2 W (fun b => by
    rw [lookP]
    show (look m b).or _ = _
    rw [lm, ← lookP_append]
    congr 1
    rw [List.reverse_take, show ls.length - r = q + 1 by omega, List.take_append_drop])
  have e1 : wrap64 ((ls.length : Int) - ((q + 1 : Nat) : Int)) = (r : Int) := by rw [w64 (by omega)]; omega
  have htl : (ls.take r).length = r := by rw [List.length_take]; omega
  rw [rootcellarlaw11_ChainFolds.j1, if_neg (by decide), Option.bind_some, e1, if_pos (by omega), if_pos (by omega), Int.toNat_natCast, Option.bind_some, List.nil_append, if_pos (by rw [List.length_nil, htl]; omega), Option.bind_some, if_pos (by rw [htl]; omega), Option.bind_some, W2.flat, Option.bind_some, W2.ids, Option.bind_some]
  dsimp only
  rw [if_pos rfl, if_pos rfl, hsame, if_pos rfl, List.length_map, List.length_cons, List.length_reverse, htl, show wrap64 ((r : Int) + 1) = ((r + 1 : Nat) : Int) by rw [w64 (by omega)]; omega, beq_self_eq_true]
set_option maxHeartbeats 800000 in
theorem pure_ChainFolds (c : Int) (l : List (List Int)) (a : Int) (hc : (Lit.int .i64 c).wf = true) (hl : ∀ x ∈ l, ∀ y ∈ x, (Lit.int .i64 y).wf = true) (ha : (Lit.int .i64 a).wf = true) : ∃ k, rootcellarlaw11_ChainFolds.f k c l a = some true := by
  obtain ⟨w1, w2, w3⟩ := wrap_one c
  obtain ⟨n, hn⟩ : ∃ n, n = 1 + pickV c 64 := ⟨_, rfl⟩
  have hpc := pick_ok c 64 hc (by omega)
  rw [← hn] at w1 w2 w3
  obtain ⟨ls, ⟨K1, k1⟩, hr, hlen⟩ := row_ev w2 w3 l hl
  have h1 : rootcellarlaw11_shown.f = some true := rfl
  refine ⟨K1 + 1 + 1, ?_⟩
  replace k1 := k1 (K1 + 1 + 1) (by omega)
  dsimp only at k1
  unfold rootcellarlaw11_ChainFolds.f
  rw [h1, Option.bind_some, hpc, Option.bind_some, ← hn, w1, k1, Option.bind_some, if_pos rfl]
  by_cases h0 : ls.length = 0
  · rw [show ((ls.length : Int) == 0) = true by rw [h0]; rfl, rootcellarlaw11_ChainFolds.j0, if_pos rfl]
  · rw [show ((ls.length : Int) == 0) = false by rw [beq_eq_false_iff_ne]; omega, rootcellarlaw11_ChainFolds.j0, if_neg (by decide)]
    have hp : 0 < ls.length := by omega
    have W := hr.way hp hlen w2 w3
    have hpa := pick_ok a (ls.length : Int) ha (by omega)
    have hpr := pickV_range a (ls.length : Int) (by omega)
    obtain ⟨q, hq⟩ : ∃ q : Nat, pickV a (ls.length : Int) = (q : Int) := ⟨(pickV a (ls.length : Int)).toNat, by omega⟩
    rw [hq] at hpa hpr
    have hql : q < ls.reverse.length := by rw [List.length_reverse]; omega
    obtain ⟨m, hm, gm, lm⟩ := W.fold q hql
    have hw : wrap64 (1 + (q : Int)) = ((q + 1 : Nat) : Int) := by rw [w64 (by omega)]; omega
    obtain ⟨r, hqr⟩ : ∃ r, q + 1 + r = ls.length := ⟨ls.length - (q + 1), by omega⟩
    have hz : (ls.reverse[q]).f1 = (r : Int) := by
      rw [List.getElem_reverse]
      have := (hr.ids (ls.length - 1 - q) (by omega)).2
      rw [this]; omega
    rw [hz] at hm
    have hfl := W.flat
    have hsz : (((⟨(flatTo ls.reverse n.toNat).toArray⟩ : ByteArray).size : Int) != wrap64 (16 * n)) = false := by
      have : (⟨(flatTo ls.reverse n.toNat).toArray⟩ : ByteArray).size = 16 * n.toNat := by
        show (flatTo ls.reverse n.toNat).toArray.size = _
        rw [List.size_toArray, W.flat_len]
      rw [this, w64 (by omega)]
      simp only [bne_eq_false_iff_eq]
      omega
    rw [hpa, Option.bind_some, hfl, Option.bind_some, hw, hm, Option.bind_some]
    dsimp only
    rw [if_pos rfl, if_pos rfl, if_pos (by rw [w64 (by omega)]; omega), hsz]
    exact folds_j1 hr hlen w2 w3 hp q r hqr m gm lm K1
end Go.Proofs.Ytbeloaccgmgocaa.Pr
