/- The plain law of ChainMarks: a zero mark hides what is below it; dropped, what is below is read again. Condition: the numbers are those of int. -/
import Derived.Test.YtbeloaccgmgocaaP11
import Derived.Test.YtbeloaccgmgocaaPrx7
namespace Go.Proofs.Ytbeloaccgmgocaa.Pr
open Go.RowKit Go.Proofs.Ytbeloaccgmgocaa Go.Proofs.YtbeloaccgmgocaaW.PrintWords Go.Proofs.YtbeloaccgmgocaaW.PrintLast
theorem clV_0 : clV 0 = z16 := rfl
theorem putL_mark (a : Int) : putL [] a z16 = [⟨a, ⟨#[]⟩⟩] := by
  unfold putL putT
  rw [z16_zero]; rfl
theorem good_mark {n a : Int} (ha : 0 ≤ a ∧ a < n) : Good n ([⟨a, ⟨#[]⟩⟩] : List SC) := by
  rw [← putL_mark]; exact (Good.nil n).put a z16 ha rfl
theorem through_mark (a : Int) (x y : Int) (n : Int) (r : List SL) : throughL (⟨x, y, ⟨n, [⟨a, ⟨#[]⟩⟩]⟩⟩ :: r) a = z16 := by
  have hg : getB [⟨a, ⟨#[]⟩⟩] a = (z16, true) := by
    rw [getB_t (l := [⟨a, ⟨#[]⟩⟩]) (t := ⟨#[]⟩) (List.pairwise_singleton _ _) (by rw [look_cons, if_pos rfl])]
    rfl
  rw [throughL]
  simp only
  rw [hg, if_pos rfl]
theorem through_none (a : Int) (x y : Int) (n : Int) (r : List SL) : throughL (⟨x, y, ⟨n, []⟩⟩ :: r) a = throughL r a := by
  rw [throughL]
  simp only
  rw [if_neg (by rw [getB_n (l := []) List.Pairwise.nil (look_nil a)]; decide)]
theorem RowOK.read_on {n : Int} {ls : List SL} (h : RowOK n ls) (hl : ls.length ≤ 12) (h2 : n ≤ 64) (a : Int) (ha : 0 ≤ a ∧ a < n) (m : List SC) (hm : Good n m) :
    chain_Read.f (ls ++ [⟨((ls.length + 1 : Nat) : Int), (ls.length : Int), ⟨n, m⟩⟩]) ((ls.length + 1 : Nat) : Int) a = some (throughL (⟨((ls.length + 1 : Nat) : Int), (ls.length : Int), ⟨n, m⟩⟩ :: ls.reverse) a, 0) := by
  have hs := h.snoc hm
  have hlen : (ls ++ [(⟨((ls.length + 1 : Nat) : Int), (ls.length : Int), ⟨n, m⟩⟩ : SL)]).length = ls.length + 1 := by rw [List.length_append]; rfl
  have := hs.read (by omega) (by omega) h2 a ha
  rw [hlen, List.reverse_append] at this
  exact this
theorem drop_mark {n a : Int} (ha : 0 ≤ a ∧ a < n) : cell_Drop.f n [⟨a, ⟨#[]⟩⟩] a = some (n, [], 0) := by
  unfold cell_Drop.f
  have hb : hasB n a = true := by
    unfold hasB
    simp only [Bool.and_eq_true, decide_eq_true_eq]
    omega
  rw [hb, if_neg (by decide), if_pos (by rw [List.length_singleton]; omega)]
  have : ([⟨a, ⟨#[]⟩⟩] : List SC).filter (other a) = [] := by
    rw [List.filter_cons_of_neg (by unfold other; simp)]; rfl
  rw [this]
set_option maxHeartbeats 800000 in
theorem pure_ChainMarks (c : Int) (l : List (List Int)) (a : Int) (hc : (Lit.int .i64 c).wf = true) (hl : ∀ x ∈ l, ∀ y ∈ x, (Lit.int .i64 y).wf = true) (ha : (Lit.int .i64 a).wf = true) : ∃ k, rootcellarlaw11_ChainMarks.f k c l a = some true := by
  obtain ⟨w1, w2, w3⟩ := wrap_one c
  obtain ⟨n, hn⟩ : ∃ n, n = 1 + pickV c 64 := ⟨_, rfl⟩
  have hpc := pick_ok c 64 hc (by omega)
  rw [← hn] at w1 w2 w3
  obtain ⟨ls, ⟨K1, k1⟩, hr, hlen⟩ := row_ev w2 w3 l hl
  obtain ⟨K2, k2⟩ := cl_ev 0
  have h1 : rootcellarlaw11_shown.f = some true := rfl
  refine ⟨K1 + K2 + 1, ?_⟩
  replace k1 := k1 (K1 + K2 + 1) (by omega)
  replace k2 := k2 (K1 + K2) (by omega)
  dsimp only at k1 k2
  unfold rootcellarlaw11_ChainMarks.f
  rw [h1, Option.bind_some, hpc, Option.bind_some, ← hn, w1, k1, Option.bind_some, if_pos rfl]
  by_cases h0 : ls.length = 0
  · rw [show ((ls.length : Int) == 0) = true by rw [h0]; rfl, rootcellarlaw11_ChainMarks.j0, if_pos rfl]
  · rw [show ((ls.length : Int) == 0) = false by rw [beq_eq_false_iff_ne]; omega, rootcellarlaw11_ChainMarks.j0, if_neg (by decide)]
    have hpa := pick_ok a n ha w2
    have hpr := pickV_range a n w2
    obtain ⟨p, hp⟩ : ∃ p, p = pickV a n := ⟨_, rfl⟩
    rw [← hp] at hpa hpr
    have hw : wrap64 ((ls.length : Int) + 1) = ((ls.length + 1 : Nat) : Int) := by rw [w64 (by omega)]; omega
    have r1 := hr.read (by omega) (by omega) w3 p hpr
    have r2 := hr.read_on hlen w3 p hpr [⟨p, ⟨#[]⟩⟩] (good_mark hpr)
    have r3 := hr.read_on hlen w3 p hpr [] (Good.nil n)
    rw [through_mark] at r2
    rw [through_none] at r3
    rw [hpa, Option.bind_some, r1, Option.bind_some, new_ok w2 w3, Option.bind_some, k2, Option.bind_some]
    dsimp only
    rw [put_ok (Good.nil n) w3 p (clV 0) hpr (clV_size 0), clV_0, putL_mark, Option.bind_some]
    dsimp only
    rw [drop_mark hpr, Option.bind_some]
    dsimp only
    rw [Option.bind_some, List.nil_append, if_pos (by rw [List.length_nil]; omega), Option.bind_some, Option.bind_some, if_pos (by rw [List.length_singleton]; omega), hw, r2, Option.bind_some, Option.bind_some, if_pos (by rw [List.length_nil]; omega), Option.bind_some, Option.bind_some, List.nil_append, if_pos (by rw [List.length_singleton]; omega), r3, Option.bind_some]
    dsimp only
    rw [if_pos rfl, if_pos rfl, if_pos rfl, if_pos rfl, if_pos rfl, Option.bind_some, if_pos rfl, beq_self_eq_true]
end Go.Proofs.Ytbeloaccgmgocaa.Pr
