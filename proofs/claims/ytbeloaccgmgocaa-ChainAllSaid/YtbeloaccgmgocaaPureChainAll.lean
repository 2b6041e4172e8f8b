/- The plain law of ChainAll: all of a path folded is all that is read of its uppermost link. Condition: the numbers are those of int. -/
import Derived.Test.YtbeloaccgmgocaaP11o
import Derived.Test.YtbeloaccgmgocaaPrx6
namespace Go.Proofs.Ytbeloaccgmgocaa.Pr
open Go.RowKit Go.Proofs.Ytbeloaccgmgocaa Go.Proofs.YtbeloaccgmgocaaW.PrintWords Go.Proofs.YtbeloaccgmgocaaW.PrintLast
set_option maxHeartbeats 800000 in
theorem pure_ChainAll (c : Int) (l : List (List Int)) (hc : (Lit.int .i64 c).wf = true) (hl : ∀ x ∈ l, ∀ y ∈ x, (Lit.int .i64 y).wf = true) : ∃ k, rootcellarlaw11_ChainAll.f k c l = some true := by
  obtain ⟨w1, w2, w3⟩ := wrap_one c
  obtain ⟨n, hn⟩ : ∃ n, n = 1 + pickV c 64 := ⟨_, rfl⟩
  have hpc := pick_ok c 64 hc (by omega)
  rw [← hn] at w1 w2 w3
  obtain ⟨ls, ⟨K1, k1⟩, hr, hlen⟩ := row_ev w2 w3 l hl
  have h1 : rootcellarlaw11_shown.f = some true := rfl
  refine ⟨K1 + 1, ?_⟩
  replace k1 := k1 (K1 + 1) (by omega)
  dsimp only at k1
  unfold rootcellarlaw11_ChainAll.f
  rw [h1, Option.bind_some, hpc, Option.bind_some, ← hn, w1, k1, Option.bind_some, if_pos rfl]
  by_cases h0 : ls.length = 0
  · rw [show ((ls.length : Int) == 0) = true by rw [h0]; rfl, rootcellarlaw11_ChainAll.j0, if_pos rfl]
  · rw [show ((ls.length : Int) == 0) = false by rw [beq_eq_false_iff_ne]; omega, rootcellarlaw11_ChainAll.j0, if_neg (by decide)]
    have W := hr.way (by omega) hlen w2 w3
    obtain ⟨q, hq⟩ : ∃ q, ls.length = q + 1 := ⟨ls.length - 1, by omega⟩
    have hql : q < ls.reverse.length := by rw [List.length_reverse]; omega
    obtain ⟨m, hm, gm, lm⟩ := W.fold q hql
    have hz : (ls.reverse[q]).f1 = 0 := by
      rw [List.getElem_reverse]
      have := (hr.ids (ls.length - 1 - q) (by omega)).2
      rw [this]; omega
    have hb1 := W.fold_bad (wrap64 ((ls.length : Int) + 1)) (.inr (by rw [List.length_reverse, w64 (by omega)]; omega))
    have hb2 := W.fold_bad 0 (.inl (by omega))
    have hfl := W.flat
    have hV := way_flatV W gm (fun b => by rw [lm, List.take_of_length_le (by rw [List.length_reverse]; omega)])
    rw [hz, ← hq] at hm
    rw [hm, Option.bind_some, hfl, Option.bind_some, hb1, Option.bind_some, hb2, Option.bind_some]
    dsimp only
    rw [if_pos rfl, if_pos rfl, if_pos rfl, gm.flat w2 w3, Option.bind_some, hV, if_pos rfl, if_pos rfl, beq_self_eq_true]
end Go.Proofs.Ytbeloaccgmgocaa.Pr
