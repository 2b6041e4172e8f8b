/- The plain law of ImageBack: a file that was put is taken, and bytes that were taken are put. Conditions: texts are no longer than texts can be. -/
import Derived.Test.YtolpnbeepiblkaaP10
import Derived.Test.YtolpnbeepiblkaaHIPut
import Derived.Test.YtolpnbeepiblkaaHShown
import Derived.Test.YtolpnbeepiblkaaHITake
import Derived.Test.YtolpnbeepiblkaaPrx4
import Derived.Test.YtolpnbeepiblkaaPrx5
namespace Go.Proofs.Ytolpnbeepiblkaa.Pr
open Go.RowKit Go.Proofs.Ytolpnbeepiblkaa Go.Proofs.YtolpnbeepiblkaaW.PrintWords Go.Proofs.YtolpnbeepiblkaaW.PrintLast
set_option linter.unusedVariables false
theorem mk_prs (l : List SC) : (prs l).map mkC = l := by
  unfold prs
  rw [List.map_map]
  exact (List.map_congr_left (fun _ _ => rfl)).trans (List.map_id' l)
theorem body_len (I Q M I' Q' : Nat) (cs : List C) : (bodyL I Q M cs).length = (bodyL I' Q' M cs).length := by
  unfold bodyL
  simp only [List.length_append, LeP.bytes_length]
theorem good_sized {clusters last : Int} (l : List SC) (h : Good clusters last (prs l)) (hl : -1 ≤ last) : sizedC l = true := by
  unfold sizedC
  rw [List.all_eq_true]
  intro x hx
  rw [decide_eq_true_eq]
  have hm : (x.f0, x.f1) ∈ prs l := List.mem_map.2 ⟨x, hx, rfl⟩
  obtain ⟨k, hk, e⟩ := List.getElem_of_mem hm
  have := (h.drop k hk).2.2
  rw [e] at this
  show x.f1.size ≤ maxLen
  unfold maxLen
  simp only at this
  omega
theorem taken_parts {s : ByteArray} {id pa cl : Int} {cs : List C} (h : takeI s.data.toList = ((id, pa, cl, cs), 0)) : putR id pa cl cs = (s, 0) ∧ sizedC (cs.map mkC) = true ∧ cs.length ≤ 64 := by
  obtain ⟨hf, hl⟩ := takeI_back _ _ _ _ _ h
  refine ⟨?_, ?_, ?_⟩
  · unfold putR
    rw [if_pos hf, ← hl, bs_data]
  · obtain ⟨hr, _⟩ := frB_parts _ _ _ _ hf
    obtain ⟨hg, _, _⟩ := rightB_parts _ _ hr
    exact good_sized (last := -1) _ (by rw [prs_mk]; exact hg) (by omega)
  · obtain ⟨hr, _⟩ := frB_parts _ _ _ _ hf
    obtain ⟨hg, h1, h2⟩ := rightB_parts _ _ hr
    have := hg.length (by omega)
    omega
theorem frB_other {i p c : Int} {cs : List C} (h : frB i p c cs = true) : frB 1 0 c cs = true := by
  obtain ⟨hr, _⟩ := frB_parts _ _ _ _ h
  unfold frB
  rw [hr]
  rfl
theorem back_j1 (k : Nat) (s : ByteArray) (hs : s.size ≤ maxLen) : rootcellarlaw10_ImageBack.j1 (k + 1) s = some true := by
  have ht : image_Take.f s = some ((takeI s.data.toList).1.1, (takeI s.data.toList).1.2.1, (takeI s.data.toList).1.2.2.1, (takeI s.data.toList).1.2.2.2.map mkC, (takeI s.data.toList).2) := by unfold image_Take.f; rw [if_pos hs]
  rw [rootcellarlaw10_ImageBack.j1, ht, Option.bind_some]
  simp only
  obtain ⟨⟨⟨id, pa, cl, cs⟩, e⟩, he⟩ : ∃ x, takeI s.data.toList = x := ⟨_, rfl⟩
  rw [he]
  simp only
  by_cases h0 : e = 0
  · subst h0
    obtain ⟨h1, h2, h3⟩ := taken_parts he
    have hp : image_Put.f id pa cl (cs.map mkC) = some (s, 0) := by
      unfold image_Put.f
      rw [if_pos ⟨by rw [List.length_map]; unfold maxLen; omega, h2⟩, prs_mk, h1]
    rw [if_pos rfl, hp, Option.bind_some, if_pos rfl, beq_self_eq_true]
  · have hb := takeI_bad s.data.toList (by rw [he]; exact h0)
    rw [he] at hb
    simp only [Prod.mk.injEq] at hb
    obtain ⟨rfl, rfl, rfl, rfl⟩ := hb
    rw [if_neg h0, if_pos rfl, if_pos rfl, if_pos rfl]
    rfl
theorem pure_ImageBack (i p c : Int) (l : List SC) (s : ByteArray) (hs : sizedC l = true) (hss : s.size ≤ maxLen) : ∃ k, rootcellarlaw10_ImageBack.f k i p c l s = some true := by
  have h1 : rootcellarlaw10_shown.f = some true := rfl
  by_cases b1 : (l.length : Int) > 80
  · refine ⟨1, ?_⟩
    unfold rootcellarlaw10_ImageBack.f
    rw [h1, Option.bind_some, if_pos rfl, if_pos b1, rootcellarlaw10_ImageBack.j0, if_pos rfl]
  by_cases b2 : (s.size : Int) > 2000
  · refine ⟨1, ?_⟩
    unfold rootcellarlaw10_ImageBack.f
    rw [h1, Option.bind_some, if_pos rfl, if_neg b1, decide_eq_true b2, rootcellarlaw10_ImageBack.j0, if_pos rfl]
  have hl : l.length ≤ maxLen := by unfold maxLen; omega
  have p1 : ∀ i p c, image_Put.f i p c l = some (putR i p c (prs l)) := fun i p c => by unfold image_Put.f; rw [if_pos ⟨hl, hs⟩]
  have p3 : image_Size.f c l = some ((putR 1 0 c (prs l)).1.size : Int) := by unfold image_Size.f; rw [p1, Option.bind_some]
  by_cases hf : frB i p c (prs l) = true
  · obtain ⟨K1, k1⟩ := file_ev i p c l (by omega)
    obtain ⟨b, ⟨K2, k2⟩, hb⟩ := alike_ev i i p p c c l l (by omega)
    obtain rfl : b = true := hb.2 ⟨rfl, rfl, rfl, rfl⟩
    have hput : putR i p c (prs l) = (bs (sealed (bodyL i.toNat p.toNat c.toNat (prs l))), 0) := by unfold putR; rw [if_pos hf]
    have hput1 : putR 1 0 c (prs l) = (bs (sealed (bodyL 1 0 c.toNat (prs l))), 0) := by unfold putR; rw [if_pos (frB_other hf)]; rfl
    have hsz : (bs (sealed (bodyL i.toNat p.toNat c.toNat (prs l)))).size = (bs (sealed (bodyL 1 0 c.toNat (prs l)))).size := by
      rw [bs_size, bs_size, sealed_length, sealed_length, body_len _ _ _ 1 0]
    have hbig : (bs (sealed (bodyL i.toNat p.toNat c.toNat (prs l)))).size ≤ maxLen := by
      obtain ⟨hr, _⟩ := frB_parts _ _ _ _ hf
      obtain ⟨hg, _, _⟩ := rightB_parts _ _ hr
      have h2 := texts_le (prs l) (-1) hg
      have h3 := rowTo_le (tabs (prs l)) 8
      have h4 : (prs l).length = l.length := List.length_map _
      rw [bs_size, sealed_length]
      unfold bodyL
      simp only [List.length_append, LeP.bytes_length]
      have : magicL.length = 4 := rfl
      unfold maxLen
      omega
    have htk : image_Take.f (bs (sealed (bodyL i.toNat p.toNat c.toNat (prs l)))) = some (i, p, c, l, 0) := by
      unfold image_Take.f
      rw [if_pos hbig, bs_list, takeI_put i p c (prs l) hf, mk_prs]
    refine ⟨K1 + K2 + 1 + 1, ?_⟩
    replace k1 := k1 (K1 + K2 + 1) (by omega)
    replace k2 := k2 (K1 + K2 + 1) (by omega)
    have k3 := back_j1 (K1 + K2) s hss
    generalize K1 + K2 + 1 = k at k1 k2 k3 ⊢
    dsimp only at k1 k2
    unfold rootcellarlaw10_ImageBack.f
    rw [h1, Option.bind_some, if_pos rfl, if_neg b1, decide_eq_false b2, rootcellarlaw10_ImageBack.j0, if_neg (by decide)]
    rw [p1, hput, Option.bind_some]
    simp only
    rw [if_pos trivial, htk, Option.bind_some]
    simp only
    rw [if_pos trivial, k1, Option.bind_some, k2, Option.bind_some, if_pos rfl, p3, Option.bind_some, hput1, hsz, if_pos rfl]
    exact k3
  · have hput : putR i p c (prs l) = (bs [], 1) := by unfold putR; rw [if_neg hf]
    refine ⟨1 + 1, ?_⟩
    unfold rootcellarlaw10_ImageBack.f
    rw [h1, Option.bind_some, if_pos rfl, if_neg b1, decide_eq_false b2, rootcellarlaw10_ImageBack.j0, if_neg (by decide)]
    rw [p1, hput, Option.bind_some]
    simp only
    rw [if_neg (by decide)]
    exact back_j1 0 s hss
end Go.Proofs.Ytolpnbeepiblkaa.Pr
