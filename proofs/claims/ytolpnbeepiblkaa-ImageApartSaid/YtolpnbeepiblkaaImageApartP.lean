/- ImageApart: the plain law. Conditions: texts are no longer than texts can be. -/
import Derived.Test.YtolpnbeepiblkaaP10
import Derived.Test.YtolpnbeepiblkaaHIPut
import Derived.Test.YtolpnbeepiblkaaHShown
import Derived.Test.YtolpnbeepiblkaaApartP
import Derived.Test.YtolpnbeepiblkaaPrx5
namespace Go.Proofs.Ytolpnbeepiblkaa.Pr
open Go.RowKit Go.Proofs.Ytolpnbeepiblkaa Go.Proofs.YtolpnbeepiblkaaW.PrintWords Go.Proofs.YtolpnbeepiblkaaW.PrintLast
theorem bs_inj {l m : List UInt8} (h : bs l = bs m) : l = m := by
  have := congrArg (fun s : ByteArray => s.data.toList) h
  simpa using this
theorem prs_inj {l m : List SC} (h : prs l = prs m) : l = m := by
  have e : ∀ l : List SC, (prs l).map (fun c => (⟨c.1, c.2⟩ : SC)) = l := fun l => by
    unfold prs
    rw [List.map_map, show ((fun c : C => (⟨c.1, c.2⟩ : SC)) ∘ fun x : SC => (x.f0, x.f1)) = id from rfl, List.map_id]
  rw [← e l, ← e m, h]
theorem apart_law (i i' p p' m m' : Int) (cs cs' : List C) (h : frB i p m cs = true) (h' : frB i' p' m' cs' = true) :
    bs (sealed (bodyL i.toNat p.toNat m.toNat cs)) = bs (sealed (bodyL i'.toNat p'.toNat m'.toNat cs')) ↔ i = i' ∧ p = p' ∧ m = m' ∧ cs = cs' := by
  obtain ⟨hr, a1, a2, a3, a4, _⟩ := frB_parts _ _ _ _ h
  obtain ⟨hr', b1, b2, b3, b4, _⟩ := frB_parts _ _ _ _ h'
  obtain ⟨hg, hm1, hm2⟩ := rightB_parts _ _ hr
  obtain ⟨hg', hm1', hm2'⟩ := rightB_parts _ _ hr'
  constructor
  · intro e
    have em : ((m.toNat : Nat) : Int) = m := by omega
    have em' : ((m'.toNat : Nat) : Int) = m' := by omega
    obtain ⟨e1, e2, e3, e4⟩ := body_inj (by omega) (by omega) (by omega) (by omega) (by omega) (by omega) (by rw [em]; exact hg) (by rw [em']; exact hg') (sealed_inj (bs_inj e))
    exact ⟨by omega, by omega, by omega, e4⟩
  · rintro ⟨rfl, rfl, rfl, rfl⟩; rfl
theorem pure_ImageApart (i p c : Int) (l : List SC) (i' p' c' : Int) (l' : List SC) (hs : sizedC l = true) (hs' : sizedC l' = true) : ∃ k, rootcellarlaw10_ImageApart.f k i p c l i' p' c' l' = some true := by
  have h1 : rootcellarlaw10_shown.f = some true := rfl
  have bail : ∀ k, rootcellarlaw10_ImageApart.j0 (k + 1) true true i p c l i' p' c' l' = some true := fun k => by rw [rootcellarlaw10_ImageApart.j0, if_pos rfl]
  by_cases b1 : (l.length : Int) > 80
  · refine ⟨1, ?_⟩
    unfold rootcellarlaw10_ImageApart.f
    rw [h1, Option.bind_some, if_pos rfl, if_pos b1]; exact bail 0
  by_cases b2 : (l'.length : Int) > 80
  · refine ⟨1, ?_⟩
    unfold rootcellarlaw10_ImageApart.f
    rw [h1, Option.bind_some, if_pos rfl, if_neg b1, decide_eq_true b2]; exact bail 0
  have hl : l.length ≤ maxLen := by unfold maxLen; omega
  have hl' : l'.length ≤ maxLen := by unfold maxLen; omega
  have p1 : image_Put.f i p c l = some (putR i p c (prs l)) := by unfold image_Put.f; rw [if_pos ⟨hl, hs⟩]
  have p2 : image_Put.f i' p' c' l' = some (putR i' p' c' (prs l')) := by unfold image_Put.f; rw [if_pos ⟨hl', hs'⟩]
  obtain ⟨K1, k1⟩ := file_ev i' p' c' l' (by omega)
  obtain ⟨b, ⟨K2, k2⟩, hb⟩ := alike_ev i i' p p' c c' l l' (by omega)
  refine ⟨K1 + K2 + 1, ?_⟩
  replace k1 := k1 (K1 + K2) (by omega)
  replace k2 := k2 (K1 + K2) (by omega)
  generalize K1 + K2 = k at k1 k2 ⊢
  dsimp only at k1 k2
  unfold rootcellarlaw10_ImageApart.f
  rw [h1, Option.bind_some, if_pos rfl, if_neg b1, decide_eq_false b2, rootcellarlaw10_ImageApart.j0, if_neg (by decide), p1, Option.bind_some, p2, Option.bind_some]
  unfold putR
  by_cases e1 : frB i p c (prs l) = true
  · rw [if_pos e1]
    by_cases e2 : frB i' p' c' (prs l') = true
    · rw [if_pos e2, if_pos rfl, if_pos rfl, k1, Option.bind_some]
      dsimp only
      rw [k2, Option.bind_some]
      congr 1
      have hlaw := apart_law i i' p p' c c' (prs l) (prs l') e1 e2
      cases b with
      | true =>
        obtain ⟨e3, e4, e5, e6⟩ := hb.1 rfl
        rw [hlaw.2 ⟨e3, e4, e5, by rw [e6]⟩, beq_self_eq_true]; rfl
      | false =>
        have hne : ¬ bs (sealed (bodyL i.toNat p.toNat c.toNat (prs l))) = bs (sealed (bodyL i'.toNat p'.toNat c'.toNat (prs l'))) := fun e => by
          obtain ⟨e3, e4, e5, e6⟩ := hlaw.1 e
          have := hb.2 ⟨e3, e4, e5, prs_inj e6⟩
          cases this
        have : ((bs (sealed (bodyL i.toNat p.toNat c.toNat (prs l)))).toList == (bs (sealed (bodyL i'.toNat p'.toNat c'.toNat (prs l')))).toList) = false := by
          simpa using fun e => hne (toList_inj e)
        rw [this]; rfl
    · rw [if_neg e2, if_pos rfl, if_neg (by decide)]
  · rw [if_neg e1, if_neg (by decide)]
end Go.Proofs.Ytolpnbeepiblkaa.Pr
