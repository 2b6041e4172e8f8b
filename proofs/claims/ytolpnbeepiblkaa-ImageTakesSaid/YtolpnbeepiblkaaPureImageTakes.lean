/- The plain law of ImageTakes: image.Take and the reference's Take make the same of any bytes. Condition: the text is no longer than texts can be. -/
import Derived.Test.YtolpnbeepiblkaaHRTake
import Derived.Test.YtolpnbeepiblkaaPrx2
import Derived.Test.YtolpnbeepiblkaaPrx5
namespace Go.Proofs.Ytolpnbeepiblkaa.Pr
open Go.RowKit Go.Proofs.Ytolpnbeepiblkaa Go.Proofs.YtolpnbeepiblkaaW.PrintWords Go.Proofs.YtolpnbeepiblkaaW.PrintLast
set_option linter.unusedVariables false
theorem takeI_len (l : List UInt8) : (takeI l).1.2.2.2.length ≤ 64 := by
  unfold takeI
  split
  · exact Nat.zero_le _
  · split
    · have := cell2s_len (all1 (hdr (tk l).1)).T ⟨(all1 (hdr (tk l).1)).left, (all1 (hdr (tk l).1)).bad, (all1 (hdr (tk l).1)).empty, []⟩ 64
      simp only [List.length_nil, Nat.zero_add] at this
      exact this
    · exact Nat.zero_le _
theorem takes_both (s : ByteArray) (hs : s.size ≤ maxLen) : Ev (fun k => (image_Take.f s).bind fun b => (rootcellarref10_Take.f s).bind fun c => (rootcellarlaw10_alike.f k b.1 b.2.1 b.2.2.1 b.2.2.2.1 c.1 c.2.1 c.2.2.1 c.2.2.2.1).bind fun t => if t = true then some (b.2.2.2.2 == c.2.2.2.2) else none) true := by
  have h1 : image_Take.f s = some ((takeI s.data.toList).1.1, (takeI s.data.toList).1.2.1, (takeI s.data.toList).1.2.2.1, (takeI s.data.toList).1.2.2.2.map mkC, (takeI s.data.toList).2) := by unfold image_Take.f; rw [if_pos hs]
  have h2 : rootcellarref10_Take.f s = some ((takeI s.data.toList).1.1, (takeI s.data.toList).1.2.1, (takeI s.data.toList).1.2.2.1, (takeI s.data.toList).1.2.2.2.map mkQ, (takeI s.data.toList).2) := by unfold rootcellarref10_Take.f; rw [if_pos hs, take_same]
  have hl := takeI_len s.data.toList
  obtain ⟨⟨⟨id, pa, cl, cs⟩, e⟩, he⟩ : ∃ x, takeI s.data.toList = x := ⟨_, rfl⟩
  rw [he] at h1 h2 hl
  simp only at h1 h2 hl
  have hq : cs.map mkQ = (cs.map mkC).map toR := by rw [List.map_map]; rfl
  rw [hq] at h2
  obtain ⟨b, ⟨K, hk⟩, hb⟩ := alike_ev id id pa pa cl cl (cs.map mkC) (cs.map mkC) (by rw [List.length_map]; omega)
  obtain rfl : b = true := hb.2 ⟨rfl, rfl, rfl, rfl⟩
  refine ⟨K, fun k hkk => ?_⟩
  have := hk k hkk
  dsimp only at this ⊢
  rw [h1, Option.bind_some, h2, Option.bind_some]
  simp only
  rw [this, Option.bind_some, if_pos rfl, beq_self_eq_true]
end Go.Proofs.Ytolpnbeepiblkaa.Pr
namespace Go.Proofs.Ytolpnbeepiblkaa.Pure
open Go.RowKit Go.Proofs.Ytolpnbeepiblkaa Go.Proofs.Ytolpnbeepiblkaa.Pr Go.Proofs.YtolpnbeepiblkaaW.PrintWords Go.Proofs.YtolpnbeepiblkaaW.PrintLast
theorem ImageTakes : rootcellarlaw10_ImageTakes.Pure := by
  intro s x hs
  have h1 : rootcellarlaw10_shown.f = some true := rfl
  by_cases b2 : (s.size : Int) > 2000
  · refine ⟨1, ?_⟩
    unfold rootcellarlaw10_ImageTakes.f
    rw [h1, Option.bind_some, if_pos rfl, decide_eq_true b2, rootcellarlaw10_ImageTakes.j0, if_pos rfl]
  cases x
  · obtain ⟨K, hk⟩ := takes_both s (by unfold maxLen; omega)
    refine ⟨K + 1, ?_⟩
    have := hk K (Nat.le_refl _)
    unfold rootcellarlaw10_ImageTakes.f
    rw [h1, Option.bind_some, if_pos rfl, decide_eq_false b2, rootcellarlaw10_ImageTakes.j0, if_neg (by decide), if_neg (by decide)]
    exact this
  · have hp : rootcellarref3_Put.f s = some (bs (sealed s.data.toList)) := by unfold rootcellarref3_Put.f; rw [if_pos (by unfold maxLen; omega)]
    obtain ⟨K, hk⟩ := takes_both (bs (sealed s.data.toList)) (by rw [bs_size, sealed_length, size_list]; unfold maxLen; omega)
    refine ⟨K + 1, ?_⟩
    have := hk K (Nat.le_refl _)
    unfold rootcellarlaw10_ImageTakes.f
    rw [h1, Option.bind_some, if_pos rfl, decide_eq_false b2, rootcellarlaw10_ImageTakes.j0, if_neg (by decide), if_pos rfl, hp, Option.bind_some]
    exact this
end Go.Proofs.Ytolpnbeepiblkaa.Pure
