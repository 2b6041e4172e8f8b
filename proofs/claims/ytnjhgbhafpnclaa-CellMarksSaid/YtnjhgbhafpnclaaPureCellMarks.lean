/- CellMarks: the plain law. No conditions. -/
import Derived.Test.YtnjhgbhafpnclaaP9c
import Derived.Test.YtnjhgbhafpnclaaPrx18
namespace Go.Proofs.Ytnjhgbhafpnclaa.Pr
open Go.RowKit Go.Proofs.Ytnjhgbhafpnclaa Go.Proofs.YtnjhgbhafpnclaaW.PrintWords Go.Proofs.YtnjhgbhafpnclaaW.PrintLast
theorem lay_nts (m o : Nat) (h : o + 16 ≤ m) : lay (nts m) o (⟨(nts 16).toArray⟩ : ByteArray) = nts m := by
  unfold lay nts
  simp only [List.take_replicate, List.drop_replicate]
  rw [show (⟨(List.replicate 16 (0 : UInt8)).toArray⟩ : ByteArray).size = 16 from rfl]
  rw [List.replicate_append_replicate, List.replicate_append_replicate]
  congr 1
  omega
theorem flat_mark {n a : Int} (h2 : n ≤ 64) (ha : 0 ≤ a ∧ a < n) (hg : Good n ([⟨a, ⟨#[]⟩⟩] : List SC)) : cell_Flat.f n [⟨a, ⟨#[]⟩⟩] = cell_Flat.f n [] := by
  unfold cell_Flat.f
  rw [if_pos ⟨by have := hg.length h2; unfold maxLen; omega, hg.sized⟩, hg.right (by omega) h2, if_pos rfl, if_pos ⟨by unfold maxLen; simp, (Good.nil n).sized⟩, (Good.nil n).right (by omega) h2, if_pos rfl]
  show some (⟨(lay (nts (n.toNat * 16)) (a.toNat * 16) (textB ⟨#[]⟩)).toArray⟩ : ByteArray) = _
  rw [show textB ⟨#[]⟩ = (⟨(nts 16).toArray⟩ : ByteArray) from rfl, lay_nts _ _ (by omega)]
  rfl
theorem getV_some {l : List SC} {a : Int} {t : ByteArray} (h : look l a = some t) : getV l a = (txt t, true) := by unfold getV; rw [h]
theorem pure_CellMarks : rootcellarlaw9_CellMarks.Pure := by
  intro a0 a1 a2 w0 w1 w2
  have hp0 := pickV_range a0 64 (by omega)
  obtain ⟨n, hn⟩ : ∃ n, n = 1 + pickV a0 64 := ⟨_, rfl⟩
  have hw : wrap64 (1 + pickV a0 64) = n := by rw [w64 (by omega)]; omega
  have h1 : 1 ≤ n := by omega
  have h2 : n ≤ 64 := by omega
  have hp1 := pickV_range a1 n h1
  obtain ⟨p, hp⟩ : ∃ p, p = pickV a1 n := ⟨_, rfl⟩
  rw [← hp] at hp1
  have gm : Good n (putL [] p z16) := (Good.nil n).put p z16 hp1 rfl
  have gu : Good n (putL [] p (clV a2)) := (Good.nil n).put p (clV a2) hp1 (clV_size _)
  have em : putL [] p z16 = [⟨p, ⟨#[]⟩⟩] := by
    unfold putL putT
    rw [z16_zero]; rfl
  have lm := (putL_spec (Good.nil n).1 p z16).2.1 p
  have lu := (putL_spec (Good.nil n).1 p (clV a2)).2.1 p
  rw [if_pos rfl] at lm lu
  obtain ⟨K1, k1⟩ := shown_ev
  obtain ⟨K2, k2⟩ := cl_ev 0
  obtain ⟨K3, k3⟩ := cl_ev a2
  obtain ⟨o1, ⟨K4, k4⟩, g1, l1⟩ := over_ok h1 h2 gm gu
  obtain ⟨o2, ⟨K5, k5⟩, g2, l2⟩ := over_ok h1 h2 (Good.nil n) gu
  have r1 : getV o1 p = (z16, true) := by
    rw [getV_some (t := putT z16) (by rw [l1, lm]; rfl), txt_put z16 rfl]
  have r2 : getV o2 p = (clV a2, true) := by
    rw [getV_some (t := putT (clV a2)) (by rw [l2, look_nil, lu]; rfl), txt_put _ (clV_size _)]
  refine ⟨K1 + K2 + K3 + K4 + K5, ?_⟩
  replace k1 := k1 (K1 + K2 + K3 + K4 + K5) (by omega)
  replace k2 := k2 (K1 + K2 + K3 + K4 + K5) (by omega)
  replace k3 := k3 (K1 + K2 + K3 + K4 + K5) (by omega)
  replace k4 := k4 (K1 + K2 + K3 + K4 + K5) (by omega)
  replace k5 := k5 (K1 + K2 + K3 + K4 + K5) (by omega)
  generalize K1 + K2 + K3 + K4 + K5 = k at k1 k2 k3 k4 k5 ⊢
  dsimp only at k1 k2 k3 k4 k5
  unfold rootcellarlaw9_CellMarks.f
  rw [k1, Option.bind_some, pick_ok a0 64 w0 (by omega), Option.bind_some, hw, pick_ok a1 n w1 h1, ← hp, Option.bind_some, new_ok h1 h2, Option.bind_some, k2, clV_0, Option.bind_some]
  dsimp only
  rw [put_ok (Good.nil n) h2 p z16 hp1 rfl, Option.bind_some, k3, Option.bind_some, put_ok (Good.nil n) h2 p _ hp1 (clV_size _), Option.bind_some]
  dsimp only
  rw [k4, Option.bind_some]
  dsimp only
  rw [g1.get h2, Option.bind_some, k5, Option.bind_some]
  dsimp only
  rw [g2.get h2, Option.bind_some, r1, r2, if_pos rfl, if_pos rfl, if_pos rfl, if_pos rfl, if_pos rfl, Option.bind_some, if_pos rfl, Option.bind_some, if_pos rfl, em, if_pos (by simp), if_pos (by simp)]
  rw [if_pos (show (rdC [⟨p, ⟨#[]⟩⟩] 0).f1.toList = [] from (toList_empty ⟨#[]⟩).2 rfl), flat_mark h2 hp1 (em ▸ gm)]
  have : ∃ t, cell_Flat.f n [] = some t := by
    unfold cell_Flat.f
    rw [if_pos ⟨by unfold maxLen; simp, (Good.nil n).sized⟩, (Good.nil n).right h1 h2, if_pos rfl]
    exact ⟨_, rfl⟩
  obtain ⟨t, ht⟩ := this
  rw [ht, Option.bind_some, Option.bind_some, beq_self_eq_true]
end Go.Proofs.Ytnjhgbhafpnclaa.Pr
namespace Go.Proofs.Ytnjhgbhafpnclaa.Pure
open Go.Proofs.Ytnjhgbhafpnclaa.Pr
theorem CellMarks : rootcellarlaw9_CellMarks.Pure := pure_CellMarks
end Go.Proofs.Ytnjhgbhafpnclaa.Pure
