/- CellPut: the plain law. No conditions. -/
import Derived.Test.YtnjhgbhafpnclaaP9
import Derived.Test.YtnjhgbhafpnclaaPrx20
namespace Go.Proofs.Ytnjhgbhafpnclaa.Pr
open Go.RowKit Go.Proofs.Ytnjhgbhafpnclaa Go.Proofs.YtnjhgbhafpnclaaW.PrintWords Go.Proofs.YtnjhgbhafpnclaaW.PrintLast
theorem put_end {n : Int} (h1 : 1 ≤ n) (h2 : n ≤ 64) {r : List SC} (hr : Good n r) {p : Int} (hp : 0 ≤ p ∧ p < n) (c : Int) (i : Int) (hi : ¬ i < n) : Ev (fun k => rootcellarlaw9_CellPut.l0 k p c n i n r n (putL r p (clV c)) n ((putL r p (clV c)).filter (other p))) true := by
  have gk : Good n (putL r p (clV c)) := hr.put p _ hp (clV_size _)
  have lk := (putL_spec hr.1 p (clV c)).2.1
  have hagain : putL (putL r p (clV c)) p (clV c) = putL r p (clV c) := by
    refine look_ext (gk.put p _ hp (clV_size _)).1 gk.1 (fun a => ?_)
    rw [(putL_spec gk.1 p (clV c)).2.1 a, lk a]
    split <;> rfl
  have hlen : (((putL r p (clV c)).filter (other p)).length : Int) = ((putL r p (clV c)).length : Int) - 1 := by
    have := filter_length gk.1 p (putT (clV c)) (by rw [lk, if_pos rfl]); omega
  have hl := gk.length h2
  have hln := gk.length_n (by omega)
  obtain ⟨K1, k1⟩ := cl_ev c
  obtain ⟨K2, k2⟩ := as_ev n (putL r p (clV c)) (by omega)
  obtain ⟨K3, k3⟩ := same_ev n (putL r p (clV c)) (by omega)
  refine ⟨K1 + K2 + K3 + 1, fun k hk => ?_⟩
  obtain ⟨k, rfl⟩ : ∃ m, k = m + 1 := ⟨k - 1, by omega⟩
  replace k1 := k1 k (by omega)
  replace k2 := k2 k (by omega)
  replace k3 := k3 k (by omega)
  dsimp only at k1 k2 k3 ⊢
  rw [rootcellarlaw9_CellPut.l0, if_neg hi, k1, Option.bind_some, put_ok gk h2 p _ hp (clV_size _), hagain, Option.bind_some, k2, Option.bind_some]
  dsimp only
  rw [k3, Option.bind_some, if_pos rfl, if_pos hln, hlen, w64 (by omega)]
  simp
theorem put_l0 {n : Int} (h1 : 1 ≤ n) (h2 : n ≤ 64) {r : List SC} (hr : Good n r) {p : Int} (hp : 0 ≤ p ∧ p < n) (c : Int) (d : Nat) : ∀ i : Nat, (i : Int) + d = n → Ev (fun k => rootcellarlaw9_CellPut.l0 k p c n (i : Int) n r n (putL r p (clV c)) n ((putL r p (clV c)).filter (other p))) true := by
  have gk : Good n (putL r p (clV c)) := hr.put p _ hp (clV_size _)
  have gd : Good n ((putL r p (clV c)).filter (other p)) := gk.drop p
  have lk := (putL_spec hr.1 p (clV c)).2.1
  have ld := (filter_spec gk.1 p).2
  induction d with
  | zero => intro i hi; exact put_end h1 h2 hr hp c i (by omega)
  | succ d ih =>
    intro i hi
    obtain ⟨K1, k1⟩ := cl_ev c
    obtain ⟨K2, k2⟩ := ih (i + 1) (by omega)
    refine ⟨K1 + K2 + 1, fun k hk => ?_⟩
    obtain ⟨k, rfl⟩ : ∃ m, k = m + 1 := ⟨k - 1, by omega⟩
    replace k1 := k1 k (by omega)
    replace k2 := k2 k (by omega)
    dsimp only at k1 k2 ⊢
    rw [rootcellarlaw9_CellPut.l0, if_pos (by omega), hr.get h2, Option.bind_some, gk.get h2, Option.bind_some, gd.get h2, Option.bind_some, show wrap64 ((i : Int) + 1) = ((i + 1 : Nat) : Int) by rw [w64 (by omega)]; omega]
    by_cases e : (i : Int) = p
    · have e1 : getV (putL r p (clV c)) (i : Int) = (clV c, true) := by rw [getV_t (t := putT (clV c)) (by rw [lk, if_pos e]), txt_put _ (clV_size _)]
      have e2 : getV ((putL r p (clV c)).filter (other p)) (i : Int) = (⟨#[]⟩, false) := getV_n (by rw [ld, if_pos e])
      rw [if_pos e, k1, Option.bind_some, e1, e2, if_pos rfl, if_pos rfl, if_neg (by decide), if_pos ((toList_empty ⟨#[]⟩).2 rfl)]
      exact k2
    · have e1 : getV (putL r p (clV c)) (i : Int) = getV r (i : Int) := getV_of (by rw [lk, if_neg e])
      have e2 : getV ((putL r p (clV c)).filter (other p)) (i : Int) = getV r (i : Int) := getV_of (by rw [ld, if_neg e, lk, if_neg e])
      rw [if_neg e, e1, e2, if_pos rfl, if_neg (by simp), if_pos rfl, if_neg (by simp)]
      exact k2
theorem pure_CellPut : rootcellarlaw9_CellPut.Pure := by
  intro a0 l1 a2 a3 w0 _ _ wl w2 w3
  obtain ⟨hw, h1, h2⟩ := wrap_one a0
  generalize hn : 1 + pickV a0 64 = n at hw h1 h2
  have hp := pickV_range a2 n h1
  obtain ⟨r, ⟨K1, k1⟩, gr, _⟩ := made_ok h1 h2 l1 wl
  obtain ⟨K2, k2⟩ := shown_ev
  obtain ⟨K3, k3⟩ := cl_ev a3
  obtain ⟨K4, k4⟩ := put_l0 h1 h2 gr hp a3 n.toNat 0 (by omega)
  have gk : Good n (putL r (pickV a2 n) (clV a3)) := gr.put _ _ hp (clV_size _)
  have gd : Good n ((putL r (pickV a2 n) (clV a3)).filter (other (pickV a2 n))) := gk.drop _
  refine ⟨K1 + K2 + K3 + K4 + 1, ?_⟩
  replace k1 := k1 (K1 + K2 + K3 + K4 + 1) (by omega)
  replace k2 := k2 (K1 + K2 + K3 + K4 + 1) (by omega)
  replace k3 := k3 (K1 + K2 + K3 + K4 + 1) (by omega)
  replace k4 := k4 (K1 + K2 + K3 + K4) (by omega)
  generalize K1 + K2 + K3 + K4 = k at k1 k2 k3 k4 ⊢
  dsimp only at k1 k2 k3 k4
  unfold rootcellarlaw9_CellPut.f
  rw [k2, Option.bind_some, pick_ok a0 64 w0 (by omega), Option.bind_some, hn, hw, k1, Option.bind_some, pick_ok a2 n w2 h1, Option.bind_some, k3, Option.bind_some]
  dsimp only
  rw [put_ok gr h2 _ _ hp (clV_size _), Option.bind_some]
  dsimp only
  rw [drop_ok gk h2 _ hp, Option.bind_some, if_pos rfl, if_pos rfl, if_pos rfl, gk.right_ok h1 h2, Option.bind_some, if_pos rfl, gd.right_ok h1 h2, Option.bind_some, rootcellarlaw9_CellPut.j0, if_neg (by decide)]
  exact k4
end Go.Proofs.Ytnjhgbhafpnclaa.Pr
namespace Go.Proofs.Ytnjhgbhafpnclaa.Pure
open Go.Proofs.Ytnjhgbhafpnclaa.Pr
theorem CellPut : rootcellarlaw9_CellPut.Pure := pure_CellPut
end Go.Proofs.Ytnjhgbhafpnclaa.Pure
