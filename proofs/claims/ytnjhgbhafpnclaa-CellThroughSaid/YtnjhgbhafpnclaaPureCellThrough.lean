/- CellThrough: the plain law. No conditions. -/
import Derived.Test.YtnjhgbhafpnclaaP9
import Derived.Test.YtnjhgbhafpnclaaPrx11
import Derived.Test.YtnjhgbhafpnclaaPrx8
namespace Go.Proofs.Ytnjhgbhafpnclaa.Pr
open Go.RowKit Go.Proofs.Ytnjhgbhafpnclaa Go.Proofs.YtnjhgbhafpnclaaW.PrintWords Go.Proofs.YtnjhgbhafpnclaaW.PrintLast
theorem over_is {n : Int} {x y l : List SC} (h1 : 1 ≤ n) (h2 : n ≤ 64) (hx : Good n x) (hy : Good n y) (hl : Good n l) (h : ∀ a, look l a = (look x a).or (look y a)) : Ev (fun k => cell_Over.f k n x n y) (n, l) := by
  obtain ⟨m, hm, gm, lm⟩ := over_ok h1 h2 hx hy
  rwa [look_ext hl.1 gm.1 (fun a => by rw [h, lm])]
theorem through_end {n : Int} (h1 : 1 ≤ n) (h2 : n ≤ 64) {x y z o : List SC} (hx : Good n x) (hy : Good n y) (hz : Good n z) (ho : Good n o) (hlo : ∀ a, look o a = (look x a).or (look y a)) (i : Int) (hi : ¬ i < n) : Ev (fun k => rootcellarlaw9_CellThrough.l0 k n i n x n y n z n o) true := by
  obtain ⟨q, ⟨K1, k1⟩, gq, lq⟩ := over_ok h1 h2 hy hz
  obtain ⟨p, ⟨K2, k2⟩, gp, lp⟩ := over_ok h1 h2 ho hz
  obtain ⟨K3, k3⟩ := over_is h1 h2 hx gq gp (fun a => by rw [lp, hlo, lq]; cases look x a <;> rfl)
  obtain ⟨K4, k4⟩ := over_is h1 h2 hx hx hx (fun a => by cases look x a <;> rfl)
  obtain ⟨K5, k5⟩ := over_is h1 h2 hx (Good.nil n) hx (fun a => by rw [look_nil]; cases look x a <;> rfl)
  obtain ⟨K6, k6⟩ := over_is h1 h2 (Good.nil n) hx hx (fun a => by rw [look_nil]; rfl)
  have hpl := gp.length h2
  have hxl := hx.length h2
  obtain ⟨K7, k7⟩ := as_ev n p (by omega)
  obtain ⟨K8, k8⟩ := same_ev n p (by omega)
  obtain ⟨K9, k9⟩ := as_ev n x (by omega)
  obtain ⟨K10, k10⟩ := same_ev n x (by omega)
  refine ⟨K1 + K2 + K3 + K4 + K5 + K6 + K7 + K8 + K9 + K10 + 1, fun k hk => ?_⟩
  obtain ⟨k, rfl⟩ : ∃ m, k = m + 1 := ⟨k - 1, by omega⟩
  replace k1 := k1 k (by omega)
  replace k2 := k2 k (by omega)
  replace k3 := k3 k (by omega)
  replace k4 := k4 k (by omega)
  replace k5 := k5 k (by omega)
  replace k6 := k6 k (by omega)
  replace k7 := k7 k (by omega)
  replace k8 := k8 k (by omega)
  replace k9 := k9 k (by omega)
  replace k10 := k10 k (by omega)
  dsimp only at k1 k2 k3 k4 k5 k6 k7 k8 k9 k10 ⊢
  rw [rootcellarlaw9_CellThrough.l0, if_neg hi, new_ok h1 h2, Option.bind_some, ho.right_ok h1 h2, Option.bind_some, if_pos rfl]
  simp only [k1, k2, k3, k4, k5, k6, k7, k8, k9, k10, Option.bind_some, if_true]
theorem through_l0 {n : Int} (h1 : 1 ≤ n) (h2 : n ≤ 64) {x y z o : List SC} (hx : Good n x) (hy : Good n y) (hz : Good n z) (ho : Good n o) (hlo : ∀ a, look o a = (look x a).or (look y a)) (d : Nat) : ∀ i : Nat, (i : Int) + d = n → Ev (fun k => rootcellarlaw9_CellThrough.l0 k n (i : Int) n x n y n z n o) true := by
  induction d with
  | zero => intro i hi; exact through_end h1 h2 hx hy hz ho hlo i (by omega)
  | succ d ih =>
    intro i hi
    refine Ev.step (f := fun k => rootcellarlaw9_CellThrough.l0 k n ((i + 1 : Nat) : Int) n x n y n z n o) (fun k => ?_) (ih (i + 1) (by omega))
    rw [rootcellarlaw9_CellThrough.l0, if_pos (by omega), ho.get h2, Option.bind_some, hx.get h2, Option.bind_some, show wrap64 ((i : Int) + 1) = ((i + 1 : Nat) : Int) by rw [w64 (by omega)]; omega]
    cases hxi : look x (i : Int) with
    | some t =>
      rw [show getV o (i : Int) = (txt t, true) from getV_t (by rw [hlo, hxi]; rfl), show getV x (i : Int) = (txt t, true) from getV_t hxi, if_pos rfl, if_pos rfl, if_neg (by simp)]
    | none =>
      rw [show getV o (i : Int) = getV y (i : Int) from getV_of (by rw [hlo, hxi]; rfl), show getV x (i : Int) = (⟨#[]⟩, false) from getV_n hxi, if_neg (by decide), hy.get h2, Option.bind_some, if_pos rfl, if_neg (by simp)]
theorem pure_CellThrough : rootcellarlaw9_CellThrough.Pure := by
  intro a0 l1 l2 l3 w0 _ _ w1 _ _ w2 _ _ w3
  obtain ⟨hw, h1, h2⟩ := wrap_one a0
  generalize hn : 1 + pickV a0 64 = n at hw h1 h2
  obtain ⟨x, ⟨K1, k1⟩, hx, _⟩ := made_ok h1 h2 l1 w1
  obtain ⟨y, ⟨K2, k2⟩, hy, _⟩ := made_ok h1 h2 l2 w2
  obtain ⟨z, ⟨K3, k3⟩, hz, _⟩ := made_ok h1 h2 l3 w3
  obtain ⟨o, ⟨K4, k4⟩, ho, lo⟩ := over_ok h1 h2 hx hy
  obtain ⟨K5, k5⟩ := through_l0 h1 h2 hx hy hz ho lo n.toNat 0 (by omega)
  obtain ⟨K6, k6⟩ := shown_ev
  refine ⟨K1 + K2 + K3 + K4 + K5 + K6 + 1, ?_⟩
  replace k1 := k1 (K1 + K2 + K3 + K4 + K5 + K6 + 1) (by omega)
  replace k2 := k2 (K1 + K2 + K3 + K4 + K5 + K6 + 1) (by omega)
  replace k3 := k3 (K1 + K2 + K3 + K4 + K5 + K6 + 1) (by omega)
  replace k4 := k4 (K1 + K2 + K3 + K4 + K5 + K6) (by omega)
  replace k5 := k5 (K1 + K2 + K3 + K4 + K5 + K6) (by omega)
  replace k6 := k6 (K1 + K2 + K3 + K4 + K5 + K6 + 1) (by omega)
  generalize K1 + K2 + K3 + K4 + K5 + K6 = k at k1 k2 k3 k4 k5 k6 ⊢
  dsimp only at k1 k2 k3 k4 k5 k6
  unfold rootcellarlaw9_CellThrough.f
  rw [k6, Option.bind_some, pick_ok a0 64 w0 (by omega), Option.bind_some, hn, hw, k1, Option.bind_some, k2, Option.bind_some, k3, Option.bind_some, if_pos rfl]
  dsimp only
  rw [hx.right_ok h1 h2, Option.bind_some, if_pos rfl, hy.right_ok h1 h2, Option.bind_some, if_pos rfl, hz.right_ok h1 h2, Option.bind_some, rootcellarlaw9_CellThrough.j0, if_neg (by decide), k4, Option.bind_some]
  exact k5
end Go.Proofs.Ytnjhgbhafpnclaa.Pr
namespace Go.Proofs.Ytnjhgbhafpnclaa.Pure
open Go.Proofs.Ytnjhgbhafpnclaa.Pr
theorem CellThrough : rootcellarlaw9_CellThrough.Pure := pure_CellThrough
end Go.Proofs.Ytnjhgbhafpnclaa.Pure
