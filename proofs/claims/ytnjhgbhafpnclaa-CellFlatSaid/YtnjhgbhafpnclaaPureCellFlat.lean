/- CellFlat: the plain law. No conditions. -/
import Derived.Test.YtnjhgbhafpnclaaP9
import Derived.Test.YtnjhgbhafpnclaaP9f
import Derived.Test.YtnjhgbhafpnclaaPrx1
import Derived.Test.YtnjhgbhafpnclaaPrx6
namespace Go.Proofs.Ytnjhgbhafpnclaa.Pr
open Go.RowKit Go.Proofs.Ytnjhgbhafpnclaa Go.Proofs.YtnjhgbhafpnclaaW.PrintWords Go.Proofs.YtnjhgbhafpnclaaW.PrintLast
/-- what a row of raw numbers puts last at a cluster -/
def lastS (n i : Int) (l : List Int) (s : ByteArray) : ByteArray := l.foldl (fun s c => if pickV c n = i then clV c else s) s
theorem left_last (n i : Int) (l : List Int) : ∀ (o : Option ByteArray) (s : ByteArray), ((o = none ∧ s = ⟨#[]⟩) ∨ ∃ c, o = some (putT (clV c)) ∧ s = clV c) → ((left n i l o = none ∧ lastS n i l s = ⟨#[]⟩) ∨ ∃ c, left n i l o = some (putT (clV c)) ∧ lastS n i l s = clV c) := by
  induction l with
  | nil => intro o s h; exact h
  | cons c l ih =>
    intro o s h
    unfold left lastS
    rw [List.foldl_cons, List.foldl_cons]
    refine ih _ _ ?_
    by_cases e : pickV c n = i
    · rw [if_pos e, if_pos e]; exact .inr ⟨c, rfl, rfl⟩
    · rw [if_neg e, if_neg e]; exact h
section
variable {n : Int} (h1 : 1 ≤ n) (h2 : n ≤ 64) (l : List Int) (hl : ∀ x ∈ l, (Lit.int .i64 x).wf = true)
include h1 hl
theorem flat_l1 (s8 : ByteArray) (i : Int) (x12 : ByteArray) (x13 : Bool) (m k' : List SC) (r : Bool) (d : Nat) : ∀ (j : Nat) (s : ByteArray), j + d = min l.length 80 → Ev (fun k => rootcellarlaw9_CellFlat.j4 k l n s8 i x12 x13 (lastS n i ((l.take 80).drop j) s) ((min l.length 80 : Nat) : Int) false n m n k') r → Ev (fun k => rootcellarlaw9_CellFlat.l1 k l n s8 i x12 x13 s (j : Int) n m n k') r := by
  induction d with
  | zero =>
    intro j s hj h
    rw [List.drop_of_length_le (by rw [List.length_take]; omega), show lastS n i [] s = s from rfl, show min l.length 80 = j by omega] at h
    refine Ev.step (f := fun k => rootcellarlaw9_CellFlat.j4 k l n s8 i x12 x13 s (j : Int) false n m n k') (fun k => ?_) h
    rw [rootcellarlaw9_CellFlat.l1]
    by_cases hlt : (j : Int) < (l.length : Int)
    · rw [if_pos hlt, show decide ((j : Int) < 80) = false by simp; omega]
    · rw [if_neg hlt]
  | succ d ih =>
    intro j s hj h
    have hlt : j < l.length := by omega
    have hlt' : j < (l.take 80).length := by rw [List.length_take]; omega
    have hw := hl _ (List.getElem_mem hlt)
    rw [List.drop_eq_getElem_cons hlt', List.getElem_take] at h
    have e1 : wrap64 ((j : Int) + 1) = ((j + 1 : Nat) : Int) := by rw [w64 (by omega)]; omega
    by_cases e : pickV l[j] n = i
    · have h' := ih (j + 1) (clV l[j]) (by omega) (by
        rw [show lastS n i (l[j] :: (l.take 80).drop (j + 1)) s = lastS n i ((l.take 80).drop (j + 1)) (clV l[j]) by unfold lastS; rw [List.foldl_cons, if_pos e]] at h
        exact h)
      refine Ev.step (f := fun k => rootcellarlaw9_CellFlat.j4 k l n s8 i x12 x13 s (j : Int) true n m n k') (fun k => ?_) (Ev.step (f := fun k => (rootcellarlaw9_cluster.f k l[j]).bind fun t180 => (rootcellarlaw9_CellFlat.l1 k l n s8 i x12 x13 t180 ((j + 1 : Nat) : Int) n m n k')) (fun k => ?_) (Ev.bind (cl_ev l[j]) h'))
      · rw [rootcellarlaw9_CellFlat.l1, if_pos (by omega), show decide ((j : Int) < 80) = true by simp; omega]
      · rw [rootcellarlaw9_CellFlat.j4, if_pos rfl, if_pos (by omega), if_pos (by omega), rd_eq hlt, pick_ok _ _ hw h1, Option.bind_some, if_pos e, e1]
    · have h' := ih (j + 1) s (by omega) (by
        rw [show lastS n i (l[j] :: (l.take 80).drop (j + 1)) s = lastS n i ((l.take 80).drop (j + 1)) s by unfold lastS; rw [List.foldl_cons, if_neg e]] at h
        exact h)
      refine Ev.step (f := fun k => rootcellarlaw9_CellFlat.j4 k l n s8 i x12 x13 s (j : Int) true n m n k') (fun k => ?_) (Ev.step (f := fun k => rootcellarlaw9_CellFlat.l1 k l n s8 i x12 x13 s ((j + 1 : Nat) : Int) n m n k') (fun k => ?_) h')
      · rw [rootcellarlaw9_CellFlat.l1, if_pos (by omega), show decide ((j : Int) < 80) = true by simp; omega]
      · rw [rootcellarlaw9_CellFlat.j4, if_pos rfl, if_pos (by omega), if_pos (by omega), rd_eq hlt, pick_ok _ _ hw h1, Option.bind_some, if_neg e, e1]
include h2
theorem flat_l0 {m : List SC} (hm : Good n m) (hlm : ∀ a, look m a = left n a (l.take 80) none) (d : Nat) : ∀ (i : Nat) (k' : List SC), (i : Int) + d = n → Good n k' → k'.length = i → (∀ a, look k' a = if 0 ≤ a ∧ a < i then some (putT (valV m a)) else none) → Ev (fun k => rootcellarlaw9_CellFlat.l0 k l n (flatV n m) (i : Int) n m n k') true := by
  induction d with
  | zero =>
    intro i k' hi hk hkl hlook
    refine Ev.step (f := fun _ => some true) (fun k => ?_) (Ev.now _)
    rw [rootcellarlaw9_CellFlat.l0, if_neg (by omega), hk.flat h1 h2, Option.bind_some]
    rw [flatV_eq hk hm (fun a ha => by
      unfold valV
      rw [hlook, if_pos (by omega)]
      show txt (putT (valV m a)) = valV m a
      exact txt_put _ (valV_size hm a)), if_pos rfl, hkl, show (i : Int) = n by omega, beq_self_eq_true]
  | succ d ih =>
    intro i k' hi hk hkl hlook
    have hiw : wrap64 ((i : Int) + 1) = ((i + 1 : Nat) : Int) := by rw [w64 (by omega)]; omega
    have h16 : wrap64 (16 * (i : Int)) = ((16 * i : Nat) : Int) := by rw [w64 (by omega)]; omega
    have h17 : wrap64 (((16 * i : Nat) : Int) + 16) = ((16 * i + 16 : Nat) : Int) := by rw [w64 (by omega)]; omega
    have hsz := flatV_size h1 hm
    have hext := flatV_ext hm i (by omega)
    have hput := hk.put i (valV m i) (by omega) (valV_size hm i)
    have hnone : look k' (i : Int) = none := by rw [hlook, if_neg (by omega)]
    have hnext := ih (i + 1) (putL k' i (valV m i)) (by omega) hput (by
        rw [(putL_spec hk.1 _ _).2.2.2, hit_look hk.1, hnone]
        simp [hkl]) (fun a => by
        rw [(putL_spec hk.1 _ _).2.1, hlook]
        by_cases e : a = (i : Int)
        · rw [if_pos e, if_pos (by omega), e]
        · rw [if_neg e]
          by_cases e2 : 0 ≤ a ∧ a < (i : Int)
          · rw [if_pos e2, if_pos (by omega)]
          · rw [if_neg e2, if_neg (by omega)])
    have hj4 : ∀ (x13 : Bool) (s : ByteArray), ((s.toList != ([] : List UInt8)) != x13) = false → (x13 = true → (valV m i).toList = s.toList) → Ev (fun k => rootcellarlaw9_CellFlat.j4 k l n (flatV n m) (i : Int) (valV m i) x13 s ((min l.length 80 : Nat) : Int) false n m n k') true := by
      intro x13 s ha hb
      refine Ev.step (f := fun k => rootcellarlaw9_CellFlat.l0 k l n (flatV n m) ((i + 1 : Nat) : Int) n m n (putL k' i (valV m i))) (fun k => ?_) hnext
      rw [rootcellarlaw9_CellFlat.j4, if_neg (by decide), h16, h17, if_pos (by omega), if_pos (by omega), if_pos (by omega), Int.toNat_natCast, Int.toNat_natCast, hext, if_pos rfl, if_neg (by rw [ha]; decide), put_ok hk h2 _ _ (by omega) (valV_size hm i), Option.bind_some, hiw]
      cases x13 with
      | true => rw [if_pos rfl, if_pos (hb rfl)]
      | false => rw [if_neg (by decide)]
    have hj2 : ∀ (x13 : Bool), ((lastS n i (l.take 80) ⟨#[]⟩).toList != ([] : List UInt8)) = x13 → (x13 = true → (valV m i).toList = (lastS n i (l.take 80) ⟨#[]⟩).toList) → Ev (fun k => rootcellarlaw9_CellFlat.j2 k l n (flatV n m) (i : Int) (valV m i) x13 n m n k') true := by
      intro x13 ha hb
      refine Ev.step (f := fun k => rootcellarlaw9_CellFlat.l1 k l n (flatV n m) (i : Int) (valV m i) x13 ⟨#[]⟩ 0 n m n k') (fun k => by rw [rootcellarlaw9_CellFlat.j2]) ?_
      refine flat_l1 h1 l hl _ _ _ _ _ _ _ (min l.length 80) 0 ⟨#[]⟩ (by omega) ?_
      rw [List.drop_zero]
      exact hj4 x13 _ (by rw [ha]; cases x13 <;> rfl) hb
    rcases left_last n i (l.take 80) none ⟨#[]⟩ (.inl ⟨rfl, rfl⟩) with ⟨e1, e2⟩ | ⟨c, e1, e2⟩
    · have hv : valV m i = z16 := by unfold valV; rw [hlm, e1]
      have hg : getV m i = (⟨#[]⟩, false) := by unfold getV; rw [hlm, e1]
      have := hj2 false (by rw [e2, (toList_empty ⟨#[]⟩).2 rfl]; rfl) (fun h => by cases h)
      rw [hv] at this
      refine Ev.step (f := fun k => (rootcellarlaw9_cluster.f k 0).bind fun t166 => (rootcellarlaw9_CellFlat.j2 k l n (flatV n m) (i : Int) t166 false n m n k')) (fun k => ?_) (Ev.bind (clV_0 ▸ cl_ev 0) this)
      rw [rootcellarlaw9_CellFlat.l0, if_pos (by omega), hm.get h2, Option.bind_some, hg, if_neg (by decide)]
    · have hv : valV m i = clV c := by
        unfold valV; rw [hlm, e1]
        exact txt_put _ (clV_size c)
      have hg : getV m i = (valV m i, true) := by unfold getV valV; rw [hlm, e1]
      have hne : (clV c).toList ≠ [] := fun h => by have := (toList_empty _).1 h; rw [clV_size] at this; cases this
      have := hj2 true (by rw [e2]; simpa using hne) (fun _ => by rw [hv, e2])
      refine Ev.step (f := fun k => rootcellarlaw9_CellFlat.j2 k l n (flatV n m) (i : Int) (valV m i) true n m n k') (fun k => ?_) this
      rw [rootcellarlaw9_CellFlat.l0, if_pos (by omega), hm.get h2, Option.bind_some, hg, if_pos rfl]
end
theorem pure_CellFlat : rootcellarlaw9_CellFlat.Pure := by
  intro a0 l1 w0 _ _ wl
  obtain ⟨hw, h1, h2⟩ := wrap_one a0
  generalize hn : 1 + pickV a0 64 = n at hw h1 h2
  obtain ⟨r, ⟨K1, k1⟩, gr, hr⟩ := made_ok h1 h2 l1 wl
  obtain ⟨K2, k2⟩ := shown_ev
  obtain ⟨K3, k3⟩ := flat_l0 h1 h2 l1 wl gr hr n.toNat 0 [] (by omega) (Good.nil n) rfl (fun a => by rw [look_nil, if_neg (by omega)])
  have hsz := flatV_size h1 gr
  refine ⟨K1 + K2 + K3 + 1, ?_⟩
  replace k1 := k1 (K1 + K2 + K3 + 1) (by omega)
  replace k2 := k2 (K1 + K2 + K3 + 1) (by omega)
  replace k3 := k3 (K1 + K2 + K3) (by omega)
  generalize K1 + K2 + K3 = k at k1 k2 k3 ⊢
  dsimp only at k1 k2 k3
  unfold rootcellarlaw9_CellFlat.f
  rw [k2, Option.bind_some, pick_ok a0 64 w0 (by omega), Option.bind_some, hn, hw, k1, Option.bind_some]
  dsimp only
  rw [gr.flat h1 h2, Option.bind_some, if_pos rfl, show ((flatV n r).size : Int) = 16 * n by omega, w64 (n := 16 * n) (by omega), bne_self_eq_false, rootcellarlaw9_CellFlat.j0, if_neg (by decide), new_ok h1 h2, Option.bind_some]
  exact k3
end Go.Proofs.Ytnjhgbhafpnclaa.Pr
namespace Go.Proofs.Ytnjhgbhafpnclaa.Pure
open Go.Proofs.Ytnjhgbhafpnclaa.Pr
theorem CellFlat : rootcellarlaw9_CellFlat.Pure := pure_CellFlat
end Go.Proofs.Ytnjhgbhafpnclaa.Pure
