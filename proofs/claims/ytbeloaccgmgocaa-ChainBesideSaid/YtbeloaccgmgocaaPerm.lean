/- A region that draws its order, walked order by order: the list of its orders is reckoned, and each is walked as a plain list. No conditions but that orders mix. -/
import Derived.OrdersIn
import Derived.TacticsIn
namespace Go.Proofs.Ytbeloaccgmgocaa
open Go
/-- all orders in which the operations may come -/
def allOrd (md : Region.Mode) (ops : Array Oper) : Nat → Array Bool → List (List Nat)
  | 0, _ => [[]]
  | fuel + 1, listed => if Region.ready md ops listed = [] then [[]] else (Region.ready md ops listed).flatMap fun i => (allOrd md ops fuel (listed.setIfInBounds i true)).map fun l => i :: l
theorem allOrd_mem (md : Region.Mode) (ops : Array Oper) : ∀ (fuel t : Nat) (listed : Array Bool), Region.linearise.go md ops fuel t listed [] ∈ allOrd md ops fuel listed := by
  intro fuel
  induction fuel with
  | zero => intro t listed; simp [Region.linearise.go, allOrd]
  | succ fuel ih =>
    intro t listed
    simp only [Region.linearise.go, allOrd]
    change (match (Region.ready md ops listed)[t % (Region.ready md ops listed).length]? with
      | some i => Region.linearise.go md ops fuel (t / (Region.ready md ops listed).length) (listed.setIfInBounds i true) [i]
      | none => [].reverse) ∈ _
    by_cases hr : Region.ready md ops listed = []
    · rw [if_pos hr, hr]
      simp
    · rw [if_neg hr]
      have hlen : 0 < (Region.ready md ops listed).length := List.length_pos_iff.2 hr
      have hlt := Nat.mod_lt t hlen
      rw [List.getElem?_eq_getElem hlt]
      simp only
      rw [linearise_go_acc, List.reverse_singleton, List.singleton_append]
      exact List.mem_flatMap.2 ⟨_, List.getElem_mem hlt, List.mem_map.2 ⟨_, ih _ _, rfl⟩⟩
section
variable {F : Fence} {n : Nat} {P : Program} {ops : Array Oper} {Q : Exit → Act → World → Prop} {a : Act} {w : World}
theorem opsIn_of_list (l : List Nat) : ∀ (a : Act) (w : World), wpListIn F n P ops Q (l.filterMap fun i => ops[i]?) a w → wpOpsIn F n P ops Q l a w := by
  induction l with
  | nil => intro a w h; exact h
  | cons i l ih =>
    intro a w h
    rw [wpOpsIn]
    cases ho : ops[i]? with
    | none =>
      rw [List.filterMap_cons, ho] at h
      exact ih a w h
    | some o =>
      rw [List.filterMap_cons, ho] at h
      simp only
      change (if Region.wanted o (yielded ops a.tmps) then o.wpIn F n P a w (wpListIn F n P ops Q (l.filterMap fun i => ops[i]?)) Q else (∀ f, o.about P w a.eval = some f → F.fn f) ∧ wpListIn F n P ops Q (l.filterMap fun i => ops[i]?) (a.put o.dst undef) w) at h
      by_cases hw : Region.wanted o (yielded ops a.tmps) = true
      · rw [if_pos hw] at h ⊢
        exact Oper.wpIn_mono (fun a w hk => ih a w hk) h
      · rw [if_neg hw] at h ⊢
        exact ⟨h.1, ih _ _ h.2⟩
theorem wpIn_region_perm {id : Nat} (hm : P.follows .mixedOrders = true) (ords : List (List Nat)) (he : allOrd .any ops ops.size (Array.replicate ops.size false) = ords)
    (h : ∀ l ∈ ords, wpListIn F n P ops Q (l.filterMap fun i => ops[i]?) a { w with drawn := w.drawn + 1 }) : (Code.region id ops true).wpIn F n P Q a w := by
  refine wpIn_region_draw fun t => opsIn_of_list _ _ _ (h _ ?_)
  rw [← he]
  have : Region.schedule (P.follows .mixedOrders) ops t = Region.linearise.go .any ops ops.size t (Array.replicate ops.size false) [] := by
    simp only [Region.schedule, hm, Bool.true_or, if_true]
    rfl
  rw [this]
  exact allOrd_mem _ _ _ _ _
end
end Go.Proofs.Ytbeloaccgmgocaa
