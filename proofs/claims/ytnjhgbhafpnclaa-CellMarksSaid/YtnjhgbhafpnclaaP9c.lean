/- Plain laws of the statements' helpers, second part: as, same, made, Over, the example. -/
import Derived.Test.YtnjhgbhafpnclaaP9b
import Derived.Test.YtnjhgbhafpnclaaHFlat
import Derived.Test.YtnjhgbhafpnclaaPrx1
import Derived.Test.YtnjhgbhafpnclaaPrx10
import Derived.Test.YtnjhgbhafpnclaaPrx2
import Derived.Test.YtnjhgbhafpnclaaPrx4
import Derived.Test.YtnjhgbhafpnclaaPrx8
import Derived.Test.YtnjhgbhafpnclaaPrx9
namespace Go.Proofs.Ytnjhgbhafpnclaa.Pr
open Go.RowKit Go.Proofs.Ytnjhgbhafpnclaa Go.Proofs.YtnjhgbhafpnclaaW.PrintWords Go.Proofs.YtnjhgbhafpnclaaW.PrintLast
abbrev rdC := rd_T51
abbrev rdR := rd_T64
def toR (x : SC) : SR := ⟨x.f0, x.f1⟩
theorem rdC_eq {l : List SC} {i : Nat} (h : i < l.length) : rd_T51 l (i : Int) = l[i] := by
  unfold rd_T51
  rw [Int.toNat_natCast, List.getD_eq_getElem?_getD, List.getElem?_eq_getElem h]; rfl
theorem rdR_eq {l : List SR} {i : Nat} (h : i < l.length) : rd_T64 l (i : Int) = l[i] := by
  unfold rd_T64
  rw [Int.toNat_natCast, List.getD_eq_getElem?_getD, List.getElem?_eq_getElem h]; rfl
theorem as_l0 (c : Int) (l : List SC) (hl : l.length ≤ 1000000) (d : Nat) : ∀ (i : Nat) (acc : List SR), i + d = l.length → acc.length ≤ i → Ev (fun k => rootcellarlaw9_as.l0 k (i : Int) c l c acc) (c, acc ++ (l.drop i).map toR) := by
  induction d with
  | zero =>
    intro i acc hi ha
    refine Ev.step (f := fun _ => some (c, acc ++ (l.drop i).map toR)) (fun k => ?_) (Ev.now _)
    rw [rootcellarlaw9_as.l0, if_neg (by omega), List.drop_of_length_le (by omega)]; simp
  | succ d ih =>
    intro i acc hi ha
    have hlt : i < l.length := by omega
    refine Ev.step (f := fun k => rootcellarlaw9_as.l0 k ((i + 1 : Nat) : Int) c l c (acc ++ [toR l[i]])) (fun k => ?_) ?_
    · rw [rootcellarlaw9_as.l0, if_pos (by omega), if_pos (by omega), if_pos (by omega), rdC_eq hlt, show wrap64 ((i : Int) + 1) = ((i + 1 : Nat) : Int) by rw [w64 (by omega)]; omega]
      rfl
    · have := ih (i + 1) (acc ++ [toR l[i]]) (by omega) (by simp <;> omega)
      rw [List.drop_eq_getElem_cons hlt, List.map_cons]
      rw [List.append_assoc] at this
      exact this
theorem as_ev (c : Int) (l : List SC) (hl : l.length ≤ 1000000) : Ev (fun k => rootcellarlaw9_as.f k c l) (c, l.map toR) := by
  have := as_l0 c l hl l.length 0 [] (by omega) (by simp)
  simpa [rootcellarlaw9_as.f] using this
theorem same_l0 (c : Int) (l : List SC) (hl : l.length ≤ 1000000) (d : Nat) : ∀ (i : Nat), i + d = l.length → Ev (fun k => rootcellarlaw9_same.l0 k (i : Int) c l c (l.map toR)) true := by
  induction d with
  | zero =>
    intro i hi
    refine Ev.step (f := fun _ => some true) (fun k => ?_) (Ev.now _)
    rw [rootcellarlaw9_same.l0, if_neg (by omega)]
  | succ d ih =>
    intro i hi
    have hlt : i < l.length := by omega
    have hlt' : i < (l.map toR).length := by rw [List.length_map]; omega
    refine Ev.step (f := fun k => rootcellarlaw9_same.l0 k ((i + 1 : Nat) : Int) c l c (l.map toR)) (fun k => ?_) (ih (i + 1) (by omega))
    rw [rootcellarlaw9_same.l0, if_pos (by omega), if_pos (by omega), if_pos (by omega), rdC_eq hlt, rdR_eq hlt', List.getElem_map, if_pos (show l[i].f0 = (toR l[i]).f0 from rfl), if_pos (show l[i].f1.toList = (toR l[i]).f1.toList from rfl), show wrap64 ((i : Int) + 1) = ((i + 1 : Nat) : Int) by rw [w64 (by omega)]; omega]
theorem same_ev (c : Int) (l : List SC) (hl : l.length ≤ 1000000) : Ev (fun k => rootcellarlaw9_same.f k c l c (l.map toR)) true := by
  refine Ev.congr (f := fun k => rootcellarlaw9_same.j0 k ((l.length : Int) != ((l.map toR).length : Int)) c l c (l.map toR)) (fun k => ?_) ?_
  · unfold rootcellarlaw9_same.f; rw [if_pos rfl]
  · refine Ev.step (f := fun k => rootcellarlaw9_same.l0 k 0 c l c (l.map toR)) (fun k => ?_) (same_l0 c l hl l.length 0 (by omega))
    rw [rootcellarlaw9_same.j0, if_neg (by simp)]
theorem over_l0 (c : Int) (d : Nat) : ∀ x y acc : List SC, x.length + y.length = d → acc.length + d ≤ 1000000 → Srt x → Srt y → ∃ m, Ev (fun k => cell_Over.l0 k x y c acc) (c, acc ++ m) ∧ Srt m ∧ (∀ z ∈ m, z ∈ x ∨ z ∈ y) ∧ (∀ a, look m a = (look x a).or (look y a)) := by
  induction d with
  | zero =>
    intro x y acc hd _ _ _
    obtain rfl : x = [] := List.length_eq_zero_iff.1 (by omega)
    obtain rfl : y = [] := List.length_eq_zero_iff.1 (by omega)
    refine ⟨[], ?_, List.Pairwise.nil, fun z hz => (by simp at hz), fun a => rfl⟩
    refine Ev.step (f := fun k => cell_Over.j2 k [] [] (decide ((([] : List SC).length : Int) > 0)) c acc) (fun k => ?_) (Ev.step (f := fun _ => some (c, acc ++ [])) (fun k => ?_) (Ev.now _))
    · rw [cell_Over.l0, if_neg (by simp)]
    · rw [cell_Over.j2, if_neg (by simp), List.append_nil]
  | succ d ih =>
    intro x y acc hd hacc hx hy
    cases x with
    | nil =>
      cases y with
      | nil => simp at hd
      | cons q y' =>
        obtain ⟨m, hm, hs, hmem, hlook⟩ := ih [] y' (acc ++ [q]) (by simp at hd ⊢; omega) (by simp at hd ⊢; omega) hx hy.tail
        refine ⟨q :: m, ?_, List.pairwise_cons.2 ⟨fun z hz => ?_, hs⟩, fun z hz => ?_, fun a => ?_⟩
        · refine Ev.step (f := fun k => cell_Over.j2 k [] (q :: y') (decide (((q :: y').length : Int) > 0)) c acc) (fun k => ?_) (Ev.step (f := fun k => cell_Over.j3 k [] (q :: y') false c acc) (fun k => ?_) (Ev.step (f := fun k => cell_Over.l0 k [] y' c (acc ++ [q])) (fun k => ?_) (by simpa using hm)))
          · rw [cell_Over.l0, if_neg (by simp)]
          · rw [cell_Over.j2, if_pos (by simp <;> omega), if_neg (by simp <;> omega), if_neg (by simp)]
          · rw [cell_Over.j3, if_neg (by decide), if_pos (by simp), if_pos (by simp <;> omega), if_pos (by omega), if_pos (by simp <;> omega)]; rfl
        · rcases hmem z hz with h | h
          · cases h
          · exact hy.head z h
        · rcases List.mem_cons.1 hz with rfl | h
          · exact .inr List.mem_cons_self
          · rcases hmem z h with h | h
            · cases h
            · exact .inr (List.mem_cons_of_mem _ h)
        · rw [look_cons, hlook, look_nil, look_cons]; simp
    | cons p x' =>
      cases y with
      | nil =>
        obtain ⟨m, hm, hs, hmem, hlook⟩ := ih x' [] (acc ++ [p]) (by simp at hd ⊢; omega) (by simp at hd ⊢; omega) hx.tail hy
        refine ⟨p :: m, ?_, List.pairwise_cons.2 ⟨fun z hz => ?_, hs⟩, fun z hz => ?_, fun a => ?_⟩
        · refine Ev.step (f := fun k => cell_Over.j2 k (p :: x') [] true c acc) (fun k => ?_) (Ev.step (f := fun k => cell_Over.j3 k (p :: x') [] true c acc) (fun k => ?_) (Ev.step (f := fun k => cell_Over.l0 k x' [] c (acc ++ [p])) (fun k => ?_) (by simpa using hm)))
          · rw [cell_Over.l0, if_pos (by simp <;> omega)]
          · rw [cell_Over.j2, if_pos rfl, if_pos (by simp)]
          · rw [cell_Over.j3, if_pos rfl, if_pos (by simp <;> omega), if_pos (by omega), if_pos (by simp <;> omega)]; rfl
        · rcases hmem z hz with h | h
          · exact hx.head z h
          · cases h
        · rcases List.mem_cons.1 hz with rfl | h
          · exact .inl List.mem_cons_self
          · rcases hmem z h with h | h
            · exact .inl (List.mem_cons_of_mem _ h)
            · cases h
        · rw [look_cons, hlook, look_nil, look_cons]; simp
      | cons q y' =>
        have go : ∀ r, Ev (fun k => cell_Over.j3 k (p :: x') (q :: y') (decide (p.f0 < q.f0)) c acc) r → Ev (fun k => cell_Over.l0 k (p :: x') (q :: y') c acc) r := by
          intro r hr
          refine Ev.step (f := fun k => cell_Over.j2 k (p :: x') (q :: y') true c acc) (fun k => ?_) (Ev.step (f := fun k => cell_Over.j3 k (p :: x') (q :: y') (decide (p.f0 < q.f0)) c acc) (fun k => ?_) hr)
          · rw [cell_Over.l0, if_pos (by simp <;> omega)]
          · rw [cell_Over.j2, if_pos rfl, if_neg (by simp <;> omega), if_pos (by simp <;> omega), if_pos (by simp <;> omega), if_pos (by simp <;> omega)]; rfl
        by_cases hlt : p.f0 < q.f0
        · obtain ⟨m, hm, hs, hmem, hlook⟩ := ih x' (q :: y') (acc ++ [p]) (by simp at hd ⊢; omega) (by simp at hd ⊢; omega) hx.tail hy
          refine ⟨p :: m, go _ ?_, List.pairwise_cons.2 ⟨fun z hz => ?_, hs⟩, fun z hz => ?_, fun a => ?_⟩
          · refine Ev.step (f := fun k => cell_Over.l0 k x' (q :: y') c (acc ++ [p])) (fun k => ?_) (by simpa using hm)
            rw [cell_Over.j3, if_pos (by simp [hlt]), if_pos (by simp <;> omega), if_pos (by omega), if_pos (by simp <;> omega)]; rfl
          · rcases hmem z hz with h | h
            · exact hx.head z h
            · rcases List.mem_cons.1 h with rfl | h
              · exact hlt
              · have := hy.head z h; omega
          · rcases List.mem_cons.1 hz with rfl | h
            · exact .inl List.mem_cons_self
            · rcases hmem z h with h | h
              · exact .inl (List.mem_cons_of_mem _ h)
              · exact .inr h
          · rw [look_cons, hlook, look_cons p]
            by_cases e : p.f0 = a
            · rw [if_pos e, if_pos e]; rfl
            · rw [if_neg e, if_neg e]
        · by_cases hgt : q.f0 < p.f0
          · obtain ⟨m, hm, hs, hmem, hlook⟩ := ih (p :: x') y' (acc ++ [q]) (by simp at hd ⊢; omega) (by simp at hd ⊢; omega) hx hy.tail
            refine ⟨q :: m, go _ ?_, List.pairwise_cons.2 ⟨fun z hz => ?_, hs⟩, fun z hz => ?_, fun a => ?_⟩
            · refine Ev.step (f := fun k => cell_Over.l0 k (p :: x') y' c (acc ++ [q])) (fun k => ?_) (by simpa using hm)
              rw [cell_Over.j3, if_neg (by simp [hlt]), if_neg (by simp <;> omega), if_pos (by simp <;> omega), if_pos (by simp <;> omega), if_pos (show (rdC (q :: y') 0).f0 < (rdC (p :: x') 0).f0 from hgt), if_pos (by omega), if_pos (by simp <;> omega)]; rfl
            · rcases hmem z hz with h | h
              · rcases List.mem_cons.1 h with rfl | h
                · exact hgt
                · have := hx.head z h; omega
              · exact hy.head z h
            · rcases List.mem_cons.1 hz with rfl | h
              · exact .inr List.mem_cons_self
              · rcases hmem z h with h | h
                · exact .inl h
                · exact .inr (List.mem_cons_of_mem _ h)
            · rw [look_cons, hlook, look_cons q]
              by_cases e : q.f0 = a
              · rw [if_pos e, if_pos e, look_none (l := p :: x') (fun z hz => by
                  rcases List.mem_cons.1 hz with rfl | h
                  · omega
                  · have := hx.head z h; omega)]
                rfl
              · rw [if_neg e, if_neg e]
          · have heq : p.f0 = q.f0 := by omega
            obtain ⟨m, hm, hs, hmem, hlook⟩ := ih (p :: x') y' acc (by simp at hd ⊢; omega) (by simp at hd ⊢; omega) hx hy.tail
            refine ⟨m, go _ ?_, hs, fun z hz => ?_, fun a => ?_⟩
            · refine Ev.step (f := fun k => cell_Over.l0 k (p :: x') y' c acc) (fun k => ?_) hm
              rw [cell_Over.j3, if_neg (by simp [hlt]), if_neg (by simp <;> omega), if_pos (by simp <;> omega), if_pos (by simp <;> omega), if_neg (show ¬ (rdC (q :: y') 0).f0 < (rdC (p :: x') 0).f0 from hgt), if_pos (by simp <;> omega)]; rfl
            · rcases hmem z hz with h | h
              · exact .inl h
              · exact .inr (List.mem_cons_of_mem _ h)
            · rw [hlook, look_cons q, look_cons p]
              by_cases e : p.f0 = a
              · rw [if_pos e]; rfl
              · rw [if_neg e, if_neg (by omega)]
theorem over_ok {n : Int} {x y : List SC} (h1 : 1 ≤ n) (h2 : n ≤ 64) (hx : Good n x) (hy : Good n y) : ∃ m, Ev (fun k => cell_Over.f k n x n y) (n, m) ∧ Good n m ∧ ∀ a, look m a = (look x a).or (look y a) := by
  have hxl := hx.length h2
  have hyl := hy.length h2
  obtain ⟨m, hm, hs, hmem, hlook⟩ := over_l0 n _ x y [] rfl (by simp <;> omega) hx.1 hy.1
  refine ⟨m, ?_, ⟨hs, fun z hz => ?_⟩, hlook⟩
  · refine Ev.congr (f := fun k => cell_Over.j0 k (n != n) n x n y) (fun k => ?_) (Ev.step (f := fun k => cell_Over.l0 k x y n []) (fun k => ?_) (by simpa using hm))
    · unfold cell_Over.f
      rw [hx.right_ok h1 h2, Option.bind_some, if_pos rfl, hy.right_ok h1 h2, Option.bind_some, if_pos rfl]
    · rw [cell_Over.j0, if_neg (by simp)]
  · rcases hmem z hz with h | h
    · exact hx.2 z h
    · exact hy.2 z h
/-- what a row of raw numbers leaves at a cluster -/
def left (n i : Int) (l : List Int) (o : Option ByteArray) : Option ByteArray := l.foldl (fun o c => if pickV c n = i then some (putT (clV c)) else o) o
theorem rd_eq {l : List Int} {i : Nat} (h : i < l.length) : rd l (i : Int) = l[i] := by
  unfold rd
  rw [Int.toNat_natCast, List.getD_eq_getElem?_getD, List.getElem?_eq_getElem h]; rfl
theorem made_l0 {n : Int} (h1 : 1 ≤ n) (h2 : n ≤ 64) (l : List Int) (hl : ∀ x ∈ l, (Lit.int .i64 x).wf = true) (d : Nat) : ∀ (i : Nat) (m : List SC), i + d = min l.length 80 → Good n m → ∃ r, Ev (fun k => rootcellarlaw9_made.l0 k n l (i : Int) n m) (n, r) ∧ Good n r ∧ ∀ a, look r a = left n a ((l.take 80).drop i) (look m a) := by
  induction d with
  | zero =>
    intro i m hi hm
    refine ⟨m, ?_, hm, fun a => ?_⟩
    · have hend : Ev (fun k => rootcellarlaw9_made.j1 k n l (i : Int) false n m) (n, m) := by
        refine Ev.step (f := fun _ => some (n, m)) (fun k => ?_) (Ev.now _)
        rw [rootcellarlaw9_made.j1, if_neg (by decide)]
      refine Ev.step (f := fun k => rootcellarlaw9_made.j1 k n l (i : Int) false n m) (fun k => ?_) hend
      rw [rootcellarlaw9_made.l0]
      by_cases hlt : (i : Int) < (l.length : Int)
      · rw [if_pos hlt, show decide ((i : Int) < 80) = false by simp; omega]
      · rw [if_neg hlt]
    · rw [List.drop_of_length_le (by rw [List.length_take]; omega)]; rfl
  | succ d ih =>
    intro i m hi hm
    have hlt : i < l.length := by omega
    have hlt' : i < (l.take 80).length := by rw [List.length_take]; omega
    have hw := hl _ (List.getElem_mem hlt)
    have hp := pickV_range l[i] n h1
    obtain ⟨r, hr, hg, hk⟩ := ih (i + 1) (putL m (pickV l[i] n) (clV l[i])) (by omega) (hm.put _ _ hp (clV_size _))
    refine ⟨r, ?_, hg, fun a => ?_⟩
    · refine Ev.step (f := fun k => rootcellarlaw9_made.j1 k n l (i : Int) true n m) (fun k => ?_) (Ev.step (f := fun k => (rootcellarlaw9_cluster.f k l[i]).bind fun t143 => ((cell_Put.f n m (pickV l[i] n) t143).bind fun bt144 => (rootcellarlaw9_made.l0 k n l ((i + 1 : Nat) : Int) bt144.1 bt144.2.1))) (fun k => ?_) (Ev.bind (cl_ev l[i]) (Ev.congr (fun k => ?_) hr)))
      · rw [rootcellarlaw9_made.l0, if_pos (by omega), show decide ((i : Int) < 80) = true by simp; omega]
      · rw [rootcellarlaw9_made.j1, if_pos rfl, if_pos (by omega), if_pos (by omega), rd_eq hlt, pick_ok _ _ hw h1, Option.bind_some, show wrap64 ((i : Int) + 1) = ((i + 1 : Nat) : Int) by rw [w64 (by omega)]; omega]
      · rw [put_ok hm h2 _ _ hp (clV_size _), Option.bind_some]
    · rw [hk, (putL_spec hm.1 _ _).2.1, List.drop_eq_getElem_cons hlt', List.getElem_take]
      unfold left
      rw [List.foldl_cons]
      by_cases e : a = pickV l[i] n
      · rw [if_pos e, if_pos e.symm]
      · rw [if_neg e, if_neg (fun h => e h.symm)]
theorem made_ok {n : Int} (h1 : 1 ≤ n) (h2 : n ≤ 64) (l : List Int) (hl : ∀ x ∈ l, (Lit.int .i64 x).wf = true) : ∃ r, Ev (fun k => rootcellarlaw9_made.f k n l) (n, r) ∧ Good n r ∧ ∀ a, look r a = left n a (l.take 80) none := by
  obtain ⟨r, hr, hg, hk⟩ := made_l0 h1 h2 l hl _ 0 [] (by rw [Nat.zero_add]) (Good.nil n)
  refine ⟨r, Ev.congr (fun k => ?_) hr, hg, fun a => by rw [hk, look_nil, List.drop_zero]⟩
  unfold rootcellarlaw9_made.f
  rw [new_ok h1 h2, Option.bind_some]
  rfl
theorem clV_0 : clV 0 = z16 := rfl
theorem shown_ev : Ev (fun k => rootcellarlaw9_shown.f k) true := by
  obtain ⟨K, hK⟩ := cl_ev 0
  refine ⟨K, fun k hk => ?_⟩
  have hp : putL [] 1 z16 = [⟨1, ⟨#[]⟩⟩] := by
    unfold putL putT
    rw [z16_zero]; rfl
  have hg : Good 4 ([⟨1, ⟨#[]⟩⟩] : List SC) := by
    rw [← hp]; exact (Good.nil 4).put 1 z16 (by omega) rfl
  have e1 : getV [⟨1, ⟨#[]⟩⟩] 1 = (z16, true) := rfl
  have e2 : getV [⟨1, ⟨#[]⟩⟩] 2 = (⟨#[]⟩, false) := rfl
  have hc : rootcellarlaw9_cluster.f k 0 = some (clV 0) := hK k hk
  show rootcellarlaw9_shown.f k = some true
  unfold rootcellarlaw9_shown.f
  rw [new_ok (by omega) (by omega), Option.bind_some, hc, clV_0, Option.bind_some, put_ok (Good.nil 4) (by omega) 1 z16 (by omega) rfl, Option.bind_some, hp]
  dsimp only
  rw [hg.get (by omega), Option.bind_some, hg.get (by omega), Option.bind_some, e1, e2]
  rw [if_pos rfl, if_pos rfl, Option.bind_some, if_pos rfl, if_pos rfl, if_neg (by decide), if_pos (by decide), if_pos (by decide)]
  show some ((⟨#[]⟩ : ByteArray).toList == ([] : List UInt8)) = some true
  rw [(toList_empty ⟨#[]⟩).2 rfl]
  rfl
end Go.Proofs.Ytnjhgbhafpnclaa.Pr
