/- ChainRings by hand: links that go round are told, and nothing hangs; one that hangs on nothing, too. Condition: the numbers are those of int. -/
import Derived.Test.YtbeloaccgmgocaaHShown11
import Derived.Test.YtbeloaccgmgocaaP11
import Derived.Test.YtbeloaccgmgocaaPrx1
namespace Go.Proofs.Ytbeloaccgmgocaa.Pr
open Go.RowKit Go.Proofs.YtbeloaccgmgocaaW.PrintWords Go.Proofs.YtbeloaccgmgocaaW.PrintLast Go.Proofs.Ytbeloaccgmgocaa
set_option linter.unusedVariables false
def up : Nat → List SL
  | 0 => []
  | j + 1 => up j ++ [⟨((j + 1 : Nat) : Int), ((j + 2 : Nat) : Int), ⟨3, []⟩⟩]
def ring (q : Nat) (last : Int) : List SL := up q ++ [⟨((q + 1 : Nat) : Int), last, ⟨3, []⟩⟩]
theorem up_len (j : Nat) : (up j).length = j := by
  induction j with
  | zero => rfl
  | succ j ih => rw [up, List.length_append, ih]; rfl
theorem ring_len (q : Nat) (last : Int) : (ring q last).length = q + 1 := by rw [ring, List.length_append, up_len]; rfl
theorem up_get (j : Nat) : ∀ i (h : i < (up j).length), (up j)[i].f0 = ((i + 1 : Nat) : Int) ∧ (up j)[i].f1 = ((i + 2 : Nat) : Int) := by
  induction j with
  | zero => intro i h; exact absurd h (Nat.not_lt_zero _)
  | succ j ih =>
    intro i h
    have hu : up (j + 1) = up j ++ [⟨((j + 1 : Nat) : Int), ((j + 2 : Nat) : Int), ⟨3, []⟩⟩] := rfl
    rw [up_len] at h
    simp only [hu]
    by_cases hi : i < j
    · rw [List.getElem_append_left (by rw [up_len]; exact hi)]
      exact ih i (by rw [up_len]; exact hi)
    · obtain rfl : i = j := by omega
      rw [List.getElem_append_right (by rw [up_len]; exact Nat.le_refl _)]
      simp
theorem ring_ids (q : Nat) (last : Int) : ∀ i (h : i < (ring q last).length), (ring q last)[i].f0 = ((i + 1 : Nat) : Int) ∧ (ring q last)[i].f1 = if i < q then ((i + 2 : Nat) : Int) else last := by
  intro i h
  have hu : ring q last = up q ++ [⟨((q + 1 : Nat) : Int), last, ⟨3, []⟩⟩] := rfl
  rw [ring_len] at h
  simp only [hu]
  by_cases hi : i < q
  · rw [List.getElem_append_left (by rw [up_len]; exact hi), if_pos hi]
    exact up_get q i (by rw [up_len]; exact hi)
  · obtain rfl : i = q := by omega
    rw [List.getElem_append_right (by rw [up_len]; exact Nat.le_refl _), if_neg hi]
    simp
theorem ring_find (q : Nat) (last : Int) (j : Nat) (hj : j < q + 1) : (ring q last).findIdx? (fun x => x.f0 == ((j + 1 : Nat) : Int)) = some j := by
  rw [List.findIdx?_eq_some_iff_getElem]
  refine ⟨by rw [ring_len]; exact hj, by rw [(ring_ids q last j (by rw [ring_len]; exact hj)).1, beq_self_eq_true], fun k hk => ?_⟩
  rw [(ring_ids q last k (by rw [ring_len]; omega)).1]
  simp only [Bool.not_eq_true, beq_eq_false_iff_ne]
  omega
theorem ring_getD (q : Nat) (last : Int) (j : Nat) (hj : j < q + 1) : (ring q last).getD j ⟨0, 0, ⟨0, []⟩⟩ = (ring q last)[j]'(by rw [ring_len]; exact hj) := by
  rw [List.getD_eq_getElem?_getD, List.getElem?_eq_getElem (by rw [ring_len]; exact hj)]; rfl
theorem ring_has (q : Nat) (last : Int) (j : Nat) (hj : j < q + 1) : hasL ((ring q last).take j) ((j + 1 : Nat) : Int) = false := by
  unfold hasL
  rw [List.any_eq_false]
  intro x hx
  obtain ⟨i, hi, rfl⟩ := List.getElem_of_mem hx
  rw [List.length_take] at hi
  rw [List.getElem_take, (ring_ids q last i (by omega)).1]
  simp only [beq_iff_eq]
  omega
theorem ring_up (q : Nat) (last : Int) (hne : last ≠ 0 ∨ 0 < q) (N : Nat) (d : Nat) : ∀ j, j + d = q → pathL (ring q last) (N + d) ((j + 1 : Nat) : Int) ((ring q last).take j) = pathL (ring q last) N ((q + 1 : Nat) : Int) ((ring q last).take q) := by
  induction d with
  | zero => intro j hj; obtain rfl : j = q := by omega
            rfl
  | succ d ih =>
    intro j hj
    have hjl : j < (ring q last).length := by rw [ring_len]; omega
    rw [← Nat.add_assoc, pathL, ring_find q last j (by omega)]
    simp only
    rw [if_neg (by rw [ring_has q last j (by omega)]; decide), ring_getD q last j (by omega), (ring_ids q last j hjl).2, if_pos (show j < q by omega), if_neg (show ¬ ((j + 2 : Nat) : Int) = 0 by omega), ← List.take_succ_eq_append_getElem hjl]
    exact ih (j + 1) (by omega)
theorem ring_end (q : Nat) (last : Int) (hne : last ≠ 0 ∨ 0 < q) : pathP (ring q last) 1 = if last = 0 then (ring q last, 0) else pathL (ring q last) 1 last (ring q last) := by
  have hql : q < (ring q last).length := by rw [ring_len]; omega
  have h := ring_up q last hne 2 q 0 (by omega)
  have ht : (ring q last).take q ++ [(ring q last)[q]'hql] = ring q last := by
    rw [← List.take_succ_eq_append_getElem hql, List.take_of_length_le (by rw [ring_len]; exact Nat.le_refl _)]
  rw [List.take_zero, pathL, ring_find q last q (by omega)] at h
  simp only at h
  rw [if_neg (by rw [ring_has q last q (by omega)]; decide), ring_getD q last q (by omega), (ring_ids q last q hql).2, if_neg (Nat.lt_irrefl _), ht] at h
  unfold pathP
  rw [ring_len, show q + 1 + 1 = 2 + q by omega]
  exact h
theorem ring_open (q : Nat) : pathP (ring q ((q + 2 : Nat) : Int)) 1 = ([], 4) := by
  rw [ring_end q _ (.inl (by omega)), if_neg (by omega), pathL]
  have : (ring q ((q + 2 : Nat) : Int)).findIdx? (fun x => x.f0 == ((q + 2 : Nat) : Int)) = none := by
    rw [List.findIdx?_eq_none_iff]
    intro x hx
    obtain ⟨i, hi, rfl⟩ := List.getElem_of_mem hx
    rw [(ring_ids q _ i hi).1]
    rw [ring_len] at hi
    rw [beq_eq_false_iff_ne]
    omega
  rw [this]
theorem ring_round (q : Nat) (t : Nat) (ht : t < q + 1) : pathP (ring q ((t + 1 : Nat) : Int)) 1 = ([], 2) := by
  rw [ring_end q _ (.inl (by omega)), if_neg (by omega), pathL, ring_find q _ t ht]
  simp only
  rw [if_pos]
  unfold hasL
  rw [List.any_eq_true]
  refine ⟨_, List.getElem_mem (n := t) (by rw [ring_len]; exact ht), ?_⟩
  rw [(ring_ids q _ t (by rw [ring_len]; exact ht)).1, beq_self_eq_true]
theorem ring_closed (q : Nat) : pathP (ring q 0) 1 = (ring q 0, 0) := by
  by_cases hq : 0 < q
  · rw [ring_end q 0 (.inr hq), if_pos rfl]
  · obtain rfl : q = 0 := by omega
    rfl
theorem ring_sized (q : Nat) (last : Int) : sizedL (ring q last) = true := by
  unfold sizedL
  rw [List.all_eq_true]
  intro x hx
  have hm : ∀ j, ∀ x ∈ up j, x.f2.f1 = [] := by
    intro j
    induction j with
    | zero => intro x hx; cases hx
    | succ j ih =>
      intro x hx
      rcases List.mem_append.1 hx with hx | hx
      · exact ih x hx
      · rw [List.mem_singleton.1 hx]
  have : x.f2.f1 = [] := by
    rcases List.mem_append.1 hx with hx | hx
    · exact hm q x hx
    · rw [List.mem_singleton.1 hx]
  rw [this]
  rfl
def lk (x : SL) : LK := (x, none, 0)
theorem up_found (w : World) (l : List SL) (h : ∀ x ∈ l, x.f2.f1 = []) : FoundAll w (l.map lk) := by
  intro x hx
  obtain ⟨y, hy, rfl⟩ := List.mem_map.1 hx
  refine ⟨?_, ?_⟩
  · show y.f2.f1.length ≤ 0
    rw [h y hy]; exact Nat.le_refl _
  · show Kd.C kC w none y.f2.f1.length y.f2.f1
    rw [h y hy]; exact Kd.C_nil _ _
theorem ring_nil (q : Nat) (last : Int) : ∀ x ∈ ring q last, x.f2.f1 = [] := by
  have hm : ∀ j, ∀ x ∈ up j, x.f2.f1 = [] := by
    intro j
    induction j with
    | zero => intro x hx; cases hx
    | succ j ih =>
      intro x hx
      rcases List.mem_append.1 hx with hx | hx
      · exact ih x hx
      · rw [List.mem_singleton.1 hx]
  intro x hx
  rcases List.mem_append.1 hx with hx | hx
  · exact hm q x hx
  · rw [List.mem_singleton.1 hx]
theorem ring_links {w : World} {base q cap : Nat} {A : Option Addr} {last : Int} (h : w.ownsRow base 32 4 (.slice A (q + 1) cap) (q + 1) (flatE encK ((ring q last).map lk))) : LinksAt w A (ring q last) := by
  have hl : ((ring q last).map lk).length = q + 1 := by rw [List.length_map, ring_len]
  have h2 : ownK w base (.slice A (q + 1) cap) ((ring q last).map lk) := by
    show World.ownsRow _ _ _ _ _ _ _
    rw [hl]; exact h
  have := links_of_own h2 (up_found w _ (ring_nil q last))
  rw [List.map_map] at this
  rw [show ((fun x : LK => x.1) ∘ lk) = id from rfl, List.map_id] at this
  exact this
theorem ring_set (q : Nat) (a b : Int) : (flatE encK ((ring q a).map lk)).set (q * 4 + 1) (.int .i64 b) = flatE encK ((ring q b).map lk) := by
  have hl : ((up q).map lk).length = q := by rw [List.length_map, up_len]
  unfold ring
  rw [List.map_append, List.map_append, flatE_append, flatE_append, List.set_append_right _ _ (by rw [flatE_length encK_len, hl]; omega), flatE_length encK_len, hl, show q * 4 + 1 - q * 4 = 1 from by omega]
  rfl
theorem ring_get (q : Nat) (a : Int) : (flatE encK ((ring q a).map lk))[q * 4 + 1]? = some (.int .i64 a) := by
  have hl : ((up q).map lk).length = q := by rw [List.length_map, up_len]
  unfold ring
  rw [List.map_append, flatE_append, List.getElem?_append_right (by rw [flatE_length encK_len, hl]; omega), flatE_length encK_len, hl, show q * 4 + 1 - q * 4 = 1 from by omega]
  rfl
theorem own_succR {w : World} {base n : Nat} {e : TypeId} {size : Nat} {v : Value} {xs : List Value} (h : w.ownsRow base e size v (n + 1) xs) : ∃ g cap, v = .slice (some ⟨g, 0, none⟩) (n + 1) cap ∧ base ≤ g := by
  rcases h.2 with ⟨_, h0⟩ | ⟨g, cap, _, rfl, hb, _⟩
  · omega
  · exact ⟨g, cap, rfl, hb⟩
theorem ring_path {w : World} {base q cap : Nat} {A : Option Addr} {last : Int} (h : w.ownsRow base 32 4 (.slice A (q + 1) cap) (q + 1) (flatE encK ((ring q last).map lk))) (hq : q ≤ 20) (p : List SL) (er : Int) (hp : pathP (ring q last) 1 = (p, er)) :
    Calls Try.prog 12 #[.slice A (q + 1) cap, .int .i64 1] w fun e w' => ∃ A' c', e = .returned (.tuple #[.slice A' (if er ≠ 0 then 0 else p.length) c', .int .i64 er]) ∧ Below w.heap.size w w' := by
  have := ids_any A cap (ring q last) 1 w (by rw [ring_len]; omega) (ring_links h) (ring_sized q last)
  rw [ring_len] at this
  refine this.mono ?_
  rintro e w' ⟨v, he, ho, hb⟩
  obtain ⟨A', c', rfl⟩ := own_formCh ho
  have hi : idsL (ring q last) 1 = if er ≠ 0 then ([], er) else (p.map (·.f0), 0) := by unfold idsL; rw [hp]
  rw [hi] at he
  refine ⟨A', c', ?_, hb⟩
  by_cases h0 : er ≠ 0
  · rw [if_pos h0] at he ⊢; exact he
  · rw [if_neg h0] at he ⊢
    rw [he, List.length_map]
    have h1 : er = 0 := Classical.not_not.1 h0
    rw [h1]
theorem ring_read {w : World} {base q cap : Nat} {A : Option Addr} {last : Int} (h : w.ownsRow base 32 4 (.slice A (q + 1) cap) (q + 1) (flatE encK ((ring q last).map lk))) (hq : q ≤ 20) (hp : pathP (ring q last) 1 = ([], 2)) :
    Calls Try.prog 13 #[.slice A (q + 1) cap, .int .i64 1, .int .i64 0] w fun e w' => e = .returned (.tuple #[.string ⟨#[]⟩, .int .i64 2]) ∧ Below w.heap.size w w' := by
  have := read_any A cap (ring q last) 1 0 w (by rw [ring_len]; omega) (ring_links h) (ring_sized q last)
  rw [ring_len, show readL (ring q last) 1 0 = (⟨#[]⟩, 2) by unfold readL; rw [hp]; rfl] at this
  exact this
theorem ring_fold {w : World} {base q cap : Nat} {A : Option Addr} {last : Int} (h : w.ownsRow base 32 4 (.slice A (q + 1) cap) (q + 1) (flatE encK ((ring q last).map lk))) (hq : q ≤ 20) (hp : pathP (ring q last) 1 = ([], 2)) :
    Calls Try.prog 14 #[.slice A (q + 1) cap, .int .i64 1, .int .i64 1] w fun e w' => e = .returned (.tuple #[.agg #[.int .i64 0, .slice none 0 0], .int .i64 0, .int .i64 2]) ∧ Below w.heap.size w w' := by
  have := fold_err A cap (ring q last) 1 1 w (by rw [ring_len]; omega) (ring_links h) (ring_sized q last) 2 (by unfold wholeL; rw [hp]; rfl) (.inl (by decide))
  rw [ring_len] at this
  exact this
set_option maxRecDepth 100000 in
set_option maxHeartbeats 1600000 in
theorem rings_any (m t : Int) (w : World) (hm : (Lit.int .i64 m).wf = true) (ht : (Lit.int .i64 t).wf = true) : Calls Try.prog 3 #[.int .i64 m, .int .i64 t] w fun e w' => e = .returned (.bool true) ∧ Below w.heap.size w w' := by
  have hp1 := pick_ok m 18 hm (by omega)
  have hr1 := pickV_range m 18 (by omega)
  obtain ⟨q, hq⟩ : ∃ q : Nat, pickV m 18 = (q : Int) := ⟨(pickV m 18).toNat, by omega⟩
  rw [hq] at hp1 hr1
  have hp2 := pick_ok t (1 + (q : Int)) ht (by omega)
  have hr2 := pickV_range t (1 + (q : Int)) (by omega)
  obtain ⟨s, hs⟩ : ∃ s : Nat, pickV t (1 + (q : Int)) = (s : Int) := ⟨(pickV t (1 + (q : Int))).toNat, by omega⟩
  rw [hs] at hp2 hr2
  have hnew := fun w => new_any 3 w
  rw [show newR 3 = (3, 0) from rfl] at hnew
  dsimp only at hnew
  have hc1 := fun w => rootcellarlaw11_pick.calls m 18 (q : Int) w hp1
  have hc2 := fun w => rootcellarlaw11_pick.calls t (1 + (q : Int)) (s : Int) w hp2
  have HNEW := Lib.hid hnew
  have HC1 := Lib.hid hc1
  have HC2 := Lib.hid hc2
  have hq18 : q < 18 := by omega
  have hsq : s < q + 1 := by omega
  have hadd : (1 : Int) + (q : Int) = (q : Int) + 1 := by omega
  have HADD := Lib.hid hadd
  clear hnew hc1 hc2 hp1 hp2 hq hs hr1 hr2 hadd
  go_enter Try.func3, Try.ntmps3
  go_wp2_with fail
  refine (shown11_any _).mono ?_
  rintro e w1 ⟨rfl, hb1⟩
  have HB1 := Lib.hid hb1
  clear hb1
  go_wp2_with fail
  refine (HC1.out _).mono ?_
  rintro e w2 ⟨rfl, hd2⟩
  have HB2 := Lib.hid (HB1.out.trans (hd2.below.mono HB1.out.size))
  clear hd2 HB1
  go_wp2_with fail
  refine (HNEW.out _).mono ?_
  rintro e w3 ⟨rfl, hb3⟩
  have HB3 := Lib.hid (HB2.out.trans (hb3.mono HB2.out.size))
  clear hb3 HB2
  have HG := Lib.hid (Blk.new w3 26 #[.int .i64 3, .slice none 0 0])
  have HB4 := Lib.hid (HB3.out.alloc HB3.out.size (.cells #[.int .i64 3, .slice none 0 0] 26))
  have hb3s := HB3.out.size
  clear HB3
  go_wp2_with fail
  go_loopw [9, 10] (fun v9 v10 wr => ∃ (j : Nat) (A : Option Addr) (cap : Nat), j ≤ q + 1 ∧ v10 = .int .i64 ((j : Int) + 1) ∧ v9 = .slice A j cap ∧ Hid (Blk wr w3.heap.size 26 #[.int .i64 3, .slice none 0 0]) ∧ Hid (wr.ownsRow (w3.heap.size + 1) 32 4 (.slice A j cap) j (flatE encK ((up j).map lk))) ∧ Hid (Below w.heap.size w wr)) (fun _ v10 _ => q + 2 - (intOf v10).toNat)
  case atStart => exact ⟨0, none, 0, by omega, rfl, rfl, HG, Lib.hid (own_nil _ _ _ _), HB4⟩
  case round =>
    clear HG HB4
    obtain ⟨j, A, cap, hj, rfl, rfl, hg, ho, hb⟩ := hrel
    by_cases hlt : j < q + 1
    · have e0 := hg.out.cell 0
      have e1 := hg.out.cell 1
      rw [show (#[Value.int IntKind.i64 3, .slice none 0 0] : Array Value)[0]? = some (.int .i64 3) from rfl] at e0
      rw [show (#[Value.int IntKind.i64 3, .slice none 0 0] : Array Value)[1]? = some (.slice none 0 0) from rfl] at e1
      have hgl := hg.out.lt
      have hsz := hb.out.size
      go_wp2_with (at_builtin; (refine print_append_cells (w0 := wr) (w3.heap.size + 1) rfl _ _ 30 32 _ 4 48 rfl Try.underlying30 infoL rfl (by decide) (by decide) (.slice A j cap) j (flatE encK ((up j).map lk)) [.int .i64 ((j : Int) + 1), .int .i64 ((j : Int) + 1 + 1), .int .i64 3, .slice none 0 0] rfl rfl rfl (by intro u hu; simp at hu; rcases hu with rfl | rfl | rfl | rfl <;> rfl) ho.out (Below.refl _ _) (by omega) (by omega) ?_))
      intro v1 w4 hown hb4 hg4 _
      have ho4 : w4.ownsRow (w3.heap.size + 1) 32 4 v1 (j + 1) (flatE encK ((up (j + 1)).map lk)) := by
        rw [up, List.map_append, flatE_append]
        exact hown
      obtain ⟨gr, c4, rfl, hgr⟩ := own_succR ho4
      have HO4 := Lib.hid ho4
      have HG4 := Lib.hid (hg.out.below hb4 (by omega))
      have HB4 := Lib.hid (show Below w.heap.size w w4 from hb.out.trans (hb4.mono (by omega)))
      clear ho4 hown hb4 hg4 e0 e1 hg ho hb
      go_wp2
      go_roundw
      case rel => exact ⟨j + 1, some ⟨gr, 0, none⟩, c4, by omega, by go_num, rfl, HG4, HO4, HB4⟩
      case measure => simp [intOf]; omega
    · obtain rfl : j = q + 1 := by omega
      obtain ⟨gr, c1, he1, hgr⟩ := own_succR ho.out
      injection he1 with he1 he2 he3
      subst he1
      have HO : Hid (wr.ownsRow (w3.heap.size + 1) 32 4 (.slice (some ⟨gr, 0, none⟩) (q + 1) cap) (q + 1) (flatE encK ((ring q ((q + 2 : Nat) : Int)).map lk))) := ho
      have hb0 := hb.out.size
      have HBB := hb
      clear ho hlt hj he2 he3 hb hg
      have hgl := (HO.out.lt gr rfl).2
      go_wp2_with fail
      refine (ring_path HO.out (by omega) [] 4 (ring_open q)).mono ?_
      rintro e w5 ⟨A5, c5, rfl, hb5⟩
      have HO5 := Lib.hid (pw_own_below HO.out hb5)
      have HB5 := Lib.hid (HBB.out.trans (hb5.mono HBB.out.size))
      clear hb5 HO HBB hgl hb0
      go_wp2_with fail
      refine (HC2.out _).mono ?_
      rintro e w6 ⟨rfl, hd6⟩
      have HO6 := Lib.hid (pw_own_below HO5.out hd6.below)
      have HB6 := Lib.hid (HB5.out.trans (hd6.below.mono HB5.out.size))
      clear hd6 HO5 HB5
      have c1 := (HO6.out.cellAt (q * 4 + 1) (by omega)).trans (ring_get q _)
      have c2 := HO6.out.frozenAt (q * 4 + 1)
      go_wp2_with fail
      have hgw : w.heap.size ≤ gr := by omega
      have ho7 := (HO6.out.stored (q * 4 + 1) (.int .i64 (1 + (s : Int)))).1
      rw [ring_set] at ho7
      have HO7 := Lib.hid ho7
      have HB7 := Lib.hid (HB6.out.setCell (p := ⟨gr, q * 4 + 1, none⟩) hgw (.int .i64 (1 + (s : Int))))
      clear ho7 HO6 HB6 c1 c2
      revert HO7 HB7
      generalize (w6.setCell ⟨gr, q * 4 + 1, none⟩ (.int .i64 (1 + (s : Int)))) = w7
      intro HO7 HB7
      have hround : pathP (ring q (1 + (s : Int))) 1 = ([], 2) := by
        rw [show (1 : Int) + (s : Int) = ((s + 1 : Nat) : Int) by omega]
        exact ring_round q s hsq
      have HROUND := Lib.hid hround
      clear hround
      refine (ring_path HO7.out (by omega) [] 2 HROUND.out).mono ?_
      rintro e w8 ⟨A8, c8, rfl, hb8⟩
      have HO8 := Lib.hid (pw_own_below HO7.out hb8)
      have HB8 := Lib.hid (HB7.out.trans (hb8.mono HB7.out.size))
      clear hb8 HO7 HB7
      go_wp2_with fail
      refine (ring_read HO8.out (by omega) HROUND.out).mono ?_
      rintro e w9 ⟨rfl, hb9⟩
      have HO9 := Lib.hid (pw_own_below HO8.out hb9)
      have HB9 := Lib.hid (HB8.out.trans (hb9.mono HB8.out.size))
      clear hb9 HO8 HB8
      go_wp2_with fail
      refine (ring_fold HO9.out (by omega) HROUND.out).mono ?_
      rintro e w10 ⟨rfl, hb10⟩
      have HO10 := Lib.hid ((pw_own_below HO9.out hb10).alloc (.cells #[.int .i64 0, .slice none 0 0] 26))
      have HB10 := Lib.hid ((HB9.out.trans (hb10.mono HB9.out.size)).alloc (HB9.out.trans (hb10.mono HB9.out.size)).size (.cells #[.int .i64 0, .slice none 0 0] 26))
      clear hb10 HO9 HB9
      go_upto_region 14 with fail
      revert HO10 HB10
      generalize (w10.alloc (.cells #[.int .i64 0, .slice none 0 0] 26)) = w11
      intro HO10 HB10
      have c1 := (HO10.out.cellAt (q * 4 + 1) (by omega)).trans (ring_get q _)
      have c2 := HO10.out.frozenAt (q * 4 + 1)
      have ho12 := (HO10.out.stored (q * 4 + 1) (.int .i64 0)).1
      rw [ring_set] at ho12
      have HO12 := Lib.hid ho12
      have HB12 := Lib.hid (HB10.out.setCell (p := ⟨gr, q * 4 + 1, none⟩) hgw (.int .i64 0))
      clear ho12 HO10 HB10
      go_wp2_with fail
      have hlast := ring_path HO12.out (by omega) (ring q 0) 0 (ring_closed q)
      rw [show (if (0 : Int) ≠ 0 then 0 else (ring q 0).length) = q + 1 by rw [if_neg (by decide), ring_len]] at hlast
      refine hlast.mono ?_
      rintro e w13 ⟨A13, c13, rfl, hb13⟩
      have HB13 := Lib.hid (HB12.out.trans (hb13.mono HB12.out.size))
      clear hb13 HO12 HB12 hlast c1 c2
      have heq : (((q + 1 : Nat) : Int) == 1 + (q : Int)) = true := by rw [beq_iff_eq]; omega
      go_wp2_with fail
      go_ret
      refine ⟨?_, HB13.out⟩
      simp
      omega
end Go.Proofs.Ytbeloaccgmgocaa.Pr
