/- CellOver: the plain law. Conditions: the images are no longer than a slice can be, and so are their texts. -/
import Derived.Test.YtnjhgbhafpnclaaP9o
import Derived.Test.YtnjhgbhafpnclaaPrx15
import Derived.Test.YtnjhgbhafpnclaaPrx16
import Derived.Test.YtnjhgbhafpnclaaPrx17
import Derived.Test.YtnjhgbhafpnclaaPrx2
import Derived.Test.YtnjhgbhafpnclaaPrx8
namespace Go.Proofs.Ytnjhgbhafpnclaa.Pr
open Go.RowKit Go.Proofs.Ytnjhgbhafpnclaa Go.Proofs.YtnjhgbhafpnclaaW.PrintWords Go.Proofs.YtnjhgbhafpnclaaW.PrintLast
theorem good_from (n : Int) (l : List SC) : ∀ last, rightFrom n last (prs l) = true → Srt l ∧ ∀ x ∈ l, last < x.f0 ∧ x.f0 < n ∧ (x.f1.size = 0 ∨ x.f1.size = 16 ∧ zeroB x.f1 = false) := by
  induction l with
  | nil => intro _ _; exact ⟨List.Pairwise.nil, fun x hx => by cases hx⟩
  | cons c l ih =>
    intro last h
    replace h : rightFrom n last ((c.f0, c.f1) :: prs l) = true := h
    rw [rightFrom] at h
    cases hb : badC n last (c.f0, c.f1) with
    | true => rw [hb, if_pos rfl] at h; cases h
    | false =>
      rw [hb, if_neg (by decide)] at h
      obtain ⟨h1, h2⟩ := ih _ h
      have hc : last < c.f0 ∧ c.f0 < n ∧ (c.f1.size = 0 ∨ c.f1.size = 16 ∧ zeroB c.f1 = false) := by
        unfold badC at hb
        simp only [Bool.or_eq_false_iff, Bool.and_eq_false_iff, decide_eq_false_iff_not] at hb
        obtain ⟨⟨h3, h4⟩, h5⟩ := hb
        refine ⟨by omega, by omega, ?_⟩
        rcases h5 with h5 | ⟨h5, h6⟩
        · exact .inl (by omega)
        · exact .inr ⟨by omega, h6⟩
      refine ⟨List.pairwise_cons.2 ⟨fun y hy => (h2 y hy).1, h1⟩, fun x hx => ?_⟩
      rcases List.mem_cons.1 hx with rfl | hx
      · exact hc
      · have := h2 x hx; exact ⟨by omega, this.2⟩
theorem good_of_right {n : Int} {l : List SC} (h : rightB n (prs l) = true) : Good n l ∧ 1 ≤ n ∧ n ≤ 64 := by
  unfold rightB at h
  obtain ⟨h1, h2⟩ := Bool.and_eq_true_iff.1 h
  obtain ⟨hs, hx⟩ := good_from n l (-1) h1
  refine ⟨⟨hs, fun x hm => by have := hx x hm; exact ⟨by omega, this.2⟩⟩, ?_⟩
  unfold newR at h2
  by_cases hc : n < 1 ∨ n > 64
  · rw [if_pos hc] at h2; cases h2
  · omega
theorem right_c (n : Int) (l : List SC) (h : l.length ≤ maxLen) (hs : sizedC l = true) : cell_Right.f n l = some (rightB n (prs l)) := by
  unfold cell_Right.f
  rw [if_pos ⟨h, hs⟩]
theorem right_r (n : Int) (l : List SC) (h : l.length ≤ maxLen) (hs : sizedC l = true) : rootcellarref9_Right.f n (l.map toR) = some (rightB n (prs l)) := by
  unfold rootcellarref9_Right.f
  rw [toC_map, len_map, if_pos ⟨h, hs⟩]
theorem noughts_16 : rootcellarref9_noughts.f 16 = some z16 := by
  unfold rootcellarref9_noughts.f
  rw [if_pos (by omega), if_pos (by decide)]; rfl
theorem rget_ok (c a : Int) (l : List SC) (hl : l.length ≤ 1000000) : Ev (fun k => rootcellarref9_Get.f k c (l.map toR) a) (getV l a) := by
  obtain ⟨v, hv, hc⟩ := find_ok c a l hl
  refine Ev.bind hv (Ev.congr (f := fun _ => some (getV l a)) (fun k => ?_) (Ev.now _))
  rcases hc with ⟨rfl, hn⟩ | ⟨j, hj, rfl, hs⟩
  · rw [if_pos (by omega), getV_n hn]
  · rw [if_neg (by omega), if_pos (by omega), if_pos (by rw [len_map]; omega), rdR_map hj, getV_t hs]
    show (if (l[j].f1).toList = ([] : List UInt8) then _ else some (l[j].f1, true)) = _
    unfold txt
    by_cases h0 : (l[j].f1).size = 0
    · rw [if_pos ((toList_empty _).2 h0), if_pos h0, noughts_16, Option.bind_some]
    · rw [if_neg (fun h => h0 ((toList_empty _).1 h)), if_neg h0]
theorem rflat_l0 {n : Int} (h1 : 1 ≤ n) (h2 : n ≤ 64) {l : List SC} (h : Good n l) (d : Nat) : ∀ (i : Nat) (s : ByteArray), (i : Int) + d = n → s.data.toList = (layAll (nts (n.toNat * 16)) l).take (16 * i) → Ev (fun k => rootcellarref9_Flat.l0 k s (i : Int) n (l.map toR)) (flatV n l) := by
  have hll := h.length h2
  have hlen := flat_len h
  induction d with
  | zero =>
    intro i s hi hs
    have e : s = flatV n l := by
      apply ByteArray.ext; apply Array.ext'
      rw [hs, List.take_of_length_le (by omega)]; rfl
    refine Ev.step (f := fun _ => some (flatV n l)) (fun k => ?_) (Ev.now _)
    rw [rootcellarref9_Flat.l0, if_neg (by omega), e]
  | succ d ih =>
    intro i s hi hs
    have e1 : wrap64 ((i : Int) + 1) = ((i + 1 : Nat) : Int) := by rw [w64 (by omega)]; omega
    have hsz : s.size ≤ 1024 := by
      have := congrArg List.length hs
      rw [List.length_take, Array.length_toList] at this
      have h3 : s.data.size = s.size := rfl
      omega
    have hv := valV_size h (i : Int)
    have hnext := ih (i + 1) (s ++ valV l i) (by omega) (by
      rw [ByteArray.data_append, Array.toList_append, hs, ← flat_blk h i (by omega), show 16 * (i + 1) = 16 * i + 16 by omega, List.take_add]; rfl)
    refine Ev.step (f := fun k => (rootcellarref9_Get.f k n (l.map toR) (i : Int)).bind fun bt381 => (if bt381.2 = true then (if s.size + bt381.1.size ≤ 9223372036854775807 then (rootcellarref9_Flat.l0 k (s ++ bt381.1) ((i + 1 : Nat) : Int) n (l.map toR)) else (none)) else ((rootcellarref9_noughts.f 16).bind fun t383 => (if s.size + t383.size ≤ 9223372036854775807 then (rootcellarref9_Flat.l0 k (s ++ t383) ((i + 1 : Nat) : Int) n (l.map toR)) else (none))))) (fun k => ?_) (Ev.bind (rget_ok n (i : Int) l (by omega)) (Ev.congr (fun k => ?_) hnext))
    · rw [rootcellarref9_Flat.l0, if_pos (by omega), e1]
    · unfold valV at hv ⊢
      unfold getV
      cases hk : look l (i : Int) with
      | none =>
        rw [hk] at hv
        dsimp only at hv ⊢
        rw [if_neg (by decide), noughts_16, Option.bind_some, if_pos (by omega)]
      | some t =>
        rw [hk] at hv
        dsimp only at hv ⊢
        rw [if_pos rfl, if_pos (by omega)]
theorem over_law (c : Int) (l : List SC) (c' : Int) (l' : List SC) (hb : ¬ ((l.length : Int) > 80 ∨ (l'.length : Int) > 80)) (hs : sizedC l = true) (hs' : sizedC l' = true) : ∃ (o : List SC), o.length ≤ 1000000 ∧ Ev (fun k => cell_Over.f k c l c' l') (c, o) ∧ Ev (fun k => rootcellarref9_Over.f k c (l.map toR) c' (l'.map toR)) (c, o.map toR) := by
  have hl : l.length ≤ maxLen := by unfold maxLen; omega
  have hl' : l'.length ≤ maxLen := by unfold maxLen; omega
  have fall : ¬ (rightB c (prs l) = true ∧ rightB c' (prs l') = true ∧ c = c') → Ev (fun k => cell_Over.f k c l c' l') (c, l) ∧ Ev (fun k => rootcellarref9_Over.f k c (l.map toR) c' (l'.map toR)) (c, l.map toR) := by
    intro hn
    have j1 : Ev (fun k => cell_Over.j0 k true c l c' l') (c, l) := Ev.step (f := fun _ => some (c, l)) (fun k => by rw [cell_Over.j0, if_pos rfl]) (Ev.now _)
    have j2 : Ev (fun k => rootcellarref9_Over.j0 k true c (l.map toR) c' (l'.map toR)) (c, l.map toR) := Ev.step (f := fun _ => some (c, l.map toR)) (fun k => by rw [rootcellarref9_Over.j0, if_pos rfl]) (Ev.now _)
    refine ⟨Ev.congr (fun k => ?_) j1, Ev.congr (fun k => ?_) j2⟩
    · unfold cell_Over.f
      rw [right_c _ _ hl hs, Option.bind_some]
      by_cases e1 : rightB c (prs l) = true
      · rw [if_pos e1, right_c _ _ hl' hs', Option.bind_some]
        by_cases e2 : rightB c' (prs l') = true
        · rw [if_pos e2, show (c != c') = true by simpa using fun h => hn ⟨e1, e2, h⟩]
        · rw [if_neg e2]
      · rw [if_neg e1]
    · unfold rootcellarref9_Over.f
      rw [right_r _ _ hl hs, Option.bind_some, right_r _ _ hl' hs', Option.bind_some]
      by_cases e1 : rightB c (prs l) = true
      · rw [if_pos e1]
        by_cases e2 : rightB c' (prs l') = true
        · rw [if_pos e2, show (c != c') = true by simpa using fun h => hn ⟨e1, e2, h⟩]
        · rw [if_neg e2]
      · rw [if_neg e1]
  by_cases hall : rightB c (prs l) = true ∧ rightB c' (prs l') = true ∧ c = c'
  · obtain ⟨e1, e2, rfl⟩ := hall
    obtain ⟨g1, n1, n2⟩ := good_of_right e1
    obtain ⟨g2, _, _⟩ := good_of_right e2
    obtain ⟨m, hm, gm, lm⟩ := over_ok n1 n2 g1 g2
    obtain ⟨r, hr, gr, lr⟩ := rover_l0 n2 g1 g2 l'.length 0 l (by omega) g1 (fun a => by rw [List.take_zero, look_nil]; cases look l a <;> rfl)
    have e : r = m := look_ext gr.1 gm.1 (fun a => by rw [lr, lm])
    subst e
    refine ⟨r, by have := gr.length n2; omega, hm, Ev.congr (f := fun k => rootcellarref9_Over.j0 k (c != c) c (l.map toR) c (l'.map toR)) (fun k => ?_) (Ev.step (f := fun k => rootcellarref9_Over.l0 k 0 c (l.map toR) c (l'.map toR) c (l.map toR)) (fun k => ?_) hr)⟩
    · unfold rootcellarref9_Over.f
      rw [right_r _ _ hl hs, Option.bind_some, right_r _ _ hl' hs', Option.bind_some, if_pos e1, if_pos e2]
    · rw [rootcellarref9_Over.j0, if_neg (by simp)]
  · exact ⟨l, by omega, (fall hall).1, (fall hall).2⟩
theorem flat_law (c : Int) (l : List SC) (hb : ¬ (l.length : Int) > 80) (hs : sizedC l = true) : ∃ s : ByteArray, cell_Flat.f c l = some s ∧ Ev (fun k => rootcellarref9_Flat.f k c (l.map toR)) s := by
  have hl : l.length ≤ maxLen := by unfold maxLen; omega
  by_cases e1 : rightB c (prs l) = true
  · obtain ⟨g1, n1, n2⟩ := good_of_right e1
    refine ⟨flatV c l, g1.flat n1 n2, Ev.congr (fun k => ?_) (rflat_l0 n1 n2 g1 c.toNat 0 ⟨#[]⟩ (by omega) rfl)⟩
    unfold rootcellarref9_Flat.f
    rw [right_r _ _ hl hs, Option.bind_some, if_pos e1]; rfl
  · refine ⟨⟨#[]⟩, ?_, Ev.congr (f := fun _ => some ⟨#[]⟩) (fun k => ?_) (Ev.now _)⟩
    · unfold cell_Flat.f
      rw [if_pos ⟨hl, hs⟩, if_neg e1]
    · unfold rootcellarref9_Flat.f
      rw [right_r _ _ hl hs, Option.bind_some, if_neg e1]
theorem pure_CellOver (c : Int) (l : List SC) (c' : Int) (l' : List SC) (hs : sizedC l = true) (hs' : sizedC l' = true) : ∃ k, rootcellarlaw9_CellOver.f k c l c' l' = some true := by
  obtain ⟨K1, k1⟩ := shown_ev
  have bail : rootcellarlaw9_CellOver.j0 (K1 + 1) true true c l c' l' = some true := by rw [rootcellarlaw9_CellOver.j0, if_pos rfl]
  have h1 : rootcellarlaw9_shown.f (K1 + 1) = some true := k1 _ (by omega)
  by_cases b1 : (l.length : Int) > 80
  · refine ⟨K1 + 1, ?_⟩
    unfold rootcellarlaw9_CellOver.f
    rw [h1, Option.bind_some, if_pos rfl, if_pos b1]; exact bail
  by_cases b2 : (l'.length : Int) > 80
  · refine ⟨K1 + 1, ?_⟩
    unfold rootcellarlaw9_CellOver.f
    rw [h1, Option.bind_some, if_pos rfl, if_neg b1, if_pos b2]; exact bail
  by_cases b3 : c > 1000
  · refine ⟨K1 + 1, ?_⟩
    unfold rootcellarlaw9_CellOver.f
    rw [h1, Option.bind_some, if_pos rfl, if_neg b1, if_neg b2, if_pos b3]; exact bail
  by_cases b4 : c' > 1000
  · refine ⟨K1 + 1, ?_⟩
    unfold rootcellarlaw9_CellOver.f
    rw [h1, Option.bind_some, if_pos rfl, if_neg b1, if_neg b2, if_neg b3, decide_eq_true b4]; exact bail
  have hl : l.length ≤ maxLen := by unfold maxLen; omega
  obtain ⟨o, ol, ⟨K2, k2⟩, K3, k3⟩ := over_law c l c' l' (by omega) hs hs'
  obtain ⟨s, fs, K4, k4⟩ := flat_law c l b1 hs
  obtain ⟨K5, k5⟩ := as_ev c l (by omega)
  obtain ⟨K6, k6⟩ := as_ev c' l' (by omega)
  obtain ⟨K7, k7⟩ := same_ev c o ol
  refine ⟨K1 + K2 + K3 + K4 + K5 + K6 + K7 + 1, ?_⟩
  replace k1 := k1 (K1 + K2 + K3 + K4 + K5 + K6 + K7 + 1) (by omega)
  replace k2 := k2 (K1 + K2 + K3 + K4 + K5 + K6 + K7) (by omega)
  replace k3 := k3 (K1 + K2 + K3 + K4 + K5 + K6 + K7) (by omega)
  replace k4 := k4 (K1 + K2 + K3 + K4 + K5 + K6 + K7) (by omega)
  replace k5 := k5 (K1 + K2 + K3 + K4 + K5 + K6 + K7) (by omega)
  replace k6 := k6 (K1 + K2 + K3 + K4 + K5 + K6 + K7) (by omega)
  replace k7 := k7 (K1 + K2 + K3 + K4 + K5 + K6 + K7) (by omega)
  generalize K1 + K2 + K3 + K4 + K5 + K6 + K7 = k at k1 k2 k3 k4 k5 k6 k7 ⊢
  dsimp only at k1 k2 k3 k4 k5 k6 k7
  unfold rootcellarlaw9_CellOver.f
  rw [k1, Option.bind_some, if_pos rfl, if_neg b1, if_neg b2, if_neg b3, decide_eq_false b4, rootcellarlaw9_CellOver.j0, if_neg (by decide), right_c _ _ hl hs, Option.bind_some]
  simp only [k2, k3, k4, k5, k6, k7, Option.bind_some, right_r _ _ hl hs, beq_self_eq_true, if_true, fs]
end Go.Proofs.Ytnjhgbhafpnclaa.Pr
