/- The plain laws of files that are read, the other way round: what image.Take takes was put; and the reference's Take answers the same. No program, no memory. -/
import Derived.Test.YtolpnbeepiblkaaTakeP
namespace Go.Proofs.Ytolpnbeepiblkaa
open Go.RowKit
set_option linter.unusedVariables false
/-- tables that were read well -/
theorem tab1s_back (wh : Nat) (s : S1) (h0 : ∀ g, s.T g = 0) (k : Nat) : (tab1s wh s k).bad = false → (tab1s wh s k).empty = false → s.bad = false ∧ s.empty = false ∧ s.left = rowTo (tab1s wh s k).T k ++ (tab1s wh s k).left ∧ (∀ g, (tab1s wh s k).T g < 65536) ∧ (∀ g, k ≤ g → (tab1s wh s k).T g = 0) ∧ (∀ g, g < k → (wh / 2 ^ g % 2 = 1 ↔ 0 < (tab1s wh s k).T g)) := by
  induction k with
  | zero =>
    intro hb he
    exact ⟨hb, he, rfl, fun g => by rw [tab1s, h0]; omega, fun g _ => by rw [tab1s, h0], fun g hg => by omega⟩
  | succ k ih =>
    rw [tab1s]
    generalize tab1s wh s k = u at ih ⊢
    obtain ⟨ul, ub, ue, uT⟩ := u
    unfold tab1
    simp only
    by_cases hbit : wh / 2 ^ k % 2 = 1
    · rw [if_pos hbit]
      simp only
      intro hb he
      rw [Bool.or_eq_false_iff, beq_eq_false_iff_ne] at he
      obtain ⟨q1, q2, q3⟩ := rN_back hb
      obtain ⟨i1, i0, i2, i3, i4, i5⟩ := ih q1 he.1
      simp only at i1 i2 i3 i4 i5
      have hrow : rowTo (fun g => if g = k then (rN ul ub 2).1 else uT g) k = rowTo uT k := rowTo_congr _ _ _ fun g hg => by rw [if_neg (by omega)]
      refine ⟨i1, i0, ?_, fun g => ?_, fun g hg => ?_, fun g hg => ?_⟩
      · rw [rowTo, hrow, if_pos rfl, if_pos (by omega), List.append_assoc, ← q2]; exact i2
      · split
        · exact q3
        · exact i3 g
      · rw [if_neg (by omega)]; exact i4 g (by omega)
      · by_cases e : g = k
        · subst e
          rw [if_pos rfl]
          exact ⟨fun _ => by omega, fun _ => hbit⟩
        · rw [if_neg e]
          exact i5 g (by omega)
    · rw [if_neg hbit]
      simp only
      intro hb he
      obtain ⟨i1, i0, i2, i3, i4, i5⟩ := ih hb he
      simp only at i1 i2 i3 i4 i5
      have hz := i4 k (Nat.le_refl _)
      refine ⟨i1, i0, ?_, i3, fun g hg => i4 g (by omega), fun g hg => ?_⟩
      · rw [rowTo, hz, if_neg (by omega), List.append_nil]; exact i2
      · by_cases e : g = k
        · subst e
          exact ⟨fun h => absurd h hbit, fun h => by omega⟩
        · exact i5 g (by omega)
theorem bs_ne (l : List UInt8) : (bs l).size = l.length := bs_size l
/-- cells that were read well -/
theorem cell2s_back (T : Nat → Nat) (s : S2) (h0 : s.cs = []) (k : Nat) : (cell2s T s k).bad = false → (cell2s T s k).empty = false → s.bad = false ∧ s.empty = false ∧ s.left = texts (cell2s T s k).cs ++ (cell2s T s k).left ∧ (∀ a, kd (cell2s T s k).cs a = if a < k then dg T a else 0) ∧ (∀ a, a < k → dg T a ≤ 2) := by
  induction k with
  | zero =>
    intro hb he
    rw [cell2s] at *
    rw [h0]
    exact ⟨hb, he, rfl, fun a => by rw [if_neg (by omega)]; rfl, fun a h => by omega⟩
  | succ k ih =>
    rw [cell2s]
    generalize cell2s T s k = u at ih ⊢
    obtain ⟨ul, ub, ue, uc⟩ := u
    have hd4 : dg T k < 4 := Nat.mod_lt _ (by decide)
    unfold cell2
    have kdstep : ∀ (c : C), c.1 = (k : Int) → kindN c = dg T k → (∀ a, kd uc a = if a < k then dg T a else 0) → ∀ a, kd (uc ++ [c]) a = if a < k + 1 then dg T a else 0 := by
      intro c hc hk hkd a
      have h1 := (kindN_le c).1
      rcases Nat.lt_trichotomy a k with h | h | h
      · have e1 : kd uc a = dg T a := by rw [hkd, if_pos h]
        rw [kd_append, e1, if_pos (show a < k + 1 by omega)]
        by_cases e : dg T a = 0
        · rw [if_pos e, kd, if_neg (by omega), kd, e]
        · rw [if_neg e]
      · subst h
        have e1 : kd uc a = 0 := by rw [hkd, if_neg (by omega)]
        rw [kd_append, e1, if_pos rfl, kd, if_pos hc, if_pos (show a < a + 1 by omega), hk]
      · have e1 : kd uc a = 0 := by rw [hkd, if_neg (by omega)]
        rw [kd_append, e1, if_pos rfl, kd, if_neg (by omega), kd, if_neg (show ¬ a < k + 1 by omega)]
    by_cases d0 : dg T k = 0
    · rw [if_pos d0]
      intro hb he
      obtain ⟨i1, i0, i2, i3, i4⟩ := ih hb he
      refine ⟨i1, i0, i2, fun a => ?_, fun a ha => ?_⟩
      · rw [i3]
        by_cases e : a = k
        · subst e; rw [if_neg (by omega), if_pos (by omega), d0]
        · by_cases h : a < k
          · rw [if_pos h, if_pos (by omega)]
          · rw [if_neg h, if_neg (by omega)]
      · by_cases e : a = k
        · rw [e, d0]; omega
        · exact i4 a (by omega)
    · rw [if_neg d0]
      by_cases d1 : dg T k = 1
      · rw [if_pos d1]
        intro hb he
        obtain ⟨i1, i0, i2, i3, i4⟩ := ih hb he
        simp only at i1 i2 i3 i4
        refine ⟨i1, i0, ?_, kdstep ((k : Int), bs []) rfl (by rw [d1]; rfl) i3, fun a ha => ?_⟩
        · rw [texts_append, texts_cons]
          show s.left = texts uc ++ ([] ++ texts []) ++ ul
          rw [i2]
          simp [texts]
        · by_cases e : a = k
          · rw [e, d1]; omega
          · exact i4 a (by omega)
      · rw [if_neg d1]
        by_cases d2 : dg T k = 2
        · rw [if_pos d2]
          intro hb he
          simp only at hb he
          rw [Bool.or_eq_false_iff, beq_eq_false_iff_ne] at he
          obtain ⟨q1, q2, q3⟩ := rT_back hb
          obtain ⟨i1, i0, i2, i3, i4⟩ := ih q1 he.1
          simp only at i1 i2 i3 i4
          refine ⟨i1, i0, ?_, kdstep ((k : Int), bs (rT ul ub 16).1) rfl (by rw [d2]; unfold kindN; rw [if_neg]; rw [bs_size, q3]; decide) i3, fun a ha => ?_⟩
          · rw [texts_append, texts_cons, bs_list, List.append_assoc, List.append_assoc]
            show s.left = texts uc ++ ((rT ul ub 16).1 ++ (texts [] ++ (rT ul ub 16).2.1))
            rw [show texts [] = [] from rfl, List.nil_append, ← q2]
            exact i2
          · by_cases e : a = k
            · rw [e, d2]; omega
            · exact i4 a (by omega)
        · rw [if_neg d2]
          intro hb he
          cases he
/-- (B) what is taken was put -/
theorem takeI_back (l : List UInt8) (id parent clusters : Int) (cs : List C) (h : takeI l = ((id, parent, clusters, cs), 0)) : frB id parent clusters cs = true ∧ l = sealed (bodyL id.toNat parent.toNat clusters.toNat cs) := by
  unfold takeI at h
  by_cases h1 : (tk l).2 ≠ 0
  · rw [if_pos h1] at h
    exact absurd (congrArg Prod.snd h) h1
  · rw [if_neg h1] at h
    by_cases h2 : okI (hdr (tk l).1) (all2 (all1 (hdr (tk l).1))) = true
    · rw [if_pos h2] at h
      have h3 := congrArg Prod.fst h
      simp only [Prod.mk.injEq] at h3
      obtain ⟨rfl, rfl, rfl, rfl⟩ := h3
      unfold okI at h2
      simp only [Bool.and_eq_true, Bool.not_eq_true', List.isEmpty_iff, beq_iff_eq] at h2
      obtain ⟨⟨⟨⟨o1, o2⟩, o3⟩, o4⟩, o5⟩ := h2
      refine ⟨o5, ?_⟩
      have hl4 : ¬ l.length < 4 := by
        intro h4
        rw [tk_short l h4] at h1
        exact h1 (by decide)
      have hta := tk_again l hl4
      have hsl : sealed (tk l).1 = l := by
        rw [hta]
        by_cases hs : sealed (l.take (l.length - 4)) = l
        · rw [if_pos hs]; exact hs
        · rw [hta, if_neg hs] at h1
          exact absurd (by decide : (9 : Int) ≠ 0) h1
      refine hsl.symm.trans (congrArg sealed ?_)
      clear hsl hta
      generalize (tk l).1 = t at o1 o2 o3 o4 o5 ⊢
      have hh := hdr_back t
      generalize hdr t = H at o1 o2 o3 o4 o5 hh ⊢
      obtain ⟨nm, id, pa, cl, wh, left, bad⟩ := H
      simp only at o1 o2 o3 o4 o5 hh ⊢
      obtain ⟨b1, b2, b3, b4, b5⟩ := cell2s_back _ _ rfl 64 o2 o4
      simp only at b1 b2 b3 b4 b5
      obtain ⟨c1, c2, c3, c4, c5, c6⟩ := tab1s_back wh ⟨left, bad, false, fun _ => 0⟩ (fun _ => rfl) 8 b1 b2
      simp only at c1 c2 c3 c4 c5 c6
      obtain ⟨k1, k2, k3, k4, k5⟩ := hh c1
      have hid : ((id : Nat) : Int).toNat = id := Int.toNat_natCast _
      have hpa : ((pa : Nat) : Int).toNat = pa := Int.toNat_natCast _
      have hcl : ((cl : Nat) : Int).toNat = cl := Int.toNat_natCast _
      rw [hid, hpa, hcl, body_split]
      obtain ⟨I, Q, M, e1, e2, e3, e4, e5, e6, e7, hg⟩ := frB_nat o5
      obtain rfl : cl = M := by omega
      have hsm : ∀ g, tabs (all2 (all1 ⟨nm, id, pa, cl, wh, left, bad⟩)).cs g < 65536 := tabs_small hg (by omega)
      have htab : ∀ g, g < 8 → tabs (all2 (all1 ⟨nm, id, pa, cl, wh, left, bad⟩)).cs g = (all1 ⟨nm, id, pa, cl, wh, left, bad⟩).T g := by
        intro g hg8
        refine digits_same _ _ (hsm g) (c4 g) fun i hi => ?_
        rw [tabs_digit g i hi _ (-1) (by omega) hg]
        have := b4 (8 * g + i)
        rw [if_pos (by omega)] at this
        refine this.trans ?_
        unfold dg
        rw [show (8 * g + i) / 8 = g by omega, show (8 * g + i) % 8 = i by omega]
      rw [which_congr _ _ 8 htab]
      have hwh : whichTo (all1 ⟨nm, id, pa, cl, wh, left, bad⟩).T 8 = wh := by
        exact (which_of_bits _ wh 8 c6).trans (Nat.mod_eq_of_lt k5)
      rw [hwh]
      have hrow := row_split (tabs (all2 (all1 ⟨nm, id, pa, cl, wh, left, bad⟩)).cs) 8 0
      rw [rowTo, List.nil_append] at hrow
      rw [hrow, rowTo_congr _ _ 8 htab]
      have hle : left = rowTo (all1 ⟨nm, id, pa, cl, wh, left, bad⟩).T 8 ++ texts (all2 (all1 ⟨nm, id, pa, cl, wh, left, bad⟩)).cs := by
        refine c3.trans ?_
        congr 1
        refine b3.trans ?_
        have : (cell2s (all1 ⟨nm, id, pa, cl, wh, left, bad⟩).T ⟨(all1 ⟨nm, id, pa, cl, wh, left, bad⟩).left, (all1 ⟨nm, id, pa, cl, wh, left, bad⟩).bad, (all1 ⟨nm, id, pa, cl, wh, left, bad⟩).empty, []⟩ 64).left = [] := o1
        rw [this, List.append_nil]
        rfl
      rw [← hle, ← o3]
      exact k1
    · rw [if_neg h2] at h
      exact absurd (congrArg Prod.snd h) (show ¬ ((2 : Int) = 0) by decide)
/-! ### the reference -/
def marks (cs : List C) : List (Nat × Bool) := cs.map fun c => (c.1.toNat, decide (c.2.size ≠ 0))
theorem marks_append (a b : List C) : marks (a ++ b) = marks a ++ marks b := List.map_append
theorem digs_good {clusters : Int} (cs : List C) (hg : Good clusters (-1) cs) (g : Nat) (i : Nat) (hi8 : i ≤ 8) : marks (lo cs (8 * g)) ++ digs g (tabs cs g) i = marks (lo cs (8 * g + i)) := by
  induction i with
  | zero => rw [digs, List.append_nil]; rfl
  | succ i ih =>
    rw [digs, ← List.append_assoc, ih (by omega), tabs_digit g i (by omega) cs (-1) (by omega) hg, ← Nat.add_assoc]
    rcases step_hi (8 * g + i) cs (-1) hg with ⟨c, r, f1, f2, f3, f4, f5, f6⟩ | ⟨f1, f2, f3⟩
    · have hk := kindN_le c
      rw [f5, f3, marks_append, if_neg (by omega)]
      congr 1
      show [(8 * g + i, kindN c == 2)] = [(c.1.toNat, decide (c.2.size ≠ 0))]
      rw [f2, Int.toNat_natCast]
      unfold kindN
      by_cases hz : c.2.size = 0
      · rw [if_pos hz]; simp [hz]
      · rw [if_neg hz]; simp [hz]
    · rw [f3, if_pos rfl, f1, List.append_nil]
theorem grp3s_good {clusters : Int} (cs : List C) (hg : Good clusters (-1) cs) (h64 : clusters ≤ 64) (r : List UInt8) (k : Nat) (hk : k ≤ 8) : grp3s (whichTo (tabs cs) 8) ⟨rowFrom (tabs cs) 0 8 ++ r, false, []⟩ k = ⟨rowFrom (tabs cs) k (8 - k) ++ r, false, marks (lo cs (8 * k))⟩ := by
  induction k with
  | zero =>
    obtain ⟨h1, _⟩ := lo_none cs 0 (fun c hc => by have := hg.gt c hc; omega)
    rw [grp3s, Nat.mul_zero, h1]
    rfl
  | succ k ih =>
    rw [grp3s, ih (by omega)]
    have hf : rowFrom (tabs cs) k (8 - k) = (if 0 < tabs cs k then LeP.bytes 2 (tabs cs k) else []) ++ rowFrom (tabs cs) (k + 1) (8 - (k + 1)) := by
      rw [show 8 - k = (8 - (k + 1)) + 1 by omega, rowFrom]
    have hd := digs_good cs hg k 8 (Nat.le_refl _)
    unfold grp3
    rw [whichTo_bit _ 8 k (by omega), hf]
    by_cases hp : 0 < tabs cs k
    · rw [if_pos hp, if_pos hp, if_neg (by decide), List.append_assoc, rN_good 2 _ _ (tabs_small hg h64 k)]
      simp only
      rw [hd]
      rfl
    · rw [if_neg hp, if_neg hp, if_pos rfl, List.nil_append]
      have hz : tabs cs k = 0 := by omega
      rw [hz] at hd
      have hdz : ∀ i, digs k 0 i = [] := by
        intro i
        induction i with
        | zero => rfl
        | succ i ih => rw [digs, ih, Nat.zero_div, if_pos rfl]; rfl
      rw [hdz, List.append_nil] at hd
      rw [hd]
      rfl
theorem fill_good {clusters : Int} (cs : List C) : ∀ (last : Int), -1 ≤ last → Good clusters last cs → ∀ r, fill (marks cs) (texts cs ++ r) false = (cs, r, false) := by
  induction cs with
  | nil => intro _ _ _ r; rfl
  | cons c rr ih =>
    intro last hl h r
    have h1 := h.1
    have hi := ih c.1 (by omega) h.2.2.2 r
    have e0 : ((c.1.toNat : Nat) : Int) = c.1 := by omega
    rw [texts_cons]
    show fill ((c.1.toNat, decide (c.2.size ≠ 0)) :: marks rr) _ _ = _
    by_cases hz : c.2.size = 0
    · rw [show decide (c.2.size ≠ 0) = false by simp [hz], ba_empty c.2 hz, fill]
      simp only [List.nil_append]
      rw [hi, e0]
      have hc : c = (c.1, bs []) := Prod.ext rfl (ba_empty c.2 hz)
      rw [← hc]
    · have h16 := h.2.2.1.resolve_left hz
      have hlen : c.2.data.toList.length = 16 := by rw [size_list]; exact h16.1
      have hr := rT_good c.2.data.toList (texts rr ++ r)
      rw [hlen] at hr
      rw [show decide (c.2.size ≠ 0) = true by simp [hz], fill, List.append_assoc]
      simp only [hr]
      rw [hi, e0, bs_data]
/-- (A') the reference takes a file that was put -/
theorem takeR_put (id parent clusters : Int) (cs : List C) (h : frB id parent clusters cs = true) : takeR (sealed (bodyL id.toNat parent.toNat clusters.toNat cs)) = ((id, parent, clusters, cs), 0) := by
  have hput : putL2 id parent clusters cs = (sealed (bodyL id.toNat parent.toNat clusters.toNat cs), 0) := by unfold putL2; rw [if_pos h]
  obtain ⟨I, Q, M, rfl, rfl, rfl, hI, hQ, hM1, hM, hg⟩ := frB_nat h
  simp only [Int.toNat_natCast] at hput ⊢
  have hh : hdr (bodyL I Q M cs) = ⟨magicL, I, Q, M, whichTo (tabs cs) 8, rowFrom (tabs cs) 0 8 ++ texts cs, false⟩ := by
    rw [body_split]
    exact hdr_good I Q M _ _ hI hQ (by omega) (whichTo_lt _ 8)
  have ha3 : all3 (hdr (bodyL I Q M cs)) = ⟨texts cs, false, marks cs⟩ := by
    rw [hh]
    unfold all3
    simp only
    rw [grp3s_good cs hg (by omega) (texts cs) 8 (Nat.le_refl _), (hi_end hg hM).1]
    rfl
  have ha4 : all4 (all3 (hdr (bodyL I Q M cs))) = (cs, [], false) := by
    rw [ha3]
    unfold all4
    have := fill_good cs (-1) (by omega) hg []
    rw [List.append_nil] at this
    exact this
  unfold takeR
  rw [tk_sealed]
  simp only
  rw [if_neg (by decide), ha4, hh]
  have : okR (sealed (bodyL I Q M cs)) ⟨magicL, I, Q, M, whichTo (tabs cs) 8, rowFrom (tabs cs) 0 8 ++ texts cs, false⟩ (cs, [], false) = true := by
    unfold okR
    simp only
    rw [hput]
    simp
  rw [if_pos this]
theorem takeR_back (l : List UInt8) (id parent clusters : Int) (cs : List C) (h : takeR l = ((id, parent, clusters, cs), 0)) : frB id parent clusters cs = true ∧ l = sealed (bodyL id.toNat parent.toNat clusters.toNat cs) := by
  unfold takeR at h
  by_cases h1 : (tk l).2 ≠ 0
  · rw [if_pos h1] at h
    exact absurd (congrArg Prod.snd h) h1
  · rw [if_neg h1] at h
    by_cases h2 : okR l (hdr (tk l).1) (all4 (all3 (hdr (tk l).1))) = true
    · rw [if_pos h2] at h
      have h3 := congrArg Prod.fst h
      simp only [Prod.mk.injEq] at h3
      obtain ⟨rfl, rfl, rfl, rfl⟩ := h3
      unfold okR at h2
      rw [Bool.and_eq_true, beq_iff_eq] at h2
      have h4 := h2.2
      unfold putL2 at h4
      by_cases hf : frB (hdr (tk l).1).id (hdr (tk l).1).pa (hdr (tk l).1).cl (all4 (all3 (hdr (tk l).1))).1 = true
      · rw [if_pos hf] at h4
        exact ⟨hf, (congrArg Prod.fst h4).symm⟩
      · rw [if_neg hf] at h4
        exact absurd (congrArg Prod.snd h4) (show ¬ ((1 : Int) = 0) by decide)
    · rw [if_neg h2] at h
      exact absurd (congrArg Prod.snd h) (show ¬ ((2 : Int) = 0) by decide)
/-- they agree -/
theorem take_same (l : List UInt8) : takeI l = takeR l := by
  by_cases h1 : (takeI l).2 = 0
  · obtain ⟨⟨id, pa, cl, cs⟩, e⟩ : ∃ x, (takeI l).1 = x := ⟨_, rfl⟩
    have he : takeI l = ((id, pa, cl, cs), 0) := Prod.ext e h1
    obtain ⟨hf, hl⟩ := takeI_back l id pa cl cs he
    rw [he, hl, takeR_put id pa cl cs hf]
  · by_cases h2 : (takeR l).2 = 0
    · obtain ⟨⟨id, pa, cl, cs⟩, e⟩ : ∃ x, (takeR l).1 = x := ⟨_, rfl⟩
      have he : takeR l = ((id, pa, cl, cs), 0) := Prod.ext e h2
      obtain ⟨hf, hl⟩ := takeR_back l id pa cl cs he
      rw [he, hl, takeI_put id pa cl cs hf]
    · unfold takeI at h1 ⊢
      unfold takeR at h2 ⊢
      by_cases h3 : (tk l).2 ≠ 0
      · rw [if_pos h3, if_pos h3]
      · rw [if_neg h3] at h1 h2 ⊢
        rw [if_neg h3]
        by_cases h4 : okI (hdr (tk l).1) (all2 (all1 (hdr (tk l).1))) = true
        · rw [if_pos h4] at h1; exact absurd rfl h1
        · by_cases h5 : okR l (hdr (tk l).1) (all4 (all3 (hdr (tk l).1))) = true
          · rw [if_pos h5] at h2; exact absurd rfl h2
          · rw [if_neg h4, if_neg h5]
theorem takeI_bad (l : List UInt8) (h : (takeI l).2 ≠ 0) : (takeI l).1 = (0, 0, 0, []) := by
  unfold takeI at h ⊢
  by_cases h1 : (tk l).2 ≠ 0
  · rw [if_pos h1]
  · rw [if_neg h1] at h ⊢
    by_cases h2 : okI (hdr (tk l).1) (all2 (all1 (hdr (tk l).1))) = true
    · rw [if_pos h2] at h; exact absurd rfl h
    · rw [if_neg h2]
end Go.Proofs.Ytolpnbeepiblkaa
