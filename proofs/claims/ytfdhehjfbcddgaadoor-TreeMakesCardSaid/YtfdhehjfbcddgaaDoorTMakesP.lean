/- A tree's steps make it of a new one, plain. No conditions. -/
import Derived.Test.YtfdhehjfbcddgaaDoorTPinsP
import Derived.Test.YtfdhehjfbcddgaaDoorTSteps
namespace Go.Proofs.YtfdhehjfbcddgaaDoor.Pr
open Go.RowKit Go.Proofs.YtfdhehjfbcddgaaDoorW.PrintWords Go.Proofs.YtfdhehjfbcddgaaDoorW.PrintLast Go.Proofs.YtfdhehjfbcddgaaDoor
set_option linter.unusedVariables false
def ndR : Nd := ⟨1, 0, rootS, 0, false, false⟩
/-- a grown tree: right, its root as new, its time no less than nought -/
structure Inv (t : Tr) : Prop where
  right : RightP t
  root : ndR ∈ t.l
  time : 0 ≤ t.nw
theorem keep_map {l : List Nd} {a : Int} {f : Nd → Nd} (h : ndR ∈ l) (ha : a ≠ 1) : ndR ∈ mapN l a f := mem_mapN.2 ⟨ndR, h, by rw [if_neg (fun e => ha e.symm)]⟩
theorem apply_inv {t : Tr} {s : St} (h : Inv t) (h0 : (applyN t s).2 = 0) : Inv (applyN t s).1 := by
  obtain ⟨hR, hR'⟩ := apply_right h0
  refine ⟨hR', ?_, ?_⟩
  all_goals
    unfold applyN at h0 ⊢
    split at h0
    · cases h0
    rename_i c0
    rw [if_neg c0]
    by_cases k1 : s.kind = 1
    · rw [if_pos k1] at h0 ⊢
      unfold makeN at h0 ⊢
      split at h0
      · cases h0
      rename_i c1
      rw [if_neg c1]
      split at h0
      · cases h0
      rename_i c2
      rw [if_neg c2]
      first | exact List.mem_append_left _ h.root | exact h.time
    rw [if_neg k1] at h0 ⊢
    by_cases k4 : s.kind = 4
    · rw [if_pos k4] at h0 ⊢
      unfold moveN at h0 ⊢
      split at h0
      · cases h0
      rename_i c1
      rw [if_neg c1]
      split at h0
      · cases h0
      rename_i c2
      rw [if_neg c2]
      split at h0
      · cases h0
      rename_i c3
      rw [if_neg c3]
      have hf : (findN t.l s.a).2 = true := by cases hh : (findN t.l s.a).2; exact absurd (.inl hh) c1; rfl
      obtain ⟨x, hx, e⟩ := find_iff.1 hf
      first | exact h.time | (rw [← e, put_map hR hx]; exact keep_map h.root (by omega))
    rw [if_neg k4] at h0 ⊢
    split at h0
    · cases h0
    rename_i c5
    rw [if_neg c5]
    split at h0
    · cases h0
    rename_i c6
    rw [if_neg c6]
    by_cases k6 : s.kind = 6
    · rw [if_pos k6]; first | exact h.root | exact h.time
    rw [if_neg k6] at h0 ⊢
    by_cases k7 : s.kind = 7
    · rw [if_pos k7]
      have ht := h.time
      have hn : ¬ s.n < t.nw := fun hc => c0 (.inr (.inr (.inr ⟨k7, hc⟩)))
      first | exact h.root | (show 0 ≤ s.n; omega)
    rw [if_neg k7] at h0 ⊢
    unfold changeN at h0 ⊢
    split at h0
    · cases h0
    rename_i c7
    rw [if_neg c7]
    split at h0
    · cases h0
    rename_i c8
    rw [if_neg c8]
    split at h0
    · cases h0
    rename_i c9
    rw [if_neg c9]
    have hf : (findN t.l s.a).2 = true := by cases hh : (findN t.l s.a).2; exact absurd hh c7; rfl
    obtain ⟨x, hx, e⟩ := find_iff.1 hf
    by_cases k3 : s.kind = 3
    · rw [if_pos k3]
      first | exact h.time | exact List.mem_filter.2 ⟨h.root, by unfold otherN; simp [ndR]; omega⟩
    rw [if_neg k3] at h0 ⊢
    by_cases k2 : s.kind = 2
    · rw [if_pos k2]
      first | exact h.time | (rw [← e, put_map hR hx]; exact keep_map h.root (by omega))
    rw [if_neg k2] at h0 ⊢
    split at h0
    · cases h0
    rename_i c10
    rw [if_neg c10]
    first | exact h.time | (rw [← e, put_map hR hx]; exact keep_map h.root (by omega))
theorem done_inv : ∀ (ss : List St) (t : Tr), Inv t → Inv (doneN t ss).1 := by
  intro ss
  induction ss with
  | nil => intro t h; exact h
  | cons s ss ih =>
    intro t h
    rw [done_on]
    split
    · rename_i h0; exact ih _ (apply_inv h h0)
    · exact h
theorem grow_inv {t : Tr} {a : Ac} (h : Inv t) : Inv (growN t a) := by
  unfold growN
  split
  · exact done_inv _ _ h
  · exact h
theorem new_inv : Inv newT := ⟨new_right, by show ndR ∈ [ndR]; simp, Int.le_refl _⟩
theorem grown_inv : ∀ (l : List Ac) (t : Tr), Inv t → Inv (l.foldl growN t) := by
  intro l
  induction l with
  | nil => intro t h; exact h
  | cons a l ih => intro t h; exact ih _ (grow_inv h)
theorem done_app : ∀ (a b : List St) (t : Tr), (doneN t a).2 = 0 → doneN t (a ++ b) = doneN (doneN t a).1 b := by
  intro a
  induction a with
  | nil => intro b t _; rfl
  | cons s a ih =>
    intro b t h
    rw [List.cons_append, done_on]
    rw [done_on] at h ⊢
    by_cases h0 : (applyN t s).2 = 0
    · rw [if_pos h0] at h ⊢
      rw [if_pos h0]
      exact ih b _ h
    · rw [if_neg h0] at h
      exact absurd h h0
theorem ba_zero {s : ByteArray} (h : s.size = 0) : s = ⟨#[]⟩ := by rw [(size_zero s).1 h]; rfl
/-- a link made again: by its step, and by one more where it is pinned -/
theorem make_one {p : List Nd} {q nx : Int} {x : Nd} (h : RightP ⟨p, q, nx, 0⟩) (hw : wellB x = true) (h60 : p.length < 60) (hnx : nx ≤ x.id) (htop : x.id < 2147483647) (hp : ∃ y ∈ p, y.id = x.par) (h1 : x.id ≠ 1) :
    doneN ⟨p, q, nx, 0⟩ (stepOf x) = (⟨p ++ [x], q, x.id + 1, 0⟩, 0) := by
  obtain ⟨i, pa, nm, tm, g, b⟩ := x
  dsimp only at hnx htop hp h1
  obtain ⟨y, hy, hye⟩ := hp
  have hyp := h.pos hy
  have hyt := h.le_top hy
  have hn2 := h.nx_pos
  dsimp only at hyp hyt hn2
  have hst : (nm.size = 0 ∨ labelB nm = true) → stepB ⟨1, i, pa, tm, nm⟩ = true := fun hl => (stepB_iff _).2 ⟨hl.imp id (fun e => ⟨rfl, e⟩), by show (1 : Int) ≤ 1; decide, by show (1 : Int) ≤ 8; decide, by show 0 ≤ i; omega, by show i ≤ _; omega, by show 0 ≤ pa; omega, by show pa ≤ _; omega⟩
  have ha : (nm.size = 0 ∨ labelB nm = true) → applyN ⟨p, q, nx, 0⟩ ⟨1, i, pa, tm, nm⟩ = (⟨p ++ [if 0 < nm.size then ⟨i, pa, nm, tm, false, false⟩ else ⟨i, pa, ⟨#[]⟩, 0, true, false⟩], q, i + 1, 0⟩, 0) := fun hl => by
    unfold applyN
    rw [if_neg (by rw [(right_iff _).2 h, hst hl]; simp), if_pos rfl]
    unfold makeN
    dsimp only
    rw [if_neg (by omega), if_neg (by rw [find_mem h.srt hy hye]; simp; omega)]
  unfold wellB at hw
  cases g with
  | true =>
    rw [if_pos rfl, Bool.and_eq_true, Bool.and_eq_true, decide_eq_true_eq, decide_eq_true_eq, Bool.not_eq_true'] at hw
    obtain ⟨e1, e2, e3⟩ := hw
    dsimp only at e1 e2 e3
    have ha' := ha (.inl e1)
    rw [if_neg (by omega)] at ha'
    have hnm := ba_zero e1
    subst hnm e2 e3
    unfold stepOf
    rw [if_neg h1, if_neg (by simp), done_on, ha', if_pos rfl]
    rfl
  | false =>
    rw [if_neg (by simp)] at hw
    dsimp only at hw
    have ha' := ha (.inr hw)
    rw [if_pos (lab_pos hw)] at ha'
    unfold stepOf
    rw [if_neg h1, done_on, ha', if_pos rfl]
    cases b with
    | false => rw [if_neg (by simp)]; rfl
    | true =>
      have hR := right_to ha'
      have hm : (⟨i, pa, nm, tm, false, false⟩ : Nd) ∈ (⟨p ++ [⟨i, pa, nm, tm, false, false⟩], q, i + 1, 0⟩ : Tr).l := by simp
      have hb := apply_pin hR hm h1 rfl (b := 1) (by decide) (by decide)
      rw [if_pos rfl, done_on, show (⟨5, i, 1, 0, ⟨#[]⟩⟩ : St) = stp i 1 from rfl, hb, if_pos rfl]
      unfold pinT mapN
      dsimp only
      rw [List.map_append]
      have hpm : p.map (fun y => if y.id = i then setPin 1 y else y) = p := by
        rw [List.map_congr_left (g := id) (fun y hy => by
          have := h.next y hy
          dsimp only at this
          rw [if_neg (by omega)]; rfl), List.map_id]
      rw [hpm, List.map_singleton, if_pos rfl]
      rfl
theorem makes_prefix {t : Tr} (h : Inv t) : ∀ j, j + 1 ≤ t.l.length → RightP ⟨t.l.take (j + 1), 1, (t.l.getD j zN).id + 1, 0⟩ ∧ doneN newT (stepsL (t.l.take (j + 1))) = (⟨t.l.take (j + 1), 1, (t.l.getD j zN).id + 1, 0⟩, 0) := by
  have hR := h.right
  obtain ⟨r, tl, e, e1, e2, e3⟩ := hR.head
  have hr : r = ndR := srt_eq hR.srt (by rw [e]; simp) h.root e1
  subst hr
  intro j
  induction j with
  | zero =>
    intro hj
    have ht : t.l.take 1 = [ndR] := by rw [e]; rfl
    have hg : t.l.getD 0 zN = ndR := by rw [e]; rfl
    rw [ht, hg]
    exact ⟨new_right, rfl⟩
  | succ j ih =>
    intro hj
    obtain ⟨hP, hD⟩ := ih (by omega)
    have hjl : j + 1 < t.l.length := by omega
    have hs := List.pairwise_iff_getElem.1 hR.srt
    have hx := List.getElem_mem hjl
    have hlt := hs j (j + 1) (by omega) hjl (by omega)
    have h0 := hs 0 (j + 1) (by omega) hjl (by omega)
    have hg0 : (t.l[0]'(by omega)) = ndR := by simp [e]
    rw [hg0] at h0
    have hne : (t.l[j + 1]).id ≠ 1 := by
      have : ndR.id = 1 := rfl
      omega
    obtain ⟨y, hy, hye, hyl⟩ := hR.par _ hx hne
    obtain ⟨k, hk, rfl⟩ := List.getElem_of_mem hy
    have hkj : k < j + 1 := by
      by_cases hh : k < j + 1
      · exact hh
      · rcases Nat.lt_or_eq_of_le (Nat.le_of_not_lt hh) with h4 | h4
        · have := hs (j + 1) k hjl hk h4; omega
        · subst h4; omega
    have hlen := hR.len
    have hmo := make_one (x := t.l[j + 1]) hP (hR.well _ hx) (by rw [List.length_take]; omega) (by rw [getD_get (by omega)]; omega) (by have := hR.next _ hx; have := hR.top; omega) ⟨t.l[k], List.mem_take_iff_getElem.2 ⟨k, by omega, rfl⟩, hye⟩ hne
    rw [stepsL_take _ _ hjl, done_app _ _ _ (by rw [hD]), hD, hmo, getD_get hjl, List.take_succ_eq_append_getElem hjl]
    refine ⟨?_, rfl⟩
    have hd := (done_right (stepOf t.l[j + 1]) _ hP).1
    rw [hmo] at hd
    exact hd
/-- THE LAW: a tree's steps make it of a new one -/
theorem makes_all {t : Tr} (h : Inv t) : doneN newT (stepsN t) = (t, 0) := by
  have hR := h.right
  obtain ⟨r, tl, e, e1, e2, e3⟩ := hR.head
  have hpos : 0 < t.l.length := by rw [e]; simp
  obtain ⟨hP, hD⟩ := makes_prefix h (t.l.length - 1) (by omega)
  rw [show t.l.length - 1 + 1 = t.l.length by omega, List.take_length] at hP hD
  have hlast := hR.next _ (List.getElem_mem (show t.l.length - 1 < t.l.length by omega))
  rw [getD_get (by omega)] at hP hD
  obtain ⟨y, hy, hye⟩ := hR.live
  have hyp := hR.pos hy
  have hyt := hR.le_top hy
  have hnx := hR.nx_pos
  have htop := hR.top
  obtain ⟨z, hz⟩ : ∃ z, (t.l[t.l.length - 1]'(by omega)).id = z := ⟨_, rfl⟩
  rw [hz] at hP hD hlast
  have ha : applyN ⟨t.l, 1, z + 1, 0⟩ ⟨6, t.lv, t.nx, 0, ⟨#[]⟩⟩ = (⟨t.l, t.lv, t.nx, 0⟩, 0) := by
    have hst : stepB ⟨6, t.lv, t.nx, 0, ⟨#[]⟩⟩ = true := (stepB_iff _).2 ⟨.inl rfl, by show (1 : Int) ≤ 6; decide, by show (6 : Int) ≤ 8; decide, by show 0 ≤ t.lv; omega, by show t.lv ≤ _; omega, by show 0 ≤ t.nx; omega, by show t.nx ≤ _; omega⟩
    unfold applyN
    rw [if_neg (by rw [(right_iff _).2 hP, hst]; simp)]
    rw [if_neg (by simp), if_neg (by simp)]
    dsimp only
    rw [find_mem hR.srt hy hye, if_neg (by simp), if_neg (by omega), if_pos rfl, show max (z + 1) t.nx = t.nx by omega]
  have hR2 := right_to ha
  have hb : applyN ⟨t.l, t.lv, t.nx, 0⟩ ⟨7, 0, 0, t.nw, ⟨#[]⟩⟩ = (t, 0) := by
    have hst : stepB ⟨7, 0, 0, t.nw, ⟨#[]⟩⟩ = true := (stepB_iff _).2 ⟨.inl rfl, by show (1 : Int) ≤ 7; decide, by show (7 : Int) ≤ 8; decide, by show (0 : Int) ≤ 0; decide, by show (0 : Int) ≤ _; decide, by show (0 : Int) ≤ 0; decide, by show (0 : Int) ≤ _; decide⟩
    have ht := h.time
    unfold applyN
    rw [if_neg (by rw [(right_iff _).2 hR2, hst]; simp; omega)]
    rw [if_neg (by simp), if_neg (by simp), if_neg (by simp), if_neg (by simp), if_neg (by simp), if_pos rfl]
  unfold stepsN
  rw [done_app _ _ _ (by rw [hD]), hD, done_on, ha, if_pos rfl, done_on, hb, if_pos rfl]
  rfl
end Go.Proofs.YtfdhehjfbcddgaaDoor.Pr
