/- What acts leave, plain: a right tree, its next number never less; what a snapshot leaves. No conditions. -/
import Derived.Test.YtfdhehjfbcddgaaDoorTGrow
namespace Go.Proofs.YtfdhehjfbcddgaaDoor.Pr
open Go.RowKit Go.Proofs.YtfdhehjfbcddgaaDoorW.PrintWords Go.Proofs.YtfdhehjfbcddgaaDoorW.PrintLast Go.Proofs.YtfdhehjfbcddgaaDoor
set_option linter.unusedVariables false
theorem apply_nx {t : Tr} {s : St} (h : (applyN t s).2 = 0) : t.nx ≤ (applyN t s).1.nx := by
  unfold applyN at h ⊢
  split at h
  · cases h
  rename_i c0
  rw [if_neg c0]
  by_cases k1 : s.kind = 1
  · rw [if_pos k1] at h ⊢
    unfold makeN at h ⊢
    split at h
    · cases h
    rename_i c1
    rw [if_neg c1]
    split at h
    · cases h
    rename_i c2
    rw [if_neg c2]
    show t.nx ≤ s.a + 1
    omega
  rw [if_neg k1] at h ⊢
  by_cases k4 : s.kind = 4
  · rw [if_pos k4] at h ⊢
    unfold moveN at h ⊢
    split at h
    · cases h
    rename_i c1
    rw [if_neg c1]
    split at h
    · cases h
    rename_i c2
    rw [if_neg c2]
    split at h
    · cases h
    rename_i c3
    rw [if_neg c3]
    exact Int.le_refl _
  rw [if_neg k4] at h ⊢
  split at h
  · cases h
  rename_i c5
  rw [if_neg c5]
  split at h
  · cases h
  rename_i c6
  rw [if_neg c6]
  by_cases k6 : s.kind = 6
  · rw [if_pos k6]
    show t.nx ≤ max t.nx s.b
    omega
  rw [if_neg k6] at h ⊢
  by_cases k7 : s.kind = 7
  · rw [if_pos k7]; exact Int.le_refl _
  rw [if_neg k7] at h ⊢
  unfold changeN at h ⊢
  split at h
  · cases h
  rename_i c7
  rw [if_neg c7]
  split at h
  · cases h
  rename_i c8
  rw [if_neg c8]
  split at h
  · cases h
  rename_i c9
  rw [if_neg c9]
  by_cases k3 : s.kind = 3
  · rw [if_pos k3]; exact Int.le_refl _
  rw [if_neg k3] at h ⊢
  by_cases k2 : s.kind = 2
  · rw [if_pos k2]; exact Int.le_refl _
  rw [if_neg k2] at h ⊢
  split at h
  · cases h
  rename_i c10
  rw [if_neg c10]; exact Int.le_refl _
theorem done_right : ∀ (ss : List St) (t : Tr), RightP t → RightP (doneN t ss).1 ∧ t.nx ≤ (doneN t ss).1.nx := by
  intro ss
  induction ss with
  | nil => intro t h; exact ⟨h, Int.le_refl _⟩
  | cons s ss ih =>
    intro t h
    rw [done_on]
    split
    · rename_i h0
      obtain ⟨h1, h2⟩ := ih _ (apply_right h0).2
      have := apply_nx h0
      exact ⟨h1, by omega⟩
    · exact ⟨h, Int.le_refl _⟩
theorem grow_right {t : Tr} {a : Ac} (h : RightP t) : RightP (growN t a) ∧ t.nx ≤ (growN t a).nx := by
  unfold growN
  split
  · exact done_right _ _ h
  · exact ⟨h, Int.le_refl _⟩
theorem new_right : RightP newT := by
  refine (right_iff _).1 ?_
  kernel_rfl
theorem grown_right : ∀ (l : List Ac) (t : Tr), RightP t → RightP (l.foldl growN t) := by
  intro l
  induction l with
  | nil => intro t h; exact h
  | cons a l ih => intro t h; exact ih _ (grow_right h).1
theorem lab_pos {nm : ByteArray} (h : labelB nm = true) : 0 < nm.size := by
  unfold labelB at h
  simp only [Bool.and_eq_true, decide_eq_true_eq] at h
  exact h.2.2.1
/-- the tree behind a snapshot -/
def snapT (t : Tr) (nm : ByteArray) : Tr := ⟨t.l ++ [⟨t.nx, t.lv, nm, t.nw, false, false⟩], t.nx, t.nx + 1, t.nw⟩
theorem snap_bad {t : Tr} {nm : ByteArray} (h : (snapN t nm).2 ≠ 0) : (snapN t nm).1 = zP := by
  unfold snapN at h ⊢
  split
  · rfl
  rename_i c1
  rw [if_neg c1] at h
  split
  · rfl
  rename_i c2
  rw [if_neg c2] at h
  exact absurd rfl h
theorem snap_good {t : Tr} {nm : ByteArray} (h : (snapN t nm).2 = 0) : RightP t ∧ (snapN t nm).1 = ⟨[], [⟨1, t.nx, t.lv, t.nw, nm⟩, ⟨6, t.nx, 0, 0, ⟨#[]⟩⟩]⟩ ∧ doneN t (snapN t nm).1.ss = (snapT t nm, 0) ∧ RightP (snapT t nm) := by
  unfold snapN at h ⊢
  split at h
  · cases h
  rename_i c1
  rw [if_neg c1]
  split at h
  · cases h
  rename_i c2
  rw [if_neg c2]
  have hr : rightN t = true := by cases hh : rightN t; exact absurd (.inl hh) c1; rfl
  have hlb : labelB nm = true := by cases hh : labelB nm; exact absurd (.inr (.inl hh)) c1; rfl
  have hnl : t.nx ≠ 2147483647 := fun e => c1 (.inr (.inr e))
  have hR := (right_iff t).1 hr
  obtain ⟨y, hy, hye⟩ := hR.live
  have hyp := hR.pos hy
  have hyt := hR.le_top hy
  have hnx := hR.nx_pos
  have htop := hR.top
  have hst : stepB ⟨1, t.nx, t.lv, t.nw, nm⟩ = true := (stepB_iff _).2 ⟨.inr ⟨rfl, hlb⟩, by show (1 : Int) ≤ 1; decide, by show (1 : Int) ≤ 8; decide, by show 0 ≤ t.nx; omega, htop, by show 0 ≤ t.lv; omega, by show t.lv ≤ _; omega⟩
  have ha : applyN t ⟨1, t.nx, t.lv, t.nw, nm⟩ = (⟨t.l ++ [⟨t.nx, t.lv, nm, t.nw, false, false⟩], t.lv, t.nx + 1, t.nw⟩, 0) := by
    unfold applyN
    rw [if_neg (by rw [hr, hst]; simp), if_pos rfl]
    unfold makeN
    rw [if_neg c2, if_neg (by rw [show (St.b ⟨1, t.nx, t.lv, t.nw, nm⟩) = t.lv from rfl, find_mem hR.srt hy hye]; simp [hnl])]
    rw [if_pos (show 0 < (St.text ⟨1, t.nx, t.lv, t.nw, nm⟩).size from lab_pos hlb)]
  have hR2 := right_to ha
  have hm : (⟨t.nx, t.lv, nm, t.nw, false, false⟩ : Nd) ∈ (⟨t.l ++ [⟨t.nx, t.lv, nm, t.nw, false, false⟩], t.lv, t.nx + 1, t.nw⟩ : Tr).l := by simp
  have hb := apply_live hR2 hm
  have hb' : applyN ⟨t.l ++ [⟨t.nx, t.lv, nm, t.nw, false, false⟩], t.lv, t.nx + 1, t.nw⟩ ⟨6, t.nx, 0, 0, ⟨#[]⟩⟩ = (snapT t nm, 0) := hb
  refine ⟨hR, rfl, ?_, right_to hb'⟩
  rw [done_on, ha, if_pos rfl, done_on, hb', if_pos rfl]
  rfl
theorem snap_find {t : Tr} {nm : ByteArray} (h : RightP (snapT t nm)) : findN (snapT t nm).l t.nx = (⟨t.nx, t.lv, nm, t.nw, false, false⟩, true) :=
  find_mem h.srt (by unfold snapT; simp) rfl
end Go.Proofs.YtfdhehjfbcddgaaDoor.Pr
