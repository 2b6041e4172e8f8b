/- Pins, plain: a node that is pinned is not deleted, and is as it was; the root never is. No conditions. -/
import Derived.Test.YtfdhehjfbcddgaaDoorTNextP
namespace Go.Proofs.YtfdhehjfbcddgaaDoor.Pr
open Go.RowKit Go.Proofs.YtfdhehjfbcddgaaDoorW.PrintWords Go.Proofs.YtfdhehjfbcddgaaDoorW.PrintLast Go.Proofs.YtfdhehjfbcddgaaDoor
set_option linter.unusedVariables false
def stp (a b : Int) : St := ⟨5, a, b, 0, ⟨#[]⟩⟩
def pinT (t : Tr) (a b : Int) : Tr := ⟨mapN t.l a (setPin b), t.lv, t.nx, t.nw⟩
theorem apply_pin {t : Tr} (h : RightP t) {x : Nd} (hx : x ∈ t.l) (h1 : x.id ≠ 1) (hg : x.ghost = false) {b : Int} (hb : 0 ≤ b) (hb1 : b ≤ 1) : applyN t (stp x.id b) = (pinT t x.id b, 0) := by
  have hst : stepB (stp x.id b) = true := (stepB_iff _).2 ⟨.inl rfl, by show (1 : Int) ≤ 5; decide, by show (5 : Int) ≤ 8; decide, by show 0 ≤ x.id; have := h.pos hx; omega, h.le_top hx, hb, by show b ≤ _; omega⟩
  unfold applyN
  rw [if_neg (by rw [(right_iff t).2 h, hst]; simp [stp])]
  rw [if_neg (by simp [stp]), if_neg (by simp [stp]), if_neg (by simp [stp]), if_neg (by simp [stp]), if_neg (by simp [stp]), if_neg (by simp [stp])]
  unfold changeN
  rw [show (stp x.id b).a = x.id from rfl, find_mem h.srt hx rfl, if_neg (by simp), if_neg h1, if_neg (by simp [stp, hg]), if_neg (by simp [stp]), if_neg (by simp [stp]), if_neg (by show ¬ 1 < b; omega), put_map h hx]
  rfl
/-- a step that changes a pin errs, where there is no such node -/
theorem pin_bad {t : Tr} (h : RightP t) (a : Int) (hb : (findN t.l a).2 = false ∨ (findN t.l a).1.ghost = true ∨ a = 1) : (applyN t (stp (max a 0) 1)).2 ≠ 0 := by
  have hrt := (right_iff t).2 h
  unfold applyN
  split
  · decide
  rw [if_neg (by simp [stp]), if_neg (by simp [stp]), if_neg (by simp [stp]), if_neg (by simp [stp]), if_neg (by simp [stp]), if_neg (by simp [stp])]
  unfold changeN
  rw [show (stp (max a 0) 1).a = max a 0 from rfl]
  split
  · decide
  rename_i hf
  have hf' : (findN t.l (max a 0)).2 = true := by cases hh : (findN t.l (max a 0)).2; exact absurd hh hf; rfl
  obtain ⟨x, hx, hxe⟩ := find_iff.1 hf'
  have hp := h.pos hx
  have ha : max a 0 = a := by omega
  rw [ha] at hf' hxe ⊢
  split
  · decide
  rename_i h1
  rcases hb with hb | hb | hb
  · rw [hb] at hf'; cases hf'
  · rw [if_pos (.inr ⟨by simp [stp], hb⟩)]; decide
  · exact absurd hb h1
theorem node_good {t : Tr} (h : RightP t) {x : Nd} (hx : x ∈ t.l) (hg : x.ghost = false) : nodeN t x.id = (x, 0) := by
  unfold nodeN
  rw [find_mem h.srt hx rfl, (right_iff t).2 h]
  simp [hg]
theorem delete_root {t : Tr} (h : RightP t) : deleteN t 1 = (zP, 13) := by
  obtain ⟨r, hr, e1, e2, e3⟩ := h.one
  have hn := node_good h hr e3
  rw [e1] at hn
  unfold deleteN
  rw [hn, if_pos rfl, if_pos rfl]
theorem delete_pinned {t : Tr} (h : RightP t) {x : Nd} (hx : x ∈ t.l) (h1 : x.id ≠ 1) (hg : x.ghost = false) (hp : x.pin = true) : deleteN t x.id = (zP, 12) := by
  unfold deleteN
  rw [node_good h hx hg, if_pos rfl, if_neg h1, if_pos hp]
theorem delete_fine {t : Tr} (h : RightP t) {x : Nd} (hx : x ∈ t.l) (h1 : x.id ≠ 1) (hg : x.ghost = false) (hp : x.pin = false) : (deleteN t x.id).2 = 0 := by
  unfold deleteN
  rw [node_good h hx hg, if_pos rfl, if_neg h1, if_neg (by simp [hp])]
  split
  · rfl
  split <;> rfl
theorem pin_mem {t : Tr} {x : Nd} (hx : x ∈ t.l) (b : Int) : setPin b x ∈ (pinT t x.id b).l := mem_mapN.2 ⟨x, hx, by rw [if_pos rfl]⟩
/-- all that the law TreePins asks of a node that may be pinned -/
theorem pins_good {t : Tr} (h : RightP t) {x : Nd} (hx : x ∈ t.l) (h1 : x.id ≠ 1) (hg : x.ghost = false) :
    applyN t (stp x.id 1) = (pinT t x.id 1, 0) ∧ deleteN (pinT t x.id 1) x.id = (zP, 12) ∧ findN (pinT t x.id 1).l x.id = (⟨x.id, x.par, x.name, x.time, false, true⟩, true) ∧
    applyN (pinT t x.id 1) (stp x.id 0) = (pinT (pinT t x.id 1) x.id 0, 0) ∧ (deleteN (pinT (pinT t x.id 1) x.id 0) x.id).2 = 0 := by
  have ha := apply_pin h hx h1 hg (b := 1) (by decide) (by decide)
  have hR := right_to ha
  have hm := pin_mem hx (t := t) 1
  have e : setPin 1 x = ⟨x.id, x.par, x.name, x.time, false, true⟩ := by unfold setPin; rw [hg]; rfl
  rw [e] at hm
  have hb := apply_pin hR hm h1 rfl (b := 0) (by decide) (by decide)
  have hR2 := right_to hb
  have hm2 := pin_mem hm (t := pinT t x.id 1) 0
  exact ⟨ha, delete_pinned (x := ⟨x.id, x.par, x.name, x.time, false, true⟩) hR hm h1 rfl rfl, find_mem hR.srt hm rfl, hb, delete_fine (x := ⟨x.id, x.par, x.name, x.time, false, false⟩) hR2 hm2 h1 rfl rfl⟩
end Go.Proofs.YtfdhehjfbcddgaaDoor.Pr
