/- rootcellarlaw14.TreeImages. Conditions: the acts' numbers are numbers of Go; the tables of unicode/utf8 lie in memory. -/
import Derived.Test.YtfdhehjfbcddgaaDoorTPlansP
import Derived.Deep.LoopGhost
import Derived.Test.YtfdhehjfbcddgaaDoorTPins
import Derived.Test.YtfdhehjfbcddgaaDoorTPlans
import Derived.Test.YtfdhehjfbcddgaaDoorOpenActs
section
namespace Go.Proofs.YtfdhehjfbcddgaaDoor.Pr
open Go.RowKit Go.Proofs.YtfdhehjfbcddgaaDoorW.PrintWords Go.Proofs.YtfdhehjfbcddgaaDoorW.PrintLast Go.Proofs.YtfdhehjfbcddgaaDoor
set_option linter.unusedVariables false
/-- what a link reads: the first number on the way down -/
def rdF (l : List Nd) (F : Int → Int) : Nat → Int → Int
  | 0, _ => 0
  | f + 1, a => if (findN l a).2 = false ∨ 0 < F a then F a else if (findN l a).1.par = 0 then 0 else rdF l F f (findN l a).1.par
def thrN (t : Tr) (F : Int → Int) (a : Int) : Int := if a = 0 then (if 0 < F 0 then F 0 else rdF t.l F 80 t.lv) else rdF t.l F 80 a
def mergeF (F : Int → Int) (m : Mg) : Int → Int := fun i => if i = m.into ∧ F m.into = 0 then F m.frm else F i
theorem rd_stable {t : Tr} (h : RightP t) (F : Int → Int) : ∀ (i : Nat) (hi : i < t.l.length) (f g : Nat), i < f → i < g → rdF t.l F f t.l[i].id = rdF t.l F g t.l[i].id := by
  intro i
  induction i using Nat.strongRecOn with
  | _ i ih =>
    intro hi f g hf hg
    obtain ⟨f, rfl⟩ : ∃ f', f = f' + 1 := ⟨f - 1, by omega⟩
    obtain ⟨g, rfl⟩ : ∃ g', g = g' + 1 := ⟨g - 1, by omega⟩
    rw [rdF, rdF]
    have hm := List.getElem_mem hi
    rw [find_mem h.srt hm rfl]
    by_cases c : (true = false) ∨ 0 < F t.l[i].id
    · rw [if_pos c, if_pos c]
    rw [if_neg c, if_neg c]
    by_cases c2 : (t.l[i]).par = 0
    · rw [if_pos c2, if_pos c2]
    rw [if_neg c2, if_neg c2]
    have h1 : (t.l[i]).id ≠ 1 := fun e => c2 (h.root hm e).1
    obtain ⟨y, hy, e1, e2⟩ := h.par _ hm h1
    obtain ⟨k, hk, rfl⟩ := List.getElem_of_mem hy
    have hki : k < i := by
      by_cases hh : k < i
      · exact hh
      · have hs := List.pairwise_iff_getElem.1 h.srt
        rcases Nat.lt_or_eq_of_le (Nat.le_of_not_lt hh) with h4 | h4
        · have := hs i k hi hk h4; omega
        · subst h4; omega
    rw [← e1]
    exact ih k hki hk f g (by omega) (by omega)
theorem rd_eq {t : Tr} (h : RightP t) (F : Int → Int) {x : Nd} (hx : x ∈ t.l) : rdF t.l F 80 x.id = if 0 < F x.id then F x.id else if x.par = 0 then 0 else rdF t.l F 80 x.par := by
  rw [rdF, find_mem h.srt hx rfl]
  by_cases c : 0 < F x.id
  · rw [if_pos (.inr c), if_pos c]
  rw [if_neg (by simp [c]), if_neg c]
  by_cases c2 : x.par = 0
  · rw [if_pos c2, if_pos c2]
  rw [if_neg c2, if_neg c2]
  have h1 : x.id ≠ 1 := fun e => c2 (h.root hx e).1
  obtain ⟨y, hy, e1, e2⟩ := h.par _ hx h1
  obtain ⟨k, hk, rfl⟩ := List.getElem_of_mem hy
  have := h.len
  rw [← e1]
  exact rd_stable h F k hk 79 80 (by omega) (by omega)
/-- all links of u, and the live disk, read as in t -/
structure Img (t : Tr) (F : Int → Int) (u : Tr) (G : Int → Int) : Prop where
  rd : ∀ y ∈ u.l, rdF u.l G 80 y.id = rdF t.l F 80 y.id
  live : thrN u G 0 = thrN t F 0
  back : ∀ y ∈ u.l, ∃ x ∈ t.l, x.id = y.id
  pos : ∀ i, 0 ≤ G i
theorem Img.refl (t : Tr) (F : Int → Int) (h : ∀ i, 0 ≤ F i) : Img t F t F := ⟨fun _ _ => rfl, rfl, fun y hy => ⟨y, hy, rfl⟩, h⟩
theorem Img.trans {t u v : Tr} {F G H : Int → Int} (h1 : Img t F u G) (h2 : Img u G v H) : Img t F v H := by
  refine ⟨fun y hy => ?_, h2.live.trans h1.live, fun y hy => ?_, h2.pos⟩
  · obtain ⟨x, hx, e⟩ := h2.back y hy
    rw [h2.rd y hy, ← e, h1.rd x hx]
  · obtain ⟨x, hx, e⟩ := h2.back y hy
    obtain ⟨z, hz, e2⟩ := h1.back x hx
    exact ⟨z, hz, by omega⟩
/-- strong induction over a right tree's links by number -/
theorem tree_ind {u : Tr} (h : RightP u) {P : Nd → Prop} (hs : ∀ y ∈ u.l, (∀ p ∈ u.l, p.id = y.par → p.id < y.id → P p) → P y) : ∀ y ∈ u.l, P y := by
  have gen : ∀ (n : Nat) (y : Nd), y ∈ u.l → y.id.toNat ≤ n → P y := by
    intro n
    induction n with
    | zero =>
      intro y hy hn
      have := h.pos hy
      omega
    | succ n ih =>
      intro y hy hn
      exact hs y hy (fun p hp _ hlt => ih p hp (by have := h.pos hp; omega))
  intro y hy
  exact gen _ y hy (Nat.le_refl _)
/-- a link whose number and way up are what they were reads what it read -/
theorem rd_same {t u : Tr} (ht : RightP t) (hu : RightP u) {F G : Int → Int} {y z : Nd} (hz : z ∈ t.l) (hy : y ∈ u.l) (hid : z.id = y.id) (hpar : z.par = y.par) (hF : G y.id = F y.id) (ih : y.par ≠ 0 → rdF u.l G 80 y.par = rdF t.l F 80 y.par) : rdF u.l G 80 y.id = rdF t.l F 80 y.id := by
  rw [rd_eq hu G hy, ← hid, rd_eq ht F hz, hid, hF, hpar]
  by_cases c : 0 < F y.id
  · rw [if_pos c, if_pos c]
  rw [if_neg c, if_neg c]
  by_cases c2 : y.par = 0
  · rw [if_pos c2, if_pos c2]
  rw [if_neg c2, if_neg c2, ih c2]
theorem par_mem {u : Tr} (h : RightP u) {y : Nd} (hy : y ∈ u.l) (h0 : y.par ≠ 0) : ∃ p ∈ u.l, p.id = y.par ∧ p.id < y.id := by
  have h1 : y.id ≠ 1 := fun e => h0 (h.root hy e).1
  exact h.par y hy h1
theorem live_same {t u : Tr} (hu : RightP u) {F G : Int → Int} (hlv : u.lv = t.lv) (h0 : G 0 = F 0) (hrd : ∀ y ∈ u.l, rdF u.l G 80 y.id = rdF t.l F 80 y.id) : thrN u G 0 = thrN t F 0 := by
  unfold thrN
  rw [if_pos rfl, if_pos rfl, h0]
  obtain ⟨y, hy, e⟩ := hu.live
  rw [← hlv, ← e, hrd y hy]
theorem img_drop {t : Tr} (ht : RightP t) {F : Int → Int} (hF : ∀ i, 0 ≤ F i) {a : Int} (ha : a ≠ 1) (hk : (kidsN t.l t.lv a).length = 0) : Img t F (dropT t a) F := by
  have hu : RightP (dropT t a) := right_drop ht ha hk
  obtain ⟨k1, k2⟩ := kidsN_nil.1 hk
  have hrd : ∀ y ∈ (dropT t a).l, rdF (dropT t a).l F 80 y.id = rdF t.l F 80 y.id := by
    refine tree_ind hu (fun y hy ih => ?_)
    obtain ⟨h1, h2⟩ := mem_dropT.1 hy
    refine rd_same ht hu h1 hy rfl rfl rfl (fun h0 => ?_)
    obtain ⟨p, hp, e1, e2⟩ := par_mem hu hy h0
    rw [← e1]
    exact ih p hp e1 e2
  exact ⟨hrd, live_same hu rfl rfl hrd, fun y hy => ⟨y, (mem_dropT.1 hy).1, rfl⟩, hF⟩
theorem merge_pos {F : Int → Int} (h : ∀ i, 0 ≤ F i) (m : Mg) : ∀ i, 0 ≤ mergeF F m i := by
  intro i
  unfold mergeF
  split
  · exact h _
  · exact h _
theorem merge_other {F : Int → Int} {m : Mg} {i : Int} (h : i ≠ m.into) : mergeF F m i = F i := by
  unfold mergeF
  rw [if_neg (fun c => h c.1)]
theorem merge_at (F : Int → Int) (m : Mg) : mergeF F m m.into = if F m.into = 0 then F m.frm else F m.into := by
  unfold mergeF
  by_cases c : F m.into = 0
  · rw [if_pos ⟨rfl, c⟩, if_pos c]
  · rw [if_neg (fun h => c h.2), if_neg c]
/-- a link that takes the image of what it hung on, and hangs where that hung, reads what it read -/
theorem rd_up {t u : Tr} (ht : RightP t) (hu : RightP u) {F : Int → Int} (hF : ∀ i, 0 ≤ F i) {x y x' : Nd} (hx : x ∈ t.l) (hy : y ∈ t.l) (hxy : x.par = y.id) (hx' : x' ∈ u.l) (hid : x'.id = x.id) (hpar : x'.par = y.par) (hy1 : y.id ≠ 1)
    (ih : rdF u.l (mergeF F ⟨x.id, y.id⟩) 80 y.par = rdF t.l F 80 y.par) : rdF u.l (mergeF F ⟨x.id, y.id⟩) 80 x'.id = rdF t.l F 80 x'.id := by
  have hyp := ht.pos hy
  obtain ⟨hyy, _, _⟩ := ht.parent hy hy1
  rw [rd_eq hu _ hx', hid, rd_eq ht F hx, hpar]
  have hm := merge_at F ⟨x.id, y.id⟩
  dsimp only at hm
  rw [hm]
  have h1 := hF x.id
  have h2 := hF y.id
  by_cases c : F x.id = 0
  · rw [if_pos c, if_neg (show ¬ 0 < F x.id by omega), if_neg (show x.par ≠ 0 by omega), hxy, rd_eq ht F hy]
    by_cases c2 : 0 < F y.id
    · rw [if_pos c2, if_pos c2]
    · rw [if_neg c2, if_neg c2, if_neg (show y.par ≠ 0 by omega), if_neg (show y.par ≠ 0 by omega), ih]
  · rw [if_neg c, if_pos (show 0 < F x.id by omega), if_pos (show 0 < F x.id by omega)]
theorem img_move {t : Tr} (ht : RightP t) {F : Int → Int} (hF : ∀ i, 0 ≤ F i) {x y : Nd} (hx : x ∈ t.l) (hy : y ∈ t.l) (hxy : y.id = x.par) (hx1 : x.id ≠ 1) (hy1 : y.id ≠ 1) (hu : RightP (moveT t x.id y.par)) : Img t F (moveT t x.id y.par) (mergeF F ⟨x.id, y.id⟩) := by
  have hxp := ht.pos hx
  have hrd : ∀ z ∈ (moveT t x.id y.par).l, rdF (moveT t x.id y.par).l (mergeF F ⟨x.id, y.id⟩) 80 z.id = rdF t.l F 80 z.id := by
    refine tree_ind hu (fun z hz ih => ?_)
    obtain ⟨v, hv, e⟩ := mem_moveT.1 hz
    have ih' : z.par ≠ 0 → rdF (moveT t x.id y.par).l (mergeF F ⟨x.id, y.id⟩) 80 z.par = rdF t.l F 80 z.par := fun h0 => by
      obtain ⟨p, hp, e1, e2⟩ := par_mem hu hz h0
      rw [← e1]; exact ih p hp e1 e2
    by_cases c : v.id = x.id
    · rw [if_pos c] at e
      obtain rfl := srt_eq ht.srt hv hx c
      obtain ⟨hyy, _, _⟩ := ht.parent hy hy1
      have e1 : z.id = v.id := by rw [e]; rfl
      have e2 : z.par = y.par := by rw [e]; rfl
      rw [e2] at ih'
      exact rd_up ht hu hF hv hy hxy.symm hz e1 e2 hy1 (ih' (by omega))
    · rw [if_neg c] at e
      subst e
      exact rd_same ht hu hv hz rfl rfl (merge_other c) ih'
  refine ⟨hrd, live_same hu rfl (merge_other (show (0 : Int) ≠ x.id by omega)) hrd, fun z hz => ?_, merge_pos hF _⟩
  obtain ⟨v, hv, rfl⟩ := mem_moveT.1 hz
  exact ⟨v, hv, by split <;> rfl⟩
theorem img_ghost {t : Tr} (ht : RightP t) {F : Int → Int} (hF : ∀ i, 0 ≤ F i) {a : Int} (hu : RightP (ghostT t a)) : Img t F (ghostT t a) F := by
  have hm : ∀ {z : Nd}, z ∈ (ghostT t a).l ↔ ∃ y ∈ t.l, z = if y.id = a then setGhost y else y := mem_mapN
  have hrd : ∀ z ∈ (ghostT t a).l, rdF (ghostT t a).l F 80 z.id = rdF t.l F 80 z.id := by
    refine tree_ind hu (fun z hz ih => ?_)
    obtain ⟨v, hv, e⟩ := hm.1 hz
    have e1 : v.id = z.id := by rw [e]; split <;> rfl
    have e2 : v.par = z.par := by rw [e]; split <;> rfl
    refine rd_same ht hu hv hz e1 e2 rfl (fun h0 => ?_)
    obtain ⟨p, hp, f1, f2⟩ := par_mem hu hz h0
    rw [← f1]; exact ih p hp f1 f2
  refine ⟨hrd, live_same hu rfl rfl hrd, fun z hz => ?_, hF⟩
  obtain ⟨v, hv, e⟩ := hm.1 hz
  exact ⟨v, hv, by rw [e]; split <;> rfl⟩
theorem img_down {t : Tr} (ht : RightP t) {F : Int → Int} (hF : ∀ i, 0 ≤ F i) {x : Nd} (hx : x ∈ t.l) (h1 : x.id ≠ 1) {kid : Int} (hk : kidsN t.l t.lv x.id = [kid]) : Img t F (downT t x kid) (mergeF F ⟨kid, x.id⟩) := by
  have hu := right_down ht hx h1 hk
  have hxp := ht.pos hx
  obtain ⟨hpp, hplt, _⟩ := ht.parent hx h1
  rcases kids_one ht hk with ⟨rfl, k1, k2⟩ | ⟨k0, k1, z, hz, rfl, k3, k4, k5⟩
  · have hd : downT t x 0 = dropT (liveT t x.par) x.id := by unfold downT; rw [if_pos rfl]
    rw [hd] at hu ⊢
    have hrd : ∀ y ∈ (dropT (liveT t x.par) x.id).l, rdF (dropT (liveT t x.par) x.id).l (mergeF F ⟨0, x.id⟩) 80 y.id = rdF t.l F 80 y.id := by
      refine tree_ind hu (fun y hy ih => ?_)
      obtain ⟨h2, h3⟩ := mem_dropT.1 hy
      have hyp := hu.pos hy
      refine rd_same ht hu h2 hy rfl rfl (merge_other (show y.id ≠ 0 by omega)) (fun h0 => ?_)
      obtain ⟨p, hp, e1, e2⟩ := par_mem hu hy h0
      rw [← e1]; exact ih p hp e1 e2
    refine ⟨hrd, ?_, fun y hy => ⟨y, (mem_dropT.1 hy).1, rfl⟩, merge_pos hF _⟩
    have hm := merge_at F ⟨0, x.id⟩
    dsimp only at hm
    unfold thrN
    rw [if_pos rfl, if_pos rfl, hm, k1, rd_eq ht F hx]
    have h2 := hF 0
    have h3 := hF x.id
    by_cases c : F 0 = 0
    · rw [if_pos c, if_neg (show ¬ 0 < F 0 by omega)]
      by_cases c2 : 0 < F x.id
      · rw [if_pos c2, if_pos c2]
      · rw [if_neg c2, if_neg c2, if_neg (show x.par ≠ 0 by omega)]
        obtain ⟨y, hy, e⟩ := hu.live
        have e' : y.id = x.par := e
        have h4 := hrd y hy
        rw [e'] at h4
        exact h4
    · rw [if_neg c, if_pos (show 0 < F 0 by omega), if_pos (show 0 < F 0 by omega)]
  · have hd : downT t x z.id = dropT (moveT t z.id x.par) x.id := by unfold downT; rw [if_neg k0]
    rw [hd] at hu ⊢
    have hzp := ht.pos hz
    have hrd : ∀ y ∈ (dropT (moveT t z.id x.par) x.id).l, rdF (dropT (moveT t z.id x.par) x.id).l (mergeF F ⟨z.id, x.id⟩) 80 y.id = rdF t.l F 80 y.id := by
      refine tree_ind hu (fun y hy ih => ?_)
      obtain ⟨h2, h3⟩ := mem_dropT.1 hy
      obtain ⟨v, hv, e⟩ := mem_moveT.1 h2
      have ih' : y.par ≠ 0 → rdF (dropT (moveT t z.id x.par) x.id).l (mergeF F ⟨z.id, x.id⟩) 80 y.par = rdF t.l F 80 y.par := fun h0 => by
        obtain ⟨p, hp, e1, e2⟩ := par_mem hu hy h0
        rw [← e1]; exact ih p hp e1 e2
      by_cases c : v.id = z.id
      · rw [if_pos c] at e
        obtain rfl := srt_eq ht.srt hv hz c
        have e1 : y.id = v.id := by rw [e]; rfl
        have e2 : y.par = x.par := by rw [e]; rfl
        rw [e2] at ih'
        exact rd_up ht hu hF hv hx k3 hy e1 e2 h1 (ih' (by omega))
      · rw [if_neg c] at e
        subst e
        exact rd_same ht hu hv hy rfl rfl (merge_other c) ih'
    refine ⟨hrd, live_same hu rfl (merge_other (show (0 : Int) ≠ z.id by omega)) hrd, fun y hy => ?_, merge_pos hF _⟩
    obtain ⟨v, hv, e⟩ := mem_moveT.1 (mem_dropT.1 hy).1
    exact ⟨v, hv, by rw [e]; split <;> rfl⟩
/-! ## planners -/
def mergesF (F : Int → Int) (ms : List Mg) : Int → Int := ms.foldl mergeF F
theorem mergesF_app (F : Int → Int) (ms : List Mg) (m : Mg) : mergesF F (ms ++ [m]) = mergeF (mergesF F ms) m := by
  unfold mergesF
  rw [List.foldl_append]; rfl
/-- a planner: what it says of images leaves all reading; its merges speak of links of the tree -/
structure PImg (t : Tr) (F : Int → Int) (s : Ps) : Prop where
  img : Img t F s.t (mergesF F s.ms)
  ms : ∀ m ∈ s.ms, (m.into = 0 ∨ ∃ x ∈ t.l, x.id = m.into) ∧ (∃ x ∈ t.l, x.id = m.frm) ∧ m.into ≠ m.frm
theorem pimg_nil {t : Tr} {F : Int → Int} (h : ∀ i, 0 ≤ F i) : PImg t F ⟨t, [], []⟩ := ⟨Img.refl t F h, fun m hm => by cases hm⟩
theorem pimg_same {t u : Tr} {F : Int → Int} {s : Ps} {ss : List St} (h : PImg t F s) (hi : Img s.t (mergesF F s.ms) u (mergesF F s.ms)) : PImg t F ⟨u, s.ms, ss⟩ := ⟨h.img.trans hi, h.ms⟩
theorem pimg_one {t u : Tr} {F : Int → Int} {s : Ps} {ss : List St} {m : Mg} (h : PImg t F s) (hi : Img s.t (mergesF F s.ms) u (mergeF (mergesF F s.ms) m)) (h1 : m.into = 0 ∨ ∃ x ∈ s.t.l, x.id = m.into) (h2 : ∃ x ∈ s.t.l, x.id = m.frm) (h3 : m.into ≠ m.frm) : PImg t F ⟨u, s.ms ++ [m], ss⟩ := by
  have bk : ∀ a, (∃ x ∈ s.t.l, x.id = a) → ∃ x ∈ t.l, x.id = a := by
    rintro a ⟨x, hx, rfl⟩
    exact h.img.back x hx
  refine ⟨?_, fun k hk => ?_⟩
  · show Img t F u (mergesF F (s.ms ++ [m]))
    rw [mergesF_app]
    exact h.img.trans hi
  · rcases List.mem_append.1 hk with hk | hk
    · exact h.ms k hk
    · rw [List.mem_singleton] at hk; subst hk
      exact ⟨h1.imp id (bk _), bk _ h2, h3⟩
theorem pimg_clear {t : Tr} {F : Int → Int} : ∀ (f : Nat) (s : Ps), PImg t F s → RightP s.t → PImg t F (clearN f s) := by
  intro f
  induction f with
  | zero => intro s h _; exact h
  | succ f ih =>
    intro s h hR
    rw [clearN]
    cases hl : lastIdle s.t s.t.l.length with
    | none => exact h
    | some i =>
      dsimp only
      obtain ⟨h1, h2⟩ := lastIdle_some hl
      obtain ⟨h3, h4, _⟩ := idle_drop hR h1 h2
      have hx : s.t.l.getD i zN ∈ s.t.l := by rw [getD_get h1]; exact List.getElem_mem _
      unfold idleB at h2
      rw [Bool.and_eq_true, decide_eq_true_eq] at h2
      have hx1 : (s.t.l.getD i zN).id ≠ 1 := fun e => by
        have := (hR.root hx e).2
        rw [h2.1] at this; cases this
      rw [do_ok (s := s) h3]
      exact ih _ (pimg_same h (img_drop hR h.img.pos hx1 h2.2)) h4
theorem pimg_con {t : Tr} {F : Int → Int} {bound : Int} (hb : 1 ≤ bound) : ∀ (f : Nat) (s : Ps), PImg t F s → RightP s.t → PImg t F (conF bound f s) := by
  intro f
  induction f with
  | zero => intro s h _; exact h
  | succ f ih =>
    intro s h hR
    rw [conF]
    by_cases c : (shortN s bound s.t.l).2 = true
    · rw [if_pos c]
      have hless := (short_less hR hb c).1
      refine ih _ ?_ hless
      rcases short_spec hR hb s.t.l (fun x hx => hx) with ⟨h1, _⟩ | ⟨x, hx, hg, hx1, ⟨k0, h1⟩ | ⟨kid, hk, h1⟩ | ⟨y, hy, e1, e2, e3, h1⟩⟩
      · rw [h1] at c; cases c
      · rw [h1]; exact pimg_same h (img_drop hR h.img.pos hx1 k0)
      · rw [h1]
        have hxp := hR.pos hx
        rcases kids_one hR hk with ⟨rfl, _, _⟩ | ⟨_, _, z, hz, e, _, e4, _⟩
        · exact pimg_one h (img_down hR h.img.pos hx hx1 hk) (.inl rfl) ⟨x, hx, rfl⟩ (show (0 : Int) ≠ x.id by omega)
        · exact pimg_one h (img_down hR h.img.pos hx hx1 hk) (.inr ⟨z, hz, e⟩) ⟨x, hx, rfl⟩ (show kid ≠ x.id by omega)
      · rw [h1] at hless ⊢
        exact pimg_one h (img_move hR h.img.pos hx hy e1 hx1 e3 hless) (.inr ⟨x, hx, rfl⟩) ⟨y, hy, rfl⟩ (show x.id ≠ y.id by have := (hR.parent hx hx1).2.1; omega)
    · rw [if_neg c]; exact h
/-- a plan's images: a deletion's, a consolidation's -/
theorem plan_images {t : Tr} {a : Ac} (hR : RightP t) {F : Int → Int} (hF : ∀ i, 0 ≤ F i) (h0 : (planN t a).2 = 0) (h6 : 6 ≤ pickN a.op 12) (h9 : pickN a.op 12 ≠ 9) (h11 : pickN a.op 12 ≠ 11) :
    (doneN t (planN t a).1.ss).2 = 0 ∧ RightP (doneN t (planN t a).1.ss).1 ∧ Img t F (doneN t (planN t a).1.ss).1 (mergesF F (planN t a).1.ms) ∧ ∀ m ∈ (planN t a).1.ms, (m.into = 0 ∨ ∃ x ∈ t.l, x.id = m.into) ∧ (∃ x ∈ t.l, x.id = m.frm) ∧ m.into ≠ m.frm := by
  obtain ⟨hP0, hP1⟩ := pickN_range a.op 12 (by decide)
  have fin : ∀ {d : Int} {s : Ps}, Plnd d t s → PImg t F s → (doneN t s.ss).2 = 0 ∧ RightP (doneN t s.ss).1 ∧ Img t F (doneN t s.ss).1 (mergesF F s.ms) ∧ ∀ m ∈ s.ms, (m.into = 0 ∨ ∃ x ∈ t.l, x.id = m.into) ∧ (∃ x ∈ t.l, x.id = m.frm) ∧ m.into ≠ m.frm := by
    intro d s h hi
    rw [h.done]
    exact ⟨rfl, h.right, hi.img, hi.ms⟩
  unfold planN at h0 ⊢
  rw [if_neg (by omega), if_neg (by omega)] at h0 ⊢
  by_cases c3 : pickN a.op 12 ≤ 8
  · rw [if_pos c3] at h0 ⊢
    unfold deleteN at h0 ⊢
    by_cases c : (nodeN t a.id).2 = 0
    · rw [if_pos c] at h0 ⊢
      obtain ⟨_, x, hx, hxe, hxg, hn⟩ := node_fine c
      by_cases d1 : a.id = 1
      · rw [if_pos d1] at h0; cases h0
      rw [if_neg d1] at h0 ⊢
      by_cases d2 : (nodeN t a.id).1.pin = true
      · rw [if_pos d2] at h0; cases h0
      rw [if_neg d2] at h0 ⊢
      rw [hn]
      rw [← hxe] at d1 ⊢
      by_cases d3 : (kidsN t.l t.lv x.id).length = 0
      · rw [if_pos d3]
        have ha := apply_drop hR hx d1 d3
        have hd := do_ok (s := ⟨t, [], []⟩) ha
        have hp := plnd_step (ms := []) (plnd_nil x.id hR) ha (rel_drop (fun y hy e => .inr rfl))
        obtain ⟨k1, k2⟩ := plnd_clear (dropT t x.id).l.length _ hp
        have q1 : PImg t F ⟨dropT t x.id, [], [] ++ [st3 3 x.id 0]⟩ := pimg_same (s := ⟨t, [], []⟩) (pimg_nil hF) (img_drop hR hF d1 d3)
        have q2 := pimg_clear (dropT t x.id).l.length _ q1 hp.right
        unfold planC
        rw [hd]
        exact fin k1 q2
      rw [if_neg d3]
      by_cases d4 : (kidsN t.l t.lv x.id).length = 1
      · rw [if_pos d4]
        have hk := one_list d4
        have hd := down_ok (s := ⟨t, [], []⟩) hR hx d1 hk
        have hp := plnd_down (ms := [] ++ [⟨(kidsN t.l t.lv x.id).getD 0 0, x.id⟩]) (plnd_nil x.id hR) hx d1 (.inr rfl) hk
        have q1 : PImg t F ⟨downT t x ((kidsN t.l t.lv x.id).getD 0 0), [] ++ [⟨(kidsN t.l t.lv x.id).getD 0 0, x.id⟩], [] ++ [downS x ((kidsN t.l t.lv x.id).getD 0 0), st3 3 x.id 0]⟩ := by
          have hxp := hR.pos hx
          rcases kids_one hR hk with ⟨e, _, _⟩ | ⟨_, _, z, hz, e, _, e4, _⟩
          · exact pimg_one (s := ⟨t, [], []⟩) (pimg_nil hF) (img_down hR hF hx d1 hk) (.inl e) ⟨x, hx, rfl⟩ (show (kidsN t.l t.lv x.id).getD 0 0 ≠ x.id by omega)
          · exact pimg_one (s := ⟨t, [], []⟩) (pimg_nil hF) (img_down hR hF hx d1 hk) (.inr ⟨z, hz, e⟩) ⟨x, hx, rfl⟩ (show (kidsN t.l t.lv x.id).getD 0 0 ≠ x.id by omega)
        unfold planS
        rw [hd]
        exact fin hp q1
      · rw [if_neg d4]
        have ha := apply_ghost hR hx d1 hxg
        have hd := do_ok (s := ⟨t, [], []⟩) ha
        have hp := plnd_step (ms := []) (plnd_nil x.id hR) ha (rel_ghost t x.id).1
        have q1 : PImg t F ⟨ghostT t x.id, [], [] ++ [st3 2 x.id 0]⟩ := pimg_same (s := ⟨t, [], []⟩) (pimg_nil hF) (img_ghost hR hF hp.right)
        unfold planS
        rw [hd]
        exact fin hp q1
    · rw [if_neg c] at h0
      exact absurd h0 c
  rw [if_neg c3, if_neg h9] at h0 ⊢
  have c10 : pickN a.op 12 = 10 := by omega
  rw [if_pos c10] at h0 ⊢
  unfold consN at h0 ⊢
  by_cases c : rightN t = false ∨ a.n < 1
  · rw [if_pos c] at h0; cases h0
  · rw [if_neg c]
    have hb : 1 ≤ a.n := by
      have : ¬ a.n < 1 := fun h => c (.inr h)
      omega
    obtain ⟨k1, k2⟩ := plnd_con hb (mea t.l) ⟨t, [], []⟩ (plnd_nil 0 hR) (Nat.le_refl _)
    exact fin k1 (pimg_con hb (mea t.l) ⟨t, [], []⟩ (pimg_nil hF) hR)
end Go.Proofs.YtfdhehjfbcddgaaDoor.Pr
end
section
namespace Go.Proofs.YtfdhehjfbcddgaaDoor.Pr
open Go.RowKit Go.Proofs.YtfdhehjfbcddgaaDoorW.PrintWords Go.Proofs.YtfdhehjfbcddgaaDoorW.PrintLast Go.Proofs.YtfdhehjfbcddgaaDoor
set_option linter.unusedVariables false
/-- a row of 80 numbers in a block -/
def rowI (M : List Int) : Array Value := (M.map fun v => Value.int .i64 v).toArray
def mG (M : List Int) (i : Int) : Int := if 0 ≤ i then M.getD i.toNat 0 else 0
theorem rowI_at {M : List Int} {i : Nat} (h : i < M.length) : (rowI M)[i]? = some (.int .i64 (mG M (i : Int))) := by
  unfold rowI mG
  rw [if_pos (by omega)]
  simp [h]
theorem rowI_set (M : List Int) (i : Nat) (v : Int) : (rowI M).setIfInBounds i (.int .i64 v) = rowI (M.set i v) := by
  unfold rowI
  simp [List.map_set]
theorem mG_set {M : List Int} {i : Nat} (h : i < M.length) (v : Int) (k : Int) : mG (M.set i v) k = if k = (i : Int) then v else mG M k := by
  unfold mG
  by_cases c : 0 ≤ k
  · rw [if_pos c, if_pos c]
    by_cases e : k = (i : Int)
    · subst e
      rw [if_pos rfl]
      simp [h]
    · rw [if_neg e]
      have : i ≠ k.toNat := by omega
      simp [List.getElem?_set_ne this]
  · rw [if_neg c, if_neg c, if_neg (by omega)]
set_option maxRecDepth 100000 in
set_option maxHeartbeats 8000000 in
theorem through_any (A : Option Addr) (cap : Nat) (l : List Nd) (lv nx nw : Int) (gm : Nat) (M : List Int) (a : Int) (w : World) (hl : l.length ≤ 1000000) (hr : NodesAt w A l) (hM : Blk w gm 3 (rowI M)) (hlen : M.length = 80)
    (hid : ∀ x ∈ l, 0 ≤ x.par ∧ x.par < 80) (ha : 0 ≤ a ∧ a < 80) (hlv : 0 ≤ lv ∧ lv < 80) :
    Calls Tryd.prog 20 #[.agg #[.slice A l.length cap, .int .i64 lv, .int .i64 nx, .int .u64 nw], .slice (some ⟨gm, 0, none⟩) 80 80, .int .i64 a] w fun e w' => e = .returned (.int .i64 (thrN ⟨l, lv, nx, nw⟩ (mG M) a)) ∧ Below w.heap.size w w' := by
  have hbel : Below w.heap.size w (w.alloc (.cells #[.slice A l.length cap, .int .i64 lv, .int .i64 nx, .int .u64 nw] 28)) := (Below.refl _ _).alloc (Nat.le_refl _) _
  have hk0 := Blk.new w 28 #[.slice A l.length cap, .int .i64 lv, .int .i64 nx, .int .u64 nw]
  have hr0 := hr.below hbel
  have hm0 := hM.below hbel hM.lt
  have hfind := fun (q : Int) (w1 : World) (h1 : NodesAt w1 A l) => find_any A cap l lv nx nw q w1 hl h1
  obtain ⟨D, hD⟩ : ∃ D, thrN ⟨l, lv, nx, nw⟩ (mG M) a = D := ⟨_, rfl⟩
  have hDD : D = if a = 0 then (if 0 < mG M 0 then mG M 0 else rdF l (mG M) 80 lv) else rdF l (mG M) 80 a := hD.symm
  rw [hD]
  obtain ⟨n, hn⟩ : ∃ n, l.length = n := ⟨_, rfl⟩
  rw [hn] at hl hbel hk0 hr0 hm0 hfind ⊢
  obtain ⟨q, hq⟩ : ∃ q : Nat, a = (q : Int) := ⟨a.toNat, by omega⟩
  obtain ⟨lq, hlq⟩ : ∃ lq : Nat, lv = (lq : Int) := ⟨lv.toNat, by omega⟩
  subst hq hlq
  have hq80 : q < 80 := by omega
  have hl80 : lq < 80 := by omega
  have hcell : ∀ (w1 : World) (i : Nat), Blk w1 gm 3 (rowI M) → i < 80 → w1.cell? ⟨gm, i, none⟩ = some (.int .i64 (mG M (i : Int))) := fun w1 i hb hi => (hb.cell i).trans (rowI_at (by omega))
  have HCE := Lib.hid hcell
  have HF := Lib.hid hfind
  have HDD := Lib.hid hDD
  have HID := Lib.hid hid
  clear hr hM hfind hD hDD hid ha hlv hn hcell
  go_enter Tryd.func20, Tryd.ntmps20
  go_upto_region 1 with fail
  generalize (w.alloc (.cells #[.slice A n cap, .int .i64 (lq : Int), .int .i64 nx, .int .u64 nw] 28)) = w0 at hbel hk0 hr0 hm0 ⊢
  have t0 : w0.cell? ⟨w.heap.size, 0, none⟩ = some (.slice A n cap) := (hk0.cell 0).trans rfl
  have t1 : w0.cell? ⟨w.heap.size, 1, none⟩ = some (.int .i64 (lq : Int)) := (hk0.cell 1).trans rfl
  have t2 : w0.cell? ⟨w.heap.size, 2, none⟩ = some (.int .i64 nx) := (hk0.cell 2).trans rfl
  have t3 : w0.cell? ⟨w.heap.size, 3, none⟩ = some (.int .u64 nw) := (hk0.cell 3).trans rfl
  have HB := Lib.hid hbel
  have HK := Lib.hid hk0
  have HR := Lib.hid hr0
  have HM := Lib.hid hm0
  clear hbel hk0 hr0 hm0
  by_cases hq0 : q = 0
  · subst hq0
    have z0 : w0.cell? ⟨gm, 0, none⟩ = some (.int .i64 (mG M 0)) := HCE.out w0 0 HM.out (by decide)
    obtain ⟨m0, hm0⟩ : ∃ m0, mG M 0 = m0 := ⟨_, rfl⟩
    have hdd := HDD.out
    rw [if_pos (by rfl), hm0] at hdd
    rw [hm0] at z0
    clear HDD hm0
    by_cases hp : 0 < m0
    · rw [if_pos hp] at hdd
      have HD2 := Lib.hid hdd
      clear hdd
      go_wp2_with fail
      rw [HD2.out]
      go_ret
      exact ⟨rfl, HB.out⟩
    · rw [if_neg hp] at hdd
      have HD2 := Lib.hid (show rdF l (mG M) 80 (lq : Int) = D from hdd.symm)
      clear hdd
      go_wp2_with fail
      go_loopg [2, 7] 80 (fun k v2 v7 wr => ∃ (j p : Nat), j + k = 80 ∧ v2 = .int .i64 (p : Int) ∧ v7 = .int .i64 (j : Int) ∧ p < 80 ∧ Hid (rdF l (mG M) k (p : Int) = D) ∧ Hid (Below w0.heap.size w0 wr))
      case atStart => exact ⟨0, lq, by omega, rfl, rfl, by omega, HD2, Lib.hid (Below.refl _ _)⟩
      case round =>
        clear HD2 z0 t0 t1 t2 t3
        obtain ⟨j, p, hjk, rfl, rfl, hp80, hD3, hX⟩ := hrel
        have k0 := HK.out.below hX.out HK.out.lt
        have km := HM.out.below hX.out HM.out.lt
        have rn := HR.out.below hX.out
        by_cases hlt : j < 80
        · obtain ⟨k', hk'⟩ : ∃ k', gk = k' + 1 := ⟨gk - 1, by omega⟩
          have hd := hD3.out
          rw [hk', rdF] at hd
          obtain ⟨⟨⟨x0, x1, x2, x3, x4, x5⟩, is⟩, hfx⟩ : ∃ r, findN l (p : Int) = r := ⟨_, rfl⟩
          have hmem : is = true → 0 ≤ x1 ∧ x1 < 80 := fun h => by
            have h1 := find_some (find_iff.1 (show (findN l (p : Int)).2 = true by rw [hfx]; exact h))
            rw [hfx] at h1
            exact HID.out _ h1.2.1
          have hfc := HF.out (p : Int) wr rn
          rw [hfx] at hd hfc
          unfold valN at hfc
          dsimp only at hd hfc
          have HFC := Lib.hid hfc
          have HDD := Lib.hid hd
          have HME := Lib.hid hmem
          have hgk : 0 < gk := by omega
          have hk1 : k' = gk - 1 := by omega
          have HK1 := Lib.hid hk1
          have t0 : wr.cell? ⟨w.heap.size, 0, none⟩ = some (.slice A n cap) := (k0.cell 0).trans rfl
          have t1 : wr.cell? ⟨w.heap.size, 1, none⟩ = some (.int .i64 (lq : Int)) := (k0.cell 1).trans rfl
          have t2 : wr.cell? ⟨w.heap.size, 2, none⟩ = some (.int .i64 nx) := (k0.cell 2).trans rfl
          have t3 : wr.cell? ⟨w.heap.size, 3, none⟩ = some (.int .u64 nw) := (k0.cell 3).trans rfl
          have KM := Lib.hid km
          clear k0 km rn hd hfc hfx hmem hk' hk1 hD3
          go_wp2_with fail
          refine HFC.out.mono ?_
          rintro e w3 ⟨rfl, hb3⟩
          have hbx := hb3.alloc hb3.size (.cells #[.int .i64 x0, .int .i64 x1, .string x2, .int .u64 x3, .bool x4, .bool x5] 42)
          have hx := Blk.new w3 42 #[.int .i64 x0, .int .i64 x1, .string x2, .int .u64 x3, .bool x4, .bool x5]
          obtain ⟨g, hg⟩ : ∃ g, g = w3.heap.size := ⟨_, rfl⟩
          have HG := Lib.hid hg
          clear t0 t1 t2 t3 HFC hb3 hg
          go_upto_region 9 with fail
          rw [← HG.out] at hx ⊢
          generalize (w3.alloc (.cells #[.int .i64 x0, .int .i64 x1, .string x2, .int .u64 x3, .bool x4, .bool x5] 42)) = w4 at hbx hx ⊢
          have km4 := KM.out.below hbx KM.out.lt
          have zp : w4.cell? ⟨gm, p, none⟩ = some (.int .i64 (mG M (p : Int))) := HCE.out w4 p km4 hp80
          have c1 : w4.cell? ⟨g, 1, none⟩ = some (.int .i64 x1) := (hx.cell 1).trans rfl
          have HBX := Lib.hid (hX.out.trans (hbx.mono hX.out.size))
          obtain ⟨mp, hmp⟩ : ∃ mp, mG M (p : Int) = mp := ⟨_, rfl⟩
          have hdd := HDD.out
          rw [hmp] at zp hdd
          clear km4 hx hbx HG hmp HDD
          cases is with
          | false =>
            rw [if_pos (.inl rfl)] at hdd
            have HD4 := Lib.hid hdd.symm
            clear hdd
            go_wp2_with fail
            rw [HD4.out]
            go_ret
            exact ⟨rfl, HB.out.trans (HBX.out.mono HB.out.size)⟩
          | true =>
            by_cases hp : 0 < mp
            · rw [if_pos (.inr hp)] at hdd
              have HD4 := Lib.hid hdd.symm
              have hpb : decide (0 < mp) = true := decide_eq_true hp
              clear hdd
              go_wp2_with fail
              rw [HD4.out]
              go_ret
              exact ⟨rfl, HB.out.trans (HBX.out.mono HB.out.size)⟩
            · rw [if_neg (by simp [hp])] at hdd
              have hpb : decide (0 < mp) = false := decide_eq_false hp
              obtain ⟨hx1, hx2⟩ := HME.out rfl
              obtain ⟨r, hr⟩ : ∃ r : Nat, x1 = (r : Int) := ⟨x1.toNat, by omega⟩
              subst hr
              by_cases hr0 : r = 0
              · subst hr0
                rw [if_pos (by rfl)] at hdd
                have HD4 := Lib.hid hdd.symm
                clear hdd
                go_wp2_with fail
                rw [HD4.out]
                go_ret
                exact ⟨rfl, HB.out.trans (HBX.out.mono HB.out.size)⟩
              · rw [if_neg (by omega), HK1.out] at hdd
                have HD4 := Lib.hid hdd
                have hri : ((r : Int) == 0) = false := by rw [beq_eq_false_iff_ne]; omega
                clear hdd
                go_wp2_with fail
                go_roundg (gk - 1)
                case measure => omega
                case rel => exact ⟨j + 1, r, by omega, rfl, by go_num, by omega, HD4, HBX⟩
        · have hj : j = 80 := by omega
          subst hj
          have hgk : gk = 0 := by omega
          have hd := hD3.out
          rw [hgk, rdF] at hd
          have HD4 := Lib.hid hd.symm
          clear hd hD3 k0 km rn hgk
          go_wp2_with fail
          rw [HD4.out]
          go_ret
          exact ⟨rfl, HB.out.trans (hX.out.mono HB.out.size)⟩
  · have hdd := HDD.out
    rw [if_neg (by omega)] at hdd
    have HD2 := Lib.hid (show rdF l (mG M) 80 (q : Int) = D from hdd.symm)
    have hqi : ((q : Int) == 0) = false := by rw [beq_eq_false_iff_ne]; omega
    clear HDD hdd
    go_wp2_with fail
    go_loopg [2, 7] 80 (fun k v2 v7 wr => ∃ (j p : Nat), j + k = 80 ∧ v2 = .int .i64 (p : Int) ∧ v7 = .int .i64 (j : Int) ∧ p < 80 ∧ Hid (rdF l (mG M) k (p : Int) = D) ∧ Hid (Below w0.heap.size w0 wr))
    case atStart => exact ⟨0, q, by omega, rfl, rfl, by omega, HD2, Lib.hid (Below.refl _ _)⟩
    case round =>
      clear HD2 t0 t1 t2 t3
      obtain ⟨j, p, hjk, rfl, rfl, hp80, hD3, hX⟩ := hrel
      have k0 := HK.out.below hX.out HK.out.lt
      have km := HM.out.below hX.out HM.out.lt
      have rn := HR.out.below hX.out
      by_cases hlt : j < 80
      · obtain ⟨k', hk'⟩ : ∃ k', gk = k' + 1 := ⟨gk - 1, by omega⟩
        have hd := hD3.out
        rw [hk', rdF] at hd
        obtain ⟨⟨⟨x0, x1, x2, x3, x4, x5⟩, is⟩, hfx⟩ : ∃ r, findN l (p : Int) = r := ⟨_, rfl⟩
        have hmem : is = true → 0 ≤ x1 ∧ x1 < 80 := fun h => by
          have h1 := find_some (find_iff.1 (show (findN l (p : Int)).2 = true by rw [hfx]; exact h))
          rw [hfx] at h1
          exact HID.out _ h1.2.1
        have hfc := HF.out (p : Int) wr rn
        rw [hfx] at hd hfc
        unfold valN at hfc
        dsimp only at hd hfc
        have HFC := Lib.hid hfc
        have HDD := Lib.hid hd
        have HME := Lib.hid hmem
        have hgk : 0 < gk := by omega
        have hk1 : k' = gk - 1 := by omega
        have HK1 := Lib.hid hk1
        have t0 : wr.cell? ⟨w.heap.size, 0, none⟩ = some (.slice A n cap) := (k0.cell 0).trans rfl
        have t1 : wr.cell? ⟨w.heap.size, 1, none⟩ = some (.int .i64 (lq : Int)) := (k0.cell 1).trans rfl
        have t2 : wr.cell? ⟨w.heap.size, 2, none⟩ = some (.int .i64 nx) := (k0.cell 2).trans rfl
        have t3 : wr.cell? ⟨w.heap.size, 3, none⟩ = some (.int .u64 nw) := (k0.cell 3).trans rfl
        have KM := Lib.hid km
        clear k0 km rn hd hfc hfx hmem hk' hk1 hD3
        go_wp2_with fail
        refine HFC.out.mono ?_
        rintro e w3 ⟨rfl, hb3⟩
        have hbx := hb3.alloc hb3.size (.cells #[.int .i64 x0, .int .i64 x1, .string x2, .int .u64 x3, .bool x4, .bool x5] 42)
        have hx := Blk.new w3 42 #[.int .i64 x0, .int .i64 x1, .string x2, .int .u64 x3, .bool x4, .bool x5]
        obtain ⟨g, hg⟩ : ∃ g, g = w3.heap.size := ⟨_, rfl⟩
        have HG := Lib.hid hg
        clear t0 t1 t2 t3 HFC hb3 hg
        go_upto_region 9 with fail
        rw [← HG.out] at hx ⊢
        generalize (w3.alloc (.cells #[.int .i64 x0, .int .i64 x1, .string x2, .int .u64 x3, .bool x4, .bool x5] 42)) = w4 at hbx hx ⊢
        have km4 := KM.out.below hbx KM.out.lt
        have zp : w4.cell? ⟨gm, p, none⟩ = some (.int .i64 (mG M (p : Int))) := HCE.out w4 p km4 hp80
        have c1 : w4.cell? ⟨g, 1, none⟩ = some (.int .i64 x1) := (hx.cell 1).trans rfl
        have HBX := Lib.hid (hX.out.trans (hbx.mono hX.out.size))
        obtain ⟨mp, hmp⟩ : ∃ mp, mG M (p : Int) = mp := ⟨_, rfl⟩
        have hdd := HDD.out
        rw [hmp] at zp hdd
        clear km4 hx hbx HG hmp HDD
        cases is with
        | false =>
          rw [if_pos (.inl rfl)] at hdd
          have HD4 := Lib.hid hdd.symm
          clear hdd
          go_wp2_with fail
          rw [HD4.out]
          go_ret
          exact ⟨rfl, HB.out.trans (HBX.out.mono HB.out.size)⟩
        | true =>
          by_cases hp : 0 < mp
          · rw [if_pos (.inr hp)] at hdd
            have HD4 := Lib.hid hdd.symm
            have hpb : decide (0 < mp) = true := decide_eq_true hp
            clear hdd
            go_wp2_with fail
            rw [HD4.out]
            go_ret
            exact ⟨rfl, HB.out.trans (HBX.out.mono HB.out.size)⟩
          · rw [if_neg (by simp [hp])] at hdd
            have hpb : decide (0 < mp) = false := decide_eq_false hp
            obtain ⟨hx1, hx2⟩ := HME.out rfl
            obtain ⟨r, hr⟩ : ∃ r : Nat, x1 = (r : Int) := ⟨x1.toNat, by omega⟩
            subst hr
            by_cases hr0 : r = 0
            · subst hr0
              rw [if_pos (by rfl)] at hdd
              have HD4 := Lib.hid hdd.symm
              clear hdd
              go_wp2_with fail
              rw [HD4.out]
              go_ret
              exact ⟨rfl, HB.out.trans (HBX.out.mono HB.out.size)⟩
            · rw [if_neg (by omega), HK1.out] at hdd
              have HD4 := Lib.hid hdd
              have hri : ((r : Int) == 0) = false := by rw [beq_eq_false_iff_ne]; omega
              clear hdd
              go_wp2_with fail
              go_roundg (gk - 1)
              case measure => omega
              case rel => exact ⟨j + 1, r, by omega, rfl, by go_num, by omega, HD4, HBX⟩
      · have hj : j = 80 := by omega
        subst hj
        have hgk : gk = 0 := by omega
        have hd := hD3.out
        rw [hgk, rdF] at hd
        have HD4 := Lib.hid hd.symm
        clear hd hD3 k0 km rn hgk
        go_wp2_with fail
        rw [HD4.out]
        go_ret
        exact ⟨rfl, HB.out.trans (hX.out.mono HB.out.size)⟩
end Go.Proofs.YtfdhehjfbcddgaaDoor.Pr
end
section
namespace Go.Proofs.YtfdhehjfbcddgaaDoor.Pr
open Go.RowKit Go.Proofs.YtfdhehjfbcddgaaDoorW.PrintWords Go.Proofs.YtfdhehjfbcddgaaDoorW.PrintLast Go.Proofs.YtfdhehjfbcddgaaDoor
set_option linter.unusedVariables false
/-! ## numbers grow by one at most -/
def Calm (s : St) : Prop := s.kind ≠ 1 ∧ (s.kind = 6 → s.b = 0)
theorem apply_calm {t : Tr} {s : St} (h0 : (applyN t s).2 = 0) (hc : Calm s) : (applyN t s).1.nx = t.nx := by
  have hR := (apply_right h0).1
  have hnx := hR.nx_pos
  unfold applyN at h0 ⊢
  split at h0
  · cases h0
  rename_i c0
  rw [if_neg c0]
  rw [if_neg hc.1] at h0 ⊢
  by_cases k4 : s.kind = 4
  · rw [if_pos k4] at h0 ⊢
    unfold moveN at h0 ⊢
    split at h0
    · cases h0
    rename_i c1
    rw [if_neg c1]
    split at h0
    · cases h0
    rename_i c2
    rw [if_neg c2]
    split at h0
    · cases h0
    rename_i c3
    rw [if_neg c3]
    rfl
  rw [if_neg k4] at h0 ⊢
  split at h0
  · cases h0
  rename_i c5
  rw [if_neg c5]
  split at h0
  · cases h0
  rename_i c6
  rw [if_neg c6]
  by_cases k6 : s.kind = 6
  · rw [if_pos k6]
    have := hc.2 k6
    show max t.nx s.b = t.nx
    omega
  rw [if_neg k6] at h0 ⊢
  by_cases k7 : s.kind = 7
  · rw [if_pos k7]
  rw [if_neg k7] at h0 ⊢
  unfold changeN at h0 ⊢
  split at h0
  · cases h0
  rename_i c7
  rw [if_neg c7]
  split at h0
  · cases h0
  rename_i c8
  rw [if_neg c8]
  split at h0
  · cases h0
  rename_i c9
  rw [if_neg c9]
  by_cases k3 : s.kind = 3
  · rw [if_pos k3]
  rw [if_neg k3] at h0 ⊢
  by_cases k2 : s.kind = 2
  · rw [if_pos k2]; rfl
  rw [if_neg k2] at h0 ⊢
  split at h0
  · cases h0
  rename_i c10
  rw [if_neg c10]; rfl
theorem done_calm : ∀ (ss : List St) (t : Tr), (∀ s ∈ ss, Calm s) → (doneN t ss).1.nx = t.nx := by
  intro ss
  induction ss with
  | nil => intro t _; rfl
  | cons s ss ih =>
    intro t h
    rw [done_on]
    split
    · rename_i h0
      rw [ih _ (fun x hx => h x (by simp [hx])), apply_calm h0 (h s (by simp))]
    · rfl
def CalmP (s : Ps) : Prop := ∀ x ∈ s.ss, Calm x
theorem calm_do {s : Ps} (h : CalmP s) {a b c : Int} (h1 : a ≠ 1) (h6 : a = 6 → c = 0) : CalmP (doN s (st3 a b c)) := by
  unfold doN
  split
  · intro x hx
    rcases List.mem_append.1 hx with hx | hx
    · exact h x hx
    · rw [List.mem_singleton] at hx; subst hx; exact ⟨h1, h6⟩
  · exact h
theorem calm_down {s : Ps} (h : CalmP s) (x : Nd) (kid : Int) : CalmP (downN s x kid) := by
  unfold downN
  refine calm_do ?_ (by decide) (by decide)
  split
  · exact calm_do (s := ⟨s.t, s.ms ++ [⟨kid, x.id⟩], s.ss⟩) (a := 6) (b := x.par) (c := 0) h (by decide) (fun _ => rfl)
  · exact calm_do (s := ⟨s.t, s.ms ++ [⟨kid, x.id⟩], s.ss⟩) (a := 4) (b := kid) (c := x.par) h (by decide) (fun hh => absurd hh (by decide))
theorem calm_clear : ∀ (f : Nat) (s : Ps), CalmP s → CalmP (clearN f s) := by
  intro f
  induction f with
  | zero => intro s h; exact h
  | succ f ih =>
    intro s h
    rw [clearN]
    split
    · exact h
    · exact ih _ (calm_do h (by decide) (by decide))
theorem calm_short {s : Ps} (h : CalmP s) (bound : Int) : ∀ l' : List Nd, CalmP (shortN s bound l').1 := by
  intro l'
  induction l' with
  | nil => exact h
  | cons x l' ih =>
    rw [shortN]
    split
    · exact ih
    split
    · exact calm_do h (by decide) (by decide)
    split
    · exact calm_down h _ _
    split
    · exact calm_do (s := ⟨s.t, s.ms ++ [⟨x.id, (findN s.t.l x.par).1.id⟩], s.ss⟩) (a := 4) (b := x.id) (c := (findN s.t.l x.par).1.par) h (by decide) (fun hh => absurd hh (by decide))
    · exact ih
theorem calm_con (bound : Int) : ∀ (f : Nat) (s : Ps), CalmP s → CalmP (conF bound f s) := by
  intro f
  induction f with
  | zero => intro s h; exact h
  | succ f ih =>
    intro s h
    rw [conF]
    split
    · exact ih _ (calm_short h bound _)
    · exact h
theorem calm_nil (t : Tr) : CalmP ⟨t, [], []⟩ := fun x hx => by cases hx
theorem calm_zero : ∀ s ∈ zP.ss, Calm s := fun x hx => by cases hx
theorem plan_calm (t : Tr) (a : Ac) (h3 : ¬ pickN a.op 12 ≤ 3) : ∀ s ∈ (planN t a).1.ss, Calm s := by
  unfold planN
  rw [if_neg h3]
  split
  · unfold revertN
    split
    · exact calm_clear _ _ (calm_do (calm_nil t) (by decide) (fun _ => rfl))
    · exact calm_zero
  split
  · unfold deleteN
    split
    · split
      · exact calm_zero
      split
      · exact calm_zero
      split
      · exact calm_clear _ _ (calm_do (calm_nil t) (by decide) (by decide))
      split
      · exact calm_down (calm_nil t) _ _
      · exact calm_do (calm_nil t) (by decide) (by decide)
    · exact calm_zero
  split
  · intro s hs
    rw [List.mem_singleton] at hs; subst hs
    exact ⟨by show (5 : Int) ≠ 1; decide, fun h => absurd h (by show ¬ (5 : Int) = 6; decide)⟩
  split
  · unfold consN
    split
    · exact calm_zero
    · exact calm_con _ _ _ (calm_nil t)
  · intro s hs
    rw [List.mem_singleton] at hs; subst hs
    exact ⟨by show (7 : Int) ≠ 1; decide, fun h => absurd h (by show ¬ (7 : Int) = 6; decide)⟩
theorem grow_nx (t : Tr) (a : Ac) : (growN t a).nx ≤ t.nx + 1 := by
  unfold growN
  split
  · rename_i c
    by_cases h3 : pickN a.op 12 ≤ 3
    · have e : planN t a = snapN t a.name := by unfold planN; rw [if_pos h3]
      rw [e] at c ⊢
      obtain ⟨_, _, g3, _⟩ := snap_good c.1
      rw [g3]
      exact Int.le_refl _
    · rw [done_calm _ _ (plan_calm t a h3)]; omega
  · omega
theorem grown_nx : ∀ (l : List Ac) (t : Tr), (l.foldl growN t).nx ≤ t.nx + l.length := by
  intro l
  induction l with
  | nil => intro t; exact Int.le_of_eq (by simp)
  | cons a l ih =>
    intro t
    have h1 := ih (growN t a)
    have h2 := grow_nx t a
    rw [List.foldl_cons, List.length_cons]
    omega
/-! ## merges are not too many -/
theorem do_ms (s : Ps) (st : St) : (doN s st).ms = s.ms := (do_len s st).2
theorem down_ms (s : Ps) (x : Nd) (kid : Int) : (downN s x kid).ms = s.ms ++ [⟨kid, x.id⟩] := by
  unfold downN
  rw [do_ms, do_ms]
theorem clear_ms : ∀ (f : Nat) (s : Ps), (clearN f s).ms = s.ms := by
  intro f
  induction f with
  | zero => intro s; rfl
  | succ f ih =>
    intro s
    rw [clearN]
    split
    · rfl
    · rw [ih, do_ms]
theorem short_ms (s : Ps) (bound : Int) : ∀ l' : List Nd, (shortN s bound l').1.ms.length ≤ s.ms.length + 1 := by
  intro l'
  induction l' with
  | nil => exact Nat.le_succ _
  | cons x l' ih =>
    rw [shortN]
    split
    · exact ih
    split
    · dsimp only; rw [do_ms]; exact Nat.le_succ _
    split
    · dsimp only; rw [down_ms, List.length_append]; exact Nat.le_refl _
    split
    · dsimp only; rw [do_ms, List.length_append]; exact Nat.le_refl _
    · exact ih
theorem con_ms (bound : Int) : ∀ (f : Nat) (s : Ps), (conF bound f s).ms.length ≤ s.ms.length + f := by
  intro f
  induction f with
  | zero => intro s; exact Nat.le_refl _
  | succ f ih =>
    intro s
    rw [conF]
    split
    · have h1 := ih (shortN s bound s.t.l).1
      have h2 := short_ms s bound s.t.l
      omega
    · omega
theorem plan_ms {t : Tr} {a : Ac} (h : RightP t) : (planN t a).1.ms.length ≤ 128849018880 := by
  unfold planN
  split
  · unfold snapN
    split
    · exact Nat.zero_le _
    split <;> exact Nat.zero_le _
  split
  · unfold revertN
    split
    · unfold planC; dsimp only; rw [clear_ms, do_ms]; exact Nat.zero_le _
    · exact Nat.zero_le _
  split
  · unfold deleteN
    split
    · split
      · exact Nat.zero_le _
      split
      · exact Nat.zero_le _
      split
      · unfold planC; dsimp only; rw [clear_ms, do_ms]; exact Nat.zero_le _
      split
      · unfold planS; dsimp only; rw [down_ms]; show (1 : Nat) ≤ _; decide
      · unfold planS; dsimp only; rw [do_ms]; exact Nat.zero_le _
    · exact Nat.zero_le _
  split
  · exact Nat.zero_le _
  split
  · unfold consN
    split
    · exact Nat.zero_le _
    · have h1 := con_ms a.n (mea t.l) ⟨t, [], []⟩
      have h2 := mea_right h
      dsimp only at h1 ⊢
      simp only [List.length_nil] at h1
      omega
  · exact Nat.zero_le _
/-! ## the row of numbers -/
def mJ (own : List Bool) (j : Nat) : List Int := (List.range 80).map fun i => if i < j ∧ own.getD i false = true then (i : Int) + 1 else 0
theorem mJ_len (own : List Bool) (j : Nat) : (mJ own j).length = 80 := by unfold mJ; simp
theorem mJ_get (own : List Bool) (j i : Nat) (h : i < (mJ own j).length) : (mJ own j)[i] = if i < j ∧ own.getD i false = true then (i : Int) + 1 else 0 := by
  simp only [mJ, List.getElem_map, List.getElem_range]
theorem mJ_zero (own : List Bool) : mJ own 0 = List.replicate 80 0 := by
  apply List.ext_getElem
  · rw [mJ_len]; simp
  · intro i h1 h2
    rw [mJ_get, List.getElem_replicate, if_neg (fun h => by omega)]
theorem mJ_step (own : List Bool) (j : Nat) (hj : j < 80) : mJ own (j + 1) = if own.getD j false = true then (mJ own j).set j ((j : Int) + 1) else mJ own j := by
  by_cases c : own.getD j false = true
  · rw [if_pos c]
    apply List.ext_getElem
    · rw [mJ_len, List.length_set, mJ_len]
    · intro i h1 h2
      rw [List.getElem_set, mJ_get]
      by_cases e : j = i
      · subst e
        rw [if_pos ⟨by omega, c⟩, if_pos rfl]
      · rw [if_neg e, mJ_get]
        by_cases c2 : own.getD i false = true
        · by_cases c3 : i < j
          · rw [if_pos ⟨by omega, c2⟩, if_pos ⟨c3, c2⟩]
          · rw [if_neg (fun h => by omega), if_neg (fun h => by omega)]
        · rw [if_neg (fun h => c2 h.2), if_neg (fun h => c2 h.2)]
  · rw [if_neg c]
    apply List.ext_getElem
    · rw [mJ_len, mJ_len]
    · intro i h1 h2
      rw [mJ_get, mJ_get]
      by_cases e : i = j
      · subst e
        rw [if_neg (fun h => c h.2), if_neg (fun h => c h.2)]
      · by_cases c2 : own.getD i false = true
        · by_cases c3 : i < j
          · rw [if_pos ⟨by omega, c2⟩, if_pos ⟨c3, c2⟩]
          · rw [if_neg (fun h => by omega), if_neg (fun h => by omega)]
        · rw [if_neg (fun h => c2 h.2), if_neg (fun h => c2 h.2)]
theorem mJ_pos (own : List Bool) (j : Nat) : ∀ i, 0 ≤ mG (mJ own j) i := by
  intro i
  unfold mG
  split
  · by_cases c : i.toNat < 80
    · rw [List.getD_eq_getElem?_getD, List.getElem?_eq_getElem (by rw [mJ_len]; exact c)]
      rw [Option.getD_some, mJ_get]
      split <;> omega
    · rw [List.getD_eq_getElem?_getD, List.getElem?_eq_none (by rw [mJ_len]; omega)]
      exact Int.le_refl _
  · exact Int.le_refl _
theorem made_row : madeCells #[Value.int .i64 0] 80 = rowI (List.replicate 80 0) := by kernel_rfl
def mergeL (M : List Int) (m : Mg) : List Int := if mG M m.into = 0 then M.set m.into.toNat (mG M m.frm) else M
theorem mergeL_len (M : List Int) (m : Mg) : (mergeL M m).length = M.length := by
  unfold mergeL
  split
  · rw [List.length_set]
  · rfl
theorem mG_merge {M : List Int} {m : Mg} (h : 0 ≤ m.into) (h2 : m.into < M.length) : mG (mergeL M m) = mergeF (mG M) m := by
  funext i
  unfold mergeL mergeF
  by_cases c : mG M m.into = 0
  · rw [if_pos c, mG_set (by omega)]
    have e : ((m.into.toNat : Nat) : Int) = m.into := by omega
    rw [e]
    by_cases c2 : i = m.into
    · rw [if_pos c2, if_pos ⟨c2, c⟩]
    · rw [if_neg c2, if_neg (fun h => c2 h.1)]
  · rw [if_neg c, if_neg (fun h => c h.2)]
theorem mG_merges : ∀ (ms : List Mg) (M : List Int), (∀ m ∈ ms, 0 ≤ m.into ∧ m.into < M.length) → mG (ms.foldl mergeL M) = mergesF (mG M) ms := by
  intro ms
  induction ms with
  | nil => intro M _; rfl
  | cons m ms ih =>
    intro M h
    unfold mergesF
    rw [List.foldl_cons, List.foldl_cons, ih _ (fun k hk => by rw [mergeL_len]; exact h k (by simp [hk])), mG_merge (h m (by simp)).1 (h m (by simp)).2]
    rfl
theorem merges_len : ∀ (ms : List Mg) (M : List Int), (ms.foldl mergeL M).length = M.length := by
  intro ms
  induction ms with
  | nil => intro M; rfl
  | cons m ms ih => intro M; rw [List.foldl_cons, ih, mergeL_len]
theorem merges_take (ms : List Mg) (M : List Int) (j : Nat) (h : j < ms.length) : (ms.take (j + 1)).foldl mergeL M = mergeL ((ms.take j).foldl mergeL M) ms[j] := by
  rw [List.take_succ_eq_append_getElem h, List.foldl_append]; rfl
end Go.Proofs.YtfdhehjfbcddgaaDoor.Pr
end
section
namespace Go.Proofs.YtfdhehjfbcddgaaDoor.Pr
open Go.RowKit Go.Proofs.YtfdhehjfbcddgaaDoorW.PrintWords Go.Proofs.YtfdhehjfbcddgaaDoorW.PrintLast Go.Proofs.YtfdhehjfbcddgaaDoor
set_option linter.unusedVariables false
/-- a row of bools that is read -/
def BoolsAt (w : World) (A : Option Addr) (l : List Bool) : Prop :=
  0 < l.length → ∃ b off, A = some ⟨b, off, none⟩ ∧ b < w.heap.size ∧ ∀ j, j < l.length → w.cell? ⟨b, off + j, none⟩ = some (.bool (l.getD j false))
theorem merges_get {w : World} {b off : Nat} {l : List Mg} (h : ∀ j u, (flatE encM l)[j]? = some u → w.cell? ⟨b, off + j, none⟩ = some u) (i : Nat) (hi : i < l.length) :
    w.cell? ⟨b, off + i * 2, none⟩ = some (.int .i64 l[i].into) ∧ w.cell? ⟨b, off + i * 2 + 1, none⟩ = some (.int .i64 l[i].frm) := by
  have g := fun (j : Nat) (hj : j < 2) => flatE_get encM_len l i hi j hj
  refine ⟨h (i * 2) _ ((g 0 (by decide)).trans rfl), ?_⟩
  rw [Nat.add_assoc]; exact h _ _ ((g 1 (by decide)).trans rfl)
theorem ids80 {t : Tr} (h : RightP t) (hn : t.nx ≤ 62) : (∀ x ∈ t.l, 0 ≤ x.id ∧ x.id < 80 ∧ 0 ≤ x.par ∧ x.par < 80) ∧ 0 ≤ t.lv ∧ t.lv < 80 := by
  have hx : ∀ x ∈ t.l, 0 ≤ x.id ∧ x.id < 80 := fun x hx => by
    have := h.pos hx
    have := h.next x hx
    omega
  refine ⟨fun x hm => ?_, ?_⟩
  · have h1 := hx x hm
    by_cases e : x.id = 1
    · have := (h.root hm e).1
      omega
    · have := h.parent hm e
      omega
  · obtain ⟨y, hy, e⟩ := h.live
    have := hx y hy
    omega
set_option maxRecDepth 100000 in
set_option maxHeartbeats 32000000 in
theorem images_any (A : Option Addr) (cap : Nat) (l : List Ac) (a0 a1 a2 : Int) (a3 : ByteArray) (Ao : Option Addr) (co : Nat) (own : List Bool) (w : World) (hl : l.length ≤ 9223372036854775807) (hr : ActsAt w A l) (hT : Tabs w) (hok : ∀ a ∈ l, AcOk a) (hnm : ∀ a ∈ l, a.name.size ≤ 9223372036854775807) (hak : AcOk ⟨a0, a1, a2, a3⟩) (haz : a3.size ≤ 9223372036854775807) (hol : own.length ≤ 9223372036854775807) (how : BoolsAt w Ao own) :
    Calls Tryd.prog 4 #[.slice A l.length cap, .agg #[.int .i64 a0, .int .i64 a1, .int .i64 a2, .string a3], .slice Ao own.length co] w fun e w' => e = .returned (.bool true) ∧ Below w.heap.size w w' := by
  have HTT := Lib.hid hT
  have hri := fun (wx : World) (hb : Below w.heap.size w wx) => rightA_any A cap l wx hl (hr.below hb) hnm
  obtain ⟨R, hR⟩ : ∃ R, rightA l = R := ⟨_, rfl⟩
  rw [hR] at hri
  have HRI := Lib.hid hri
  have HRR := Lib.hid hR
  have HAR := Lib.hid hr
  have HOK := Lib.hid hok
  obtain ⟨n, hn⟩ : ∃ n, l.length = n := ⟨_, rfl⟩
  have HN0 := Lib.hid hn
  rw [hn] at HRI hl ⊢
  obtain ⟨R2, hR2⟩ : ∃ R2, rightA [⟨a0, a1, a2, a3⟩] = R2 := ⟨_, rfl⟩
  have HR2 := Lib.hid hR2
  have hri2 := fun (wx : World) => rightA_any (some ⟨wx.heap.size, 0, none⟩) 1 [⟨a0, a1, a2, a3⟩] (wx.alloc (.cells #[.int .i64 a0, .int .i64 a1, .int .i64 a2, .string a3] 38)) (by show (1 : Nat) ≤ _; decide) (acts_one wx ⟨a0, a1, a2, a3⟩) (fun x hx => by rw [List.mem_singleton] at hx; subst hx; exact haz)
  rw [hR2] at hri2
  have HRI2 := Lib.hid hri2
  have HAK := Lib.hid hak
  have HAZ := Lib.hid haz
  have hbel : Below w.heap.size w (w.alloc (.cells #[.int .i64 a0, .int .i64 a1, .int .i64 a2, .string a3] 38)) := (Below.refl _ _).alloc (Nat.le_refl _) _
  have hkA := Blk.new w 38 #[.int .i64 a0, .int .i64 a1, .int .i64 a2, .string a3]
  obtain ⟨g_A, hg⟩ : ∃ g, g = w.heap.size := ⟨_, rfl⟩
  have bs_A : w.heap.size ≤ g_A := by omega
  rw [← hg] at hkA
  have HGA := Lib.hid hg
  obtain ⟨on, hon⟩ : ∃ on, own.length = on := ⟨_, rfl⟩
  have HON := Lib.hid hon
  have HOW := Lib.hid how
  rw [hon] at hol ⊢
  clear hT hr hok hnm hri hR hn hR2 hri2 hak haz hg how hon
  go_enter Tryd.func4, Tryd.ntmps4
  go_upto_region 1 with fail
  rw [← HGA.out]
  generalize (w.alloc (.cells #[.int .i64 a0, .int .i64 a1, .int .i64 a2, .string a3] 38)) = w0 at hbel hkA ⊢
  have HB := Lib.hid hbel
  have HK_A := Lib.hid hkA
  clear hbel hkA HGA
  have HSH := Lib.hid (shown_any w0 (HTT.out.below HB.out))
  go_wp2_with fail
  refine HSH.out.mono ?_
  rintro e w1 ⟨rfl, hbn⟩
  clear HSH
  have k_A := HK_A.out.below hbn HK_A.out.lt
  have bel := HB.out.trans (hbn.mono HB.out.size)
  clear HK_A HB hbn
  have HK_A := Lib.hid k_A
  have HB := Lib.hid bel
  clear k_A bel
  have HRW := Lib.hid (HRI.out w1 HB.out)
  clear HRI
  go_wp2_with fail
  refine HRW.out.mono ?_
  rintro e w2 ⟨rfl, hbn⟩
  clear HRW
  have k_A := HK_A.out.below hbn HK_A.out.lt
  have bel := HB.out.trans (hbn.mono HB.out.size)
  clear HK_A HB hbn
  have HK_A := Lib.hid k_A
  have HB := Lib.hid bel
  clear k_A bel
  have c_A0 : w2.cell? ⟨g_A, 0, none⟩ = some (.int .i64 a0) := (HK_A.out.cell 0).trans rfl
  have c_A1 : w2.cell? ⟨g_A, 1, none⟩ = some (.int .i64 a1) := (HK_A.out.cell 1).trans rfl
  have c_A2 : w2.cell? ⟨g_A, 2, none⟩ = some (.int .i64 a2) := (HK_A.out.cell 2).trans rfl
  have c_A3 : w2.cell? ⟨g_A, 3, none⟩ = some (.string a3) := (HK_A.out.cell 3).trans rfl
  have HRW := Lib.hid (HRI2.out w2)
  clear HRI2
  go_wp2_with fail
  refine HRW.out.mono ?_
  rintro e w3 ⟨rfl, hbn⟩
  clear HRW c_A0 c_A1 c_A2 c_A3
  have hbl : Below w2.heap.size w2 w3 := (below_alloc (Below.refl _ _) _).trans (hbn.mono (by simp))
  have k_A := HK_A.out.below hbl HK_A.out.lt
  have bel := HB.out.trans (hbl.mono HB.out.size)
  clear HK_A HB hbn hbl
  have HK_A := Lib.hid k_A
  have HB := Lib.hid bel
  clear k_A bel
  cases R with
  | false =>
    go_wp2_with fail
    go_ret
    exact ⟨rfl, HB.out⟩
  | true =>
  cases R2 with
  | false =>
    go_wp2_with fail
    go_ret
    exact ⟨rfl, HB.out⟩
  | true =>
    have hri := HRR.out
    unfold rightA at hri
    rw [Bool.and_eq_true, decide_eq_true_eq, List.all_eq_true] at hri
    have hn60 : n ≤ 60 := by rw [← HN0.out]; exact hri.1
    have HNM := Lib.hid (show ∀ a ∈ l, a.name.size ≤ 1000000 from fun a ha => Nat.le_trans (by simpa using hri.2 a ha) (by decide))
    have hri2 := HR2.out
    unfold rightA at hri2
    rw [Bool.and_eq_true, decide_eq_true_eq, List.all_eq_true] at hri2
    have ha120 : a3.size ≤ 1000000 := by
      have := hri2.2 ⟨a0, a1, a2, a3⟩ (by simp)
      have h2 : a3.size ≤ 120 := by simpa using this
      omega
    clear hri hri2 HRR HR2
    by_cases ho80 : on ≤ 80
    case neg =>
      go_wp2_with fail
      go_ret
      exact ⟨rfl, HB.out⟩
    obtain ⟨⟨l1, lv, nx, nw⟩, hG⟩ : ∃ G, grownN l = G := ⟨_, rfl⟩
    have hnx62 : nx ≤ 62 := by
      have h1 := grown_nx l newT
      have h2 := HN0.out
      rw [show l.foldl growN newT = ⟨l1, lv, nx, nw⟩ from hG] at h1
      have h3 : newT.nx = 2 := rfl
      dsimp only at h1
      omega
    have hR1 : RightP ⟨l1, lv, nx, nw⟩ := by rw [← hG]; exact grown_right l newT new_right
    have hS1 : SmallT ⟨l1, lv, nx, nw⟩ := by rw [← hG]; exact grown_small l newT new_small HNM.out
    obtain ⟨n1, hn1⟩ : ∃ n1, l1.length = n1 := ⟨_, rfl⟩
    have hn60' : n1 ≤ 60 := by have h1 := hR1.len; dsimp only at h1; omega
    have HG := Lib.hid hG
    have HN1 := Lib.hid hn1
    have HR1 := Lib.hid hR1
    have HS1 := Lib.hid hS1
    clear hG hn1 hR1 hS1
    have HC := Lib.hid (grown_c (n := n) (n' := n1) (cap := cap) HG.out HN0.out HN1.out (by omega) (HAR.out.below HB.out) (HTT.out.below HB.out) HOK.out HNM.out)
    go_wp2_with fail
    refine HC.out.mono ?_
    rintro e wn1 ⟨A1, c1, rfl, hc1, hq1, hbn⟩
    clear HC
    have k_A := HK_A.out.below hbn HK_A.out.lt
    have bel := HB.out.trans (hbn.mono HB.out.size)
    clear HK_A HB hbn
    have HK_A := Lib.hid k_A
    have HB := Lib.hid bel
    clear k_A bel
    have HR_N := Lib.hid hq1
    clear hq1
    obtain ⟨g_T, hg⟩ : ∃ g, g = wn1.heap.size := ⟨_, rfl⟩
    have lt_A_T : g_A < g_T := by have := HK_A.out.lt; omega
    have bs_T : w.heap.size ≤ g_T := by have := HB.out.size; omega
    have HG := Lib.hid hg
    clear hg
    go_upto_region 7 with fail
    have hbx : Below wn1.heap.size wn1 (wn1.alloc (.cells #[.slice A1 n1 c1, .int .i64 lv, .int .i64 nx, .int .u64 nw] 28)) := (Below.refl _ _).alloc (Nat.le_refl _) _
    have hkx := Blk.new wn1 28 #[.slice A1 n1 c1, .int .i64 lv, .int .i64 nx, .int .u64 nw]
    rw [← HG.out] at hkx ⊢
    generalize (wn1.alloc (.cells #[.slice A1 n1 c1, .int .i64 lv, .int .i64 nx, .int .u64 nw] 28)) = wn2 at hbx hkx ⊢
    clear HG
    have k_A := HK_A.out.below hbx HK_A.out.lt
    have r_N := HR_N.out.below hbx
    have bel := HB.out.trans (hbx.mono HB.out.size)
    clear HK_A HR_N HB hbx
    have HK_A := Lib.hid k_A
    have HR_N := Lib.hid r_N
    have HB := Lib.hid bel
    clear k_A r_N bel
    have HK_T := Lib.hid hkx
    clear hkx
    obtain ⟨hP0, hP1⟩ := pickN_range a0 12 (by decide)
    obtain ⟨P, hPP⟩ : ∃ P, pickN a0 12 = P := ⟨_, rfl⟩
    rw [hPP] at hP0 hP1
    have HPP := Lib.hid hPP
    clear hPP
    have c_A0 : wn2.cell? ⟨g_A, 0, none⟩ = some (.int .i64 a0) := (HK_A.out.cell 0).trans rfl
    have hpk := pick_any a0 12 wn2 HAK.out.1 (by decide) (by decide)
    rw [HPP.out] at hpk
    have HPK := Lib.hid hpk
    clear hpk
    go_wp2_with fail
    refine HPK.out.mono ?_
    rintro e w' ⟨rfl, rfl⟩
    clear HPK
    go_upto_region 8 with fail
    clear c_A0
    obtain ⟨⟨⟨pm, ps⟩, pe⟩, hQ⟩ : ∃ Q, planN ⟨l1, lv, nx, nw⟩ ⟨a0, a1, a2, a3⟩ = Q := ⟨_, rfl⟩
    have hpo := plan_ok ⟨l1, lv, nx, nw⟩ ⟨a0, a1, a2, a3⟩ ha120
    have himg := fun (F : Int → Int) (hF : ∀ i, 0 ≤ F i) => plan_images (a := ⟨a0, a1, a2, a3⟩) HR1.out hF
    have hdr := done_right ps ⟨l1, lv, nx, nw⟩ HR1.out
    have h80 := ids80 HR1.out hnx62
    have hpms := plan_ms (a := ⟨a0, a1, a2, a3⟩) HR1.out
    rw [hQ] at hpo himg hpms
    rw [HPP.out] at himg
    dsimp only at hpo himg hdr h80 hpms
    obtain ⟨⟨⟨l2, lv2, nx2, nw2⟩, qe⟩, hD⟩ : ∃ D, doneN ⟨l1, lv, nx, nw⟩ ps = D := ⟨_, rfl⟩
    have hsm := done_small ps ⟨l1, lv, nx, nw⟩ HS1.out hpo.2
    rw [hD] at hsm himg hdr
    dsimp only at hsm himg hdr
    obtain ⟨km, hkm⟩ : ∃ km, pm.length = km := ⟨_, rfl⟩
    obtain ⟨ks, hks⟩ : ∃ ks, ps.length = ks := ⟨_, rfl⟩
    obtain ⟨n2, hn2⟩ : ∃ n2, l2.length = n2 := ⟨_, rfl⟩
    have hksl : ks ≤ 1099511627776 := by rw [← hks]; exact hpo.1
    have hkml : km ≤ 128849018880 := by rw [← hkm]; exact hpms
    have hn60u : n2 ≤ 60 := by have h1 := hdr.1.len; dsimp only at h1; omega
    have HQ := Lib.hid hQ
    have HPO := Lib.hid hpo
    have HIM := Lib.hid himg
    have HD := Lib.hid hD
    have HSU := Lib.hid hsm
    have HKM := Lib.hid hkm
    have HKS := Lib.hid hks
    have HN2 := Lib.hid hn2
    have HRU := Lib.hid hdr.1
    have H80 := Lib.hid h80
    clear hQ hpo himg hdr hD hsm hkm hks hn2 h80 hnx62 hpms
    have c_T0 : w'.cell? ⟨g_T, 0, none⟩ = some (.slice A1 n1 c1) := (HK_T.out.cell 0).trans rfl
    have c_T1 : w'.cell? ⟨g_T, 1, none⟩ = some (.int .i64 lv) := (HK_T.out.cell 1).trans rfl
    have c_T2 : w'.cell? ⟨g_T, 2, none⟩ = some (.int .i64 nx) := (HK_T.out.cell 2).trans rfl
    have c_T3 : w'.cell? ⟨g_T, 3, none⟩ = some (.int .u64 nw) := (HK_T.out.cell 3).trans rfl
    have c_A0 : w'.cell? ⟨g_A, 0, none⟩ = some (.int .i64 a0) := (HK_A.out.cell 0).trans rfl
    have c_A1 : w'.cell? ⟨g_A, 1, none⟩ = some (.int .i64 a1) := (HK_A.out.cell 1).trans rfl
    have c_A2 : w'.cell? ⟨g_A, 2, none⟩ = some (.int .i64 a2) := (HK_A.out.cell 2).trans rfl
    have c_A3 : w'.cell? ⟨g_A, 3, none⟩ = some (.string a3) := (HK_A.out.cell 3).trans rfl
    have HC := Lib.hid (plan_c (n := n1) (km := km) (ks := ks) HQ.out HN1.out HKM.out HKS.out hc1 HR_N.out (HTT.out.below HB.out) HS1.out HAK.out.1 HAK.out.2.2 ha120)
    go_wp2_with fail
    refine HC.out.mono ?_
    rintro e wn3 ⟨M1, m1, S1, s1, rfl, hm1, hs1, hbn⟩
    clear c_T0 c_T1 c_T2 c_T3 c_A0 c_A1 c_A2 c_A3 HC
    have k_A := HK_A.out.below hbn HK_A.out.lt
    have k_T := HK_T.out.below hbn HK_T.out.lt
    have r_N := HR_N.out.below hbn
    have bel := HB.out.trans (hbn.mono HB.out.size)
    clear HK_A HK_T HR_N HB hbn
    have HK_A := Lib.hid k_A
    have HK_T := Lib.hid k_T
    have HR_N := Lib.hid r_N
    have HB := Lib.hid bel
    clear k_A k_T r_N bel
    have HR_G := Lib.hid hm1
    clear hm1
    have HR_S := Lib.hid hs1
    clear hs1
    obtain ⟨g_P, hg⟩ : ∃ g, g = wn3.heap.size := ⟨_, rfl⟩
    have lt_A_P : g_A < g_P := by have := HK_A.out.lt; omega
    have lt_T_P : g_T < g_P := by have := HK_T.out.lt; omega
    have bs_P : w.heap.size ≤ g_P := by have := HB.out.size; omega
    have HG := Lib.hid hg
    clear hg
    go_upto_region 9 with fail
    have hbx : Below wn3.heap.size wn3 (wn3.alloc (.cells #[.slice M1 km m1, .slice S1 ks s1] 33)) := (Below.refl _ _).alloc (Nat.le_refl _) _
    have hkx := Blk.new wn3 33 #[.slice M1 km m1, .slice S1 ks s1]
    rw [← HG.out] at hkx ⊢
    generalize (wn3.alloc (.cells #[.slice M1 km m1, .slice S1 ks s1] 33)) = wn4 at hbx hkx ⊢
    clear HG
    have k_A := HK_A.out.below hbx HK_A.out.lt
    have k_T := HK_T.out.below hbx HK_T.out.lt
    have r_N := HR_N.out.below hbx
    have r_G := HR_G.out.below hbx
    have r_S := HR_S.out.below hbx
    have bel := HB.out.trans (hbx.mono HB.out.size)
    clear HK_A HK_T HR_N HR_G HR_S HB hbx
    have HK_A := Lib.hid k_A
    have HK_T := Lib.hid k_T
    have HR_N := Lib.hid r_N
    have HR_G := Lib.hid r_G
    have HR_S := Lib.hid r_S
    have HB := Lib.hid bel
    clear k_A k_T r_N r_G r_S bel
    have HK_P := Lib.hid hkx
    clear hkx
    by_cases hpe : pe = 0
    case neg =>
      have hpb : (pe != 0) = true := by simp [hpe]
      go_wp2_with fail
      go_ret
      exact ⟨rfl, HB.out⟩
    subst hpe
    by_cases h6 : P < 6
    case pos =>
      have hb6 : decide (P < 6) = true := decide_eq_true h6
      go_wp2_with fail
      go_ret
      exact ⟨rfl, HB.out⟩
    by_cases h9 : P = 9
    case pos =>
      subst h9
      go_wp2_with fail
      go_ret
      exact ⟨rfl, HB.out⟩
    by_cases h11 : P = 11
    case pos =>
      subst h11
      go_wp2_with fail
      go_ret
      exact ⟨rfl, HB.out⟩
    have hb6 : decide (P < 6) = false := decide_eq_false h6
    have h9b : (P == 9) = false := by rw [beq_eq_false_iff_ne]; exact h9
    have h11b : (P == 11) = false := by rw [beq_eq_false_iff_ne]; exact h11
    have hI := fun (F : Int → Int) (hF : ∀ i, 0 ≤ F i) => HIM.out F hF rfl (by omega) h9 h11
    have HI := Lib.hid hI
    obtain ⟨hq0, _⟩ := hI (fun _ => 0) (fun _ => Int.le_refl 0)
    subst hq0
    have HMB := Lib.hid (hI (fun _ => 0) (fun _ => Int.le_refl 0)).2.2.2
    clear hI HIM
    have hmk : ∀ W : World, (Instr.makeSlice 55 (.int .i64 80) (.int .i64 80)).run Tryd.prog W = .ok (.slice (some ⟨W.heap.size, 0, none⟩) 80 80) (W.alloc (.cells (madeCells #[.int .i64 0] 80) 3)) := print_make 55 3 .i64 8 Tryd.underlying55 infoI (by decide) 80 (by decide)
    obtain ⟨g_M, hg⟩ : ∃ g, g = wn4.heap.size := ⟨_, rfl⟩
    have lt_A_M : g_A < g_M := by have := HK_A.out.lt; omega
    have lt_T_M : g_T < g_M := by have := HK_T.out.lt; omega
    have lt_P_M : g_P < g_M := by have := HK_P.out.lt; omega
    have bs_M : w.heap.size ≤ g_M := by have := HB.out.size; omega
    have HG_ := Lib.hid hg
    clear hg
    go_upto_region 12 with fail
    have hbx : Below wn4.heap.size wn4 (wn4.alloc (.cells (madeCells #[.int .i64 0] 80) 3)) := (Below.refl _ _).alloc (Nat.le_refl _) _
    have hkx := Blk.new wn4 3 (madeCells #[.int .i64 0] 80)
    rw [← HG_.out] at hkx ⊢
    generalize (wn4.alloc (.cells (madeCells #[.int .i64 0] 80) 3)) = wn5 at hbx hkx ⊢
    rw [made_row] at hkx
    clear HG_
    have k_A := HK_A.out.below hbx HK_A.out.lt
    have k_T := HK_T.out.below hbx HK_T.out.lt
    have k_P := HK_P.out.below hbx HK_P.out.lt
    have r_N := HR_N.out.below hbx
    have r_G := HR_G.out.below hbx
    have r_S := HR_S.out.below hbx
    have bel := HB.out.trans (hbx.mono HB.out.size)
    clear HK_A HK_T HK_P HR_N HR_G HR_S HB hbx
    have HK_A := Lib.hid k_A
    have HK_T := Lib.hid k_T
    have HK_P := Lib.hid k_P
    have HR_N := Lib.hid r_N
    have HR_G := Lib.hid r_G
    have HR_S := Lib.hid r_S
    have HB := Lib.hid bel
    clear k_A k_T k_P r_N r_G r_S bel
    have HK_M := Lib.hid hkx
    clear hkx
    have hm0 := HK_M.out
    rw [← mJ_zero own] at hm0
    clear HK_M
    have HK_M := Lib.hid hm0
    clear hm0
    go_wp2_with fail
    go_loopg [15] 80 (fun k v15 wr => ∃ (j : Nat), j + k = 80 ∧ v15 = .int .i64 (j : Int) ∧ Hid (Blk wr g_A 38 #[.int .i64 a0, .int .i64 a1, .int .i64 a2, .string a3]) ∧ Hid (Blk wr g_T 28 #[.slice A1 n1 c1, .int .i64 lv, .int .i64 nx, .int .u64 nw]) ∧ Hid (Blk wr g_P 33 #[.slice M1 km m1, .slice S1 ks s1]) ∧ Hid (Blk wr g_M 3 (rowI (mJ own j))) ∧ Hid (NodesAt wr A1 l1) ∧ Hid (RowAt 58 encM wr M1 pm) ∧ Hid (RowAt 62 encS wr S1 ps) ∧ Hid (Below w.heap.size w wr))
    case atStart => exact ⟨0, by omega, rfl, HK_A, HK_T, HK_P, HK_M, HR_N, HR_G, HR_S, HB⟩
    case round =>
      clear HK_A HK_T HK_P HK_M HR_N HR_G HR_S HB
      obtain ⟨j, hjk, rfl, HK_A, HK_T, HK_P, HK_M, HR_N, HR_G, HR_S, HB⟩ := hrel
      by_cases hlt : j < 80
      · have hgm : g_M < wr.heap.size := HK_M.out.lt
        have hst := mJ_step own j hlt
        have hadd : IntKind.i64.wrap ((j : Int) + 1) = (j : Int) + 1 := IntWalk.i64_in _ (by omega)
        have z0 : wr.cell? ⟨g_M, j, none⟩ = some (.int .i64 (mG (mJ own j) (j : Int))) := (HK_M.out.cell j).trans (rowI_at (by rw [mJ_len]; exact hlt))
        have zf := HK_M.out.frozen j
        obtain ⟨zv, hzv⟩ : ∃ zv, mG (mJ own j) (j : Int) = zv := ⟨_, rfl⟩
        rw [hzv] at z0
        have HSTP := Lib.hid hst
        clear hst hzv
        by_cases hjo : j < on
        · obtain ⟨bo, oo, rfl, hbo, hco⟩ := HOW.out (by have := HON.out; omega)
          have d0 := (HB.out.cell (p := ⟨bo, oo + j, none⟩) hbo).trans (hco j (by rw [HON.out]; exact hjo))
          obtain ⟨ob, hob⟩ : ∃ ob, own.getD j false = ob := ⟨_, rfl⟩
          rw [hob] at d0
          have hst := HSTP.out
          rw [hob] at hst
          have HST2 := Lib.hid hst
          clear hst hob HSTP hco hbo
          cases ob with
          | true =>
            have hst := HST2.out
            rw [if_pos rfl] at hst
            have HST3 := Lib.hid hst
            clear hst HST2
            have k_A := HK_A.out.far (p := ⟨g_M, j, none⟩) (show g_A ≠ g_M by omega) (.int .i64 ((j : Int) + 1))
            have k_T := HK_T.out.far (p := ⟨g_M, j, none⟩) (show g_T ≠ g_M by omega) (.int .i64 ((j : Int) + 1))
            have k_P := HK_P.out.far (p := ⟨g_M, j, none⟩) (show g_P ≠ g_M by omega) (.int .i64 ((j : Int) + 1))
            have k_M := HK_M.out.set_ (j) (.int .i64 ((j : Int) + 1))
            rw [rowI_set] at k_M
            have r_N := HR_N.out.setB HK_M.out (by decide) (j) (.int .i64 ((j : Int) + 1))
            have r_G := HR_G.out.setB HK_M.out (by decide) (j) (.int .i64 ((j : Int) + 1))
            have r_S := HR_S.out.setB HK_M.out (by decide) (j) (.int .i64 ((j : Int) + 1))
            have bel := HB.out.setCell (p := ⟨g_M, j, none⟩) (show w.heap.size ≤ g_M by omega) (.int .i64 ((j : Int) + 1))
            rw [← HST3.out] at k_M
            have H1_A := Lib.hid k_A
            have H1_T := Lib.hid k_T
            have H1_P := Lib.hid k_P
            have H1_M := Lib.hid k_M
            have H2_N := Lib.hid r_N
            have H2_G := Lib.hid r_G
            have H2_S := Lib.hid r_S
            have H3 := Lib.hid bel
            clear k_A k_T k_P k_M r_N r_G r_S bel
            go_wp2_with fail
            go_roundg (gk - 1)
            case measure => omega
            case rel => exact ⟨j + 1, by omega, by go_num, H1_A, H1_T, H1_P, H1_M, H2_N, H2_G, H2_S, H3⟩
          | false =>
            have hst := HST2.out
            rw [if_neg (by decide)] at hst
            have hkm := HK_M.out
            rw [← hst] at hkm
            clear HK_M hst HST2
            have HK_M := Lib.hid hkm
            clear hkm
            go_wp2_with fail
            go_roundg (gk - 1)
            case measure => omega
            case rel => exact ⟨j + 1, by omega, by go_num, HK_A, HK_T, HK_P, HK_M, HR_N, HR_G, HR_S, HB⟩
        · have hst := HSTP.out
          rw [if_neg (by rw [List.getD_eq_getElem?_getD, List.getElem?_eq_none (by have := HON.out; omega)]; decide)] at hst
          have hkm := HK_M.out
          rw [← hst] at hkm
          clear HK_M hst HSTP
          have HK_M := Lib.hid hkm
          clear hkm
          go_wp2_with fail
          go_roundg (gk - 1)
          case measure => omega
          case rel => exact ⟨j + 1, by omega, by go_num, HK_A, HK_T, HK_P, HK_M, HR_N, HR_G, HR_S, HB⟩
      · have hj : j = 80 := by omega
        subst hj
        obtain ⟨M, hM⟩ : ∃ M, mJ own 80 = M := ⟨_, rfl⟩
        have hMl : M.length = 80 := by rw [← hM]; exact mJ_len _ _
        have hMp : ∀ i, 0 ≤ mG M i := by rw [← hM]; exact mJ_pos _ _
        rw [hM] at HK_M
        have HML := Lib.hid hMl
        have HMP := Lib.hid hMp
        clear hM hMl hMp hlt
        obtain ⟨g_W, hg⟩ : ∃ g, g = wr.heap.size := ⟨_, rfl⟩
        have lt_A_W : g_A < g_W := by have := HK_A.out.lt; omega
        have lt_T_W : g_T < g_W := by have := HK_T.out.lt; omega
        have lt_P_W : g_P < g_W := by have := HK_P.out.lt; omega
        have lt_M_W : g_M < g_W := by have := HK_M.out.lt; omega
        have bs_W : w.heap.size ≤ g_W := by have := HB.out.size; omega
        have HG_ := Lib.hid hg
        clear hg
        go_upto_region 18 with fail
        have hbx : Below wr.heap.size wr (wr.alloc (.cells (madeCells #[.int .i64 0] 80) 3)) := (Below.refl _ _).alloc (Nat.le_refl _) _
        have hkx := Blk.new wr 3 (madeCells #[.int .i64 0] 80)
        rw [← HG_.out] at hkx ⊢
        generalize (wr.alloc (.cells (madeCells #[.int .i64 0] 80) 3)) = wn6 at hbx hkx ⊢
        rw [made_row] at hkx
        clear HG_
        have k_A := HK_A.out.below hbx HK_A.out.lt
        have k_T := HK_T.out.below hbx HK_T.out.lt
        have k_P := HK_P.out.below hbx HK_P.out.lt
        have k_M := HK_M.out.below hbx HK_M.out.lt
        have r_N := HR_N.out.below hbx
        have r_G := HR_G.out.below hbx
        have r_S := HR_S.out.below hbx
        have bel := HB.out.trans (hbx.mono HB.out.size)
        clear HK_A HK_T HK_P HK_M HR_N HR_G HR_S HB hbx
        have HK_A := Lib.hid k_A
        have HK_T := Lib.hid k_T
        have HK_P := Lib.hid k_P
        have HK_M := Lib.hid k_M
        have HR_N := Lib.hid r_N
        have HR_G := Lib.hid r_G
        have HR_S := Lib.hid r_S
        have HB := Lib.hid bel
        clear k_A k_T k_P k_M r_N r_G r_S bel
        have HK_W := Lib.hid hkx
        clear hkx
        have c_T0 : wn6.cell? ⟨g_T, 0, none⟩ = some (.slice A1 n1 c1) := (HK_T.out.cell 0).trans rfl
        go_wp2_with fail
        clear c_T0
        go_loopg [17] n1 (fun k v17 wr => ∃ (i : Nat) (Wl : List Int), i + k = n1 ∧ v17 = .int .i64 (i : Int) ∧ Hid (Wl.length = 80 ∧ ∀ (k : Nat) (hk : k < l1.length), k < i → mG Wl l1[k].id = thrN ⟨l1, lv, nx, nw⟩ (mG M) l1[k].id) ∧ Hid (Blk wr g_A 38 #[.int .i64 a0, .int .i64 a1, .int .i64 a2, .string a3]) ∧ Hid (Blk wr g_T 28 #[.slice A1 n1 c1, .int .i64 lv, .int .i64 nx, .int .u64 nw]) ∧ Hid (Blk wr g_P 33 #[.slice M1 km m1, .slice S1 ks s1]) ∧ Hid (Blk wr g_M 3 (rowI (M))) ∧ Hid (Blk wr g_W 3 (rowI (Wl))) ∧ Hid (NodesAt wr A1 l1) ∧ Hid (RowAt 58 encM wr M1 pm) ∧ Hid (RowAt 62 encS wr S1 ps) ∧ Hid (Below w.heap.size w wr))
        case atStart => exact ⟨0, List.replicate 80 0, by omega, rfl, Lib.hid ⟨by simp, fun k hk h => by omega⟩, HK_A, HK_T, HK_P, HK_M, HK_W, HR_N, HR_G, HR_S, HB⟩
        case round =>
          clear HK_A HK_T HK_P HK_M HK_W HR_N HR_G HR_S HB
          obtain ⟨i, Wl, hik, rfl, HWA, HK_A, HK_T, HK_P, HK_M, HK_W, HR_N, HR_G, HR_S, HB⟩ := hrel
          by_cases hlt : i < n1
          · have hil : i < l1.length := by rw [HN1.out]; exact hlt
            have hxm := List.getElem_mem hil
            obtain ⟨b2, off, hA1, ⟨cs, fr, hob⟩, hcell⟩ := HR_N.out (by omega)
            have d0 := (nodes_get hcell i hil).1
            obtain ⟨xx, hx⟩ : ∃ xx, (l1[i]'hil).id = xx := ⟨_, rfl⟩
            have hx80 := H80.out.1 _ hxm
            rw [hx] at d0 hx80
            obtain ⟨q, hq⟩ : ∃ q : Nat, xx = (q : Int) := ⟨xx.toNat, by omega⟩
            subst hq
            have hq80 : q < 80 := by omega
            have hqi : (q : Int) < 80 := by omega
            have hl0 : g_T < wr.heap.size := HK_T.out.lt
            have hl2 := obj_lt hob
            have hlw : g_W < wr.heap.size := HK_W.out.lt
            have hbw : b2 ≠ g_W := fun e => by
              have h1 : wr.heap[b2]? = some (.cells cs 42 fr) := hob
              rw [e, show wr.heap[g_W]? = _ from HK_W.out] at h1
              simp only [Option.some.injEq, Obj.cells.injEq] at h1
              exact absurd h1.2.1 (by decide)
            obtain ⟨D, hD⟩ : ∃ D, thrN ⟨l1, lv, nx, nw⟩ (mG M) (q : Int) = D := ⟨_, rfl⟩
            have hth := fun (wx : World) (hb : Below wr.heap.size wr wx) => through_any A1 c1 l1 lv nx nw g_M M (q : Int) wx HS1.out.1 (HR_N.out.below hb) (HK_M.out.below hb HK_M.out.lt) HML.out (fun x hx => (H80.out.1 x hx).2.2) (by omega) H80.out.2
            rw [HN1.out, hD] at hth
            have hnew : (Wl.set q D).length = 80 ∧ ∀ (k : Nat) (hk : k < l1.length), k < i + 1 → mG (Wl.set q D) l1[k].id = thrN ⟨l1, lv, nx, nw⟩ (mG M) l1[k].id := by
              refine ⟨by rw [List.length_set]; exact HWA.out.1, fun k hk hlt' => ?_⟩
              rw [mG_set (by rw [HWA.out.1]; exact hq80)]
              by_cases e : k = i
              · subst e
                rw [hx, if_pos rfl, hD]
              · have hs := List.pairwise_iff_getElem.1 HR1.out.srt k i hk hil (by omega)
                have hs' : (l1[k]).id < (l1[i]).id := hs
                rw [hx] at hs'
                rw [if_neg (by omega)]
                exact HWA.out.2 k hk (by omega)
            have HNEW := Lib.hid hnew
            have HTH := Lib.hid hth
            have hkz : ∀ w', Below wr.heap.size wr w' → w'.cell? ⟨g_W, q, none⟩ = some (.int .i64 (mG Wl (q : Int))) ∧ w'.frozen? ⟨g_W, q, none⟩ = false := fun w' hb => ⟨((HK_W.out.below hb hlw).cell q).trans (rowI_at (by rw [HWA.out.1]; exact hq80)), (HK_W.out.below hb hlw).frozen q⟩
            have HKZ := Lib.hid hkz
            clear hcell hob hx hxm hx80 hD hnew hth hkz
            have HA1 := Lib.hid hA1
            have c_T0 : wr.cell? ⟨g_T, 0, none⟩ = some (.slice A1 n1 c1) := (HK_T.out.cell 0).trans rfl
            rw [hA1] at c_T0 HTH
            clear hA1
            have c_T1 : wr.cell? ⟨g_T, 1, none⟩ = some (.int .i64 lv) := (HK_T.out.cell 1).trans rfl
            have c_T2 : wr.cell? ⟨g_T, 2, none⟩ = some (.int .i64 nx) := (HK_T.out.cell 2).trans rfl
            have c_T3 : wr.cell? ⟨g_T, 3, none⟩ = some (.int .u64 nw) := (HK_T.out.cell 3).trans rfl
            go_upto_region 21 with fail
            have hkeep : ∀ w', Below wr.heap.size wr w' → w'.cell? ⟨g_T, 0, none⟩ = some (.slice (some ⟨b2, off, none⟩) n1 c1) ∧ w'.cell? ⟨g_T, 1, none⟩ = some (.int .i64 lv) ∧ w'.cell? ⟨g_T, 2, none⟩ = some (.int .i64 nx) ∧ w'.cell? ⟨g_T, 3, none⟩ = some (.int .u64 nw) ∧ w'.cell? ⟨b2, off + i * 6, none⟩ = some (.int .i64 (q : Int)) := fun w' hb => ⟨(hb.cell (p := ⟨g_T, 0, none⟩) hl0).trans c_T0, (hb.cell (p := ⟨g_T, 1, none⟩) hl0).trans c_T1, (hb.cell (p := ⟨g_T, 2, none⟩) hl0).trans c_T2, (hb.cell (p := ⟨g_T, 3, none⟩) hl0).trans c_T3, (hb.cell (p := ⟨b2, off + i * 6, none⟩) hl2).trans d0⟩
            have HKP := Lib.hid hkeep
            have hks2 : ∀ (w' : World) (v : Value), (w'.cell? ⟨g_T, 0, none⟩ = some (.slice (some ⟨b2, off, none⟩) n1 c1) ∧ w'.cell? ⟨g_T, 1, none⟩ = some (.int .i64 lv) ∧ w'.cell? ⟨g_T, 2, none⟩ = some (.int .i64 nx) ∧ w'.cell? ⟨g_T, 3, none⟩ = some (.int .u64 nw) ∧ w'.cell? ⟨b2, off + i * 6, none⟩ = some (.int .i64 (q : Int))) → (w'.setCell ⟨g_W, q, none⟩ v).cell? ⟨g_T, 0, none⟩ = some (.slice (some ⟨b2, off, none⟩) n1 c1) ∧ (w'.setCell ⟨g_W, q, none⟩ v).cell? ⟨g_T, 1, none⟩ = some (.int .i64 lv) ∧ (w'.setCell ⟨g_W, q, none⟩ v).cell? ⟨g_T, 2, none⟩ = some (.int .i64 nx) ∧ (w'.setCell ⟨g_W, q, none⟩ v).cell? ⟨g_T, 3, none⟩ = some (.int .u64 nw) ∧ (w'.setCell ⟨g_W, q, none⟩ v).cell? ⟨b2, off + i * 6, none⟩ = some (.int .i64 (q : Int)) := by
              intro w' v hs
              have c : ∀ (k i' : Nat), k ≠ g_W → (w'.setCell ⟨g_W, q, none⟩ v).cell? ⟨k, i', none⟩ = w'.cell? ⟨k, i', none⟩ := fun k i' hk => by
                have := Below.heap_setCell w' ⟨g_W, q, none⟩ v k hk
                simp only [World.cell?, this]
              have q0 : g_T ≠ g_W := by omega
              exact ⟨(c _ _ q0).trans hs.1, (c _ _ q0).trans hs.2.1, (c _ _ q0).trans hs.2.2.1, (c _ _ q0).trans hs.2.2.2.1, (c _ _ hbw).trans hs.2.2.2.2⟩
            have HKS2 := Lib.hid hks2
            clear hkeep hks2
            go_region_held3 (fun w' => w'.cell? ⟨g_T, 0, none⟩ = some (.slice (some ⟨b2, off, none⟩) n1 c1) ∧ w'.cell? ⟨g_T, 1, none⟩ = some (.int .i64 lv) ∧ w'.cell? ⟨g_T, 2, none⟩ = some (.int .i64 nx) ∧ w'.cell? ⟨g_T, 3, none⟩ = some (.int .u64 nw) ∧ w'.cell? ⟨b2, off + i * 6, none⟩ = some (.int .i64 (q : Int)))
              (first | with_reducible exact HKP.out _ (below_drew1 (Below.refl _ _)) | with_reducible exact HKP.out _ hbl5 | with_reducible exact HKS2.out _ _ (HKP.out _ hbl5) | fail)
              (first
                | (go_at_call 20; refine (HTH.out _ ?_).mono ?_; (exact below_drew1 (Below.refl _ _)); (rintro e w5 ⟨rfl, hb5⟩; have hbl5 : Below wr.heap.size wr w5 := (below_drew1 (Below.refl _ _)).trans hb5; obtain ⟨u0, uf⟩ := HKZ.out _ hbl5))
                | fail)
            all_goals have HB5 := Lib.hid hbl5
            all_goals clear hbl5 u0 uf
            all_goals (
              have k_A := HK_A.out.below HB5.out HK_A.out.lt
              have k_T := HK_T.out.below HB5.out HK_T.out.lt
              have k_P := HK_P.out.below HB5.out HK_P.out.lt
              have k_M := HK_M.out.below HB5.out HK_M.out.lt
              have k_W := HK_W.out.below HB5.out HK_W.out.lt
              have r_N := HR_N.out.below HB5.out
              have r_G := HR_G.out.below HB5.out
              have r_S := HR_S.out.below HB5.out
              have bel := HB.out.trans (HB5.out.mono HB.out.size)
              have h_A := k_A.far (p := ⟨g_W, q, none⟩) (show g_A ≠ g_W by omega) (.int .i64 D)
              have h_T := k_T.far (p := ⟨g_W, q, none⟩) (show g_T ≠ g_W by omega) (.int .i64 D)
              have h_P := k_P.far (p := ⟨g_W, q, none⟩) (show g_P ≠ g_W by omega) (.int .i64 D)
              have h_M := k_M.far (p := ⟨g_W, q, none⟩) (show g_M ≠ g_W by omega) (.int .i64 D)
              have h_W := k_W.set_ q (.int .i64 D)
              rw [rowI_set] at h_W
              have s_N := r_N.setB k_W (by decide) q (.int .i64 D)
              have s_G := r_G.setB k_W (by decide) q (.int .i64 D)
              have s_S := r_S.setB k_W (by decide) q (.int .i64 D)
              have bel2 := bel.setCell (p := ⟨g_W, q, none⟩) (show w.heap.size ≤ g_W by omega) (.int .i64 D)
              have H1_A := Lib.hid h_A
              have H1_T := Lib.hid h_T
              have H1_P := Lib.hid h_P
              have H1_M := Lib.hid h_M
              have H1_W := Lib.hid h_W
              have H2_N := Lib.hid s_N
              have H2_G := Lib.hid s_G
              have H2_S := Lib.hid s_S
              have H3 := Lib.hid bel2
              clear k_A h_A k_T h_T k_P h_P k_M h_M k_W h_W r_N s_N r_G s_G r_S s_S bel bel2
              go_wp2_with fail
              go_roundg (gk - 1)
              case measure => omega
              case rel => exact ⟨i + 1, Wl.set q D, by omega, by go_num, HNEW, H1_A, H1_T, H1_P, H1_M, H1_W, H2_N, H2_G, H2_S, H3⟩
              )
          · obtain rfl : i = n1 := by omega
            have hwas : ∀ x ∈ l1, mG Wl x.id = thrN ⟨l1, lv, nx, nw⟩ (mG M) x.id := fun x hx => by
              obtain ⟨k, hk, rfl⟩ := List.getElem_of_mem hx
              exact HWA.out.2 k hk (by have := HN1.out; omega)
            have HWS := Lib.hid hwas
            have HWN := Lib.hid HWA.out.1
            clear hwas HWA hlt
            have c_T0 : wr.cell? ⟨g_T, 0, none⟩ = some (.slice A1 i c1) := (HK_T.out.cell 0).trans rfl
            have c_T1 : wr.cell? ⟨g_T, 1, none⟩ = some (.int .i64 lv) := (HK_T.out.cell 1).trans rfl
            have c_T2 : wr.cell? ⟨g_T, 2, none⟩ = some (.int .i64 nx) := (HK_T.out.cell 2).trans rfl
            have c_T3 : wr.cell? ⟨g_T, 3, none⟩ = some (.int .u64 nw) := (HK_T.out.cell 3).trans rfl
            obtain ⟨LVv, hLV⟩ : ∃ v, thrN ⟨l1, lv, nx, nw⟩ (mG M) 0 = v := ⟨_, rfl⟩
            have HLV := Lib.hid hLV
            have hth := through_any A1 c1 l1 lv nx nw g_M M 0 wr HS1.out.1 HR_N.out HK_M.out HML.out (fun x hx => (H80.out.1 x hx).2.2) (by decide) H80.out.2
            rw [HN1.out, hLV] at hth
            have HC := Lib.hid hth
            clear hth hLV
            go_wp2_with fail
            refine HC.out.mono ?_
            rintro e wn7 ⟨rfl, hbn⟩
            clear c_T0 c_T1 c_T2 c_T3 HC
            have k_A := HK_A.out.below hbn HK_A.out.lt
            have k_T := HK_T.out.below hbn HK_T.out.lt
            have k_P := HK_P.out.below hbn HK_P.out.lt
            have k_M := HK_M.out.below hbn HK_M.out.lt
            have k_W := HK_W.out.below hbn HK_W.out.lt
            have r_N := HR_N.out.below hbn
            have r_G := HR_G.out.below hbn
            have r_S := HR_S.out.below hbn
            have bel := HB.out.trans (hbn.mono HB.out.size)
            clear HK_A HK_T HK_P HK_M HK_W HR_N HR_G HR_S HB hbn
            have HK_A := Lib.hid k_A
            have HK_T := Lib.hid k_T
            have HK_P := Lib.hid k_P
            have HK_M := Lib.hid k_M
            have HK_W := Lib.hid k_W
            have HR_N := Lib.hid r_N
            have HR_G := Lib.hid r_G
            have HR_S := Lib.hid r_S
            have HB := Lib.hid bel
            clear k_A k_T k_P k_M k_W r_N r_G r_S bel
            have c_P0 : wn7.cell? ⟨g_P, 0, none⟩ = some (.slice M1 km m1) := (HK_P.out.cell 0).trans rfl
            go_wp2_with fail
            clear c_P0
            go_loopg [19] km (fun k v19 wr => ∃ (j : Nat), j + k = km ∧ v19 = .int .i64 (j : Int) ∧ Hid (Blk wr g_A 38 #[.int .i64 a0, .int .i64 a1, .int .i64 a2, .string a3]) ∧ Hid (Blk wr g_T 28 #[.slice A1 i c1, .int .i64 lv, .int .i64 nx, .int .u64 nw]) ∧ Hid (Blk wr g_P 33 #[.slice M1 km m1, .slice S1 ks s1]) ∧ Hid (Blk wr g_M 3 (rowI ((pm.take j).foldl mergeL M))) ∧ Hid (Blk wr g_W 3 (rowI (Wl))) ∧ Hid (NodesAt wr A1 l1) ∧ Hid (RowAt 58 encM wr M1 pm) ∧ Hid (RowAt 62 encS wr S1 ps) ∧ Hid (Below w.heap.size w wr))
            case atStart => exact ⟨0, by omega, rfl, HK_A, HK_T, HK_P, HK_M, HK_W, HR_N, HR_G, HR_S, HB⟩
            case round =>
              clear HK_A HK_T HK_P HK_M HK_W HR_N HR_G HR_S HB
              obtain ⟨j, hjk, rfl, HK_A, HK_T, HK_P, HK_M, HK_W, HR_N, HR_G, HR_S, HB⟩ := hrel
              by_cases hlt : j < km
              · have hjl : j < pm.length := by rw [HKM.out]; exact hlt
                have hmm := List.getElem_mem hjl
                obtain ⟨b3, of3, hM1, ⟨cs, fr, hob⟩, hcell⟩ := HR_G.out (by omega)
                obtain ⟨d0, d1⟩ := merges_get hcell j hjl
                have hmt := merges_take pm M j hjl
                have hmb := HMB.out _ hmm
                obtain ⟨m, hm⟩ : ∃ m, pm[j]'hjl = m := ⟨_, rfl⟩
                rw [hm] at d0 d1 hmt hmb
                obtain ⟨m0, mf⟩ := m
                dsimp only at d0 d1 hmb
                have hmb0 : 0 ≤ m0 ∧ m0 < 80 := by
                  rcases hmb.1 with h | ⟨x, hx, h⟩
                  · omega
                  · have := H80.out.1 x hx; omega
                have hmbf : 0 ≤ mf ∧ mf < 80 := by
                  obtain ⟨x, hx, h⟩ := hmb.2.1
                  have := H80.out.1 x hx; omega
                have hne0 := hmb.2.2
                obtain ⟨q0, hq0⟩ : ∃ q : Nat, m0 = (q : Int) := ⟨m0.toNat, by omega⟩
                obtain ⟨qf, hqf⟩ : ∃ q : Nat, mf = (q : Int) := ⟨mf.toNat, by omega⟩
                subst hq0 hqf
                have hq80 : q0 < 80 := by omega
                have hf80 : qf < 80 := by omega
                have hqi : (q0 : Int) < 80 := by omega
                have hfi : (qf : Int) < 80 := by omega
                have hne : q0 ≠ qf := fun e => hne0 (by rw [e])
                obtain ⟨Mc, hMc⟩ : ∃ Mc, (pm.take j).foldl mergeL M = Mc := ⟨_, rfl⟩
                have hMcl : Mc.length = 80 := by rw [← hMc, merges_len]; exact HML.out
                rw [hMc] at hmt HK_M
                obtain ⟨v0, hv0⟩ : ∃ v, mG Mc (q0 : Int) = v := ⟨_, rfl⟩
                obtain ⟨vf, hvf⟩ : ∃ v, mG Mc (qf : Int) = v := ⟨_, rfl⟩
                have hmt' : (pm.take (j + 1)).foldl mergeL M = if v0 = 0 then Mc.set q0 vf else Mc := by
                  rw [hmt]
                  unfold mergeL
                  dsimp only
                  rw [hv0, hvf, Int.toNat_natCast]
                have z0 : wr.cell? ⟨g_M, q0, none⟩ = some (.int .i64 v0) := ((HK_M.out.cell q0).trans (rowI_at (by omega))).trans (by rw [hv0])
                have zf : wr.cell? ⟨g_M, qf, none⟩ = some (.int .i64 vf) := ((HK_M.out.cell qf).trans (rowI_at (by omega))).trans (by rw [hvf])
                have y0 := HK_M.out.frozen q0
                have HMT := Lib.hid hmt'
                have HA1 := Lib.hid hM1
                have hlb := obj_lt hob
                have hbm : b3 ≠ g_M := fun e => by
                  have h1 : wr.heap[b3]? = some (.cells cs 58 fr) := hob
                  rw [e, show wr.heap[g_M]? = _ from HK_M.out] at h1
                  simp only [Option.some.injEq, Obj.cells.injEq] at h1
                  exact absurd h1.2.1 (by decide)
                have c_P0 : wr.cell? ⟨g_P, 0, none⟩ = some (.slice M1 km m1) := (HK_P.out.cell 0).trans rfl
                rw [hM1] at c_P0
                clear hM1 hcell hob hm hmm hmt hmt' hmb hMc hMcl hv0 hvf hne0 hmb0 hmbf
                by_cases hz : v0 = 0
                · subst hz
                  have hmt := HMT.out
                  rw [if_pos rfl] at hmt
                  have HMT2 := Lib.hid hmt
                  clear hmt HMT
                  go_upto_region 27 with fail
                  have hks2 : ∀ (w' : World) (v : Value), (w'.cell? ⟨g_P, 0, none⟩ = some (.slice (some ⟨b3, of3, none⟩) km m1) ∧ w'.cell? ⟨b3, of3 + j * 2, none⟩ = some (.int .i64 (q0 : Int)) ∧ w'.cell? ⟨b3, of3 + j * 2 + 1, none⟩ = some (.int .i64 (qf : Int)) ∧ w'.cell? ⟨g_M, qf, none⟩ = some (.int .i64 vf)) → (w'.setCell ⟨g_M, q0, none⟩ v).cell? ⟨g_P, 0, none⟩ = some (.slice (some ⟨b3, of3, none⟩) km m1) ∧ (w'.setCell ⟨g_M, q0, none⟩ v).cell? ⟨b3, of3 + j * 2, none⟩ = some (.int .i64 (q0 : Int)) ∧ (w'.setCell ⟨g_M, q0, none⟩ v).cell? ⟨b3, of3 + j * 2 + 1, none⟩ = some (.int .i64 (qf : Int)) ∧ (w'.setCell ⟨g_M, q0, none⟩ v).cell? ⟨g_M, qf, none⟩ = some (.int .i64 vf) := by
                    intro w' v hs
                    have c : ∀ (k i' : Nat), k ≠ g_M → (w'.setCell ⟨g_M, q0, none⟩ v).cell? ⟨k, i', none⟩ = w'.cell? ⟨k, i', none⟩ := fun k i' hk => by
                      have := Below.heap_setCell w' ⟨g_M, q0, none⟩ v k hk
                      simp only [World.cell?, this]
                    have q0' : g_P ≠ g_M := by omega
                    have hcq : (w'.setCell ⟨g_M, q0, none⟩ v).cell? ⟨g_M, qf, none⟩ = w'.cell? ⟨g_M, qf, none⟩ := World.cell?_setCell_other _ _ _ _ (by intro e; injection e with _ e2; exact hne (by omega))
                    exact ⟨(c _ _ q0').trans hs.1, (c _ _ hbm).trans hs.2.1, (c _ _ hbm).trans hs.2.2.1, hcq.trans hs.2.2.2⟩
                  have HKS2 := Lib.hid hks2
                  have KPD := Lib.hid (show wr.drew.cell? ⟨g_P, 0, none⟩ = some (.slice (some ⟨b3, of3, none⟩) km m1) ∧ wr.drew.cell? ⟨b3, of3 + j * 2, none⟩ = some (.int .i64 (q0 : Int)) ∧ wr.drew.cell? ⟨b3, of3 + j * 2 + 1, none⟩ = some (.int .i64 (qf : Int)) ∧ wr.drew.cell? ⟨g_M, qf, none⟩ = some (.int .i64 vf) from ⟨c_P0, d0, d1, zf⟩)
                  have KW0 := Lib.hid (show wr.cell? ⟨g_P, 0, none⟩ = some (.slice (some ⟨b3, of3, none⟩) km m1) ∧ wr.cell? ⟨b3, of3 + j * 2, none⟩ = some (.int .i64 (q0 : Int)) ∧ wr.cell? ⟨b3, of3 + j * 2 + 1, none⟩ = some (.int .i64 (qf : Int)) ∧ wr.cell? ⟨g_M, qf, none⟩ = some (.int .i64 vf) from ⟨c_P0, d0, d1, zf⟩)
                  clear hks2
                  go_region_held3 (fun w' => w'.cell? ⟨g_P, 0, none⟩ = some (.slice (some ⟨b3, of3, none⟩) km m1) ∧ w'.cell? ⟨b3, of3 + j * 2, none⟩ = some (.int .i64 (q0 : Int)) ∧ w'.cell? ⟨b3, of3 + j * 2 + 1, none⟩ = some (.int .i64 (qf : Int)) ∧ w'.cell? ⟨g_M, qf, none⟩ = some (.int .i64 vf))
                    (first | with_reducible exact KPD.out | with_reducible exact HKS2.out _ _ KPD.out | exact HKS2.out wr.drew _ KPD.out | exact HKS2.out wr _ KW0.out | fail)
                    (fail)
                  all_goals (
                    have h_A := HK_A.out.far (p := ⟨g_M, q0, none⟩) (show g_A ≠ g_M by omega) (.int .i64 vf)
                    have h_T := HK_T.out.far (p := ⟨g_M, q0, none⟩) (show g_T ≠ g_M by omega) (.int .i64 vf)
                    have h_P := HK_P.out.far (p := ⟨g_M, q0, none⟩) (show g_P ≠ g_M by omega) (.int .i64 vf)
                    have h_M := HK_M.out.set_ q0 (.int .i64 vf)
                    rw [rowI_set, ← HMT2.out] at h_M
                    have h_W := HK_W.out.far (p := ⟨g_M, q0, none⟩) (show g_W ≠ g_M by omega) (.int .i64 vf)
                    have s_N := HR_N.out.setB HK_M.out (by decide) q0 (.int .i64 vf)
                    have s_G := HR_G.out.setB HK_M.out (by decide) q0 (.int .i64 vf)
                    have s_S := HR_S.out.setB HK_M.out (by decide) q0 (.int .i64 vf)
                    have bel2 := HB.out.setCell (p := ⟨g_M, q0, none⟩) (show w.heap.size ≤ g_M by omega) (.int .i64 vf)
                    have H1_A := Lib.hid h_A
                    have H1_T := Lib.hid h_T
                    have H1_P := Lib.hid h_P
                    have H1_M := Lib.hid h_M
                    have H1_W := Lib.hid h_W
                    have H2_N := Lib.hid s_N
                    have H2_G := Lib.hid s_G
                    have H2_S := Lib.hid s_S
                    have H3 := Lib.hid bel2
                    clear h_A h_T h_P h_M h_W s_N s_G s_S bel2
                    go_wp2_with fail
                    go_roundg (gk - 1)
                    case measure => omega
                    case rel => exact ⟨j + 1, by omega, by go_num, H1_A, H1_T, H1_P, H1_M, H1_W, H2_N, H2_G, H2_S, by first | exact H3 | exact Lib.hid (below_drew1 H3.out)⟩
                    )
                · have hzb : (v0 == 0) = false := by rw [beq_eq_false_iff_ne]; exact hz
                  have hmt := HMT.out
                  rw [if_neg hz] at hmt
                  have hkm := HK_M.out
                  rw [← hmt] at hkm
                  clear HK_M hmt HMT
                  have HK_M := Lib.hid hkm
                  clear hkm
                  go_wp2_with fail
                  go_roundg (gk - 1)
                  case measure => omega
                  case rel => exact ⟨j + 1, by omega, by go_num, HK_A, HK_T, HK_P, HK_M, HK_W, HR_N, HR_G, HR_S, HB⟩
              · obtain rfl : j = km := by omega
                obtain ⟨M', hM'⟩ : ∃ M', (pm.take j).foldl mergeL M = M' := ⟨_, rfl⟩
                have hMe : pm.foldl mergeL M = M' := by rw [← hM', List.take_of_length_le (by rw [HKM.out]; exact Nat.le_refl _)]
                have hM'l : M'.length = 80 := by rw [← hM', merges_len]; exact HML.out
                have hmg : mG M' = mergesF (mG M) pm := by
                  rw [← hMe]
                  refine mG_merges pm M (fun m hm => ?_)
                  have hmb := HMB.out m hm
                  rw [HML.out]
                  rcases hmb.1 with h | ⟨x, hx, h⟩
                  · omega
                  · have := H80.out.1 x hx; omega
                obtain ⟨_, _, himg, _⟩ := HI.out (mG M) HMP.out
                rw [← hmg] at himg
                rw [hM'] at HK_M
                have h80u : (∀ y ∈ l2, 0 ≤ y.id ∧ y.id < 80 ∧ 0 ≤ y.par ∧ y.par < 80) ∧ 0 ≤ lv2 ∧ lv2 < 80 := by
                  have hid : ∀ y ∈ l2, 0 ≤ y.id ∧ y.id < 80 := fun y hy => by
                    obtain ⟨x, hx, e⟩ := himg.back y hy
                    have := H80.out.1 x hx
                    omega
                  refine ⟨fun y hy => ?_, ?_⟩
                  · have h1 := hid y hy
                    by_cases e : y.id = 1
                    · have := (HRU.out.root hy e).1
                      omega
                    · have := HRU.out.parent hy e
                      omega
                  · obtain ⟨y, hy, e⟩ := HRU.out.live
                    have := hid y hy
                    dsimp only at e
                    omega
                have H80U := Lib.hid h80u
                clear h80u
                have HIMG := Lib.hid himg
                have HM'L := Lib.hid hM'l
                clear hM' hMe hmg himg hM'l hlt
                have c_T0 : wr.cell? ⟨g_T, 0, none⟩ = some (.slice A1 i c1) := (HK_T.out.cell 0).trans rfl
                have c_T1 : wr.cell? ⟨g_T, 1, none⟩ = some (.int .i64 lv) := (HK_T.out.cell 1).trans rfl
                have c_T2 : wr.cell? ⟨g_T, 2, none⟩ = some (.int .i64 nx) := (HK_T.out.cell 2).trans rfl
                have c_T3 : wr.cell? ⟨g_T, 3, none⟩ = some (.int .u64 nw) := (HK_T.out.cell 3).trans rfl
                have c_P0 : wr.cell? ⟨g_P, 0, none⟩ = some (.slice M1 j m1) := (HK_P.out.cell 0).trans rfl
                have c_P1 : wr.cell? ⟨g_P, 1, none⟩ = some (.slice S1 ks s1) := (HK_P.out.cell 1).trans rfl
                have HC := Lib.hid (done_c (n := i) (n' := n2) (ks := ks) (sc := s1) (km := j) (mc := m1) (MA := M1) HD.out HN1.out HN2.out HKS.out hc1 HR_N.out (HTT.out.below HB.out) HS1.out HR_S.out hksl HPO.out.2)
                go_wp2_with fail
                refine HC.out.mono ?_
                rintro e wn8 ⟨A2, c2, rfl, hc2, hq2, hbn⟩
                clear c_T0 c_T1 c_T2 c_T3 c_P0 c_P1 HC
                have k_A := HK_A.out.below hbn HK_A.out.lt
                have k_T := HK_T.out.below hbn HK_T.out.lt
                have k_P := HK_P.out.below hbn HK_P.out.lt
                have k_M := HK_M.out.below hbn HK_M.out.lt
                have k_W := HK_W.out.below hbn HK_W.out.lt
                have r_N := HR_N.out.below hbn
                have r_G := HR_G.out.below hbn
                have r_S := HR_S.out.below hbn
                have bel := HB.out.trans (hbn.mono HB.out.size)
                clear HK_A HK_T HK_P HK_M HK_W HR_N HR_G HR_S HB hbn
                have HK_A := Lib.hid k_A
                have HK_T := Lib.hid k_T
                have HK_P := Lib.hid k_P
                have HK_M := Lib.hid k_M
                have HK_W := Lib.hid k_W
                have HR_N := Lib.hid r_N
                have HR_G := Lib.hid r_G
                have HR_S := Lib.hid r_S
                have HB := Lib.hid bel
                clear k_A k_T k_P k_M k_W r_N r_G r_S bel
                have HR_U := Lib.hid hq2
                clear hq2
                obtain ⟨g_U, hg⟩ : ∃ g, g = wn8.heap.size := ⟨_, rfl⟩
                have lt_A_U : g_A < g_U := by have := HK_A.out.lt; omega
                have lt_T_U : g_T < g_U := by have := HK_T.out.lt; omega
                have lt_P_U : g_P < g_U := by have := HK_P.out.lt; omega
                have lt_M_U : g_M < g_U := by have := HK_M.out.lt; omega
                have lt_W_U : g_W < g_U := by have := HK_W.out.lt; omega
                have bs_U : w.heap.size ≤ g_U := by have := HB.out.size; omega
                have HG := Lib.hid hg
                clear hg
                go_upto_region 29 with fail
                have hbx : Below wn8.heap.size wn8 (wn8.alloc (.cells #[.slice A2 n2 c2, .int .i64 lv2, .int .i64 nx2, .int .u64 nw2] 28)) := (Below.refl _ _).alloc (Nat.le_refl _) _
                have hkx := Blk.new wn8 28 #[.slice A2 n2 c2, .int .i64 lv2, .int .i64 nx2, .int .u64 nw2]
                rw [← HG.out] at hkx ⊢
                generalize (wn8.alloc (.cells #[.slice A2 n2 c2, .int .i64 lv2, .int .i64 nx2, .int .u64 nw2] 28)) = wn9 at hbx hkx ⊢
                clear HG
                have k_A := HK_A.out.below hbx HK_A.out.lt
                have k_T := HK_T.out.below hbx HK_T.out.lt
                have k_P := HK_P.out.below hbx HK_P.out.lt
                have k_M := HK_M.out.below hbx HK_M.out.lt
                have k_W := HK_W.out.below hbx HK_W.out.lt
                have r_N := HR_N.out.below hbx
                have r_G := HR_G.out.below hbx
                have r_S := HR_S.out.below hbx
                have r_U := HR_U.out.below hbx
                have bel := HB.out.trans (hbx.mono HB.out.size)
                clear HK_A HK_T HK_P HK_M HK_W HR_N HR_G HR_S HR_U HB hbx
                have HK_A := Lib.hid k_A
                have HK_T := Lib.hid k_T
                have HK_P := Lib.hid k_P
                have HK_M := Lib.hid k_M
                have HK_W := Lib.hid k_W
                have HR_N := Lib.hid r_N
                have HR_G := Lib.hid r_G
                have HR_S := Lib.hid r_S
                have HR_U := Lib.hid r_U
                have HB := Lib.hid bel
                clear k_A k_T k_P k_M k_W r_N r_G r_S r_U bel
                have HK_U := Lib.hid hkx
                clear hkx
                have c_U0 : wn9.cell? ⟨g_U, 0, none⟩ = some (.slice A2 n2 c2) := (HK_U.out.cell 0).trans rfl
                have c_U1 : wn9.cell? ⟨g_U, 1, none⟩ = some (.int .i64 lv2) := (HK_U.out.cell 1).trans rfl
                have c_U2 : wn9.cell? ⟨g_U, 2, none⟩ = some (.int .i64 nx2) := (HK_U.out.cell 2).trans rfl
                have c_U3 : wn9.cell? ⟨g_U, 3, none⟩ = some (.int .u64 nw2) := (HK_U.out.cell 3).trans rfl
                have hlive : thrN ⟨l2, lv2, nx2, nw2⟩ (mG M') 0 = LVv := by rw [HIMG.out.live]; exact HLV.out
                have hth := through_any A2 c2 l2 lv2 nx2 nw2 g_M M' 0 wn9 HSU.out.1 HR_U.out HK_M.out HM'L.out (fun x hx => (H80U.out.1 x hx).2.2) (by decide) H80U.out.2
                rw [HN2.out, hlive] at hth
                have HC := Lib.hid hth
                clear hth hlive
                go_wp2_with fail
                refine HC.out.mono ?_
                rintro e wn10 ⟨rfl, hbn⟩
                clear c_U0 c_U1 c_U2 c_U3 HC
                have k_A := HK_A.out.below hbn HK_A.out.lt
                have k_T := HK_T.out.below hbn HK_T.out.lt
                have k_P := HK_P.out.below hbn HK_P.out.lt
                have k_M := HK_M.out.below hbn HK_M.out.lt
                have k_W := HK_W.out.below hbn HK_W.out.lt
                have k_U := HK_U.out.below hbn HK_U.out.lt
                have r_N := HR_N.out.below hbn
                have r_G := HR_G.out.below hbn
                have r_S := HR_S.out.below hbn
                have r_U := HR_U.out.below hbn
                have bel := HB.out.trans (hbn.mono HB.out.size)
                clear HK_A HK_T HK_P HK_M HK_W HK_U HR_N HR_G HR_S HR_U HB hbn
                have HK_A := Lib.hid k_A
                have HK_T := Lib.hid k_T
                have HK_P := Lib.hid k_P
                have HK_M := Lib.hid k_M
                have HK_W := Lib.hid k_W
                have HK_U := Lib.hid k_U
                have HR_N := Lib.hid r_N
                have HR_G := Lib.hid r_G
                have HR_S := Lib.hid r_S
                have HR_U := Lib.hid r_U
                have HB := Lib.hid bel
                clear k_A k_T k_P k_M k_W k_U r_N r_G r_S r_U bel
                have c_U0 : wn10.cell? ⟨g_U, 0, none⟩ = some (.slice A2 n2 c2) := (HK_U.out.cell 0).trans rfl
                go_wp2_with fail
                clear c_U0
                go_loopg [22] n2 (fun k v22 wr => ∃ (i : Nat), i + k = n2 ∧ v22 = .int .i64 (i : Int) ∧ Hid (Below wn10.heap.size wn10 wr))
                case atStart => exact ⟨0, by omega, rfl, Lib.hid (Below.refl _ _)⟩
                case round =>
                  obtain ⟨i, hik, rfl, HE_L⟩ := hrel
                  have k_A := HK_A.out.below HE_L.out HK_A.out.lt
                  have k_T := HK_T.out.below HE_L.out HK_T.out.lt
                  have k_P := HK_P.out.below HE_L.out HK_P.out.lt
                  have k_M := HK_M.out.below HE_L.out HK_M.out.lt
                  have k_W := HK_W.out.below HE_L.out HK_W.out.lt
                  have k_U := HK_U.out.below HE_L.out HK_U.out.lt
                  have r_N := HR_N.out.below HE_L.out
                  have r_G := HR_G.out.below HE_L.out
                  have r_S := HR_S.out.below HE_L.out
                  have r_U := HR_U.out.below HE_L.out
                  have bel := HB.out.trans (HE_L.out.mono HB.out.size)
                  clear HK_A HK_T HK_P HK_M HK_W HK_U HR_N HR_G HR_S HR_U HB
                  have HK_A := Lib.hid k_A
                  have HK_T := Lib.hid k_T
                  have HK_P := Lib.hid k_P
                  have HK_M := Lib.hid k_M
                  have HK_W := Lib.hid k_W
                  have HK_U := Lib.hid k_U
                  have HR_N := Lib.hid r_N
                  have HR_G := Lib.hid r_G
                  have HR_S := Lib.hid r_S
                  have HR_U := Lib.hid r_U
                  have HB := Lib.hid bel
                  clear k_A k_T k_P k_M k_W k_U r_N r_G r_S r_U bel
                  by_cases hlt : i < n2
                  · have hil : i < l2.length := by rw [HN2.out]; exact hlt
                    have hym := List.getElem_mem hil
                    obtain ⟨b3, of3, hA2, ⟨cs, fr, hob⟩, hcell⟩ := HR_U.out (by omega)
                    obtain ⟨e0, _, _, _, e4, _⟩ := nodes_get hcell i hil
                    have hrd := HIMG.out.rd _ hym
                    have hbk := HIMG.out.back _ hym
                    have hpy := HRU.out.pos hym
                    obtain ⟨y, hy⟩ : ∃ y, l2[i]'hil = y := ⟨_, rfl⟩
                    have h80y := H80U.out.1 _ hym
                    rw [hy] at e0 e4 hrd hbk hpy h80y
                    obtain ⟨y0, y1, y2, y3, y4, y5⟩ := y
                    dsimp only at e0 e4 hrd hbk hpy h80y
                    have hwv : mG Wl y0 = thrN ⟨l2, lv2, nx2, nw2⟩ (mG M') y0 := by
                      obtain ⟨x, hx, e⟩ := hbk
                      have h1 := HWS.out x hx
                      rw [e] at h1
                      rw [h1]
                      unfold thrN
                      rw [if_neg (by omega), if_neg (by omega)]
                      exact hrd.symm
                    obtain ⟨q, hq⟩ : ∃ q : Nat, y0 = (q : Int) := ⟨y0.toNat, by omega⟩
                    subst hq
                    have hq80 : q < 80 := by omega
                    have hqi : (q : Int) < 80 := by omega
                    obtain ⟨D, hD⟩ : ∃ D, thrN ⟨l2, lv2, nx2, nw2⟩ (mG M') (q : Int) = D := ⟨_, rfl⟩
                    have hth := fun (wx : World) (hb : Below wr.heap.size wr wx) => through_any A2 c2 l2 lv2 nx2 nw2 g_M M' (q : Int) wx HSU.out.1 (HR_U.out.below hb) (HK_M.out.below hb HK_M.out.lt) HM'L.out (fun x hx => (H80U.out.1 x hx).2.2) (by omega) H80U.out.2
                    rw [HN2.out, hD] at hth
                    rw [hD] at hwv
                    have z0 : wr.cell? ⟨g_W, q, none⟩ = some (.int .i64 D) := ((HK_W.out.cell q).trans (rowI_at (by rw [HWN.out]; exact hq80))).trans (by rw [hwv])
                    have HTH := Lib.hid hth
                    have hlu : g_U < wr.heap.size := HK_U.out.lt
                    have hlw : g_W < wr.heap.size := HK_W.out.lt
                    have hlb := obj_lt hob
                    have c_U0 : wr.cell? ⟨g_U, 0, none⟩ = some (.slice A2 n2 c2) := (HK_U.out.cell 0).trans rfl
                    rw [hA2] at c_U0 HTH
                    clear hcell hob hy hym hD hth hwv hrd hbk hA2 h80y hpy
                    have c_U1 : wr.cell? ⟨g_U, 1, none⟩ = some (.int .i64 lv2) := (HK_U.out.cell 1).trans rfl
                    have c_U2 : wr.cell? ⟨g_U, 2, none⟩ = some (.int .i64 nx2) := (HK_U.out.cell 2).trans rfl
                    have c_U3 : wr.cell? ⟨g_U, 3, none⟩ = some (.int .u64 nw2) := (HK_U.out.cell 3).trans rfl
                    cases y4 with
                    | true =>
                      go_upto_region 34 with fail
                      go_big_quiet (fail)
                      have HB5 := Lib.hid (below_drewN (Below.refl wr.heap.size wr) nq)
                      go_wp2_with fail
                      go_roundg (gk - 1)
                      case measure => omega
                      case rel => exact ⟨i + 1, by omega, by go_num, Lib.hid (HE_L.out.trans (HB5.out.mono HE_L.out.size))⟩
                    | false =>
                      go_upto_region 34 with fail
                      have hkeep : ∀ w', Below wr.heap.size wr w' → w'.cell? ⟨g_U, 0, none⟩ = some (.slice (some ⟨b3, of3, none⟩) n2 c2) ∧ w'.cell? ⟨g_U, 1, none⟩ = some (.int .i64 lv2) ∧ w'.cell? ⟨g_U, 2, none⟩ = some (.int .i64 nx2) ∧ w'.cell? ⟨g_U, 3, none⟩ = some (.int .u64 nw2) ∧ w'.cell? ⟨b3, of3 + i * 6, none⟩ = some (.int .i64 (q : Int)) ∧ w'.cell? ⟨b3, of3 + i * 6 + 4, none⟩ = some (.bool false) ∧ w'.cell? ⟨g_W, q, none⟩ = some (.int .i64 D) := fun w' hb => ⟨(hb.cell (p := ⟨g_U, 0, none⟩) hlu).trans c_U0, (hb.cell (p := ⟨g_U, 1, none⟩) hlu).trans c_U1, (hb.cell (p := ⟨g_U, 2, none⟩) hlu).trans c_U2, (hb.cell (p := ⟨g_U, 3, none⟩) hlu).trans c_U3, (hb.cell (p := ⟨b3, of3 + i * 6, none⟩) hlb).trans e0, (hb.cell (p := ⟨b3, of3 + i * 6 + 4, none⟩) hlb).trans e4, (hb.cell (p := ⟨g_W, q, none⟩) hlw).trans z0⟩
                      have HKP := Lib.hid hkeep
                      clear hkeep
                      go_region_held3 (fun w' => w'.cell? ⟨g_U, 0, none⟩ = some (.slice (some ⟨b3, of3, none⟩) n2 c2) ∧ w'.cell? ⟨g_U, 1, none⟩ = some (.int .i64 lv2) ∧ w'.cell? ⟨g_U, 2, none⟩ = some (.int .i64 nx2) ∧ w'.cell? ⟨g_U, 3, none⟩ = some (.int .u64 nw2) ∧ w'.cell? ⟨b3, of3 + i * 6, none⟩ = some (.int .i64 (q : Int)) ∧ w'.cell? ⟨b3, of3 + i * 6 + 4, none⟩ = some (.bool false) ∧ w'.cell? ⟨g_W, q, none⟩ = some (.int .i64 D))
                        (first | exact HKP.out _ (below_drew1 (Below.refl _ _)) | exact HKP.out _ hbl5 | fail)
                        (first
                          | (go_at_call 20; refine (HTH.out _ ?_).mono ?_; (exact below_drew1 (Below.refl _ _)); (rintro e w5 ⟨rfl, hb5⟩; have hbl5 : Below wr.heap.size wr w5 := (below_drew1 (Below.refl _ _)).trans hb5))
                          | fail)
                      all_goals have HB5 := Lib.hid hbl5
                      all_goals clear hbl5
                      all_goals go_wp2_with fail
                      all_goals go_roundg (gk - 1)
                      all_goals first | omega | exact ⟨i + 1, by omega, by go_num, Lib.hid (HE_L.out.trans (HB5.out.mono HE_L.out.size))⟩
                  · obtain rfl : i = n2 := by omega
                    have c_U0 : wr.cell? ⟨g_U, 0, none⟩ = some (.slice A2 i c2) := (HK_U.out.cell 0).trans rfl
                    go_wp2_with fail
                    go_ret
                    exact ⟨rfl, HB.out⟩
end Go.Proofs.YtfdhehjfbcddgaaDoor.Pr
end
section
namespace Go.Proofs.YtfdhehjfbcddgaaDoor.Pr
open Go.RowKit Go.Deep Go.ChangeShapes Go.WideShapes Go.Proofs.YtfdhehjfbcddgaaDoor Go.Proofs.YtfdhehjfbcddgaaDoorW.PrintWords Go.Proofs.YtfdhehjfbcddgaaDoorW.PrintLast
theorem bool_pick {l : Nat} {P : Nat → Bool → Prop} (h : ∀ i, i < l → ∃ q, P i q) : ∃ f : Nat → Bool, ∀ i, i < l → P i (f i) := by
  refine ⟨fun i => if hi : i < l then (h i hi).choose else false, fun i hi => ?_⟩
  simp only [dif_pos hi]
  exact (h i hi).choose_spec
set_option maxRecDepth 100000 in
theorem open_bools {H : Type} {enc : TypeId × Value → H} {W : World} {r : Reach} {b0 : Nat} {v : Value} {d : DataW H} {p : List MemPlace} (hv : Value.okWide Tryd.prog W r b0 52 v) (h : DataW.Trod enc Tryd.prog W 0 (fun _ => true) true 52 v d p) :
    ∃ (A : Option Addr) (cap : Nat) (l : List Bool), v = .slice A l.length cap ∧ l.length ≤ maxLen ∧ BoolsAt W A l := by
  obtain ⟨a0, len0, cap0, rfl⟩ := okWide_slice Tryd.underlying52 hv
  obtain ⟨fuel, hf⟩ := h
  rcases open_slice Tryd.underlying52 hf with ⟨hcs, _⟩ | ⟨a, len, cap, m, n, D, Pl, hcs, _, hl, hm, hmm, _, hx⟩
  · simp [Value.cells] at hcs
    obtain ⟨rfl, rfl, rfl⟩ := hcs
    exact ⟨none, 0, [], rfl, Nat.zero_le _, fun hp => absurd hp (Nat.lt_irrefl 0)⟩
  · simp [Value.cells] at hcs
    obtain ⟨rfl, rfl, rfl⟩ := hcs
    have hmc : m = cap0 := by rw [hmm]; rfl
    have hce : Tryd.prog.cellsOf 4 = 1 := by kernel_rfl
    rw [hce] at hx
    have each : ∀ i, i < len0 → ∃ q : Bool, W.cell? (a.add (i * 1)) = some (.bool q) := by
      intro i hi
      obtain ⟨cs', h1, h2⟩ := hx i (by omega)
      obtain ⟨_, hlen, hcell⟩ := World.cells?_some h1
      match cs', hlen with
      | [c0], _ =>
      obtain ⟨z0, e0, _⟩ := DataW.trod_bool Tryd.underlying4 h2
      simp at e0
      subst e0
      refine ⟨z0, ?_⟩
      have := (hcell 0 (by decide)).trans rfl
      rwa [show (a.add (i * 1)).add 0 = a.add (i * 1) by unfold Addr.add; simp] at this
    obtain ⟨f, hf'⟩ := bool_pick each
    have hlen : ((List.range len0).map f).length = len0 := by simp
    refine ⟨some a, cap0, (List.range len0).map f, by rw [hlen], by rw [hlen]; omega, ?_⟩
    intro hp
    rw [hlen] at hp
    have h00 := hf' 0 hp
    have hs : a.spot = none := by
      have h1 := World.cell?_spot h00
      unfold Addr.add at h1
      rw [if_pos (by omega)] at h1
      exact h1
    obtain ⟨b, off, spot⟩ := a
    simp only at hs
    subst hs
    have had : ∀ (o j : Nat), (⟨b, o, none⟩ : Addr).add j = ⟨b, o + j, none⟩ := fun o j => by unfold Addr.add; split <;> simp_all
    refine ⟨b, off, rfl, ?_, fun j hj => ?_⟩
    · rw [had] at h00; exact block_lt_of_cell h00
    · rw [hlen] at hj
      have h1 := hf' j hj
      rw [had, Nat.mul_one] at h1
      rw [h1, List.getD_eq_getElem?_getD, List.getElem?_eq_getElem (by rw [hlen]; exact hj)]
      simp
end Go.Proofs.YtfdhehjfbcddgaaDoor.Pr
end
