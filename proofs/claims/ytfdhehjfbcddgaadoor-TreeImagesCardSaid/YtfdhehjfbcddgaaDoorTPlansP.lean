/- What plans leave, plain: each plan's steps apply; no node goes but the one that is deleted, none is another one; consolidation's bound. No conditions. -/
import Derived.Test.YtfdhehjfbcddgaaDoorTNextP
import Derived.Test.YtfdhehjfbcddgaaDoorTDel
namespace Go.Proofs.YtfdhehjfbcddgaaDoor.Pr
open Go.RowKit Go.Proofs.YtfdhehjfbcddgaaDoorW.PrintWords Go.Proofs.YtfdhehjfbcddgaaDoorW.PrintLast Go.Proofs.YtfdhehjfbcddgaaDoor
set_option linter.unusedVariables false
theorem done_app2 : ∀ (a b : List St) (t : Tr), (doneN t a).2 = 0 → doneN t (a ++ b) = doneN (doneN t a).1 b := by
  intro a
  induction a with
  | nil => intro b t _; rfl
  | cons s a ih =>
    intro b t h
    rw [List.cons_append, done_on]
    rw [done_on] at h ⊢
    by_cases h0 : (applyN t s).2 = 0
    · rw [if_pos h0] at h ⊢
      rw [if_pos h0]
      exact ih b _ h
    · rw [if_neg h0] at h
      exact absurd h h0
/-- nodes are kept, but for one; no node comes up -/
structure Rel (d : Int) (t u : Tr) : Prop where
  keep : ∀ x ∈ t.l, x.ghost = false → x.id ≠ d → ∃ y ∈ u.l, y.id = x.id ∧ y.ghost = false ∧ y.name = x.name ∧ y.time = x.time ∧ y.pin = x.pin
  back : ∀ y ∈ u.l, y.ghost = false → ∃ x ∈ t.l, x.id = y.id ∧ x.ghost = false
theorem Rel.refl (d : Int) (t : Tr) : Rel d t t := ⟨fun x hx hg _ => ⟨x, hx, rfl, hg, rfl, rfl, rfl⟩, fun y hy hg => ⟨y, hy, rfl, hg⟩⟩
theorem Rel.trans {d : Int} {t u v : Tr} (h1 : Rel d t u) (h2 : Rel d u v) : Rel d t v := by
  refine ⟨fun x hx hg hd => ?_, fun z hz hg => ?_⟩
  · obtain ⟨y, hy, e1, e2, e3, e4, e5⟩ := h1.keep x hx hg hd
    obtain ⟨z, hz, f1, f2, f3, f4, f5⟩ := h2.keep y hy e2 (by omega)
    exact ⟨z, hz, by omega, f2, f3.trans e3, f4.trans e4, f5.trans e5⟩
  · obtain ⟨y, hy, e1, e2⟩ := h2.back z hz hg
    obtain ⟨x, hx, f1, f2⟩ := h1.back y hy e2
    exact ⟨x, hx, by omega, f2⟩
theorem mem_dropT {t : Tr} {a : Int} {z : Nd} : z ∈ (dropT t a).l ↔ z ∈ t.l ∧ z.id ≠ a := by
  show z ∈ t.l.filter (otherN a) ↔ _
  rw [List.mem_filter]
  unfold otherN
  simp
theorem rel_drop {d : Int} {t : Tr} {a : Int} (h : ∀ y ∈ t.l, y.id = a → y.ghost = true ∨ a = d) : Rel d t (dropT t a) := by
  refine ⟨fun x hx hg hd => ⟨x, mem_dropT.2 ⟨hx, fun e => ?_⟩, rfl, hg, rfl, rfl, rfl⟩, fun y hy hg => ⟨y, (mem_dropT.1 hy).1, rfl, hg⟩⟩
  rcases h x hx e with h1 | h1
  · rw [hg] at h1; cases h1
  · omega
theorem rel_move (d : Int) (t : Tr) (a p : Int) : Rel d t (moveT t a p) := by
  refine ⟨fun x hx hg hd => ⟨_, mem_moveT.2 ⟨x, hx, rfl⟩, ?_⟩, fun y hy hg => ?_⟩
  · split <;> exact ⟨rfl, hg, rfl, rfl, rfl⟩
  · obtain ⟨x, hx, rfl⟩ := mem_moveT.1 hy
    refine ⟨x, hx, ?_⟩
    split at hg
    · rename_i e
      rw [if_pos e]; exact ⟨rfl, hg⟩
    · rename_i e
      rw [if_neg e]; exact ⟨rfl, hg⟩
theorem rel_live (d : Int) (t : Tr) (a : Int) : Rel d t (liveT t a) := ⟨fun x hx hg _ => ⟨x, hx, rfl, hg, rfl, rfl, rfl⟩, fun y hy hg => ⟨y, hy, rfl, hg⟩⟩
theorem rel_ghost (t : Tr) (a : Int) : Rel a t (ghostT t a) ∧ ∀ y ∈ (ghostT t a).l, y.id = a → y.ghost = true := by
  have hm : ∀ {z : Nd}, z ∈ (ghostT t a).l ↔ ∃ y ∈ t.l, z = if y.id = a then setGhost y else y := mem_mapN
  refine ⟨⟨fun x hx hg hd => ⟨x, hm.2 ⟨x, hx, by rw [if_neg hd]⟩, rfl, hg, rfl, rfl, rfl⟩, fun y hy hg => ?_⟩, fun y hy e => ?_⟩
  · obtain ⟨x, hx, rfl⟩ := hm.1 hy
    split at hg
    · cases hg
    · rename_i e
      exact ⟨x, hx, by rw [if_neg e], hg⟩
  · obtain ⟨x, hx, rfl⟩ := hm.1 hy
    by_cases hx1 : x.id = a
    · rw [if_pos hx1]; rfl
    · rw [if_neg hx1] at e; exact absurd e hx1
theorem rel_down {d : Int} {t : Tr} (h : RightP t) {x : Nd} (hx : x ∈ t.l) (hg : x.ghost = true ∨ x.id = d) (kid : Int) : Rel d t (downT t x kid) := by
  unfold downT
  split
  · refine (rel_live d t x.par).trans (rel_drop (fun y hy e => ?_))
    obtain rfl := srt_eq h.srt hy hx e
    exact hg
  · refine (rel_move d t kid x.par).trans (rel_drop (fun y hy e => ?_))
    obtain ⟨z, hz, rfl⟩ := mem_moveT.1 hy
    have hzid : (if z.id = kid then setPar x.par z else z).id = z.id := by split <;> rfl
    have hzg : (if z.id = kid then setPar x.par z else z).ghost = z.ghost := by split <;> rfl
    rw [hzid] at e
    rw [hzg]
    obtain rfl := srt_eq h.srt hz hx e
    exact hg
theorem gone_back {d a : Int} {t u : Tr} (h : Rel d t u) (hg : ∀ y ∈ t.l, y.id = a → y.ghost = true) : ∀ y ∈ u.l, y.id = a → y.ghost = true := by
  intro y hy e
  cases hh : y.ghost
  · obtain ⟨x, hx, e1, e2⟩ := h.back y hy hh
    have := hg x hx (by omega)
    rw [e2] at this; cases this
  · rfl
theorem gone_drop (t : Tr) (a : Int) : ∀ y ∈ (dropT t a).l, y.id = a → y.ghost = true := fun y hy e => absurd e (mem_dropT.1 hy).2
theorem gone_down (t : Tr) (x : Nd) (kid : Int) : ∀ y ∈ (downT t x kid).l, y.id = x.id → y.ghost = true := gone_drop _ _
/-- a planner: its steps, done, make its tree -/
structure Plnd (d : Int) (t : Tr) (s : Ps) : Prop where
  done : doneN t s.ss = (s.t, 0)
  right : RightP s.t
  rel : Rel d t s.t
theorem plnd_nil (d : Int) {t : Tr} (h : RightP t) : Plnd d t ⟨t, [], []⟩ := ⟨rfl, h, Rel.refl d t⟩
theorem plnd_step {d : Int} {t u : Tr} {s : Ps} {st : St} {ms : List Mg} (h : Plnd d t s) (ha : applyN s.t st = (u, 0)) (hr : Rel d s.t u) : Plnd d t ⟨u, ms, s.ss ++ [st]⟩ := by
  refine ⟨?_, right_to ha, h.rel.trans hr⟩
  show doneN t (s.ss ++ [st]) = (u, 0)
  rw [done_app2 _ _ _ (by rw [h.done]), h.done, done_on, ha, if_pos rfl]
  rfl
theorem plnd_two {d : Int} {t u v : Tr} {s : Ps} {st st' : St} {ms : List Mg} (h : Plnd d t s) (ha : applyN s.t st = (u, 0)) (hb : applyN u st' = (v, 0)) (hr : Rel d s.t v) : Plnd d t ⟨v, ms, s.ss ++ [st, st']⟩ := by
  refine ⟨?_, right_to hb, h.rel.trans hr⟩
  show doneN t (s.ss ++ [st, st']) = (v, 0)
  rw [done_app2 _ _ _ (by rw [h.done]), h.done, done_on, ha, if_pos rfl, done_on, hb, if_pos rfl]
  rfl
theorem plnd_down {d : Int} {t : Tr} {s : Ps} {ms : List Mg} (h : Plnd d t s) {x : Nd} (hx : x ∈ s.t.l) (h1 : x.id ≠ 1) (hg : x.ghost = true ∨ x.id = d) {kid : Int} (hk : kidsN s.t.l s.t.lv x.id = [kid]) :
    Plnd d t ⟨downT s.t x kid, ms, s.ss ++ [downS x kid, st3 3 x.id 0]⟩ := by
  obtain ⟨u, h2, h3, h4⟩ := down_steps h.right hx h1 hk
  exact plnd_two h h2 h4 (rel_down h.right hx hg kid)
theorem plnd_clear {d : Int} {t : Tr} : ∀ (f : Nat) (s : Ps), Plnd d t s → Plnd d t (clearN f s) ∧ Rel d s.t (clearN f s).t := by
  intro f
  induction f with
  | zero => intro s h; exact ⟨h, Rel.refl d _⟩
  | succ f ih =>
    intro s h
    rw [clearN]
    cases hl : lastIdle s.t s.t.l.length with
    | none => exact ⟨h, Rel.refl d _⟩
    | some i =>
      dsimp only
      obtain ⟨h1, h2⟩ := lastIdle_some hl
      obtain ⟨h3, h4, _⟩ := idle_drop h.right h1 h2
      have hx : s.t.l.getD i zN ∈ s.t.l := by rw [getD_get h1]; exact List.getElem_mem _
      have hg : (s.t.l.getD i zN).ghost = true := by
        unfold idleB at h2
        rw [Bool.and_eq_true] at h2
        exact h2.1
      have hr : Rel d s.t (dropT s.t (s.t.l.getD i zN).id) := rel_drop (fun y hy e => by
        have := srt_eq h.right.srt hy hx e
        rw [this]; exact .inl hg)
      have hd := do_ok (s := s) h3
      rw [hd]
      obtain ⟨k1, k2⟩ := ih _ (plnd_step (ms := s.ms) h h3 hr)
      exact ⟨k1, hr.trans k2⟩
theorem plnd_con {t : Tr} {bound : Int} (hb : 1 ≤ bound) : ∀ (f : Nat) (s : Ps), Plnd 0 t s → mea s.t.l ≤ f → Plnd 0 t (conF bound f s) ∧ (shortN (conF bound f s) bound (conF bound f s).t.l).2 = false := by
  intro f
  induction f with
  | zero =>
    intro s h hm
    refine ⟨h, ?_⟩
    show (shortN s bound s.t.l).2 = false
    cases hh : (shortN s bound s.t.l).2
    · rfl
    · have := (short_less h.right hb hh).2.1
      omega
  | succ f ih =>
    intro s h hm
    rw [conF]
    by_cases c : (shortN s bound s.t.l).2 = true
    · rw [if_pos c]
      have hless := (short_less h.right hb c).2.1
      refine ih _ ?_ (by omega)
      rcases short_spec h.right hb s.t.l (fun x hx => hx) with ⟨h1, _⟩ | ⟨x, hx, hg, hx1, ⟨k0, h1⟩ | ⟨kid, hk, h1⟩ | ⟨y, hy, e1, e2, e3, h1⟩⟩
      · rw [h1] at c; cases c
      · rw [h1]
        exact plnd_step h (apply_drop h.right hx hx1 k0) (rel_drop (fun y hy e => by
          obtain rfl := srt_eq h.right.srt hy hx e
          exact .inl hg))
      · rw [h1]
        exact plnd_down h hx hx1 (.inl hg) hk
      · rw [h1]
        obtain ⟨_, p2, v, hv, hve⟩ := h.right.parent hy e3
        obtain ⟨_, q2, _⟩ := h.right.parent hx hx1
        have ha : applyN s.t (st3 4 x.id y.par) = (moveT s.t x.id y.par, 0) := by rw [← hve]; exact apply_move h.right hx hv hx1 (by omega)
        exact plnd_step h ha (rel_move 0 s.t x.id y.par)
    · rw [if_neg c]
      refine ⟨h, ?_⟩
      cases hh : (shortN s bound s.t.l).2
      · rfl
      · exact absurd hh c
/-- the deleted number of an act -/
def delOf (a : Ac) : Int := if 6 ≤ pickN a.op 12 ∧ pickN a.op 12 ≤ 8 then a.id else 0
theorem node_fine {t : Tr} {a : Int} (h : (nodeN t a).2 = 0) : RightP t ∧ ∃ x ∈ t.l, x.id = a ∧ x.ghost = false ∧ nodeN t a = (x, 0) := by
  obtain ⟨h1, h2, h3⟩ := node_ok h
  refine ⟨h1, (nodeN t a).1, h2, h3, ?_, Prod.ext rfl h⟩
  unfold nodeN at h ⊢
  dsimp only at h ⊢
  rw [(right_iff t).2 h1, if_neg (by decide)] at h
  by_cases c : (findN t.l a).2 = false ∨ (findN t.l a).1.ghost = true
  · rw [if_pos c] at h; cases h
  · cases hh : (findN t.l a).1.ghost
    · rfl
    · exact absurd (.inr hh) c
theorem plan_bad {t : Tr} {a : Ac} (h : (planN t a).2 ≠ 0) : (planN t a).1 = zP := by
  unfold planN at h ⊢
  split
  · rename_i c; rw [if_pos c] at h; exact snap_bad h
  rename_i c1
  rw [if_neg c1] at h
  split
  · rename_i c; rw [if_pos c] at h
    unfold revertN at h ⊢
    split
    · rename_i c'; rw [if_pos c'] at h; exact absurd rfl h
    · rfl
  rename_i c2
  rw [if_neg c2] at h
  split
  · rename_i c; rw [if_pos c] at h
    unfold deleteN at h ⊢
    split
    · rename_i c'
      rw [if_pos c'] at h
      split
      · rfl
      rename_i d1
      rw [if_neg d1] at h
      split
      · rfl
      rename_i d2
      rw [if_neg d2] at h
      split
      · rename_i d3; rw [if_pos d3] at h; exact absurd rfl h
      rename_i d3
      rw [if_neg d3] at h
      split
      · rename_i d4; rw [if_pos d4] at h; exact absurd rfl h
      rename_i d4
      rw [if_neg d4] at h
      exact absurd rfl h
    · rfl
  rename_i c3
  rw [if_neg c3] at h
  split
  · rename_i c; rw [if_pos c] at h; exact absurd rfl h
  rename_i c4
  rw [if_neg c4] at h
  split
  · rename_i c; rw [if_pos c] at h
    unfold consN at h ⊢
    split
    · rfl
    · rename_i c'; rw [if_neg c'] at h; exact absurd rfl h
  rename_i c5
  rw [if_neg c5] at h
  exact absurd rfl h
/-- a planned tree of a plan that is done: all that is asked of its nodes -/
structure Fine (d : Int) (t u : Tr) : Prop where
  right : RightP u
  keep : ∀ x ∈ t.l, x.ghost = false → x.id ≠ d → ∃ y ∈ u.l, y.id = x.id ∧ y.ghost = false ∧ y.name = x.name ∧ y.time = x.time ∧ y.pin = x.pin
  ghost : ∀ x ∈ t.l, x.ghost = true → ∀ y ∈ u.l, y.id = x.id → y.ghost = true
  gone : d ≠ 0 → ∀ y ∈ u.l, y.id = d → y.ghost = true
theorem fine_of {d : Int} {t u : Tr} (ht : RightP t) (h : RightP u) (hr : Rel d t u) (hg : d ≠ 0 → ∀ y ∈ u.l, y.id = d → y.ghost = true) : Fine d t u := by
  refine ⟨h, hr.keep, fun x hx hxg y hy e => ?_, hg⟩
  cases hh : y.ghost
  · obtain ⟨x', hx', e1, e2⟩ := hr.back y hy hh
    have := srt_eq ht.srt hx' hx (by omega)
    rw [this, hxg] at e2; cases e2
  · rfl
theorem plan_fine {t : Tr} {a : Ac} (hR : RightP t) (h0 : (planN t a).2 = 0) (h9 : pickN a.op 12 ≠ 9) (h11 : pickN a.op 12 ≠ 11) :
    (doneN t (planN t a).1.ss).2 = 0 ∧ Fine (delOf a) t (doneN t (planN t a).1.ss).1 ∧
    (pickN a.op 12 = 10 → 1 ≤ a.n ∧ ∀ y ∈ (doneN t (planN t a).1.ss).1.l, y.ghost = true → 2 ≤ (kidsN (doneN t (planN t a).1.ss).1.l (doneN t (planN t a).1.ss).1.lv y.id).length ∧ (depthN (doneN t (planN t a).1.ss).1.l y.id : Int) ≤ a.n) := by
  obtain ⟨hP0, hP1⟩ := pickN_range a.op 12 (by decide)
  have fin : ∀ {d : Int} {s : Ps}, Plnd d t s → (d ≠ 0 → ∀ y ∈ s.t.l, y.id = d → y.ghost = true) → (doneN t s.ss).2 = 0 ∧ Fine d t (doneN t s.ss).1 := by
    intro d s h hg
    rw [h.done]
    exact ⟨rfl, fine_of hR h.right h.rel hg⟩
  unfold delOf
  unfold planN at h0 ⊢
  by_cases c1 : pickN a.op 12 ≤ 3
  · rw [if_pos c1] at h0 ⊢
    rw [if_neg (by omega)]
    obtain ⟨g1, g2, g3, g4⟩ := snap_good h0
    rw [g3]
    refine ⟨rfl, ⟨g4, fun x hx hg _ => ⟨x, List.mem_append_left _ hx, rfl, hg, rfl, rfl, rfl⟩, fun x hx hg y hy e => ?_, fun hd => absurd rfl hd⟩, fun hc => by omega⟩
    have := srt_eq g4.srt hy (List.mem_append_left _ hx) e
    rw [this]; exact hg
  rw [if_neg c1] at h0 ⊢
  by_cases c2 : pickN a.op 12 ≤ 5
  · rw [if_pos c2] at h0 ⊢
    rw [if_neg (by omega)]
    unfold revertN at h0 ⊢
    by_cases c : (nodeN t a.id).2 = 0
    · rw [if_pos c]
      obtain ⟨_, x, hx, hxe, hxg, _⟩ := node_fine c
      have ha : applyN t (st3 6 a.id 0) = (liveT t a.id, 0) := by rw [← hxe]; exact apply_live hR hx
      have hd := do_ok (s := ⟨t, [], []⟩) ha
      have hp := plnd_step (ms := []) (plnd_nil 0 hR) ha (rel_live 0 t a.id)
      obtain ⟨k1, _⟩ := plnd_clear (liveT t a.id).l.length _ hp
      unfold planC
      rw [hd]
      obtain ⟨f1, f2⟩ := fin k1 (fun hc => absurd rfl hc)
      exact ⟨f1, f2, fun hc => by omega⟩
    · rw [if_neg c] at h0
      exact absurd h0 c
  rw [if_neg c2] at h0 ⊢
  by_cases c3 : pickN a.op 12 ≤ 8
  · rw [if_pos c3] at h0 ⊢
    rw [if_pos ⟨by omega, c3⟩]
    unfold deleteN at h0 ⊢
    by_cases c : (nodeN t a.id).2 = 0
    · rw [if_pos c] at h0 ⊢
      obtain ⟨_, x, hx, hxe, hxg, hn⟩ := node_fine c
      by_cases d1 : a.id = 1
      · rw [if_pos d1] at h0; cases h0
      rw [if_neg d1] at h0 ⊢
      by_cases d2 : (nodeN t a.id).1.pin = true
      · rw [if_pos d2] at h0; cases h0
      rw [if_neg d2] at h0 ⊢
      rw [hn]
      rw [← hxe] at d1 ⊢
      by_cases d3 : (kidsN t.l t.lv x.id).length = 0
      · rw [if_pos d3]
        have ha := apply_drop hR hx d1 d3
        have hd := do_ok (s := ⟨t, [], []⟩) ha
        have hr : Rel x.id t (dropT t x.id) := rel_drop (fun y hy e => .inr rfl)
        have hp := plnd_step (ms := []) (plnd_nil x.id hR) ha hr
        obtain ⟨k1, k2⟩ := plnd_clear (dropT t x.id).l.length _ hp
        unfold planC
        rw [hd]
        obtain ⟨f1, f2⟩ := fin k1 (fun _ => gone_back k2 (gone_drop t x.id))
        exact ⟨f1, f2, fun hc => by omega⟩
      rw [if_neg d3]
      by_cases d4 : (kidsN t.l t.lv x.id).length = 1
      · rw [if_pos d4]
        have hk := one_list d4
        have hd := down_ok (s := ⟨t, [], []⟩) hR hx d1 hk
        have hp := plnd_down (ms := [] ++ [⟨(kidsN t.l t.lv x.id).getD 0 0, x.id⟩]) (plnd_nil x.id hR) hx d1 (.inr rfl) hk
        unfold planS
        rw [hd]
        obtain ⟨f1, f2⟩ := fin hp (fun _ => gone_down t x _)
        exact ⟨f1, f2, fun hc => by omega⟩
      · rw [if_neg d4]
        have ha := apply_ghost hR hx d1 hxg
        have hd := do_ok (s := ⟨t, [], []⟩) ha
        have hp := plnd_step (ms := []) (plnd_nil x.id hR) ha (rel_ghost t x.id).1
        unfold planS
        rw [hd]
        obtain ⟨f1, f2⟩ := fin hp (fun _ => (rel_ghost t x.id).2)
        exact ⟨f1, f2, fun hc => by omega⟩
    · rw [if_neg c] at h0
      exact absurd h0 c
  rw [if_neg c3] at h0 ⊢
  rw [if_neg h9] at h0 ⊢
  have c10 : pickN a.op 12 = 10 := by omega
  rw [if_pos c10] at h0 ⊢
  rw [if_neg (by omega)]
  unfold consN at h0 ⊢
  by_cases c : rightN t = false ∨ a.n < 1
  · rw [if_pos c] at h0; cases h0
  · rw [if_neg c]
    have hb : 1 ≤ a.n := by
      have : ¬ a.n < 1 := fun h => c (.inr h)
      omega
    obtain ⟨k1, k2⟩ := plnd_con hb (mea t.l) ⟨t, [], []⟩ (plnd_nil 0 hR) (Nat.le_refl _)
    obtain ⟨f1, f2⟩ := fin k1 (fun hc => absurd rfl hc)
    refine ⟨f1, f2, fun _ => ⟨hb, ?_⟩⟩
    dsimp only
    rw [k1.done]
    rcases short_spec k1.right hb _ (fun x hx => hx) with ⟨h1, h2⟩ | ⟨x, hx, hg, hx1, ⟨k0, h1⟩ | ⟨kid, hk, h1⟩ | ⟨y, hy, e1, e2, e3, h1⟩⟩
    · exact h2
    all_goals (rw [h1] at k2; cases k2)
theorem runs_le {t : Tr} (h : RightP t) {b : Int} (hb : 1 ≤ b) (hd : ∀ y ∈ t.l, y.ghost = true → (depthN t.l y.id : Int) ≤ b) : (runsN t.l : Int) ≤ b := by
  have hall : ∀ y ∈ t.l, (depthN t.l y.id : Int) ≤ b := by
    intro y hy
    cases hg : y.ghost
    · unfold depthN
      rw [depthR, find_mem h.srt hy rfl, if_neg (by simp [hg])]
      omega
    · exact hd y hy hg
  unfold runsN
  have gen : ∀ (l : List Nd) (m : Nat), (m : Int) ≤ b → (∀ y ∈ l, (depthN t.l y.id : Int) ≤ b) → ((l.foldl (fun m x => max m (depthN t.l x.id)) m : Nat) : Int) ≤ b := by
    intro l
    induction l with
    | nil => intro m hm _; exact hm
    | cons x l ih =>
      intro m hm hl
      rw [List.foldl_cons]
      refine ih _ ?_ (fun y hy => hl y (by simp [hy]))
      have := hl x (by simp)
      omega
  exact gen t.l 0 (by omega) hall
/-- what the law's loop asks of one node -/
theorem fine_node {d : Int} {t u : Tr} (h : Fine d t u) (ht : RightP t) {x : Nd} (hx : x ∈ t.l) (del : Bool) (hdel : del = true ↔ x.id = d) :
    (!(findN u.l x.id).2 || (findN u.l x.id).1.ghost) = (x.ghost || del) ∧ ((!(findN u.l x.id).2 || (findN u.l x.id).1.ghost) = true ∨ ((findN u.l x.id).1.name = x.name ∧ (findN u.l x.id).1.time = x.time ∧ (findN u.l x.id).1.pin = x.pin)) := by
  have hpos := ht.pos hx
  cases hg : x.ghost
  · by_cases hd : x.id = d
    · have hgone : (!(findN u.l x.id).2 || (findN u.l x.id).1.ghost) = true := by
        cases hf : (findN u.l x.id).2
        · rfl
        · obtain ⟨_, h2, h3⟩ := find_some (find_iff.1 hf)
          rw [h.gone (by omega) _ h2 (by omega)]; rfl
      rw [hgone]
      exact ⟨(hdel.2 hd).symm, .inl rfl⟩
    · obtain ⟨y, hy, e1, e2, e3, e4, e5⟩ := h.keep x hx hg hd
      rw [find_mem h.right.srt hy e1]
      have hdf : del = false := by
        cases hh : del
        · rfl
        · exact absurd (hdel.1 hh) hd
      exact ⟨by rw [hdf, e2]; rfl, .inr ⟨e3, e4, e5⟩⟩
  · have hgone : (!(findN u.l x.id).2 || (findN u.l x.id).1.ghost) = true := by
      cases hf : (findN u.l x.id).2
      · rfl
      · obtain ⟨_, h2, h3⟩ := find_some (find_iff.1 hf)
        rw [h.ghost x hx hg _ h2 (by omega)]; rfl
    rw [hgone]
    exact ⟨rfl, .inl rfl⟩
end Go.Proofs.YtfdhehjfbcddgaaDoor.Pr
