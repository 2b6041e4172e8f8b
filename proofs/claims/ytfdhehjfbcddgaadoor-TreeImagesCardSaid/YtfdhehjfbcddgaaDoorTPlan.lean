/- What planned steps do to a right tree, plain: each applies; shorten leaves a right tree with fewer or nearer links. No conditions. -/
import Derived.Test.YtfdhehjfbcddgaaDoorTRevert
namespace Go.Proofs.YtfdhehjfbcddgaaDoor.Pr
open Go.RowKit Go.Proofs.YtfdhehjfbcddgaaDoorW.PrintWords Go.Proofs.YtfdhehjfbcddgaaDoorW.PrintLast Go.Proofs.YtfdhehjfbcddgaaDoor
set_option linter.unusedVariables false
/-- a tree without a link; with a link hung elsewhere; with the live disk hung elsewhere; with a ghost -/
def dropT (t : Tr) (a : Int) : Tr := ⟨t.l.filter (otherN a), t.lv, t.nx, t.nw⟩
def moveT (t : Tr) (a p : Int) : Tr := ⟨mapN t.l a (setPar p), t.lv, t.nx, t.nw⟩
def liveT (t : Tr) (a : Int) : Tr := ⟨t.l, a, t.nx, t.nw⟩
def ghostT (t : Tr) (a : Int) : Tr := ⟨mapN t.l a setGhost, t.lv, t.nx, t.nw⟩
theorem st3_ok {k a b : Int} (h1 : 1 ≤ k) (h2 : k ≤ 8) (h3 : 0 ≤ a) (h4 : a ≤ 2147483647) (h5 : 0 ≤ b) (h6 : b ≤ 2147483647) : stepB (st3 k a b) = true :=
  (stepB_iff _).2 ⟨.inl rfl, h1, h2, h3, h4, h5, h6⟩
theorem RightP.le_top {t : Tr} (h : RightP t) {x : Nd} (hx : x ∈ t.l) : x.id ≤ 2147483647 := by
  have := h.next x hx
  have := h.top
  omega
theorem apply_move {t : Tr} (h : RightP t) {x y : Nd} (hx : x ∈ t.l) (hy : y ∈ t.l) (h1 : x.id ≠ 1) (hlt : y.id < x.id) : applyN t (st3 4 x.id y.id) = (moveT t x.id y.id, 0) := by
  have hst : stepB (st3 4 x.id y.id) = true := st3_ok (by decide) (by decide) (by have := h.pos hx; omega) (h.le_top hx) (by have := h.pos hy; omega) (h.le_top hy)
  unfold applyN
  rw [if_neg (by rw [(right_iff t).2 h, hst]; simp [st3])]
  rw [if_neg (by simp [st3]), if_pos (show (st3 4 x.id y.id).kind = 4 from rfl)]
  unfold moveN
  rw [show (st3 4 x.id y.id).a = x.id from rfl, show (st3 4 x.id y.id).b = y.id from rfl, find_mem h.srt hx rfl, find_mem h.srt hy rfl]
  rw [if_neg (by simp), if_neg h1, if_neg (by omega), put_map h hx]
  rfl
theorem apply_live {t : Tr} (h : RightP t) {y : Nd} (hy : y ∈ t.l) : applyN t (st3 6 y.id 0) = (liveT t y.id, 0) := by
  have hst : stepB (st3 6 y.id 0) = true := st3_ok (by decide) (by decide) (by have := h.pos hy; omega) (h.le_top hy) (by decide) (by decide)
  have hnx := h.nx_pos
  unfold applyN
  rw [if_neg (by rw [(right_iff t).2 h, hst]; simp [st3])]
  rw [if_neg (by simp [st3]), if_neg (by simp [st3]), show (st3 6 y.id 0).a = y.id from rfl, show (st3 6 y.id 0).b = 0 from rfl, find_mem h.srt hy rfl, if_neg (by simp), if_neg (by simp), if_pos (show (st3 6 y.id 0).kind = 6 from rfl), show max t.nx 0 = t.nx by omega]
  rfl
theorem apply_ghost {t : Tr} (h : RightP t) {x : Nd} (hx : x ∈ t.l) (h1 : x.id ≠ 1) (hg : x.ghost = false) : applyN t (st3 2 x.id 0) = (ghostT t x.id, 0) := by
  have hst : stepB (st3 2 x.id 0) = true := st3_ok (by decide) (by decide) (by have := h.pos hx; omega) (h.le_top hx) (by decide) (by decide)
  unfold applyN
  rw [if_neg (by rw [(right_iff t).2 h, hst]; simp [st3])]
  rw [if_neg (by simp [st3]), if_neg (by simp [st3]), if_neg (by simp [st3]), if_neg (by simp [st3]), if_neg (by simp [st3]), if_neg (by simp [st3])]
  unfold changeN
  rw [show (st3 2 x.id 0).a = x.id from rfl, find_mem h.srt hx rfl, if_neg (by simp), if_neg h1, if_neg (by simp [st3, hg]), if_neg (by simp [st3]), if_pos (show (st3 2 x.id 0).kind = 2 from rfl), put_map h hx]
  rfl
theorem right_to {t u : Tr} {s : St} (h : applyN t s = (u, 0)) : RightP u := by
  have := (apply_right (t := t) (s := s) (by rw [h])).2
  rw [h] at this; exact this
theorem do_ok {s : Ps} {st : St} {u : Tr} (h : applyN s.t st = (u, 0)) : doN s st = ⟨u, s.ms, s.ss ++ [st]⟩ := by
  unfold doN
  rw [h, if_pos rfl]
/-! ## kids -/
theorem mem_kidsR {l : List Nd} {a k : Int} : k ∈ kidsR l a ↔ ∃ z ∈ l, z.id = k ∧ z.par = a ∧ z.id ≠ a := by
  unfold kidsR
  rw [List.mem_map]
  constructor
  · rintro ⟨z, hz, rfl⟩
    obtain ⟨h1, h2⟩ := List.mem_filter.1 hz
    unfold kidB at h2
    rw [Bool.and_eq_true, decide_eq_true_eq, decide_eq_true_eq] at h2
    exact ⟨z, h1, rfl, h2.1, h2.2⟩
  · rintro ⟨z, hz, rfl, h1, h2⟩
    refine ⟨z, List.mem_filter.2 ⟨hz, ?_⟩, rfl⟩
    unfold kidB
    rw [decide_eq_true h1, decide_eq_true h2]; rfl
/-- the one kid: the live disk, or a link -/
theorem kids_one {t : Tr} (h : RightP t) {a kid : Int} (hk : kidsN t.l t.lv a = [kid]) :
    (kid = 0 ∧ t.lv = a ∧ ∀ z ∈ t.l, z.par = a → z.id = a) ∨ (kid ≠ 0 ∧ t.lv ≠ a ∧ ∃ z ∈ t.l, z.id = kid ∧ z.par = a ∧ z.id ≠ a ∧ ∀ z' ∈ t.l, z'.par = a → z'.id ≠ a → z'.id = kid) := by
  unfold kidsN at hk
  by_cases hl : t.lv = a
  · rw [if_pos hl] at hk
    left
    have hn : kidsR t.l a = [] := by
      cases hh : kidsR t.l a with
      | nil => rfl
      | cons y ys => rw [hh] at hk; simp at hk
    rw [hn] at hk
    refine ⟨by simpa using hk.symm, hl, kidsR_nil.1 (by rw [hn]; rfl)⟩
  · rw [if_neg hl, List.append_nil] at hk
    right
    have hm : kid ∈ kidsR t.l a := by rw [hk]; simp
    obtain ⟨z, hz, e1, e2, e3⟩ := mem_kidsR.1 hm
    refine ⟨by have := h.pos hz; omega, hl, z, hz, e1, e2, e3, fun z' hz' f1 f2 => ?_⟩
    have hm' : z'.id ∈ kidsR t.l a := mem_kidsR.2 ⟨z', hz', rfl, f1, f2⟩
    rw [hk] at hm'
    simpa using hm'
def downT (t : Tr) (x : Nd) (kid : Int) : Tr := dropT (if kid = 0 then liveT t x.par else moveT t kid x.par) x.id
def downS (x : Nd) (kid : Int) : St := if kid = 0 then st3 6 x.par 0 else st3 4 kid x.par
theorem mem_moveT {t : Tr} {a p : Int} {z : Nd} : z ∈ (moveT t a p).l ↔ ∃ y ∈ t.l, z = if y.id = a then setPar p y else y := mem_mapN
/-- down, step by step -/
theorem down_steps {t : Tr} (h : RightP t) {x : Nd} (hx : x ∈ t.l) (h1 : x.id ≠ 1) {kid : Int} (hk : kidsN t.l t.lv x.id = [kid]) :
    ∃ u, applyN t (downS x kid) = (u, 0) ∧ u = (if kid = 0 then liveT t x.par else moveT t kid x.par) ∧ applyN u (st3 3 x.id 0) = (downT t x kid, 0) := by
  obtain ⟨hp1, hp2, y, hy, hye⟩ := h.parent hx h1
  unfold downS downT
  rcases kids_one h hk with ⟨rfl, k1, k2⟩ | ⟨k0, k1, z, hz, rfl, k3, k4, k5⟩
  · rw [if_pos rfl, if_pos rfl]
    have ha : applyN t (st3 6 x.par 0) = (liveT t x.par, 0) := by rw [← hye]; exact apply_live h hy
    refine ⟨_, ha, rfl, ?_⟩
    refine apply_drop (right_to ha) (t := liveT t x.par) hx h1 ?_
    rw [kidsN_nil]
    exact ⟨k2, by show x.par ≠ x.id; omega⟩
  · rw [if_neg k0, if_neg k0]
    have hz1 : z.id ≠ 1 := fun e => by
      have := (h.root hz e).1
      have := h.pos hx
      omega
    have hlt : x.id < z.id := by
      have := (h.parent hz hz1).2.1
      omega
    have ha : applyN t (st3 4 z.id x.par) = (moveT t z.id x.par, 0) := by rw [← hye]; exact apply_move h hz hy hz1 (by omega)
    refine ⟨_, ha, rfl, ?_⟩
    have hxm : x ∈ (moveT t z.id x.par).l := mem_moveT.2 ⟨x, hx, by rw [if_neg (by omega)]⟩
    refine apply_drop (right_to ha) hxm h1 ?_
    rw [kidsN_nil]
    refine ⟨fun v hv hvp => ?_, k1⟩
    obtain ⟨v', hv', rfl⟩ := mem_moveT.1 hv
    by_cases e : v'.id = z.id
    · rw [if_pos e] at hvp ⊢
      have : x.par = x.id := hvp
      omega
    · rw [if_neg e] at hvp ⊢
      exact Classical.byContradiction fun hc => e (k5 v' hv' hvp hc)
theorem down_ok {s : Ps} (h : RightP s.t) {x : Nd} (hx : x ∈ s.t.l) (h1 : x.id ≠ 1) {kid : Int} (hk : kidsN s.t.l s.t.lv x.id = [kid]) :
    downN s x kid = ⟨downT s.t x kid, s.ms ++ [⟨kid, x.id⟩], s.ss ++ [downS x kid, st3 3 x.id 0]⟩ := by
  obtain ⟨u, h2, h3, h4⟩ := down_steps h hx h1 hk
  have e1 := do_ok (s := ⟨s.t, s.ms ++ [⟨kid, x.id⟩], s.ss⟩) h2
  have e2 := do_ok (s := ⟨u, s.ms ++ [⟨kid, x.id⟩], s.ss ++ [downS x kid]⟩) h4
  show doN (doN ⟨s.t, s.ms ++ [⟨kid, x.id⟩], s.ss⟩ (downS x kid)) (st3 3 x.id 0) = _
  rw [e1]
  refine e2.trans ?_
  dsimp only
  rw [List.append_assoc]
  rfl
theorem right_down {t : Tr} (h : RightP t) {x : Nd} (hx : x ∈ t.l) (h1 : x.id ≠ 1) {kid : Int} (hk : kidsN t.l t.lv x.id = [kid]) : RightP (downT t x kid) := by
  obtain ⟨u, h2, h3, h4⟩ := down_steps h hx h1 hk
  exact right_to h4
/-! ## shorten -/
theorem one_list {l : List Int} (h : l.length = 1) : l = [l.getD 0 0] := by
  match l, h with
  | [k], _ => rfl
theorem depth_two {t : Tr} (h : RightP t) {x : Nd} (hx : x ∈ t.l) (hg : x.ghost = true) (hd : 1 < depthN t.l x.id) : ∃ y ∈ t.l, y.id = x.par ∧ y.ghost = true ∧ y.id ≠ 1 ∧ findN t.l x.par = (y, true) := by
  have h1 : x.id ≠ 1 := fun e => by have := (h.root hx e).2; rw [hg] at this; cases this
  obtain ⟨_, _, y, hy, e⟩ := h.parent hx h1
  have hf := find_mem h.srt hy e
  have hyg : y.ghost = true := by
    cases hh : y.ghost
    · exfalso
      unfold depthN at hd
      rw [depthR, find_mem h.srt hx rfl, if_pos ⟨rfl, hg⟩] at hd
      have hlen : 0 < t.l.length := List.length_pos_of_mem hx
      obtain ⟨n, hn⟩ : ∃ n, t.l.length = n + 1 := ⟨t.l.length - 1, by omega⟩
      rw [hn, depthR, hf, if_neg (by rw [hh]; simp)] at hd
      omega
    · rfl
  exact ⟨y, hy, e, hyg, (fun e1 => by have := (h.root hy e1).2; rw [hyg] at this; cases this), hf⟩
/-- what shorten does: nothing, where each ghost has two kids and no run is too long; or one of three things to a ghost -/
theorem short_spec {s : Ps} (h : RightP s.t) {bound : Int} (hb : 1 ≤ bound) : ∀ l' : List Nd, (∀ x ∈ l', x ∈ s.t.l) →
    (shortN s bound l' = (s, false) ∧ ∀ x ∈ l', x.ghost = true → 2 ≤ (kidsN s.t.l s.t.lv x.id).length ∧ (depthN s.t.l x.id : Int) ≤ bound) ∨
    ∃ x ∈ s.t.l, x.ghost = true ∧ x.id ≠ 1 ∧
      (((kidsN s.t.l s.t.lv x.id).length = 0 ∧ shortN s bound l' = (⟨dropT s.t x.id, s.ms, s.ss ++ [st3 3 x.id 0]⟩, true)) ∨
       (∃ kid, kidsN s.t.l s.t.lv x.id = [kid] ∧ shortN s bound l' = (⟨downT s.t x kid, s.ms ++ [⟨kid, x.id⟩], s.ss ++ [downS x kid, st3 3 x.id 0]⟩, true)) ∨
       (∃ y ∈ s.t.l, y.id = x.par ∧ y.ghost = true ∧ y.id ≠ 1 ∧ shortN s bound l' = (⟨moveT s.t x.id y.par, s.ms ++ [⟨x.id, y.id⟩], s.ss ++ [st3 4 x.id y.par]⟩, true))) := by
  intro l'
  induction l' with
  | nil => intro _; exact .inl ⟨rfl, fun x hx => by cases hx⟩
  | cons x l' ih =>
    intro hm
    have hx := hm x (by simp)
    rw [shortN]
    by_cases hg : x.ghost = false
    · rw [if_pos hg]
      rcases ih (fun y hy => hm y (by simp [hy])) with ⟨h1, h2⟩ | h1
      · refine .inl ⟨h1, fun y hy hyg => ?_⟩
        rcases List.mem_cons.1 hy with rfl | hy
        · rw [hg] at hyg; cases hyg
        · exact h2 y hy hyg
      · exact .inr h1
    rw [if_neg hg]
    have hg' : x.ghost = true := by cases hh : x.ghost; exact absurd hh hg; rfl
    have hx1 : x.id ≠ 1 := fun e => by have := (h.root hx e).2; rw [hg'] at this; cases this
    by_cases k0 : (kidsN s.t.l s.t.lv x.id).length = 0
    · rw [if_pos k0]
      exact .inr ⟨x, hx, hg', hx1, .inl ⟨k0, by rw [do_ok (apply_drop h hx hx1 k0)]; rfl⟩⟩
    rw [if_neg k0]
    by_cases k1 : (kidsN s.t.l s.t.lv x.id).length = 1
    · rw [if_pos k1]
      exact .inr ⟨x, hx, hg', hx1, .inr (.inl ⟨_, one_list k1, by rw [down_ok h hx hx1 (one_list k1)]⟩)⟩
    rw [if_neg k1]
    by_cases k2 : bound < (depthN s.t.l x.id : Int)
    · rw [if_pos k2]
      obtain ⟨y, hy, e1, e2, e3, e4⟩ := depth_two h hx hg' (by omega)
      obtain ⟨_, p2, v, hv, hve⟩ := h.parent hy e3
      obtain ⟨_, q2, _⟩ := h.parent hx hx1
      refine .inr ⟨x, hx, hg', hx1, .inr (.inr ⟨y, hy, e1, e2, e3, ?_⟩)⟩
      rw [e4]
      dsimp only
      have ha : applyN s.t (st3 4 x.id y.par) = (moveT s.t x.id y.par, 0) := by rw [← hve]; exact apply_move h hx hv hx1 (by omega)
      have e5 := do_ok (s := ⟨s.t, s.ms ++ [⟨x.id, y.id⟩], s.ss⟩) ha
      rw [e5]
    rw [if_neg k2]
    rcases ih (fun y hy => hm y (by simp [hy])) with ⟨h1, h2⟩ | h1
    · refine .inl ⟨h1, fun y hy hyg => ?_⟩
      rcases List.mem_cons.1 hy with rfl | hy
      · exact ⟨by omega, by omega⟩
      · exact h2 y hy hyg
    · exact .inr h1
/-! ## the measure -/
def mea : List Nd → Nat
  | [] => 0
  | x :: l => (x.par.toNat + 1) + mea l
theorem mea_map {l : List Nd} (f : Nd → Nd) (h : ∀ x ∈ l, (f x).par.toNat ≤ x.par.toNat) : mea (l.map f) ≤ mea l := by
  induction l with
  | nil => exact Nat.le_refl _
  | cons x l ih =>
    have h1 := h x (by simp)
    have h2 := ih (fun y hy => h y (by simp [hy]))
    rw [List.map_cons, mea, mea]; omega
theorem mea_map_lt {l : List Nd} (f : Nd → Nd) (h : ∀ x ∈ l, (f x).par.toNat ≤ x.par.toNat) {z : Nd} (hz : z ∈ l) (hlt : (f z).par.toNat < z.par.toNat) : mea (l.map f) < mea l := by
  induction l with
  | nil => cases hz
  | cons x l ih =>
    have h1 := h x (by simp)
    have h2 := mea_map (l := l) f (fun y hy => h y (by simp [hy]))
    rw [List.map_cons, mea, mea]
    rcases List.mem_cons.1 hz with rfl | hz
    · omega
    · have := ih (fun y hy => h y (by simp [hy])) hz
      omega
theorem mea_filter (l : List Nd) (p : Nd → Bool) : mea (l.filter p) ≤ mea l := by
  induction l with
  | nil => exact Nat.le_refl _
  | cons x l ih =>
    rw [List.filter_cons]
    split
    · rw [mea, mea]; omega
    · rw [mea]; omega
theorem mea_filter_lt {l : List Nd} {p : Nd → Bool} {z : Nd} (hz : z ∈ l) (hp : p z = false) : mea (l.filter p) < mea l := by
  induction l with
  | nil => cases hz
  | cons x l ih =>
    rw [List.filter_cons]
    rcases List.mem_cons.1 hz with rfl | hz
    · rw [hp, if_neg (by simp), mea]
      have := mea_filter l p
      omega
    · have := ih hz
      split
      · rw [mea, mea]; omega
      · rw [mea]; omega
theorem other_self (x : Nd) : otherN x.id x = false := by unfold otherN; simp
theorem mea_drop {t : Tr} {x : Nd} (hx : x ∈ t.l) : mea (dropT t x.id).l < mea t.l := mea_filter_lt hx (other_self x)
theorem mea_move {t : Tr} {a p : Int} (h : ∀ x ∈ t.l, x.id = a → p.toNat ≤ x.par.toNat) : mea (moveT t a p).l ≤ mea t.l := by
  refine mea_map _ (fun x hx => ?_)
  by_cases e : x.id = a
  · rw [if_pos e]; exact h x hx e
  · rw [if_neg e]; exact Nat.le_refl _
theorem mea_move_lt {t : Tr} (h : RightP t) {x : Nd} {p : Int} (hx : x ∈ t.l) (hp : p.toNat < x.par.toNat) : mea (moveT t x.id p).l < mea t.l := by
  refine mea_map_lt _ (fun y hy => ?_) hx ?_
  · by_cases e : y.id = x.id
    · rw [if_pos e]
      obtain rfl := srt_eq h.srt hy hx e
      exact Nat.le_of_lt hp
    · rw [if_neg e]; exact Nat.le_refl _
  · rw [if_pos rfl]; exact hp
theorem mea_down {t : Tr} (h : RightP t) {x : Nd} (hx : x ∈ t.l) (h1 : x.id ≠ 1) {kid : Int} (hk : kidsN t.l t.lv x.id = [kid]) : mea (downT t x kid).l < mea t.l := by
  unfold downT
  rcases kids_one h hk with ⟨rfl, k1, k2⟩ | ⟨k0, k1, z, hz, rfl, k3, k4, k5⟩
  · rw [if_pos rfl]
    exact mea_drop (t := liveT t x.par) hx
  · rw [if_neg k0]
    obtain ⟨hp1, hp2, _⟩ := h.parent hx h1
    exact Nat.lt_of_le_of_lt (mea_filter _ _) (mea_move_lt h hz (by omega))
/-- shorten leaves a right tree, of a smaller measure -/
theorem short_less {s : Ps} (h : RightP s.t) {bound : Int} (hb : 1 ≤ bound) (ht : (shortN s bound s.t.l).2 = true) :
    RightP (shortN s bound s.t.l).1.t ∧ mea (shortN s bound s.t.l).1.t.l < mea s.t.l ∧ (shortN s bound s.t.l).1.ss.length ≤ s.ss.length + 2 ∧ (shortN s bound s.t.l).1.ms.length ≤ s.ms.length + 1 := by
  rcases short_spec h hb s.t.l (fun x hx => hx) with ⟨h1, _⟩ | ⟨x, hx, hg, hx1, ⟨k0, h1⟩ | ⟨kid, hk, h1⟩ | ⟨y, hy, e1, e2, e3, h1⟩⟩
  · rw [h1] at ht; cases ht
  · rw [h1]
    exact ⟨right_drop h hx1 k0, mea_drop hx, by simp, by simp⟩
  · rw [h1]
    exact ⟨right_down h hx hx1 hk, mea_down h hx hx1 hk, by simp, by simp⟩
  · rw [h1]
    obtain ⟨_, p2, v, hv, hve⟩ := h.parent hy e3
    obtain ⟨_, q2, _⟩ := h.parent hx hx1
    have ha : applyN s.t (st3 4 x.id y.par) = (moveT s.t x.id y.par, 0) := by rw [← hve]; exact apply_move h hx hv hx1 (by omega)
    exact ⟨right_to ha, mea_move_lt h hx (by omega), by simp, by simp⟩
theorem mea_le {l : List Nd} {m : Nat} (h : ∀ x ∈ l, x.par.toNat + 1 ≤ m) : mea l ≤ l.length * m := by
  induction l with
  | nil => simp [mea]
  | cons x l ih =>
    have h1 := h x (by simp)
    have h2 := ih (fun y hy => h y (by simp [hy]))
    rw [mea, List.length_cons, Nat.add_mul, Nat.one_mul]
    omega
theorem mea_right {t : Tr} (h : RightP t) : mea t.l ≤ 128849018880 := by
  have h1 : mea t.l ≤ t.l.length * 2147483648 := mea_le (fun x hx => by
    by_cases e : x.id = 1
    · have := (h.root hx e).1; omega
    · have := h.parent hx e
      have := h.le_top hx
      omega)
  have := h.len
  omega
/-! ## Consolidate -/
def conF (bound : Int) : Nat → Ps → Ps
  | 0, s => s
  | f + 1, s => if (shortN s bound s.t.l).2 = true then conF bound f (shortN s bound s.t.l).1 else s
def consN (t : Tr) (bound : Int) : Pl × Int :=
  if rightN t = false ∨ bound < 1 then (zP, 1) else (⟨(conF bound (mea t.l) ⟨t, [], []⟩).ms, (conF bound (mea t.l) ⟨t, [], []⟩).ss⟩, 0)
/-- where the measure is below the rounds, one round more changes nothing -/
theorem conF_more {bound : Int} (hb : 1 ≤ bound) : ∀ (f : Nat) (s : Ps), RightP s.t → mea s.t.l ≤ f → conF bound (f + 1) s = conF bound f s := by
  intro f
  induction f with
  | zero =>
    intro s h hm
    by_cases c : (shortN s bound s.t.l).2 = true
    · have := (short_less h hb c).2.1
      omega
    · show (if (shortN s bound s.t.l).2 = true then conF bound 0 (shortN s bound s.t.l).1 else s) = s
      rw [if_neg c]
  | succ f ih =>
    intro s h hm
    rw [conF]
    conv => rhs; rw [conF]
    by_cases c : (shortN s bound s.t.l).2 = true
    · rw [if_pos c, if_pos c]
      obtain ⟨h1, h2, _⟩ := short_less h hb c
      exact ih _ h1 (by omega)
    · rw [if_neg c, if_neg c]
theorem conF_on {bound : Int} (hb : 1 ≤ bound) {s : Ps} (h : RightP s.t) {f : Nat} (hm : mea s.t.l ≤ f) (c : (shortN s bound s.t.l).2 = true) :
    conF bound f s = conF bound f (shortN s bound s.t.l).1 := by
  rw [← conF_more hb f s h hm, conF, if_pos c]
theorem conF_end {bound : Int} {s : Ps} {f : Nat} (c : (shortN s bound s.t.l).2 = false) : conF bound f s = s := by
  cases f with
  | zero => rfl
  | succ f => rw [conF, if_neg (by rw [c]; simp)]
end Go.Proofs.YtfdhehjfbcddgaaDoor.Pr
