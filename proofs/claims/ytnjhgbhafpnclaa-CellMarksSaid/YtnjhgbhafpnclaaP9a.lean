/- Plain laws of images as sorted rows of cells: what is found, put, dropped. No conditions. -/
import Derived.Test.YtnjhgbhafpnclaaHDrop
namespace Go.Proofs.Ytnjhgbhafpnclaa.Pr
open Go.RowKit Go.Proofs.Ytnjhgbhafpnclaa
def Srt (l : List SC) : Prop := l.Pairwise (fun x y => x.f0 < y.f0)
def look (l : List SC) (a : Int) : Option ByteArray := (l.find? (fun x => x.f0 == a)).map (·.f1)
theorem look_nil (a : Int) : look [] a = none := rfl
theorem look_cons (x : SC) (l : List SC) (a : Int) : look (x :: l) a = if x.f0 = a then some x.f1 else look l a := by
  unfold look
  rw [List.find?_cons]
  by_cases h : x.f0 = a
  · simp [h]
  · rw [if_neg h, show (x.f0 == a) = false by simpa using h]
theorem look_append (l m : List SC) (a : Int) : look (l ++ m) a = (look l a).or (look m a) := by
  induction l with
  | nil => rw [look_nil]; rfl
  | cons x l ih => rw [List.cons_append, look_cons, look_cons]; split <;> simp [ih]
theorem look_none {l : List SC} {a : Int} (h : ∀ x ∈ l, x.f0 ≠ a) : look l a = none := by
  induction l with
  | nil => rfl
  | cons x l ih => rw [look_cons, if_neg (h x (by simp)), ih (fun y hy => h y (by simp [hy]))]
theorem look_mem {l : List SC} {a : Int} {t : ByteArray} (h : look l a = some t) : ⟨a, t⟩ ∈ l := by
  induction l with
  | nil => cases h
  | cons x l ih =>
    rw [look_cons] at h
    split at h
    · rename_i e
      obtain rfl := Option.some.inj h
      obtain ⟨x0, x1⟩ := x
      dsimp only at e
      subst e
      exact List.mem_cons_self
    · exact List.mem_cons_of_mem _ (ih h)
theorem Srt.tail {x : SC} {l : List SC} (h : Srt (x :: l)) : Srt l := (List.pairwise_cons.1 h).2
theorem Srt.head {x : SC} {l : List SC} (h : Srt (x :: l)) : ∀ y ∈ l, x.f0 < y.f0 := (List.pairwise_cons.1 h).1
theorem mem_look {l : List SC} (hs : Srt l) {x : SC} (h : x ∈ l) : look l x.f0 = some x.f1 := by
  induction l with
  | nil => cases h
  | cons y l ih =>
    rw [look_cons]
    rcases List.mem_cons.1 h with rfl | h
    · rw [if_pos rfl]
    · rw [if_neg (by have := hs.head x h; omega)]; exact ih hs.tail h
theorem look_ext {l m : List SC} (hl : Srt l) (hm : Srt m) (h : ∀ a, look l a = look m a) : l = m := by
  induction l generalizing m with
  | nil =>
    cases m with
    | nil => rfl
    | cons y m => have := h y.f0; rw [look_cons, if_pos rfl] at this; cases this
  | cons x l ih =>
    cases m with
    | nil => have := h x.f0; rw [look_cons, if_pos rfl] at this; cases this
    | cons y m =>
      have hxy : x.f0 = y.f0 := by
        rcases Int.lt_trichotomy x.f0 y.f0 with hh | hh | hh
        · have := h x.f0
          rw [look_cons, if_pos rfl, look_cons, if_neg (by omega), look_none (fun z hz => by have := hm.head z hz; omega)] at this
          cases this
        · exact hh
        · have := h y.f0
          rw [look_cons, if_neg (by omega), look_none (fun z hz => by have := hl.head z hz; omega), look_cons, if_pos rfl] at this
          cases this
      have ht : x.f1 = y.f1 := by
        have := h x.f0
        rw [look_cons, if_pos rfl, look_cons, if_pos hxy.symm] at this
        exact Option.some.inj this
      have hr : l = m := ih hl.tail hm.tail (fun a => by
        by_cases e : x.f0 = a
        · rw [look_none (fun z hz => by have := hl.head z hz; omega), look_none (fun z hz => by have := hm.head z hz; omega)]
        · have := h a
          rwa [look_cons, if_neg e, look_cons, if_neg (by omega)] at this)
      obtain ⟨x0, x1⟩ := x
      obtain ⟨y0, y1⟩ := y
      dsimp only at hxy ht
      subst hxy ht hr
      rfl
theorem bsl_spec (l : List Int) (t : Int) (hs : ∀ i j, i < j → j < l.length → l.getD i 0 < l.getD j 0) : ∀ d i j, i ≤ j → j ≤ l.length → j ≤ i + d → (∀ k, k < i → l.getD k 0 < t) → (∀ k, j ≤ k → k < l.length → ¬ l.getD k 0 < t) →
    bsl l t d i j ≤ l.length ∧ (∀ k, k < bsl l t d i j → l.getD k 0 < t) ∧ (∀ k, bsl l t d i j ≤ k → k < l.length → ¬ l.getD k 0 < t) := by
  intro d
  induction d with
  | zero =>
    intro i j h1 h2 h3 h4 h5
    obtain rfl : i = j := by omega
    exact ⟨h2, h4, h5⟩
  | succ d ih =>
    intro i j h1 h2 h3 h4 h5
    rw [bsl]
    split
    · rename_i hij
      split
      · rename_i hlt
        refine ih _ _ (by omega) h2 (by omega) (fun k hk => ?_) h5
        by_cases e : k = (i + j) / 2
        · rw [e]; exact hlt
        · have := hs k ((i + j) / 2) (by omega) (by omega); omega
      · rename_i hlt
        refine ih _ _ (by omega) (by omega) (by omega) h4 (fun k hk hkn => ?_)
        by_cases e : k = (i + j) / 2
        · rw [e]; exact hlt
        · have := hs ((i + j) / 2) k (by omega) hkn; omega
    · obtain rfl : i = j := by omega
      exact ⟨h2, h4, h5⟩
theorem ats_length (l : List SC) : (ats l).length = l.length := by simp [ats]
theorem srt_ats {l : List SC} (hs : Srt l) : ∀ i j, i < j → j < (ats l).length → (ats l).getD i 0 < (ats l).getD j 0 := by
  intro i j hij hj
  rw [ats_length] at hj
  rw [ats_getD l i (by omega), ats_getD l j hj]
  exact List.pairwise_iff_getElem.1 hs i j (by omega) hj hij
theorem plc_split {l : List SC} (hs : Srt l) (a : Int) : ∃ u v, l = u ++ v ∧ u.length = plc l a ∧ (∀ x ∈ u, x.f0 < a) ∧ ((hit l a = true ∧ ∃ t r, v = ⟨a, t⟩ :: r ∧ ∀ x ∈ r, a < x.f0) ∨ (hit l a = false ∧ ∀ x ∈ v, a < x.f0)) := by
  have h := bsl_spec (ats l) a (srt_ats hs) l.length 0 l.length (Nat.zero_le _) (by rw [ats_length]; exact Nat.le_refl _) (by omega) (fun k hk => by omega) (fun k hk hkn => by rw [ats_length] at hkn; omega)
  rw [ats_length] at h
  obtain ⟨hp, hb, ha⟩ := h
  change plc l a ≤ l.length at hp
  change ∀ k, k < plc l a → (ats l).getD k 0 < a at hb
  change ∀ k, plc l a ≤ k → k < l.length → ¬ (ats l).getD k 0 < a at ha
  refine ⟨l.take (plc l a), l.drop (plc l a), (List.take_append_drop _ _).symm, by rw [List.length_take]; omega, fun x hx => ?_, ?_⟩
  · obtain ⟨i, hi, rfl⟩ := List.getElem_of_mem hx
    rw [List.length_take] at hi
    rw [List.getElem_take]
    have := hb i (by omega)
    rwa [ats_getD l i (by omega)] at this
  · have hd : ∀ k (h : k < l.length), plc l a ≤ k → a ≤ l[k].f0 := fun k h hk => by
      have := ha k hk h
      rw [ats_getD l k h] at this; omega
    by_cases hlt : plc l a < l.length
    · have he := List.drop_eq_getElem_cons hlt
      have hr : ∀ x ∈ l.drop (plc l a + 1), l[plc l a].f0 < x.f0 := fun x hx => by
        obtain ⟨i, hi, rfl⟩ := List.getElem_of_mem hx
        rw [List.length_drop] at hi
        rw [List.getElem_drop]
        exact List.pairwise_iff_getElem.1 hs (plc l a) (plc l a + 1 + i) hlt (by omega) (by omega)
      by_cases ht : l[plc l a].f0 = a
      · refine .inl ⟨by unfold hit; rw [ats_getD l _ hlt]; simp [hlt, ht], l[plc l a].f1, l.drop (plc l a + 1), ?_, fun x hx => by have := hr x hx; omega⟩
        have hmk : ∀ y : SC, y.f0 = a → y = ⟨a, y.f1⟩ := fun y hy => by subst hy; rfl
        rw [he]
        congr 1
        exact hmk _ ht
      · refine .inr ⟨by unfold hit; rw [ats_getD l _ hlt]; simp [ht], fun x hx => ?_⟩
        have h0 := hd _ hlt (Nat.le_refl _)
        rw [he] at hx
        rcases List.mem_cons.1 hx with rfl | hx
        · omega
        · have := hr x hx; omega
    · refine .inr ⟨by unfold hit; simp [hlt], fun x hx => ?_⟩
      rw [List.drop_of_length_le (by omega)] at hx; cases hx
theorem hit_look {l : List SC} (hs : Srt l) (a : Int) : hit l a = (look l a).isSome := by
  obtain ⟨u, v, e, _, hu, h⟩ := plc_split hs a
  have hun : look u a = none := look_none (fun x hx => by have := hu x hx; omega)
  have hl : look l a = look v a := by rw [e, look_append, hun]; rfl
  rcases h with ⟨h1, t, r, rfl, _⟩ | ⟨h1, hv⟩
  · rw [h1, hl, look_cons, if_pos rfl]; rfl
  · rw [h1, hl, look_none (fun x hx => by have := hv x hx; omega)]; rfl
theorem plc_look {l : List SC} (hs : Srt l) (a : Int) (t : ByteArray) (h : look l a = some t) : ∃ hp : plc l a < l.length, l[plc l a] = ⟨a, t⟩ := by
  obtain ⟨u, v, e, hlen, hu, hv⟩ := plc_split hs a
  have hun : look u a = none := look_none (fun x hx => by have := hu x hx; omega)
  have hl : look l a = look v a := by rw [e, look_append, hun]; rfl
  rcases hv with ⟨_, t', r, rfl, _⟩ | ⟨_, hv⟩
  · rw [hl, look_cons, if_pos rfl] at h
    obtain rfl := Option.some.inj h
    have h1 : plc l a < l.length := by rw [← hlen, e]; simp
    refine ⟨h1, ?_⟩
    have : l[plc l a]? = some ⟨a, t'⟩ := by
      rw [← hlen]
      conv => lhs; rw [e]
      simp
    rw [List.getElem?_eq_getElem h1] at this
    exact Option.some.inj this
  · rw [hl, look_none (fun x hx => by have := hv x hx; omega)] at h; cases h
theorem srt_mid {u r : List SC} {x : SC} (hu : Srt u) (hr : Srt r) (h1 : ∀ y ∈ u, y.f0 < x.f0) (h2 : ∀ y ∈ r, x.f0 < y.f0) : Srt (u ++ x :: r) := by
  refine List.pairwise_append.2 ⟨hu, List.pairwise_cons.2 ⟨h2, hr⟩, fun y hy z hz => ?_⟩
  rcases List.mem_cons.1 hz with rfl | hz
  · exact h1 y hy
  · have := h1 y hy; have := h2 z hz; omega
/-- what is put -/
theorem putL_spec {l : List SC} (hs : Srt l) (a : Int) (s : ByteArray) : Srt (putL l a s) ∧ (∀ i, look (putL l a s) i = if i = a then some (putT s) else look l i) ∧ (∀ x ∈ putL l a s, x ∈ l ∨ x = ⟨a, putT s⟩) ∧ (putL l a s).length = (if hit l a then l.length else l.length + 1) := by
  obtain ⟨u, v, e, hlen, hu, hv⟩ := plc_split hs a
  have hsu : Srt u := by rw [e] at hs; exact (List.pairwise_append.1 hs).1
  have hsv : Srt v := by rw [e] at hs; exact (List.pairwise_append.1 hs).2.1
  have hun : look u a = none := look_none (fun x hx => by have := hu x hx; omega)
  rcases hv with ⟨hh, t, r, rfl, hr⟩ | ⟨hh, hr⟩
  · have ep : putL l a s = u ++ ⟨a, putT s⟩ :: r := by
      unfold putL
      rw [if_pos hh, ← hlen]
      conv => lhs; rw [e]
      rw [List.set_append_right _ _ (Nat.le_refl _), Nat.sub_self]
      rfl
    rw [ep]
    refine ⟨srt_mid hsu hsv.tail hu hr, fun i => ?_, fun x hx => ?_, ?_⟩
    · rw [look_append, look_cons, e, look_append, look_cons]
      by_cases hi : i = a
      · subst hi; rw [hun]; simp
      · rw [if_neg (by show ¬ a = i; omega), if_neg hi, if_neg (by show ¬ a = i; omega)]
    · rw [e]
      rcases List.mem_append.1 hx with hx | hx
      · exact .inl (List.mem_append_left _ hx)
      · rcases List.mem_cons.1 hx with rfl | hx
        · exact .inr rfl
        · exact .inl (List.mem_append_right _ (List.mem_cons_of_mem _ hx))
    · rw [if_pos hh, e]; simp
  · have ep : putL l a s = u ++ ⟨a, putT s⟩ :: v := by
      unfold putL
      rw [if_neg (by rw [hh]; decide), ← hlen]
      conv => lhs; rw [e]
      rw [List.take_left' rfl, List.drop_left' rfl]
    rw [ep]
    refine ⟨srt_mid hsu hsv hu hr, fun i => ?_, fun x hx => ?_, ?_⟩
    · rw [look_append, look_cons, e, look_append]
      by_cases hi : i = a
      · subst hi; rw [hun]; simp
      · rw [if_neg (by show ¬ a = i; omega), if_neg hi]
    · rw [e]
      rcases List.mem_append.1 hx with hx | hx
      · exact .inl (List.mem_append_left _ hx)
      · rcases List.mem_cons.1 hx with rfl | hx
        · exact .inr rfl
        · exact .inl (List.mem_append_right _ hx)
    · rw [if_neg (by rw [hh]; decide), e]; simp; omega
theorem filter_spec {l : List SC} (hs : Srt l) (a : Int) : Srt (l.filter (other a)) ∧ (∀ i, look (l.filter (other a)) i = if i = a then none else look l i) := by
  refine ⟨List.Pairwise.filter _ hs, fun i => ?_⟩
  induction l with
  | nil => simp [look_nil]
  | cons x l ih =>
    have := ih hs.tail
    rw [List.filter_cons, look_cons]
    by_cases hx : x.f0 = a
    · have ho : other a x = false := by unfold other; simp [hx]
      rw [if_neg (by rw [ho]; decide), this]
      by_cases hi : i = a
      · rw [if_pos hi, if_pos hi]
      · rw [if_neg hi, if_neg hi, if_neg (by omega)]
    · have ho : other a x = true := by unfold other; simp [hx]
      rw [if_pos ho, look_cons, this]
      by_cases hi : i = a
      · rw [if_neg (by omega), if_pos hi, if_pos hi]
      · rw [if_neg hi]
        simp [hi]
end Go.Proofs.Ytnjhgbhafpnclaa.Pr
