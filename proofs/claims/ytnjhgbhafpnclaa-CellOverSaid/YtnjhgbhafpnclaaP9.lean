/- Plain laws of images as sorted rows of cells, and of the statements' helpers. No conditions but that numbers are those of their kinds. -/
import Derived.Test.YtnjhgbhafpnclaaHPut
import Derived.Test.YtnjhgbhafpnclaaHRefRight
import Derived.OpenShut
import Derived.Test.YtnjhgbhafpnclaaPrx1
import Derived.Test.YtnjhgbhafpnclaaPrx10
import Derived.Test.YtnjhgbhafpnclaaPrx2
import Derived.Test.YtnjhgbhafpnclaaPrx3
import Derived.Test.YtnjhgbhafpnclaaPrx4
import Derived.Test.YtnjhgbhafpnclaaPrx8
import Derived.Test.YtnjhgbhafpnclaaPrx9
namespace Go.Proofs.Ytnjhgbhafpnclaa.Pr
open Go.RowKit Go.Proofs.Ytnjhgbhafpnclaa
def Srt (l : List SC) : Prop := l.Pairwise (fun x y => x.f0 < y.f0)
def look (l : List SC) (a : Int) : Option ByteArray := (l.find? (fun x => x.f0 == a)).map (·.f1)
theorem look_nil (a : Int) : look [] a = none := rfl
theorem look_cons (x : SC) (l : List SC) (a : Int) : look (x :: l) a = if x.f0 = a then some x.f1 else look l a := by
  unfold look
  rw [List.find?_cons]
  by_cases h : x.f0 = a
  · simp [h]
  · rw [if_neg h, show (x.f0 == a) = false by simpa using h]
theorem look_append (l m : List SC) (a : Int) : look (l ++ m) a = (look l a).or (look m a) := by
  induction l with
  | nil => rw [look_nil]; rfl
  | cons x l ih => rw [List.cons_append, look_cons, look_cons]; split <;> simp [ih]
theorem look_none {l : List SC} {a : Int} (h : ∀ x ∈ l, x.f0 ≠ a) : look l a = none := by
  induction l with
  | nil => rfl
  | cons x l ih => rw [look_cons, if_neg (h x (by simp)), ih (fun y hy => h y (by simp [hy]))]
theorem look_mem {l : List SC} {a : Int} {t : ByteArray} (h : look l a = some t) : ⟨a, t⟩ ∈ l := by
  induction l with
  | nil => cases h
  | cons x l ih =>
    rw [look_cons] at h
    split at h
    · rename_i e
      obtain rfl := Option.some.inj h
      obtain ⟨x0, x1⟩ := x
      dsimp only at e
      subst e
      exact List.mem_cons_self
    · exact List.mem_cons_of_mem _ (ih h)
theorem Srt.tail {x : SC} {l : List SC} (h : Srt (x :: l)) : Srt l := (List.pairwise_cons.1 h).2
theorem Srt.head {x : SC} {l : List SC} (h : Srt (x :: l)) : ∀ y ∈ l, x.f0 < y.f0 := (List.pairwise_cons.1 h).1
theorem mem_look {l : List SC} (hs : Srt l) {x : SC} (h : x ∈ l) : look l x.f0 = some x.f1 := by
  induction l with
  | nil => cases h
  | cons y l ih =>
    rw [look_cons]
    rcases List.mem_cons.1 h with rfl | h
    · rw [if_pos rfl]
    · rw [if_neg (by have := hs.head x h; omega)]; exact ih hs.tail h
theorem look_ext {l m : List SC} (hl : Srt l) (hm : Srt m) (h : ∀ a, look l a = look m a) : l = m := by
  induction l generalizing m with
  | nil =>
    cases m with
    | nil => rfl
    | cons y m => have := h y.f0; rw [look_cons, if_pos rfl] at this; cases this
  | cons x l ih =>
    cases m with
    | nil => have := h x.f0; rw [look_cons, if_pos rfl] at this; cases this
    | cons y m =>
      have hxy : x.f0 = y.f0 := by
        rcases Int.lt_trichotomy x.f0 y.f0 with hh | hh | hh
        · have := h x.f0
          rw [look_cons, if_pos rfl, look_cons, if_neg (by omega), look_none (fun z hz => by have := hm.head z hz; omega)] at this
          cases this
        · exact hh
        · have := h y.f0
          rw [look_cons, if_neg (by omega), look_none (fun z hz => by have := hl.head z hz; omega), look_cons, if_pos rfl] at this
          cases this
      have ht : x.f1 = y.f1 := by
        have := h x.f0
        rw [look_cons, if_pos rfl, look_cons, if_pos hxy.symm] at this
        exact Option.some.inj this
      have hr : l = m := ih hl.tail hm.tail (fun a => by
        by_cases e : x.f0 = a
        · rw [look_none (fun z hz => by have := hl.head z hz; omega), look_none (fun z hz => by have := hm.head z hz; omega)]
        · have := h a
          rwa [look_cons, if_neg e, look_cons, if_neg (by omega)] at this)
      obtain ⟨x0, x1⟩ := x
      obtain ⟨y0, y1⟩ := y
      dsimp only at hxy ht
      subst hxy ht hr
      rfl
theorem bsl_spec (l : List Int) (t : Int) (hs : ∀ i j, i < j → j < l.length → l.getD i 0 < l.getD j 0) : ∀ d i j, i ≤ j → j ≤ l.length → j ≤ i + d → (∀ k, k < i → l.getD k 0 < t) → (∀ k, j ≤ k → k < l.length → ¬ l.getD k 0 < t) →
    bsl l t d i j ≤ l.length ∧ (∀ k, k < bsl l t d i j → l.getD k 0 < t) ∧ (∀ k, bsl l t d i j ≤ k → k < l.length → ¬ l.getD k 0 < t) := by
  intro d
  induction d with
  | zero =>
    intro i j h1 h2 h3 h4 h5
    obtain rfl : i = j := by omega
    exact ⟨h2, h4, h5⟩
  | succ d ih =>
    intro i j h1 h2 h3 h4 h5
    rw [bsl]
    split
    · rename_i hij
      split
      · rename_i hlt
        refine ih _ _ (by omega) h2 (by omega) (fun k hk => ?_) h5
        by_cases e : k = (i + j) / 2
        · rw [e]; exact hlt
        · have := hs k ((i + j) / 2) (by omega) (by omega); omega
      · rename_i hlt
        refine ih _ _ (by omega) (by omega) (by omega) h4 (fun k hk hkn => ?_)
        by_cases e : k = (i + j) / 2
        · rw [e]; exact hlt
        · have := hs ((i + j) / 2) k (by omega) hkn; omega
    · obtain rfl : i = j := by omega
      exact ⟨h2, h4, h5⟩
theorem ats_length (l : List SC) : (ats l).length = l.length := by simp [ats]
theorem srt_ats {l : List SC} (hs : Srt l) : ∀ i j, i < j → j < (ats l).length → (ats l).getD i 0 < (ats l).getD j 0 := by
  intro i j hij hj
  rw [ats_length] at hj
  rw [ats_getD l i (by omega), ats_getD l j hj]
  exact List.pairwise_iff_getElem.1 hs i j (by omega) hj hij
theorem plc_split {l : List SC} (hs : Srt l) (a : Int) : ∃ u v, l = u ++ v ∧ u.length = plc l a ∧ (∀ x ∈ u, x.f0 < a) ∧ ((hit l a = true ∧ ∃ t r, v = ⟨a, t⟩ :: r ∧ ∀ x ∈ r, a < x.f0) ∨ (hit l a = false ∧ ∀ x ∈ v, a < x.f0)) := by
  have h := bsl_spec (ats l) a (srt_ats hs) l.length 0 l.length (Nat.zero_le _) (by rw [ats_length]; exact Nat.le_refl _) (by omega) (fun k hk => by omega) (fun k hk hkn => by rw [ats_length] at hkn; omega)
  rw [ats_length] at h
  obtain ⟨hp, hb, ha⟩ := h
  change plc l a ≤ l.length at hp
  change ∀ k, k < plc l a → (ats l).getD k 0 < a at hb
  change ∀ k, plc l a ≤ k → k < l.length → ¬ (ats l).getD k 0 < a at ha
  refine ⟨l.take (plc l a), l.drop (plc l a), (List.take_append_drop _ _).symm, by rw [List.length_take]; omega, fun x hx => ?_, ?_⟩
  · obtain ⟨i, hi, rfl⟩ := List.getElem_of_mem hx
    rw [List.length_take] at hi
    rw [List.getElem_take]
    have := hb i (by omega)
    rwa [ats_getD l i (by omega)] at this
  · have hd : ∀ k (h : k < l.length), plc l a ≤ k → a ≤ l[k].f0 := fun k h hk => by
      have := ha k hk h
      rw [ats_getD l k h] at this; omega
    by_cases hlt : plc l a < l.length
    · have he := List.drop_eq_getElem_cons hlt
      have hr : ∀ x ∈ l.drop (plc l a + 1), l[plc l a].f0 < x.f0 := fun x hx => by
        obtain ⟨i, hi, rfl⟩ := List.getElem_of_mem hx
        rw [List.length_drop] at hi
        rw [List.getElem_drop]
        exact List.pairwise_iff_getElem.1 hs (plc l a) (plc l a + 1 + i) hlt (by omega) (by omega)
      by_cases ht : l[plc l a].f0 = a
      · refine .inl ⟨by unfold hit; rw [ats_getD l _ hlt]; simp [hlt, ht], l[plc l a].f1, l.drop (plc l a + 1), ?_, fun x hx => by have := hr x hx; omega⟩
        have hmk : ∀ y : SC, y.f0 = a → y = ⟨a, y.f1⟩ := fun y hy => by subst hy; rfl
        rw [he]
        congr 1
        exact hmk _ ht
      · refine .inr ⟨by unfold hit; rw [ats_getD l _ hlt]; simp [ht], fun x hx => ?_⟩
        have h0 := hd _ hlt (Nat.le_refl _)
        rw [he] at hx
        rcases List.mem_cons.1 hx with rfl | hx
        · omega
        · have := hr x hx; omega
    · refine .inr ⟨by unfold hit; simp [hlt], fun x hx => ?_⟩
      rw [List.drop_of_length_le (by omega)] at hx; cases hx
theorem hit_look {l : List SC} (hs : Srt l) (a : Int) : hit l a = (look l a).isSome := by
  obtain ⟨u, v, e, _, hu, h⟩ := plc_split hs a
  have hun : look u a = none := look_none (fun x hx => by have := hu x hx; omega)
  have hl : look l a = look v a := by rw [e, look_append, hun]; rfl
  rcases h with ⟨h1, t, r, rfl, _⟩ | ⟨h1, hv⟩
  · rw [h1, hl, look_cons, if_pos rfl]; rfl
  · rw [h1, hl, look_none (fun x hx => by have := hv x hx; omega)]; rfl
theorem plc_look {l : List SC} (hs : Srt l) (a : Int) (t : ByteArray) (h : look l a = some t) : ∃ hp : plc l a < l.length, l[plc l a] = ⟨a, t⟩ := by
  obtain ⟨u, v, e, hlen, hu, hv⟩ := plc_split hs a
  have hun : look u a = none := look_none (fun x hx => by have := hu x hx; omega)
  have hl : look l a = look v a := by rw [e, look_append, hun]; rfl
  rcases hv with ⟨_, t', r, rfl, _⟩ | ⟨_, hv⟩
  · rw [hl, look_cons, if_pos rfl] at h
    obtain rfl := Option.some.inj h
    have h1 : plc l a < l.length := by rw [← hlen, e]; simp
    refine ⟨h1, ?_⟩
    have : l[plc l a]? = some ⟨a, t'⟩ := by
      rw [← hlen]
      conv => lhs; rw [e]
      simp
    rw [List.getElem?_eq_getElem h1] at this
    exact Option.some.inj this
  · rw [hl, look_none (fun x hx => by have := hv x hx; omega)] at h; cases h
theorem srt_mid {u r : List SC} {x : SC} (hu : Srt u) (hr : Srt r) (h1 : ∀ y ∈ u, y.f0 < x.f0) (h2 : ∀ y ∈ r, x.f0 < y.f0) : Srt (u ++ x :: r) := by
  refine List.pairwise_append.2 ⟨hu, List.pairwise_cons.2 ⟨h2, hr⟩, fun y hy z hz => ?_⟩
  rcases List.mem_cons.1 hz with rfl | hz
  · exact h1 y hy
  · have := h1 y hy; have := h2 z hz; omega
/-- what is put -/
theorem putL_spec {l : List SC} (hs : Srt l) (a : Int) (s : ByteArray) : Srt (putL l a s) ∧ (∀ i, look (putL l a s) i = if i = a then some (putT s) else look l i) ∧ (∀ x ∈ putL l a s, x ∈ l ∨ x = ⟨a, putT s⟩) ∧ (putL l a s).length = (if hit l a then l.length else l.length + 1) := by
  obtain ⟨u, v, e, hlen, hu, hv⟩ := plc_split hs a
  have hsu : Srt u := by rw [e] at hs; exact (List.pairwise_append.1 hs).1
  have hsv : Srt v := by rw [e] at hs; exact (List.pairwise_append.1 hs).2.1
  have hun : look u a = none := look_none (fun x hx => by have := hu x hx; omega)
  rcases hv with ⟨hh, t, r, rfl, hr⟩ | ⟨hh, hr⟩
  · have ep : putL l a s = u ++ ⟨a, putT s⟩ :: r := by
      unfold putL
      rw [if_pos hh, ← hlen]
      conv => lhs; rw [e]
      rw [List.set_append_right _ _ (Nat.le_refl _), Nat.sub_self]
      rfl
    rw [ep]
    refine ⟨srt_mid hsu hsv.tail hu hr, fun i => ?_, fun x hx => ?_, ?_⟩
    · rw [look_append, look_cons, e, look_append, look_cons]
      by_cases hi : i = a
      · subst hi; rw [hun]; simp
      · rw [if_neg (by show ¬ a = i; omega), if_neg hi, if_neg (by show ¬ a = i; omega)]
    · rw [e]
      rcases List.mem_append.1 hx with hx | hx
      · exact .inl (List.mem_append_left _ hx)
      · rcases List.mem_cons.1 hx with rfl | hx
        · exact .inr rfl
        · exact .inl (List.mem_append_right _ (List.mem_cons_of_mem _ hx))
    · rw [if_pos hh, e]; simp
  · have ep : putL l a s = u ++ ⟨a, putT s⟩ :: v := by
      unfold putL
      rw [if_neg (by rw [hh]; decide), ← hlen]
      conv => lhs; rw [e]
      rw [List.take_left' rfl, List.drop_left' rfl]
    rw [ep]
    refine ⟨srt_mid hsu hsv hu hr, fun i => ?_, fun x hx => ?_, ?_⟩
    · rw [look_append, look_cons, e, look_append]
      by_cases hi : i = a
      · subst hi; rw [hun]; simp
      · rw [if_neg (by show ¬ a = i; omega), if_neg hi]
    · rw [e]
      rcases List.mem_append.1 hx with hx | hx
      · exact .inl (List.mem_append_left _ hx)
      · rcases List.mem_cons.1 hx with rfl | hx
        · exact .inr rfl
        · exact .inl (List.mem_append_right _ hx)
    · rw [if_neg (by rw [hh]; decide), e]; simp; omega
end Go.Proofs.Ytnjhgbhafpnclaa.Pr
namespace Go.Proofs.Ytnjhgbhafpnclaa.Pr
open Go.RowKit Go.Proofs.Ytnjhgbhafpnclaa Go.Proofs.YtnjhgbhafpnclaaW.PrintWords Go.Proofs.YtnjhgbhafpnclaaW.PrintLast
theorem wf64 {a : Int} (h : (Lit.int .i64 a).wf = true) : -9223372036854775808 ≤ a ∧ a ≤ 9223372036854775807 := bounds_i64 h
theorem w64 {n : Int} (h : -9223372036854775808 ≤ n ∧ n ≤ 9223372036854775807) : wrap64 n = n := by unfold wrap64; omega
def pickV (c n : Int) : Int := (if c < 0 then -(c + 1) else c) % n
theorem pickV_range (c n : Int) (hn : 1 ≤ n) : 0 ≤ pickV c n ∧ pickV c n < n := by
  unfold pickV
  exact ⟨Int.emod_nonneg _ (by omega), Int.emod_lt_of_pos _ (by omega)⟩
theorem pick_ok (c n : Int) (hc : (Lit.int .i64 c).wf = true) (hn : 1 ≤ n) : rootcellarlaw9_pick.f c n = some (pickV c n) := by
  have hb := wf64 hc
  unfold rootcellarlaw9_pick.f pickV
  by_cases h0 : c < 0
  · rw [if_pos h0, if_neg (by omega), if_pos h0, w64 (n := c + 1) (by omega), w64 (by omega), Int.tmod_eq_emod_of_nonneg (by omega)]
  · rw [if_neg h0, if_neg (by omega), if_neg h0, Int.tmod_eq_emod_of_nonneg (by omega)]
/-- sixteen bytes of a raw number -/
def clRun (c : Int) : Nat → List Int → List Int
  | 0, xs => xs.set 15 1
  | d + 1, xs => clRun c d (xs.set (7 - d) ((shr .i64 c ((8 * (7 - d) : Nat) : Int)) % 256))
def clV (c : Int) : ByteArray := if Int.tmod c 5 = 0 then z16 else strOfNums (clRun c 8 (List.replicate 16 0))
theorem clRun_length (c : Int) : ∀ d xs, (clRun c d xs).length = xs.length := by
  intro d
  induction d with
  | zero => intro xs; simp [clRun]
  | succ d ih => intro xs; rw [clRun, ih]; simp
theorem clRun_last (c : Int) : ∀ d xs, xs.length = 16 → (clRun c d xs)[15]? = some 1 := by
  intro d
  induction d with
  | zero => intro xs h; rw [clRun, List.getElem?_set]; simp [h]
  | succ d ih => intro xs h; rw [clRun]; exact ih _ (by simpa using h)
theorem cl_l0 (c : Int) (d : Nat) (hd : d ≤ 8) : ∀ xs : List Int, xs.length = 16 → Ev (fun k => rootcellarlaw9_cluster.l0 k c xs ((8 - d : Nat) : Int)) (strOfNums (clRun c d xs)) := by
  induction d with
  | zero =>
    intro xs h
    refine Ev.step (f := fun _ => some (strOfNums (clRun c 0 xs))) (fun k => ?_) (Ev.now _)
    rw [rootcellarlaw9_cluster.l0, if_neg (by omega), if_pos (by omega)]
    rfl
  | succ d ih =>
    intro xs h
    have e8 : wrap64 (8 * ((8 - (d + 1) : Nat) : Int)) = ((8 * (7 - d) : Nat) : Int) := by rw [w64 (by omega)]; omega
    have e1 : wrap64 (((8 - (d + 1) : Nat) : Int) + 1) = ((8 - d : Nat) : Int) := by rw [w64 (by omega)]; omega
    refine Ev.step (f := fun k => rootcellarlaw9_cluster.l0 k c (xs.set (7 - d) ((shr .i64 c ((8 * (7 - d) : Nat) : Int)) % 256)) ((8 - d : Nat) : Int)) (fun k => ?_) (ih (by omega) _ (by simpa using h))
    rw [rootcellarlaw9_cluster.l0, if_pos (by omega), e8, if_pos (by omega), if_pos (by omega), if_pos (by omega), e1, show (((8 - (d + 1) : Nat) : Int)).toNat = 7 - d by omega]
theorem cl_ev (c : Int) : Ev (fun k => rootcellarlaw9_cluster.f k c) (clV c) := by
  unfold clV
  by_cases h : Int.tmod c 5 = 0
  · rw [if_pos h]
    refine Ev.congr (f := fun _ => some z16) (fun k => ?_) (Ev.now _)
    unfold rootcellarlaw9_cluster.f
    rw [if_pos (by decide), Option.bind_some, if_pos h]; rfl
  · rw [if_neg h]
    refine Ev.congr (f := fun k => rootcellarlaw9_cluster.l0 k c (List.replicate 16 0) 0) (fun k => ?_) (cl_l0 c 8 (by omega) _ (by simp))
    unfold rootcellarlaw9_cluster.f
    rw [if_pos (by decide), Option.bind_some, if_neg h]
theorem clV_size (c : Int) : (clV c).size = 16 := by
  unfold clV
  split
  · rfl
  · rw [strOfNums_size, clRun_length]; simp
theorem z16_zero : zeroB z16 = true := by decide +kernel
theorem clV_zero (c : Int) : zeroB (clV c) = decide (Int.tmod c 5 = 0) := by
  unfold clV
  by_cases h : Int.tmod c 5 = 0
  · rw [if_pos h, z16_zero]; simp [h]
  · rw [if_neg h]
    have hl := clRun_last c 8 (List.replicate 16 0) (by simp)
    have : zeroB (strOfNums (clRun c 8 (List.replicate 16 0))) = false := by
      rw [Bool.eq_false_iff]
      intro hz
      unfold zeroB at hz
      have e := eq_of_beq hz
      rw [strOfNums_data] at e
      have e15 := congrArg (fun l : List UInt8 => l[15]?) e
      simp only [List.getElem?_map, hl] at e15
      revert e15; decide
    rw [this]; simp [h]
theorem zero_z16 {s : ByteArray} (h : zeroB s = true) : s = z16 := by
  unfold zeroB at h
  have e := eq_of_beq h
  apply ByteArray.ext; apply Array.ext'
  rw [e]; rfl
theorem clV_of_zero (c : Int) (h : zeroB (clV c) = true) : clV c = z16 := zero_z16 h
/-- a right image -/
def Good (n : Int) (l : List SC) : Prop := Srt l ∧ ∀ x ∈ l, 0 ≤ x.f0 ∧ x.f0 < n ∧ (x.f1.size = 0 ∨ x.f1.size = 16 ∧ zeroB x.f1 = false)
theorem Good.nil (n : Int) : Good n [] := ⟨List.Pairwise.nil, fun x hx => by cases hx⟩
theorem putT_ok (s : ByteArray) (hs : s.size = 16) : (putT s).size = 0 ∨ (putT s).size = 16 ∧ zeroB (putT s) = false := by
  unfold putT
  cases h : zeroB s with
  | true => exact .inl rfl
  | false => exact .inr ⟨hs, h⟩
theorem Good.put {n : Int} {l : List SC} (h : Good n l) (a : Int) (s : ByteArray) (ha : 0 ≤ a ∧ a < n) (hs : s.size = 16) : Good n (putL l a s) := by
  have hp := putL_spec h.1 a s
  refine ⟨hp.1, fun x hx => ?_⟩
  rcases hp.2.2.1 x hx with hx | rfl
  · exact h.2 x hx
  · exact ⟨ha.1, ha.2, putT_ok s hs⟩
theorem Good.sized {n : Int} {l : List SC} (h : Good n l) : sizedC l = true := by
  unfold sizedC
  rw [List.all_eq_true]
  intro x hx
  have := (h.2 x hx).2.2
  simp only [decide_eq_true_eq]; unfold maxLen; omega
theorem rightFrom_good (c : Int) (l : List SC) : ∀ last, (∀ x ∈ l, last < x.f0) → (Srt l ∧ ∀ x ∈ l, x.f0 < c ∧ (x.f1.size = 0 ∨ x.f1.size = 16 ∧ zeroB x.f1 = false)) → rightFrom c last (prs l) = true := by
  induction l with
  | nil => intro _ _ _; rfl
  | cons x l ih =>
    intro last hl ⟨hs, hx⟩
    have h1 := hl x (by simp)
    have h2 := hx x (by simp)
    have hb : badC c last (x.f0, x.f1) = false := by
      unfold badC
      rcases h2.2 with h | ⟨h, hz⟩
      · simp [h]; omega
      · simp [h, hz]; omega
    show rightFrom c last ((x.f0, x.f1) :: prs l) = true
    rw [rightFrom, hb, if_neg (by decide)]
    exact ih x.f0 (fun y hy => hs.head y hy) ⟨hs.tail, fun y hy => hx y (by simp [hy])⟩
theorem Good.right {n : Int} {l : List SC} (h : Good n l) (h1 : 1 ≤ n) (h2 : n ≤ 64) : rightB n (prs l) = true := by
  unfold rightB newR
  rw [rightFrom_good n l (-1) (fun x hx => by have := (h.2 x hx).1; omega) ⟨h.1, fun x hx => (h.2 x hx).2⟩, if_neg (by omega)]
  rfl
theorem Good.length {n : Int} {l : List SC} (h : Good n l) (h2 : n ≤ 64) : l.length ≤ 64 := by
  have key : ∀ (l : List SC) (lo : Int), Srt l → (∀ x ∈ l, lo ≤ x.f0 ∧ x.f0 < n) → (l.length : Int) ≤ max (n - lo) 0 := by
    intro l
    induction l with
    | nil => intro lo _ _; simp; omega
    | cons x l ih =>
      intro lo hs hx
      have h1 := hx x (by simp)
      have := ih (x.f0 + 1) hs.tail (fun y hy => by have := hs.head y hy; have := hx y (by simp [hy]); omega)
      rw [List.length_cons]; omega
  have := key l 0 h.1 (fun x hx => ⟨(h.2 x hx).1, (h.2 x hx).2.1⟩)
  omega
theorem Good.right_ok {n : Int} {l : List SC} (h : Good n l) (h1 : 1 ≤ n) (h2 : n ≤ 64) : cell_Right.f n l = some true := by
  unfold cell_Right.f
  rw [if_pos ⟨by have := h.length h2; unfold maxLen; omega, h.sized⟩, h.right h1 h2]
theorem put_ok {n : Int} {l : List SC} (h : Good n l) (h2 : n ≤ 64) (a : Int) (s : ByteArray) (ha : 0 ≤ a ∧ a < n) (hs : s.size = 16) : cell_Put.f n l a s = some (n, putL l a s, 0) := by
  unfold cell_Put.f
  have : hasB n a = true := by unfold hasB; simp [ha]
  rw [if_neg (by rw [this]; decide), if_neg (by simp [hs]), if_pos (by have := h.length h2; omega)]
theorem new_ok {n : Int} (h1 : 1 ≤ n) (h2 : n ≤ 64) : cell_New.f n = some (n, [], 0) := by
  unfold cell_New.f
  rw [if_neg (by omega), if_neg (by omega)]
/-- what a cluster reads -/
def txt (t : ByteArray) : ByteArray := if t.size = 0 then z16 else t
def getV (l : List SC) (a : Int) : ByteArray × Bool := match look l a with | none => (⟨#[]⟩, false) | some t => (txt t, true)
theorem toList_empty (s : ByteArray) : (s.toList = ([] : List UInt8)) ↔ s.size = 0 := by
  have := empty_list s
  constructor
  · intro h; rw [h] at this; simpa using this.symm
  · intro h; rw [h] at this; simpa using this
theorem text_ok (a : Int) (t : ByteArray) : cell_Cell_text.f a t = some (txt t) := by
  unfold cell_Cell_text.f txt
  by_cases h : t.size = 0
  · rw [if_pos ((toList_empty t).2 h), if_pos h]
    have : strings_Repeat.f (⟨#[0]⟩ : ByteArray) 16 = some z16 := by
      unfold strings_Repeat.f
      rw [if_pos ⟨rfl, by decide, by decide⟩]
      rfl
    rw [this]; rfl
  · rw [if_neg (fun e => h ((toList_empty t).1 e)), if_neg h]
theorem get_ok {l : List SC} (hs : Srt l) (hl : l.length ≤ 1000000) (c a : Int) : cell_Get.f c l a = some (getV l a) := by
  unfold cell_Get.f cell_Image_place.f
  rw [if_pos (by omega), Option.bind_some]
  dsimp only
  rw [hit_look hs]
  unfold getV
  cases h : look l a with
  | none => rfl
  | some t =>
    obtain ⟨hp, hx⟩ := plc_look hs a t h
    have hr : rd_T51 l (plc l a : Int) = ⟨a, t⟩ := by
      unfold rd_T51
      rw [Int.toNat_natCast, List.getD_eq_getElem?_getD, List.getElem?_eq_getElem hp, hx]; rfl
    simp only [Option.isSome_some, if_true]
    rw [if_pos (by omega), if_pos (by omega), hr, text_ok]
    rfl
theorem Good.get {n : Int} {l : List SC} (h : Good n l) (h2 : n ≤ 64) (c a : Int) : cell_Get.f c l a = some (getV l a) := get_ok h.1 (by have := h.length h2; omega) c a
theorem txt_put (s : ByteArray) (hs : s.size = 16) : txt (putT s) = s := by
  unfold putT
  cases h : zeroB s with
  | true => rw [if_pos rfl, zero_z16 h]; rfl
  | false => rw [if_neg (by decide)]; unfold txt; rw [if_neg (by omega)]
theorem txt_size {n : Int} {l : List SC} (h : Good n l) {a : Int} {t : ByteArray} (ht : look l a = some t) : (txt t).size = 16 := by
  have := (h.2 _ (look_mem ht)).2.2
  unfold txt
  split
  · rfl
  · dsimp only at this; omega
theorem txt_inj {t u : ByteArray} (ht : t.size = 0 ∨ t.size = 16 ∧ zeroB t = false) (hu : u.size = 0 ∨ u.size = 16 ∧ zeroB u = false) (h : txt t = txt u) : t = u := by
  have e0 : ∀ s : ByteArray, s.size = 0 → s = ⟨#[]⟩ := fun s hs => by
    apply ByteArray.ext
    exact Array.eq_empty_of_size_eq_zero hs
  unfold txt at h
  rcases ht with ht | ⟨ht, hz⟩ <;> rcases hu with hu | ⟨hu, hz'⟩
  · rw [e0 t ht, e0 u hu]
  · rw [if_pos ht, if_neg (by omega)] at h; rw [← h, z16_zero] at hz'; cases hz'
  · rw [if_neg (by omega), if_pos hu] at h; rw [h, z16_zero] at hz; cases hz
  · rw [if_neg (by omega), if_neg (by omega)] at h; exact h
end Go.Proofs.Ytnjhgbhafpnclaa.Pr
namespace Go.Proofs.Ytnjhgbhafpnclaa.Pr
open Go.RowKit Go.Proofs.Ytnjhgbhafpnclaa Go.Proofs.YtnjhgbhafpnclaaW.PrintWords Go.Proofs.YtnjhgbhafpnclaaW.PrintLast
abbrev rdC := rd_T51
abbrev rdR := rd_T64
def toR (x : SC) : SR := ⟨x.f0, x.f1⟩
theorem rdC_eq {l : List SC} {i : Nat} (h : i < l.length) : rd_T51 l (i : Int) = l[i] := by
  unfold rd_T51
  rw [Int.toNat_natCast, List.getD_eq_getElem?_getD, List.getElem?_eq_getElem h]; rfl
theorem rdR_eq {l : List SR} {i : Nat} (h : i < l.length) : rd_T64 l (i : Int) = l[i] := by
  unfold rd_T64
  rw [Int.toNat_natCast, List.getD_eq_getElem?_getD, List.getElem?_eq_getElem h]; rfl
theorem as_l0 (c : Int) (l : List SC) (hl : l.length ≤ 1000000) (d : Nat) : ∀ (i : Nat) (acc : List SR), i + d = l.length → acc.length ≤ i → Ev (fun k => rootcellarlaw9_as.l0 k (i : Int) c l c acc) (c, acc ++ (l.drop i).map toR) := by
  induction d with
  | zero =>
    intro i acc hi ha
    refine Ev.step (f := fun _ => some (c, acc ++ (l.drop i).map toR)) (fun k => ?_) (Ev.now _)
    rw [rootcellarlaw9_as.l0, if_neg (by omega), List.drop_of_length_le (by omega)]; simp
  | succ d ih =>
    intro i acc hi ha
    have hlt : i < l.length := by omega
    refine Ev.step (f := fun k => rootcellarlaw9_as.l0 k ((i + 1 : Nat) : Int) c l c (acc ++ [toR l[i]])) (fun k => ?_) ?_
    · rw [rootcellarlaw9_as.l0, if_pos (by omega), if_pos (by omega), if_pos (by omega), rdC_eq hlt, show wrap64 ((i : Int) + 1) = ((i + 1 : Nat) : Int) by rw [w64 (by omega)]; omega]
      rfl
    · have := ih (i + 1) (acc ++ [toR l[i]]) (by omega) (by simp <;> omega)
      rw [List.drop_eq_getElem_cons hlt, List.map_cons]
      rw [List.append_assoc] at this
      exact this
theorem as_ev (c : Int) (l : List SC) (hl : l.length ≤ 1000000) : Ev (fun k => rootcellarlaw9_as.f k c l) (c, l.map toR) := by
  have := as_l0 c l hl l.length 0 [] (by omega) (by simp)
  simpa [rootcellarlaw9_as.f] using this
theorem same_l0 (c : Int) (l : List SC) (hl : l.length ≤ 1000000) (d : Nat) : ∀ (i : Nat), i + d = l.length → Ev (fun k => rootcellarlaw9_same.l0 k (i : Int) c l c (l.map toR)) true := by
  induction d with
  | zero =>
    intro i hi
    refine Ev.step (f := fun _ => some true) (fun k => ?_) (Ev.now _)
    rw [rootcellarlaw9_same.l0, if_neg (by omega)]
  | succ d ih =>
    intro i hi
    have hlt : i < l.length := by omega
    have hlt' : i < (l.map toR).length := by rw [List.length_map]; omega
    refine Ev.step (f := fun k => rootcellarlaw9_same.l0 k ((i + 1 : Nat) : Int) c l c (l.map toR)) (fun k => ?_) (ih (i + 1) (by omega))
    rw [rootcellarlaw9_same.l0, if_pos (by omega), if_pos (by omega), if_pos (by omega), rdC_eq hlt, rdR_eq hlt', List.getElem_map, if_pos (show l[i].f0 = (toR l[i]).f0 from rfl), if_pos (show l[i].f1.toList = (toR l[i]).f1.toList from rfl), show wrap64 ((i : Int) + 1) = ((i + 1 : Nat) : Int) by rw [w64 (by omega)]; omega]
theorem same_ev (c : Int) (l : List SC) (hl : l.length ≤ 1000000) : Ev (fun k => rootcellarlaw9_same.f k c l c (l.map toR)) true := by
  refine Ev.congr (f := fun k => rootcellarlaw9_same.j0 k ((l.length : Int) != ((l.map toR).length : Int)) c l c (l.map toR)) (fun k => ?_) ?_
  · unfold rootcellarlaw9_same.f; rw [if_pos rfl]
  · refine Ev.step (f := fun k => rootcellarlaw9_same.l0 k 0 c l c (l.map toR)) (fun k => ?_) (same_l0 c l hl l.length 0 (by omega))
    rw [rootcellarlaw9_same.j0, if_neg (by simp)]
theorem over_l0 (c : Int) (d : Nat) : ∀ x y acc : List SC, x.length + y.length = d → acc.length + d ≤ 1000000 → Srt x → Srt y → ∃ m, Ev (fun k => cell_Over.l0 k x y c acc) (c, acc ++ m) ∧ Srt m ∧ (∀ z ∈ m, z ∈ x ∨ z ∈ y) ∧ (∀ a, look m a = (look x a).or (look y a)) := by
  induction d with
  | zero =>
    intro x y acc hd _ _ _
    obtain rfl : x = [] := List.length_eq_zero_iff.1 (by omega)
    obtain rfl : y = [] := List.length_eq_zero_iff.1 (by omega)
    refine ⟨[], ?_, List.Pairwise.nil, fun z hz => (by simp at hz), fun a => rfl⟩
    refine Ev.step (f := fun k => cell_Over.j2 k [] [] (decide ((([] : List SC).length : Int) > 0)) c acc) (fun k => ?_) (Ev.step (f := fun _ => some (c, acc ++ [])) (fun k => ?_) (Ev.now _))
    · rw [cell_Over.l0, if_neg (by simp)]
    · rw [cell_Over.j2, if_neg (by simp), List.append_nil]
  | succ d ih =>
    intro x y acc hd hacc hx hy
    cases x with
    | nil =>
      cases y with
      | nil => simp at hd
      | cons q y' =>
        obtain ⟨m, hm, hs, hmem, hlook⟩ := ih [] y' (acc ++ [q]) (by simp at hd ⊢; omega) (by simp at hd ⊢; omega) hx hy.tail
        refine ⟨q :: m, ?_, List.pairwise_cons.2 ⟨fun z hz => ?_, hs⟩, fun z hz => ?_, fun a => ?_⟩
        · refine Ev.step (f := fun k => cell_Over.j2 k [] (q :: y') (decide (((q :: y').length : Int) > 0)) c acc) (fun k => ?_) (Ev.step (f := fun k => cell_Over.j3 k [] (q :: y') false c acc) (fun k => ?_) (Ev.step (f := fun k => cell_Over.l0 k [] y' c (acc ++ [q])) (fun k => ?_) (by simpa using hm)))
          · rw [cell_Over.l0, if_neg (by simp)]
          · rw [cell_Over.j2, if_pos (by simp <;> omega), if_neg (by simp <;> omega), if_neg (by simp)]
          · rw [cell_Over.j3, if_neg (by decide), if_pos (by simp), if_pos (by simp <;> omega), if_pos (by omega), if_pos (by simp <;> omega)]; rfl
        · rcases hmem z hz with h | h
          · cases h
          · exact hy.head z h
        · rcases List.mem_cons.1 hz with rfl | h
          · exact .inr List.mem_cons_self
          · rcases hmem z h with h | h
            · cases h
            · exact .inr (List.mem_cons_of_mem _ h)
        · rw [look_cons, hlook, look_nil, look_cons]; simp
    | cons p x' =>
      cases y with
      | nil =>
        obtain ⟨m, hm, hs, hmem, hlook⟩ := ih x' [] (acc ++ [p]) (by simp at hd ⊢; omega) (by simp at hd ⊢; omega) hx.tail hy
        refine ⟨p :: m, ?_, List.pairwise_cons.2 ⟨fun z hz => ?_, hs⟩, fun z hz => ?_, fun a => ?_⟩
        · refine Ev.step (f := fun k => cell_Over.j2 k (p :: x') [] true c acc) (fun k => ?_) (Ev.step (f := fun k => cell_Over.j3 k (p :: x') [] true c acc) (fun k => ?_) (Ev.step (f := fun k => cell_Over.l0 k x' [] c (acc ++ [p])) (fun k => ?_) (by simpa using hm)))
          · rw [cell_Over.l0, if_pos (by simp <;> omega)]
          · rw [cell_Over.j2, if_pos rfl, if_pos (by simp)]
          · rw [cell_Over.j3, if_pos rfl, if_pos (by simp <;> omega), if_pos (by omega), if_pos (by simp <;> omega)]; rfl
        · rcases hmem z hz with h | h
          · exact hx.head z h
          · cases h
        · rcases List.mem_cons.1 hz with rfl | h
          · exact .inl List.mem_cons_self
          · rcases hmem z h with h | h
            · exact .inl (List.mem_cons_of_mem _ h)
            · cases h
        · rw [look_cons, hlook, look_nil, look_cons]; simp
      | cons q y' =>
        have go : ∀ r, Ev (fun k => cell_Over.j3 k (p :: x') (q :: y') (decide (p.f0 < q.f0)) c acc) r → Ev (fun k => cell_Over.l0 k (p :: x') (q :: y') c acc) r := by
          intro r hr
          refine Ev.step (f := fun k => cell_Over.j2 k (p :: x') (q :: y') true c acc) (fun k => ?_) (Ev.step (f := fun k => cell_Over.j3 k (p :: x') (q :: y') (decide (p.f0 < q.f0)) c acc) (fun k => ?_) hr)
          · rw [cell_Over.l0, if_pos (by simp <;> omega)]
          · rw [cell_Over.j2, if_pos rfl, if_neg (by simp <;> omega), if_pos (by simp <;> omega), if_pos (by simp <;> omega), if_pos (by simp <;> omega)]; rfl
        by_cases hlt : p.f0 < q.f0
        · obtain ⟨m, hm, hs, hmem, hlook⟩ := ih x' (q :: y') (acc ++ [p]) (by simp at hd ⊢; omega) (by simp at hd ⊢; omega) hx.tail hy
          refine ⟨p :: m, go _ ?_, List.pairwise_cons.2 ⟨fun z hz => ?_, hs⟩, fun z hz => ?_, fun a => ?_⟩
          · refine Ev.step (f := fun k => cell_Over.l0 k x' (q :: y') c (acc ++ [p])) (fun k => ?_) (by simpa using hm)
            rw [cell_Over.j3, if_pos (by simp [hlt]), if_pos (by simp <;> omega), if_pos (by omega), if_pos (by simp <;> omega)]; rfl
          · rcases hmem z hz with h | h
            · exact hx.head z h
            · rcases List.mem_cons.1 h with rfl | h
              · exact hlt
              · have := hy.head z h; omega
          · rcases List.mem_cons.1 hz with rfl | h
            · exact .inl List.mem_cons_self
            · rcases hmem z h with h | h
              · exact .inl (List.mem_cons_of_mem _ h)
              · exact .inr h
          · rw [look_cons, hlook, look_cons p]
            by_cases e : p.f0 = a
            · rw [if_pos e, if_pos e]; rfl
            · rw [if_neg e, if_neg e]
        · by_cases hgt : q.f0 < p.f0
          · obtain ⟨m, hm, hs, hmem, hlook⟩ := ih (p :: x') y' (acc ++ [q]) (by simp at hd ⊢; omega) (by simp at hd ⊢; omega) hx hy.tail
            refine ⟨q :: m, go _ ?_, List.pairwise_cons.2 ⟨fun z hz => ?_, hs⟩, fun z hz => ?_, fun a => ?_⟩
            · refine Ev.step (f := fun k => cell_Over.l0 k (p :: x') y' c (acc ++ [q])) (fun k => ?_) (by simpa using hm)
              rw [cell_Over.j3, if_neg (by simp [hlt]), if_neg (by simp <;> omega), if_pos (by simp <;> omega), if_pos (by simp <;> omega), if_pos (show (rdC (q :: y') 0).f0 < (rdC (p :: x') 0).f0 from hgt), if_pos (by omega), if_pos (by simp <;> omega)]; rfl
            · rcases hmem z hz with h | h
              · rcases List.mem_cons.1 h with rfl | h
                · exact hgt
                · have := hx.head z h; omega
              · exact hy.head z h
            · rcases List.mem_cons.1 hz with rfl | h
              · exact .inr List.mem_cons_self
              · rcases hmem z h with h | h
                · exact .inl h
                · exact .inr (List.mem_cons_of_mem _ h)
            · rw [look_cons, hlook, look_cons q]
              by_cases e : q.f0 = a
              · rw [if_pos e, if_pos e, look_none (l := p :: x') (fun z hz => by
                  rcases List.mem_cons.1 hz with rfl | h
                  · omega
                  · have := hx.head z h; omega)]
                rfl
              · rw [if_neg e, if_neg e]
          · have heq : p.f0 = q.f0 := by omega
            obtain ⟨m, hm, hs, hmem, hlook⟩ := ih (p :: x') y' acc (by simp at hd ⊢; omega) (by simp at hd ⊢; omega) hx hy.tail
            refine ⟨m, go _ ?_, hs, fun z hz => ?_, fun a => ?_⟩
            · refine Ev.step (f := fun k => cell_Over.l0 k (p :: x') y' c acc) (fun k => ?_) hm
              rw [cell_Over.j3, if_neg (by simp [hlt]), if_neg (by simp <;> omega), if_pos (by simp <;> omega), if_pos (by simp <;> omega), if_neg (show ¬ (rdC (q :: y') 0).f0 < (rdC (p :: x') 0).f0 from hgt), if_pos (by simp <;> omega)]; rfl
            · rcases hmem z hz with h | h
              · exact .inl h
              · exact .inr (List.mem_cons_of_mem _ h)
            · rw [hlook, look_cons q, look_cons p]
              by_cases e : p.f0 = a
              · rw [if_pos e]; rfl
              · rw [if_neg e, if_neg (by omega)]
theorem over_ok {n : Int} {x y : List SC} (h1 : 1 ≤ n) (h2 : n ≤ 64) (hx : Good n x) (hy : Good n y) : ∃ m, Ev (fun k => cell_Over.f k n x n y) (n, m) ∧ Good n m ∧ ∀ a, look m a = (look x a).or (look y a) := by
  have hxl := hx.length h2
  have hyl := hy.length h2
  obtain ⟨m, hm, hs, hmem, hlook⟩ := over_l0 n _ x y [] rfl (by simp <;> omega) hx.1 hy.1
  refine ⟨m, ?_, ⟨hs, fun z hz => ?_⟩, hlook⟩
  · refine Ev.congr (f := fun k => cell_Over.j0 k (n != n) n x n y) (fun k => ?_) (Ev.step (f := fun k => cell_Over.l0 k x y n []) (fun k => ?_) (by simpa using hm))
    · unfold cell_Over.f
      rw [hx.right_ok h1 h2, Option.bind_some, if_pos rfl, hy.right_ok h1 h2, Option.bind_some, if_pos rfl]
    · rw [cell_Over.j0, if_neg (by simp)]
  · rcases hmem z hz with h | h
    · exact hx.2 z h
    · exact hy.2 z h
/-- what a row of raw numbers leaves at a cluster -/
def left (n i : Int) (l : List Int) (o : Option ByteArray) : Option ByteArray := l.foldl (fun o c => if pickV c n = i then some (putT (clV c)) else o) o
theorem rd_eq {l : List Int} {i : Nat} (h : i < l.length) : rd l (i : Int) = l[i] := by
  unfold rd
  rw [Int.toNat_natCast, List.getD_eq_getElem?_getD, List.getElem?_eq_getElem h]; rfl
theorem made_l0 {n : Int} (h1 : 1 ≤ n) (h2 : n ≤ 64) (l : List Int) (hl : ∀ x ∈ l, (Lit.int .i64 x).wf = true) (d : Nat) : ∀ (i : Nat) (m : List SC), i + d = min l.length 80 → Good n m → ∃ r, Ev (fun k => rootcellarlaw9_made.l0 k n l (i : Int) n m) (n, r) ∧ Good n r ∧ ∀ a, look r a = left n a ((l.take 80).drop i) (look m a) := by
  induction d with
  | zero =>
    intro i m hi hm
    refine ⟨m, ?_, hm, fun a => ?_⟩
    · have hend : Ev (fun k => rootcellarlaw9_made.j1 k n l (i : Int) false n m) (n, m) := by
        refine Ev.step (f := fun _ => some (n, m)) (fun k => ?_) (Ev.now _)
        rw [rootcellarlaw9_made.j1, if_neg (by decide)]
      refine Ev.step (f := fun k => rootcellarlaw9_made.j1 k n l (i : Int) false n m) (fun k => ?_) hend
      rw [rootcellarlaw9_made.l0]
      by_cases hlt : (i : Int) < (l.length : Int)
      · rw [if_pos hlt, show decide ((i : Int) < 80) = false by simp; omega]
      · rw [if_neg hlt]
    · rw [List.drop_of_length_le (by rw [List.length_take]; omega)]; rfl
  | succ d ih =>
    intro i m hi hm
    have hlt : i < l.length := by omega
    have hlt' : i < (l.take 80).length := by rw [List.length_take]; omega
    have hw := hl _ (List.getElem_mem hlt)
    have hp := pickV_range l[i] n h1
    obtain ⟨r, hr, hg, hk⟩ := ih (i + 1) (putL m (pickV l[i] n) (clV l[i])) (by omega) (hm.put _ _ hp (clV_size _))
    refine ⟨r, ?_, hg, fun a => ?_⟩
    · refine Ev.step (f := fun k => rootcellarlaw9_made.j1 k n l (i : Int) true n m) (fun k => ?_) (Ev.step (f := fun k => (rootcellarlaw9_cluster.f k l[i]).bind fun t143 => ((cell_Put.f n m (pickV l[i] n) t143).bind fun bt144 => (rootcellarlaw9_made.l0 k n l ((i + 1 : Nat) : Int) bt144.1 bt144.2.1))) (fun k => ?_) (Ev.bind (cl_ev l[i]) (Ev.congr (fun k => ?_) hr)))
      · rw [rootcellarlaw9_made.l0, if_pos (by omega), show decide ((i : Int) < 80) = true by simp; omega]
      · rw [rootcellarlaw9_made.j1, if_pos rfl, if_pos (by omega), if_pos (by omega), rd_eq hlt, pick_ok _ _ hw h1, Option.bind_some, show wrap64 ((i : Int) + 1) = ((i + 1 : Nat) : Int) by rw [w64 (by omega)]; omega]
      · rw [put_ok hm h2 _ _ hp (clV_size _), Option.bind_some]
    · rw [hk, (putL_spec hm.1 _ _).2.1, List.drop_eq_getElem_cons hlt', List.getElem_take]
      unfold left
      rw [List.foldl_cons]
      by_cases e : a = pickV l[i] n
      · rw [if_pos e, if_pos e.symm]
      · rw [if_neg e, if_neg (fun h => e h.symm)]
theorem made_ok {n : Int} (h1 : 1 ≤ n) (h2 : n ≤ 64) (l : List Int) (hl : ∀ x ∈ l, (Lit.int .i64 x).wf = true) : ∃ r, Ev (fun k => rootcellarlaw9_made.f k n l) (n, r) ∧ Good n r ∧ ∀ a, look r a = left n a (l.take 80) none := by
  obtain ⟨r, hr, hg, hk⟩ := made_l0 h1 h2 l hl _ 0 [] (by rw [Nat.zero_add]) (Good.nil n)
  refine ⟨r, Ev.congr (fun k => ?_) hr, hg, fun a => by rw [hk, look_nil, List.drop_zero]⟩
  unfold rootcellarlaw9_made.f
  rw [new_ok h1 h2, Option.bind_some]
  rfl
theorem clV_0 : clV 0 = z16 := rfl
theorem shown_ev : Ev (fun k => rootcellarlaw9_shown.f k) true := by
  obtain ⟨K, hK⟩ := cl_ev 0
  refine ⟨K, fun k hk => ?_⟩
  have hp : putL [] 1 z16 = [⟨1, ⟨#[]⟩⟩] := by
    unfold putL putT
    rw [z16_zero]; rfl
  have hg : Good 4 ([⟨1, ⟨#[]⟩⟩] : List SC) := by
    rw [← hp]; exact (Good.nil 4).put 1 z16 (by omega) rfl
  have e1 : getV [⟨1, ⟨#[]⟩⟩] 1 = (z16, true) := rfl
  have e2 : getV [⟨1, ⟨#[]⟩⟩] 2 = (⟨#[]⟩, false) := rfl
  have hc : rootcellarlaw9_cluster.f k 0 = some (clV 0) := hK k hk
  show rootcellarlaw9_shown.f k = some true
  unfold rootcellarlaw9_shown.f
  rw [new_ok (by omega) (by omega), Option.bind_some, hc, clV_0, Option.bind_some, put_ok (Good.nil 4) (by omega) 1 z16 (by omega) rfl, Option.bind_some, hp]
  dsimp only
  rw [hg.get (by omega), Option.bind_some, hg.get (by omega), Option.bind_some, e1, e2]
  rw [if_pos rfl, if_pos rfl, Option.bind_some, if_pos rfl, if_pos rfl, if_neg (by decide), if_pos (by decide), if_pos (by decide)]
  show some ((⟨#[]⟩ : ByteArray).toList == ([] : List UInt8)) = some true
  rw [(toList_empty ⟨#[]⟩).2 rfl]
  rfl
end Go.Proofs.Ytnjhgbhafpnclaa.Pr
namespace Go.Proofs.Ytnjhgbhafpnclaa.Pr
open Go.RowKit Go.Proofs.Ytnjhgbhafpnclaa Go.Proofs.YtnjhgbhafpnclaaW.PrintWords Go.Proofs.YtnjhgbhafpnclaaW.PrintLast
theorem getV_of {l m : List SC} {a : Int} (h : look l a = look m a) : getV l a = getV m a := by unfold getV; rw [h]
theorem getV_t {l : List SC} {a : Int} {t : ByteArray} (h : look l a = some t) : getV l a = (txt t, true) := by unfold getV; rw [h]
theorem getV_n {l : List SC} {a : Int} (h : look l a = none) : getV l a = (⟨#[]⟩, false) := by unfold getV; rw [h]
theorem Good.length_n {n : Int} {l : List SC} (h : Good n l) (h0 : 0 ≤ n) : (l.length : Int) ≤ n := by
  have key : ∀ (l : List SC) (lo : Int), Srt l → (∀ x ∈ l, lo ≤ x.f0 ∧ x.f0 < n) → (l.length : Int) ≤ max (n - lo) 0 := by
    intro l
    induction l with
    | nil => intro lo _ _; simp; omega
    | cons x l ih =>
      intro lo hs hx
      have h1 := hx x (by simp)
      have := ih (x.f0 + 1) hs.tail (fun y hy => by have := hs.head y hy; have := hx y (by simp [hy]); omega)
      rw [List.length_cons]; omega
  have := key l 0 h.1 (fun x hx => ⟨(h.2 x hx).1, (h.2 x hx).2.1⟩)
  omega
theorem wrap_one (a : Int) : wrap64 (1 + pickV a 64) = 1 + pickV a 64 ∧ 1 ≤ 1 + pickV a 64 ∧ 1 + pickV a 64 ≤ 64 := by
  have := pickV_range a 64 (by omega)
  refine ⟨by rw [w64 (by omega)], by omega, by omega⟩
end Go.Proofs.Ytnjhgbhafpnclaa.Pr
