/- Plain laws of layer 11: images as sorted rows of cells, and of pick, cluster, New, Put, Drop, Get. No conditions but that numbers are those of their kinds. -/
import Derived.Test.YtbeloaccgmgocaaHPut
import Derived.Test.YtbeloaccgmgocaaHRight
import Derived.Test.YtbeloaccgmgocaaHDrop
import Derived.Test.YtbeloaccgmgocaaHCh
import Derived.OpenShut
import Derived.Test.YtbeloaccgmgocaaPrx1
import Derived.Test.YtbeloaccgmgocaaPrx3
import Derived.Test.YtbeloaccgmgocaaPrx4
import Derived.Test.YtbeloaccgmgocaaHChFold
import Derived.Test.YtbeloaccgmgocaaPrx2
section
namespace Go.Proofs.Ytbeloaccgmgocaa.Pr
open Go.RowKit Go.Proofs.Ytbeloaccgmgocaa
def Srt (l : List SC) : Prop := l.Pairwise (fun x y => x.f0 < y.f0)
def look (l : List SC) (a : Int) : Option ByteArray := (l.find? (fun x => x.f0 == a)).map (·.f1)
theorem look_nil (a : Int) : look [] a = none := rfl
theorem look_cons (x : SC) (l : List SC) (a : Int) : look (x :: l) a = if x.f0 = a then some x.f1 else look l a := by
  unfold look
  rw [List.find?_cons]
  by_cases h : x.f0 = a
  · simp [h]
  · rw [if_neg h, show (x.f0 == a) = false by simpa using h]
theorem look_append (l m : List SC) (a : Int) : look (l ++ m) a = (look l a).or (look m a) := by
  induction l with
  | nil => rw [look_nil]; rfl
  | cons x l ih => rw [List.cons_append, look_cons, look_cons]; split <;> simp [ih]
theorem look_none {l : List SC} {a : Int} (h : ∀ x ∈ l, x.f0 ≠ a) : look l a = none := by
  induction l with
  | nil => rfl
  | cons x l ih => rw [look_cons, if_neg (h x (by simp)), ih (fun y hy => h y (by simp [hy]))]
theorem look_mem {l : List SC} {a : Int} {t : ByteArray} (h : look l a = some t) : ⟨a, t⟩ ∈ l := by
  induction l with
  | nil => cases h
  | cons x l ih =>
    rw [look_cons] at h
    split at h
    · rename_i e
      obtain rfl := Option.some.inj h
      obtain ⟨x0, x1⟩ := x
      dsimp only at e
      subst e
      exact List.mem_cons_self
    · exact List.mem_cons_of_mem _ (ih h)
theorem Srt.tail {x : SC} {l : List SC} (h : Srt (x :: l)) : Srt l := (List.pairwise_cons.1 h).2
theorem Srt.head {x : SC} {l : List SC} (h : Srt (x :: l)) : ∀ y ∈ l, x.f0 < y.f0 := (List.pairwise_cons.1 h).1
theorem mem_look {l : List SC} (hs : Srt l) {x : SC} (h : x ∈ l) : look l x.f0 = some x.f1 := by
  induction l with
  | nil => cases h
  | cons y l ih =>
    rw [look_cons]
    rcases List.mem_cons.1 h with rfl | h
    · rw [if_pos rfl]
    · rw [if_neg (by have := hs.head x h; omega)]; exact ih hs.tail h
theorem look_ext {l m : List SC} (hl : Srt l) (hm : Srt m) (h : ∀ a, look l a = look m a) : l = m := by
  induction l generalizing m with
  | nil =>
    cases m with
    | nil => rfl
    | cons y m => have := h y.f0; rw [look_cons, if_pos rfl] at this; cases this
  | cons x l ih =>
    cases m with
    | nil => have := h x.f0; rw [look_cons, if_pos rfl] at this; cases this
    | cons y m =>
      have hxy : x.f0 = y.f0 := by
        rcases Int.lt_trichotomy x.f0 y.f0 with hh | hh | hh
        · have := h x.f0
          rw [look_cons, if_pos rfl, look_cons, if_neg (by omega), look_none (fun z hz => by have := hm.head z hz; omega)] at this
          cases this
        · exact hh
        · have := h y.f0
          rw [look_cons, if_neg (by omega), look_none (fun z hz => by have := hl.head z hz; omega), look_cons, if_pos rfl] at this
          cases this
      have ht : x.f1 = y.f1 := by
        have := h x.f0
        rw [look_cons, if_pos rfl, look_cons, if_pos hxy.symm] at this
        exact Option.some.inj this
      have hr : l = m := ih hl.tail hm.tail (fun a => by
        by_cases e : x.f0 = a
        · rw [look_none (fun z hz => by have := hl.head z hz; omega), look_none (fun z hz => by have := hm.head z hz; omega)]
        · have := h a
          rwa [look_cons, if_neg e, look_cons, if_neg (by omega)] at this)
      obtain ⟨x0, x1⟩ := x
      obtain ⟨y0, y1⟩ := y
      dsimp only at hxy ht
      subst hxy ht hr
      rfl
theorem bsl_spec (l : List Int) (t : Int) (hs : ∀ i j, i < j → j < l.length → l.getD i 0 < l.getD j 0) : ∀ d i j, i ≤ j → j ≤ l.length → j ≤ i + d → (∀ k, k < i → l.getD k 0 < t) → (∀ k, j ≤ k → k < l.length → ¬ l.getD k 0 < t) →
    bsl l t d i j ≤ l.length ∧ (∀ k, k < bsl l t d i j → l.getD k 0 < t) ∧ (∀ k, bsl l t d i j ≤ k → k < l.length → ¬ l.getD k 0 < t) := by
  intro d
  induction d with
  | zero =>
    intro i j h1 h2 h3 h4 h5
    obtain rfl : i = j := by omega
    exact ⟨h2, h4, h5⟩
  | succ d ih =>
    intro i j h1 h2 h3 h4 h5
    rw [bsl]
    split
    · rename_i hij
      split
      · rename_i hlt
        refine ih _ _ (by omega) h2 (by omega) (fun k hk => ?_) h5
        by_cases e : k = (i + j) / 2
        · rw [e]; exact hlt
        · have := hs k ((i + j) / 2) (by omega) (by omega); omega
      · rename_i hlt
        refine ih _ _ (by omega) (by omega) (by omega) h4 (fun k hk hkn => ?_)
        by_cases e : k = (i + j) / 2
        · rw [e]; exact hlt
        · have := hs ((i + j) / 2) k (by omega) hkn; omega
    · obtain rfl : i = j := by omega
      exact ⟨h2, h4, h5⟩
theorem ats_length (l : List SC) : (ats l).length = l.length := by simp [ats]
theorem srt_ats {l : List SC} (hs : Srt l) : ∀ i j, i < j → j < (ats l).length → (ats l).getD i 0 < (ats l).getD j 0 := by
  intro i j hij hj
  rw [ats_length] at hj
  rw [ats_getD l i (by omega), ats_getD l j hj]
  exact List.pairwise_iff_getElem.1 hs i j (by omega) hj hij
theorem plc_split {l : List SC} (hs : Srt l) (a : Int) : ∃ u v, l = u ++ v ∧ u.length = plc l a ∧ (∀ x ∈ u, x.f0 < a) ∧ ((hit l a = true ∧ ∃ t r, v = ⟨a, t⟩ :: r ∧ ∀ x ∈ r, a < x.f0) ∨ (hit l a = false ∧ ∀ x ∈ v, a < x.f0)) := by
  have h := bsl_spec (ats l) a (srt_ats hs) l.length 0 l.length (Nat.zero_le _) (by rw [ats_length]; exact Nat.le_refl _) (by omega) (fun k hk => by omega) (fun k hk hkn => by rw [ats_length] at hkn; omega)
  rw [ats_length] at h
  obtain ⟨hp, hb, ha⟩ := h
  change plc l a ≤ l.length at hp
  change ∀ k, k < plc l a → (ats l).getD k 0 < a at hb
  change ∀ k, plc l a ≤ k → k < l.length → ¬ (ats l).getD k 0 < a at ha
  refine ⟨l.take (plc l a), l.drop (plc l a), (List.take_append_drop _ _).symm, by rw [List.length_take]; omega, fun x hx => ?_, ?_⟩
  · obtain ⟨i, hi, rfl⟩ := List.getElem_of_mem hx
    rw [List.length_take] at hi
    rw [List.getElem_take]
    have := hb i (by omega)
    rwa [ats_getD l i (by omega)] at this
  · have hd : ∀ k (h : k < l.length), plc l a ≤ k → a ≤ l[k].f0 := fun k h hk => by
      have := ha k hk h
      rw [ats_getD l k h] at this; omega
    by_cases hlt : plc l a < l.length
    · have he := List.drop_eq_getElem_cons hlt
      have hr : ∀ x ∈ l.drop (plc l a + 1), l[plc l a].f0 < x.f0 := fun x hx => by
        obtain ⟨i, hi, rfl⟩ := List.getElem_of_mem hx
        rw [List.length_drop] at hi
        rw [List.getElem_drop]
        exact List.pairwise_iff_getElem.1 hs (plc l a) (plc l a + 1 + i) hlt (by omega) (by omega)
      by_cases ht : l[plc l a].f0 = a
      · refine .inl ⟨by unfold hit; rw [ats_getD l _ hlt]; simp [hlt, ht], l[plc l a].f1, l.drop (plc l a + 1), ?_, fun x hx => by have := hr x hx; omega⟩
        have hmk : ∀ y : SC, y.f0 = a → y = ⟨a, y.f1⟩ := fun y hy => by subst hy; rfl
        rw [he]
        congr 1
        exact hmk _ ht
      · refine .inr ⟨by unfold hit; rw [ats_getD l _ hlt]; simp [ht], fun x hx => ?_⟩
        have h0 := hd _ hlt (Nat.le_refl _)
        rw [he] at hx
        rcases List.mem_cons.1 hx with rfl | hx
        · omega
        · have := hr x hx; omega
    · refine .inr ⟨by unfold hit; simp [hlt], fun x hx => ?_⟩
      rw [List.drop_of_length_le (by omega)] at hx; cases hx
theorem hit_look {l : List SC} (hs : Srt l) (a : Int) : hit l a = (look l a).isSome := by
  obtain ⟨u, v, e, _, hu, h⟩ := plc_split hs a
  have hun : look u a = none := look_none (fun x hx => by have := hu x hx; omega)
  have hl : look l a = look v a := by rw [e, look_append, hun]; rfl
  rcases h with ⟨h1, t, r, rfl, _⟩ | ⟨h1, hv⟩
  · rw [h1, hl, look_cons, if_pos rfl]; rfl
  · rw [h1, hl, look_none (fun x hx => by have := hv x hx; omega)]; rfl
theorem plc_look {l : List SC} (hs : Srt l) (a : Int) (t : ByteArray) (h : look l a = some t) : ∃ hp : plc l a < l.length, l[plc l a] = ⟨a, t⟩ := by
  obtain ⟨u, v, e, hlen, hu, hv⟩ := plc_split hs a
  have hun : look u a = none := look_none (fun x hx => by have := hu x hx; omega)
  have hl : look l a = look v a := by rw [e, look_append, hun]; rfl
  rcases hv with ⟨_, t', r, rfl, _⟩ | ⟨_, hv⟩
  · rw [hl, look_cons, if_pos rfl] at h
    obtain rfl := Option.some.inj h
    have h1 : plc l a < l.length := by rw [← hlen, e]; simp
    refine ⟨h1, ?_⟩
    have : l[plc l a]? = some ⟨a, t'⟩ := by
      rw [← hlen]
      conv => lhs; rw [e]
      simp
    rw [List.getElem?_eq_getElem h1] at this
    exact Option.some.inj this
  · rw [hl, look_none (fun x hx => by have := hv x hx; omega)] at h; cases h
theorem srt_mid {u r : List SC} {x : SC} (hu : Srt u) (hr : Srt r) (h1 : ∀ y ∈ u, y.f0 < x.f0) (h2 : ∀ y ∈ r, x.f0 < y.f0) : Srt (u ++ x :: r) := by
  refine List.pairwise_append.2 ⟨hu, List.pairwise_cons.2 ⟨h2, hr⟩, fun y hy z hz => ?_⟩
  rcases List.mem_cons.1 hz with rfl | hz
  · exact h1 y hy
  · have := h1 y hy; have := h2 z hz; omega
/-- what is put -/
theorem putL_spec {l : List SC} (hs : Srt l) (a : Int) (s : ByteArray) : Srt (putL l a s) ∧ (∀ i, look (putL l a s) i = if i = a then some (putT s) else look l i) ∧ (∀ x ∈ putL l a s, x ∈ l ∨ x = ⟨a, putT s⟩) ∧ (putL l a s).length = (if hit l a then l.length else l.length + 1) := by
  obtain ⟨u, v, e, hlen, hu, hv⟩ := plc_split hs a
  have hsu : Srt u := by rw [e] at hs; exact (List.pairwise_append.1 hs).1
  have hsv : Srt v := by rw [e] at hs; exact (List.pairwise_append.1 hs).2.1
  have hun : look u a = none := look_none (fun x hx => by have := hu x hx; omega)
  rcases hv with ⟨hh, t, r, rfl, hr⟩ | ⟨hh, hr⟩
  · have ep : putL l a s = u ++ ⟨a, putT s⟩ :: r := by
      unfold putL
      rw [if_pos hh, ← hlen]
      conv => lhs; rw [e]
      rw [List.set_append_right _ _ (Nat.le_refl _), Nat.sub_self]
      rfl
    rw [ep]
    refine ⟨srt_mid hsu hsv.tail hu hr, fun i => ?_, fun x hx => ?_, ?_⟩
    · rw [look_append, look_cons, e, look_append, look_cons]
      by_cases hi : i = a
      · subst hi; rw [hun]; simp
      · rw [if_neg (by show ¬ a = i; omega), if_neg hi, if_neg (by show ¬ a = i; omega)]
    · rw [e]
      rcases List.mem_append.1 hx with hx | hx
      · exact .inl (List.mem_append_left _ hx)
      · rcases List.mem_cons.1 hx with rfl | hx
        · exact .inr rfl
        · exact .inl (List.mem_append_right _ (List.mem_cons_of_mem _ hx))
    · rw [if_pos hh, e]; simp
  · have ep : putL l a s = u ++ ⟨a, putT s⟩ :: v := by
      unfold putL
      rw [if_neg (by rw [hh]; decide), ← hlen]
      conv => lhs; rw [e]
      rw [List.take_left' rfl, List.drop_left' rfl]
    rw [ep]
    refine ⟨srt_mid hsu hsv hu hr, fun i => ?_, fun x hx => ?_, ?_⟩
    · rw [look_append, look_cons, e, look_append]
      by_cases hi : i = a
      · subst hi; rw [hun]; simp
      · rw [if_neg (by show ¬ a = i; omega), if_neg hi]
    · rw [e]
      rcases List.mem_append.1 hx with hx | hx
      · exact .inl (List.mem_append_left _ hx)
      · rcases List.mem_cons.1 hx with rfl | hx
        · exact .inr rfl
        · exact .inl (List.mem_append_right _ hx)
    · rw [if_neg (by rw [hh]; decide), e]; simp; omega
end Go.Proofs.Ytbeloaccgmgocaa.Pr
namespace Go.Proofs.Ytbeloaccgmgocaa.Pr
open Go.RowKit Go.Proofs.Ytbeloaccgmgocaa Go.Proofs.YtbeloaccgmgocaaW.PrintWords Go.Proofs.YtbeloaccgmgocaaW.PrintLast
def zed16 : ByteArray := strOfNums (List.replicate 16 0)
theorem wf64 {a : Int} (h : (Lit.int .i64 a).wf = true) : -9223372036854775808 ≤ a ∧ a ≤ 9223372036854775807 := bounds_i64 h
theorem w64 {n : Int} (h : -9223372036854775808 ≤ n ∧ n ≤ 9223372036854775807) : wrap64 n = n := by unfold wrap64; omega
def pickV (c n : Int) : Int := (if c < 0 then -(c + 1) else c) % n
theorem pickV_range (c n : Int) (hn : 1 ≤ n) : 0 ≤ pickV c n ∧ pickV c n < n := by
  unfold pickV
  exact ⟨Int.emod_nonneg _ (by omega), Int.emod_lt_of_pos _ (by omega)⟩
theorem pick_ok (c n : Int) (hc : (Lit.int .i64 c).wf = true) (hn : 1 ≤ n) : rootcellarlaw11_pick.f c n = some (pickV c n) := by
  have hb := wf64 hc
  unfold rootcellarlaw11_pick.f pickV
  by_cases h0 : c < 0
  · rw [if_pos h0, if_neg (by omega), if_pos h0, w64 (n := c + 1) (by omega), w64 (by omega), Int.tmod_eq_emod_of_nonneg (by omega)]
  · rw [if_neg h0, if_neg (by omega), if_neg h0, Int.tmod_eq_emod_of_nonneg (by omega)]
/-- sixteen bytes of a raw number -/
def clRun (c : Int) : Nat → List Int → List Int
  | 0, xs => xs.set 15 1
  | d + 1, xs => clRun c d (xs.set (7 - d) ((shr .i64 c ((8 * (7 - d) : Nat) : Int)) % 256))
def clV (c : Int) : ByteArray := if Int.tmod c 5 = 0 then zed16 else strOfNums (clRun c 8 (List.replicate 16 0))
theorem clRun_length (c : Int) : ∀ d xs, (clRun c d xs).length = xs.length := by
  intro d
  induction d with
  | zero => intro xs; simp [clRun]
  | succ d ih => intro xs; rw [clRun, ih]; simp
theorem clRun_last (c : Int) : ∀ d xs, xs.length = 16 → (clRun c d xs)[15]? = some 1 := by
  intro d
  induction d with
  | zero => intro xs h; rw [clRun, List.getElem?_set]; simp [h]
  | succ d ih => intro xs h; rw [clRun]; exact ih _ (by simpa using h)
theorem cl_l0 (c : Int) (d : Nat) (hd : d ≤ 8) : ∀ xs : List Int, xs.length = 16 → Ev (fun k => rootcellarlaw11_cluster.l0 k c xs ((8 - d : Nat) : Int)) (strOfNums (clRun c d xs)) := by
  induction d with
  | zero =>
    intro xs h
    refine Ev.step (f := fun _ => some (strOfNums (clRun c 0 xs))) (fun k => ?_) (Ev.now _)
    rw [rootcellarlaw11_cluster.l0, if_neg (by omega), if_pos (by omega)]
    rfl
  | succ d ih =>
    intro xs h
    have e8 : wrap64 (8 * ((8 - (d + 1) : Nat) : Int)) = ((8 * (7 - d) : Nat) : Int) := by rw [w64 (by omega)]; omega
    have e1 : wrap64 (((8 - (d + 1) : Nat) : Int) + 1) = ((8 - d : Nat) : Int) := by rw [w64 (by omega)]; omega
    refine Ev.step (f := fun k => rootcellarlaw11_cluster.l0 k c (xs.set (7 - d) ((shr .i64 c ((8 * (7 - d) : Nat) : Int)) % 256)) ((8 - d : Nat) : Int)) (fun k => ?_) (ih (by omega) _ (by simpa using h))
    rw [rootcellarlaw11_cluster.l0, if_pos (by omega), e8, if_pos (by omega), if_pos (by omega), if_pos (by omega), e1, show (((8 - (d + 1) : Nat) : Int)).toNat = 7 - d by omega]
theorem cl_ev (c : Int) : Ev (fun k => rootcellarlaw11_cluster.f k c) (clV c) := by
  unfold clV
  by_cases h : Int.tmod c 5 = 0
  · rw [if_pos h]
    refine Ev.congr (f := fun _ => some zed16) (fun k => ?_) (Ev.now _)
    unfold rootcellarlaw11_cluster.f
    rw [if_pos (by decide), Option.bind_some, if_pos h]; rfl
  · rw [if_neg h]
    refine Ev.congr (f := fun k => rootcellarlaw11_cluster.l0 k c (List.replicate 16 0) 0) (fun k => ?_) (cl_l0 c 8 (by omega) _ (by simp))
    unfold rootcellarlaw11_cluster.f
    rw [if_pos (by decide), Option.bind_some, if_neg h]
theorem clV_size (c : Int) : (clV c).size = 16 := by
  unfold clV
  split
  · rfl
  · rw [strOfNums_size, clRun_length]; simp
theorem zed16_zero : zeroB zed16 = true := by decide +kernel
theorem clV_zero (c : Int) : zeroB (clV c) = decide (Int.tmod c 5 = 0) := by
  unfold clV
  by_cases h : Int.tmod c 5 = 0
  · rw [if_pos h, zed16_zero]; simp [h]
  · rw [if_neg h]
    have hl := clRun_last c 8 (List.replicate 16 0) (by simp)
    have : zeroB (strOfNums (clRun c 8 (List.replicate 16 0))) = false := by
      rw [Bool.eq_false_iff]
      intro hz
      unfold zeroB at hz
      have e := eq_of_beq hz
      rw [strOfNums_data] at e
      have e15 := congrArg (fun l : List UInt8 => l[15]?) e
      simp only [List.getElem?_map, hl] at e15
      revert e15; decide
    rw [this]; simp [h]
theorem zero_zed16 {s : ByteArray} (h : zeroB s = true) : s = zed16 := by
  unfold zeroB at h
  have e := eq_of_beq h
  apply ByteArray.ext; apply Array.ext'
  rw [e]; rfl
theorem clV_of_zero (c : Int) (h : zeroB (clV c) = true) : clV c = zed16 := zero_zed16 h
/-- a right image -/
def Good (n : Int) (l : List SC) : Prop := Srt l ∧ ∀ x ∈ l, 0 ≤ x.f0 ∧ x.f0 < n ∧ (x.f1.size = 0 ∨ x.f1.size = 16 ∧ zeroB x.f1 = false)
theorem Good.nil (n : Int) : Good n [] := ⟨List.Pairwise.nil, fun x hx => by cases hx⟩
theorem putT_ok (s : ByteArray) (hs : s.size = 16) : (putT s).size = 0 ∨ (putT s).size = 16 ∧ zeroB (putT s) = false := by
  unfold putT
  cases h : zeroB s with
  | true => exact .inl rfl
  | false => exact .inr ⟨hs, h⟩
theorem Good.put {n : Int} {l : List SC} (h : Good n l) (a : Int) (s : ByteArray) (ha : 0 ≤ a ∧ a < n) (hs : s.size = 16) : Good n (putL l a s) := by
  have hp := putL_spec h.1 a s
  refine ⟨hp.1, fun x hx => ?_⟩
  rcases hp.2.2.1 x hx with hx | rfl
  · exact h.2 x hx
  · exact ⟨ha.1, ha.2, putT_ok s hs⟩
theorem Good.sized {n : Int} {l : List SC} (h : Good n l) : sizedC l = true := by
  unfold sizedC
  rw [List.all_eq_true]
  intro x hx
  have := (h.2 x hx).2.2
  simp only [decide_eq_true_eq]; unfold maxLen; omega
theorem rightFrom_good (c : Int) (l : List SC) : ∀ last, (∀ x ∈ l, last < x.f0) → (Srt l ∧ ∀ x ∈ l, x.f0 < c ∧ (x.f1.size = 0 ∨ x.f1.size = 16 ∧ zeroB x.f1 = false)) → rightFrom c last (prs l) = true := by
  induction l with
  | nil => intro _ _ _; rfl
  | cons x l ih =>
    intro last hl ⟨hs, hx⟩
    have h1 := hl x (by simp)
    have h2 := hx x (by simp)
    have hb : badC c last (x.f0, x.f1) = false := by
      unfold badC
      rcases h2.2 with h | ⟨h, hz⟩
      · simp [h]; omega
      · simp [h, hz]; omega
    show rightFrom c last ((x.f0, x.f1) :: prs l) = true
    rw [rightFrom, hb, if_neg (by decide)]
    exact ih x.f0 (fun y hy => hs.head y hy) ⟨hs.tail, fun y hy => hx y (by simp [hy])⟩
theorem Good.right {n : Int} {l : List SC} (h : Good n l) (h1 : 1 ≤ n) (h2 : n ≤ 64) : rightB n (prs l) = true := by
  unfold rightB newR
  rw [rightFrom_good n l (-1) (fun x hx => by have := (h.2 x hx).1; omega) ⟨h.1, fun x hx => (h.2 x hx).2⟩, if_neg (by omega)]
  rfl
theorem Good.length {n : Int} {l : List SC} (h : Good n l) (h2 : n ≤ 64) : l.length ≤ 64 := by
  have key : ∀ (l : List SC) (lo : Int), Srt l → (∀ x ∈ l, lo ≤ x.f0 ∧ x.f0 < n) → (l.length : Int) ≤ max (n - lo) 0 := by
    intro l
    induction l with
    | nil => intro lo _ _; simp; omega
    | cons x l ih =>
      intro lo hs hx
      have h1 := hx x (by simp)
      have := ih (x.f0 + 1) hs.tail (fun y hy => by have := hs.head y hy; have := hx y (by simp [hy]); omega)
      rw [List.length_cons]; omega
  have := key l 0 h.1 (fun x hx => ⟨(h.2 x hx).1, (h.2 x hx).2.1⟩)
  omega
theorem Good.right_ok {n : Int} {l : List SC} (h : Good n l) (h1 : 1 ≤ n) (h2 : n ≤ 64) : cell_Right.f n l = some true := by
  unfold cell_Right.f
  rw [if_pos ⟨by have := h.length h2; unfold maxLen; omega, h.sized⟩, h.right h1 h2]
theorem put_ok {n : Int} {l : List SC} (h : Good n l) (h2 : n ≤ 64) (a : Int) (s : ByteArray) (ha : 0 ≤ a ∧ a < n) (hs : s.size = 16) : cell_Put.f n l a s = some (n, putL l a s, 0) := by
  unfold cell_Put.f
  have : hasB n a = true := by unfold hasB; simp [ha]
  rw [if_neg (by rw [this]; decide), if_neg (by simp [hs]), if_pos (by have := h.length h2; omega)]
theorem new_ok {n : Int} (h1 : 1 ≤ n) (h2 : n ≤ 64) : cell_New.f n = some (n, [], 0) := by
  unfold cell_New.f
  rw [if_neg (by omega), if_neg (by omega)]
/-- what a cluster reads -/
def txt (t : ByteArray) : ByteArray := if t.size = 0 then zed16 else t
def getV (l : List SC) (a : Int) : ByteArray × Bool := match look l a with | none => (⟨#[]⟩, false) | some t => (txt t, true)
theorem toList_empty (s : ByteArray) : (s.toList = ([] : List UInt8)) ↔ s.size = 0 := by
  have := empty_list s
  constructor
  · intro h; rw [h] at this; simpa using this.symm
  · intro h; rw [h] at this; simpa using this
theorem txt_put (s : ByteArray) (hs : s.size = 16) : txt (putT s) = s := by
  unfold putT
  cases h : zeroB s with
  | true => rw [if_pos rfl, zero_zed16 h]; rfl
  | false => rw [if_neg (by decide)]; unfold txt; rw [if_neg (by omega)]
theorem txt_size {n : Int} {l : List SC} (h : Good n l) {a : Int} {t : ByteArray} (ht : look l a = some t) : (txt t).size = 16 := by
  have := (h.2 _ (look_mem ht)).2.2
  unfold txt
  split
  · rfl
  · dsimp only at this; omega
theorem txt_inj {t u : ByteArray} (ht : t.size = 0 ∨ t.size = 16 ∧ zeroB t = false) (hu : u.size = 0 ∨ u.size = 16 ∧ zeroB u = false) (h : txt t = txt u) : t = u := by
  have e0 : ∀ s : ByteArray, s.size = 0 → s = ⟨#[]⟩ := fun s hs => by
    apply ByteArray.ext
    exact Array.eq_empty_of_size_eq_zero hs
  unfold txt at h
  rcases ht with ht | ⟨ht, hz⟩ <;> rcases hu with hu | ⟨hu, hz'⟩
  · rw [e0 t ht, e0 u hu]
  · rw [if_pos ht, if_neg (by omega)] at h; rw [← h, zed16_zero] at hz'; cases hz'
  · rw [if_neg (by omega), if_pos hu] at h; rw [h, zed16_zero] at hz; cases hz
  · rw [if_neg (by omega), if_neg (by omega)] at h; exact h
theorem rd_eq {l : List Int} {i : Nat} (h : i < l.length) : rd l (i : Int) = l[i] := by
  unfold rd
  rw [Int.toNat_natCast, List.getD_eq_getElem?_getD, List.getElem?_eq_getElem h]; rfl
end Go.Proofs.Ytbeloaccgmgocaa.Pr
namespace Go.Proofs.Ytbeloaccgmgocaa.Pr
open Go.RowKit Go.Proofs.Ytbeloaccgmgocaa Go.Proofs.YtbeloaccgmgocaaW.PrintWords Go.Proofs.YtbeloaccgmgocaaW.PrintLast
theorem getV_of {l m : List SC} {a : Int} (h : look l a = look m a) : getV l a = getV m a := by unfold getV; rw [h]
theorem getV_t {l : List SC} {a : Int} {t : ByteArray} (h : look l a = some t) : getV l a = (txt t, true) := by unfold getV; rw [h]
theorem getV_n {l : List SC} {a : Int} (h : look l a = none) : getV l a = (⟨#[]⟩, false) := by unfold getV; rw [h]
theorem Good.length_n {n : Int} {l : List SC} (h : Good n l) (h0 : 0 ≤ n) : (l.length : Int) ≤ n := by
  have key : ∀ (l : List SC) (lo : Int), Srt l → (∀ x ∈ l, lo ≤ x.f0 ∧ x.f0 < n) → (l.length : Int) ≤ max (n - lo) 0 := by
    intro l
    induction l with
    | nil => intro lo _ _; simp; omega
    | cons x l ih =>
      intro lo hs hx
      have h1 := hx x (by simp)
      have := ih (x.f0 + 1) hs.tail (fun y hy => by have := hs.head y hy; have := hx y (by simp [hy]); omega)
      rw [List.length_cons]; omega
  have := key l 0 h.1 (fun x hx => ⟨(h.2 x hx).1, (h.2 x hx).2.1⟩)
  omega
theorem wrap_one (a : Int) : wrap64 (1 + pickV a 64) = 1 + pickV a 64 ∧ 1 ≤ 1 + pickV a 64 ∧ 1 + pickV a 64 ≤ 64 := by
  have := pickV_range a 64 (by omega)
  refine ⟨by rw [w64 (by omega)], by omega, by omega⟩
theorem textB_txt (s : ByteArray) : textB s = txt s := rfl
theorem getB_n {l : List SC} (hs : Srt l) {a : Int} (h : look l a = none) : (getB l a).2 = false := by
  unfold getB
  rw [hit_look hs, h]; rfl
theorem getB_t {l : List SC} (hs : Srt l) {a : Int} {t : ByteArray} (h : look l a = some t) : getB l a = (txt t, true) := by
  obtain ⟨hp, he⟩ := plc_look hs a t h
  unfold getB
  rw [hit_look hs, h, if_pos (show (some t).isSome = true from rfl), List.getD_eq_getElem?_getD, List.getElem?_eq_getElem hp, Option.getD_some, he]
  rfl
/-! ### rows of links -/
structure RowOK (n : Int) (ls : List SL) : Prop where
  ids : ∀ i (h : i < ls.length), ls[i].f0 = ((i + 1 : Nat) : Int) ∧ ls[i].f1 = (i : Int)
  good : ∀ x ∈ ls, x.f2.f0 = n ∧ Good n x.f2.f1
theorem RowOK.nil (n : Int) : RowOK n [] := ⟨fun i h => absurd h (Nat.not_lt_zero _), fun x h => by cases h⟩
theorem RowOK.snoc {n : Int} {ls : List SL} (h : RowOK n ls) {m : List SC} (hm : Good n m) : RowOK n (ls ++ [⟨((ls.length + 1 : Nat) : Int), (ls.length : Int), ⟨n, m⟩⟩]) := by
  refine ⟨fun i hi => ?_, fun x hx => ?_⟩
  · by_cases hl : i < ls.length
    · rw [List.getElem_append_left hl]; exact h.ids i hl
    · rw [List.length_append, List.length_singleton] at hi
      obtain rfl : i = ls.length := by omega
      rw [List.getElem_append_right (Nat.le_refl _)]
      simp
  · rcases List.mem_append.1 hx with hx | hx
    · exact h.good x hx
    · rw [List.mem_singleton.1 hx]; exact ⟨rfl, hm⟩
theorem RowOK.take {n : Int} {ls : List SL} (h : RowOK n ls) (k : Nat) : RowOK n (ls.take k) :=
  ⟨fun i hi => by rw [List.getElem_take]; exact h.ids i (by rw [List.length_take] at hi; omega), fun x hx => h.good x (List.mem_of_mem_take hx)⟩
theorem rdL_eq {l : List (List Int)} {i : Nat} (h : i < l.length) : rd_L8 l (i : Int) = l[i] := by
  unfold rd_L8
  rw [Int.toNat_natCast, List.getD_eq_getElem?_getD, List.getElem?_eq_getElem h]; rfl
/-- the cells of one image, then what follows -/
theorem row_l1 {n : Int} (h1 : 1 ≤ n) (h2 : n ≤ 64) (l : List (List Int)) (acc : List SL) (i : Nat) (hi : i < l.length) (hl : ∀ x ∈ l[i], (Lit.int .i64 x).wf = true) (ha : acc.length ≤ 12) (hii : i ≤ 12) (d : Nat) : ∀ (j : Nat) (m : List SC), j + d = min l[i].length 40 → Good n m →
    ∃ m', Good n m' ∧ ∀ r, Ev (fun k => rootcellarlaw11_row.l0 k n l (acc ++ [⟨((i + 1 : Nat) : Int), (i : Int), ⟨n, m'⟩⟩]) ((i + 1 : Nat) : Int)) r → Ev (fun k => rootcellarlaw11_row.l1 k n l acc (i : Int) (j : Int) n m) r := by
  have hrd : rd_L8 l (i : Int) = l[i] := rdL_eq hi
  have ew : wrap64 ((i : Int) + 1) = ((i + 1 : Nat) : Int) := by rw [w64 (by omega)]; omega
  induction d with
  | zero =>
    intro j m hj hm
    refine ⟨m, hm, fun r hr => ?_⟩
    refine Ev.step (f := fun k => rootcellarlaw11_row.j3 k n l acc (i : Int) (j : Int) false n m) (fun k => ?_) (Ev.step (fun k => ?_) hr)
    · rw [rootcellarlaw11_row.l1, if_pos (by omega), if_pos (by omega), hrd]
      by_cases hlt : (j : Int) < (l[i].length : Int)
      · rw [if_pos hlt, show decide ((j : Int) < 40) = false by simp; omega]
      · rw [if_neg hlt]
    · rw [rootcellarlaw11_row.j3, if_neg (by decide), if_pos (by omega), ew]
  | succ d ih =>
    intro j m hj hm
    have hlt : j < l[i].length := by omega
    have hw := hl _ (List.getElem_mem hlt)
    have hp := pickV_range l[i][j] n h1
    obtain ⟨m', hm', hk⟩ := ih (j + 1) (putL m (pickV l[i][j] n) (clV l[i][j])) (by omega) (hm.put _ _ hp (clV_size _))
    refine ⟨m', hm', fun r hr => ?_⟩
    refine Ev.step (f := fun k => rootcellarlaw11_row.j3 k n l acc (i : Int) (j : Int) true n m) (fun k => ?_) (Ev.step (f := fun k => (rootcellarlaw11_cluster.f k l[i][j]).bind fun t => ((cell_Put.f n m (pickV l[i][j] n) t).bind fun bt => (rootcellarlaw11_row.l1 k n l acc (i : Int) ((j + 1 : Nat) : Int) bt.1 bt.2.1))) (fun k => ?_) (Ev.bind (cl_ev _) (Ev.congr (fun k => ?_) (hk r hr))))
    · rw [rootcellarlaw11_row.l1, if_pos (by omega), if_pos (by omega), hrd, if_pos (by omega), show decide ((j : Int) < 40) = true by simp; omega]
    · rw [rootcellarlaw11_row.j3, if_pos rfl, if_pos (by omega), if_pos (by omega), if_pos (by omega), hrd, if_pos (by omega), rd_eq hlt, pick_ok _ _ hw h1, Option.bind_some, show wrap64 ((j : Int) + 1) = ((j + 1 : Nat) : Int) by rw [w64 (by omega)]; omega]
    · rw [put_ok hm h2 _ _ hp (clV_size _), Option.bind_some]
theorem row_l0 {n : Int} (h1 : 1 ≤ n) (h2 : n ≤ 64) (l : List (List Int)) (hl : ∀ x ∈ l, ∀ y ∈ x, (Lit.int .i64 y).wf = true) (d : Nat) : ∀ (i : Nat) (acc : List SL), i + d = min l.length 12 → acc.length = i → RowOK n acc →
    ∃ ls, Ev (fun k => rootcellarlaw11_row.l0 k n l acc (i : Int)) ls ∧ RowOK n ls ∧ ls.length ≤ 12 := by
  induction d with
  | zero =>
    intro i acc hi ha hr
    refine ⟨acc, Ev.step (f := fun k => rootcellarlaw11_row.j1 k n l acc (i : Int) false) (fun k => ?_) (Ev.step (f := fun _ => some acc) (fun k => ?_) (Ev.now _)), hr, by omega⟩
    · rw [rootcellarlaw11_row.l0]
      by_cases hlt : (i : Int) < (l.length : Int)
      · rw [if_pos hlt, show decide ((i : Int) < 12) = false by simp; omega]
      · rw [if_neg hlt]
    · rw [rootcellarlaw11_row.j1, if_neg (by decide)]
  | succ d ih =>
    intro i acc hi ha hr
    have hil : i < l.length := by omega
    obtain ⟨m, hm, hk⟩ := row_l1 h1 h2 l acc i hil (hl _ (List.getElem_mem hil)) (by omega) (by omega) _ 0 [] (by rw [Nat.zero_add]) (Good.nil n)
    have hs := hr.snoc hm
    rw [ha] at hs
    obtain ⟨ls, he, ho, h12⟩ := ih (i + 1) (acc ++ [⟨((i + 1 : Nat) : Int), (i : Int), ⟨n, m⟩⟩]) (by omega) (by rw [List.length_append, ha]; rfl) hs
    refine ⟨ls, Ev.step (f := fun k => rootcellarlaw11_row.j1 k n l acc (i : Int) true) (fun k => ?_) (Ev.step (fun k => ?_) (hk ls he)), ho, h12⟩
    · rw [rootcellarlaw11_row.l0, if_pos (by omega), show decide ((i : Int) < 12) = true by simp; omega]
    · rw [rootcellarlaw11_row.j1, if_pos rfl, new_ok h1 h2, Option.bind_some]; rfl
theorem row_ev {n : Int} (h1 : 1 ≤ n) (h2 : n ≤ 64) (l : List (List Int)) (hl : ∀ x ∈ l, ∀ y ∈ x, (Lit.int .i64 y).wf = true) : ∃ ls, Ev (fun k => rootcellarlaw11_row.f k n l) ls ∧ RowOK n ls ∧ ls.length ≤ 12 := row_l0 h1 h2 l hl _ 0 [] (by rw [Nat.zero_add]) rfl (RowOK.nil n)
/-! ### paths of rows -/
theorem find_id {n : Int} {ls : List SL} (h : RowOK n ls) (j : Nat) (hj : j < ls.length) : ls.findIdx? (fun x => x.f0 == ((j + 1 : Nat) : Int)) = some j := by
  rw [List.findIdx?_eq_some_iff_getElem]
  refine ⟨hj, by rw [(h.ids j hj).1, beq_self_eq_true], fun k hk => ?_⟩
  rw [(h.ids k (by omega)).1]
  simp only [Bool.not_eq_true, beq_eq_false_iff_ne]
  omega
theorem hasL_no {out : List SL} {a : Int} (h : ∀ x ∈ out, a < x.f0) : hasL out a = false := by
  unfold hasL
  rw [List.any_eq_false]
  intro x hx
  have := h x hx
  simp only [beq_iff_eq]
  omega
theorem find_app {α : Type} (l m : List α) (p : α → Bool) (j : Nat) (h : l.findIdx? p = some j) : (l ++ m).findIdx? p = some j := by
  rw [List.findIdx?_append, h]; rfl
theorem path_row {n : Int} {pre : List SL} (rest : List SL) (h : RowOK n pre) : ∀ (j N : Nat) (out : List SL), j < pre.length → j + 1 ≤ N → (∀ x ∈ out, ((j + 1 : Nat) : Int) < x.f0) → pathL (pre ++ rest) N ((j + 1 : Nat) : Int) out = (out ++ (pre.take (j + 1)).reverse, 0) := by
  intro j
  induction j with
  | zero =>
    intro N out hj hN ho
    obtain ⟨N, rfl⟩ : ∃ M, N = M + 1 := ⟨N - 1, by omega⟩
    have hh : hasL out ((0 + 1 : Nat) : Int) = false := hasL_no ho
    have hg : (pre ++ rest).getD 0 ⟨0, 0, ⟨0, []⟩⟩ = pre[0] := by rw [List.getD_eq_getElem?_getD, List.getElem?_append_left hj, List.getElem?_eq_getElem hj]; rfl
    rw [pathL, find_app _ _ _ _ (find_id h 0 hj)]
    simp only
    rw [if_neg (by rw [hh]; decide), hg, if_pos (by rw [(h.ids 0 hj).2]; rfl), List.take_one, List.head?_eq_getElem?, List.getElem?_eq_getElem hj]
    rfl
  | succ j ih =>
    intro N out hj hN ho
    obtain ⟨N, rfl⟩ : ∃ M, N = M + 1 := ⟨N - 1, by omega⟩
    have hh : hasL out ((j + 1 + 1 : Nat) : Int) = false := hasL_no ho
    have hg : (pre ++ rest).getD (j + 1) ⟨0, 0, ⟨0, []⟩⟩ = pre[j + 1] := by rw [List.getD_eq_getElem?_getD, List.getElem?_append_left hj, List.getElem?_eq_getElem hj]; rfl
    rw [pathL, find_app _ _ _ _ (find_id h (j + 1) hj)]
    simp only
    rw [if_neg (by rw [hh]; decide), hg, if_neg (by rw [(h.ids (j + 1) hj).2]; omega), (h.ids (j + 1) hj).2, ih N (out ++ [pre[j + 1]]) (by omega) (by omega) (fun x hx => by
      rcases List.mem_append.1 hx with hx | hx
      · have := ho x hx; omega
      · rw [List.mem_singleton.1 hx, (h.ids (j + 1) hj).1]; omega)]
    rw [List.take_succ_eq_append_getElem hj, List.reverse_append, List.append_assoc]
    rfl
theorem RowOK.path {n : Int} {ls : List SL} (h : RowOK n ls) (hp : 0 < ls.length) : pathP ls (ls.length : Int) = (ls.reverse, 0) := by
  obtain ⟨j, hj⟩ : ∃ j, ls.length = j + 1 := ⟨ls.length - 1, by omega⟩
  have := path_row [] h j (ls.length + 1) [] (by omega) (by omega) (fun x hx => by cases hx)
  rw [List.append_nil, List.nil_append, List.take_of_length_le (by omega)] at this
  unfold pathP
  rw [← hj] at this
  exact this
theorem RowOK.sized {n : Int} {ls : List SL} (h : RowOK n ls) (h2 : n ≤ 64) : sizedL ls = true := by
  unfold sizedL
  rw [List.all_eq_true]
  intro x hx
  have hg := (h.good x hx).2
  have := hg.length h2
  rw [Bool.and_eq_true, decide_eq_true_eq]
  exact ⟨by omega, hg.sized⟩
theorem cl0_row {n : Int} {ls : List SL} (h : RowOK n ls) (hp : 0 < ls.length) : cl0 ls.reverse = n := by
  unfold cl0
  cases hr : ls.reverse with
  | nil => rw [List.reverse_eq_nil_iff] at hr; rw [hr] at hp; exact absurd hp (Nat.lt_irrefl _)
  | cons x r => exact (h.good x (List.mem_reverse.1 (by rw [hr]; simp))).1
theorem RowOK.read {n : Int} {ls : List SL} (h : RowOK n ls) (hp : 0 < ls.length) (hl : ls.length ≤ 100) (h2 : n ≤ 64) (a : Int) (ha : 0 ≤ a ∧ a < n) : chain_Read.f ls (ls.length : Int) a = some (throughL ls.reverse a, 0) := by
  unfold chain_Read.f readL
  rw [if_pos ⟨by omega, h.sized h2⟩, h.path hp]
  simp only
  rw [if_neg (by decide), cl0_row h hp, if_neg (by omega)]
end Go.Proofs.Ytbeloaccgmgocaa.Pr
end
section
namespace Go.Proofs.Ytbeloaccgmgocaa.Pr
open Go.RowKit Go.Proofs.Ytbeloaccgmgocaa Go.Proofs.YtbeloaccgmgocaaW.PrintWords Go.Proofs.YtbeloaccgmgocaaW.PrintLast
abbrev rdC := rd_T67
theorem rdC_eq {l : List SC} {i : Nat} (h : i < l.length) : rd_T67 l (i : Int) = l[i] := by
  unfold rd_T67
  rw [Int.toNat_natCast, List.getD_eq_getElem?_getD, List.getElem?_eq_getElem h]; rfl
theorem over_l0 (c : Int) (d : Nat) : ∀ x y acc : List SC, x.length + y.length = d → acc.length + d ≤ 1000000 → Srt x → Srt y → ∃ m, Ev (fun k => cell_Over.l0 k x y c acc) (c, acc ++ m) ∧ Srt m ∧ (∀ z ∈ m, z ∈ x ∨ z ∈ y) ∧ (∀ a, look m a = (look x a).or (look y a)) := by
  induction d with
  | zero =>
    intro x y acc hd _ _ _
    obtain rfl : x = [] := List.length_eq_zero_iff.1 (by omega)
    obtain rfl : y = [] := List.length_eq_zero_iff.1 (by omega)
    refine ⟨[], ?_, List.Pairwise.nil, fun z hz => (by simp at hz), fun a => rfl⟩
    refine Ev.step (f := fun k => cell_Over.j2 k [] [] (decide ((([] : List SC).length : Int) > 0)) c acc) (fun k => ?_) (Ev.step (f := fun _ => some (c, acc ++ [])) (fun k => ?_) (Ev.now _))
    · rw [cell_Over.l0, if_neg (by simp)]
    · rw [cell_Over.j2, if_neg (by simp), List.append_nil]
  | succ d ih =>
    intro x y acc hd hacc hx hy
    cases x with
    | nil =>
      cases y with
      | nil => simp at hd
      | cons q y' =>
        obtain ⟨m, hm, hs, hmem, hlook⟩ := ih [] y' (acc ++ [q]) (by simp at hd ⊢; omega) (by simp at hd ⊢; omega) hx hy.tail
        refine ⟨q :: m, ?_, List.pairwise_cons.2 ⟨fun z hz => ?_, hs⟩, fun z hz => ?_, fun a => ?_⟩
        · refine Ev.step (f := fun k => cell_Over.j2 k [] (q :: y') (decide (((q :: y').length : Int) > 0)) c acc) (fun k => ?_) (Ev.step (f := fun k => cell_Over.j3 k [] (q :: y') false c acc) (fun k => ?_) (Ev.step (f := fun k => cell_Over.l0 k [] y' c (acc ++ [q])) (fun k => ?_) (by simpa using hm)))
          · rw [cell_Over.l0, if_neg (by simp)]
          · rw [cell_Over.j2, if_pos (by simp <;> omega), if_neg (by simp <;> omega), if_neg (by simp)]
          · rw [cell_Over.j3, if_neg (by decide), if_pos (by simp), if_pos (by simp <;> omega), if_pos (by omega), if_pos (by simp <;> omega)]; rfl
        · rcases hmem z hz with h | h
          · cases h
          · exact hy.head z h
        · rcases List.mem_cons.1 hz with rfl | h
          · exact .inr List.mem_cons_self
          · rcases hmem z h with h | h
            · cases h
            · exact .inr (List.mem_cons_of_mem _ h)
        · rw [look_cons, hlook, look_nil, look_cons]; simp
    | cons p x' =>
      cases y with
      | nil =>
        obtain ⟨m, hm, hs, hmem, hlook⟩ := ih x' [] (acc ++ [p]) (by simp at hd ⊢; omega) (by simp at hd ⊢; omega) hx.tail hy
        refine ⟨p :: m, ?_, List.pairwise_cons.2 ⟨fun z hz => ?_, hs⟩, fun z hz => ?_, fun a => ?_⟩
        · refine Ev.step (f := fun k => cell_Over.j2 k (p :: x') [] true c acc) (fun k => ?_) (Ev.step (f := fun k => cell_Over.j3 k (p :: x') [] true c acc) (fun k => ?_) (Ev.step (f := fun k => cell_Over.l0 k x' [] c (acc ++ [p])) (fun k => ?_) (by simpa using hm)))
          · rw [cell_Over.l0, if_pos (by simp <;> omega)]
          · rw [cell_Over.j2, if_pos rfl, if_pos (by simp)]
          · rw [cell_Over.j3, if_pos rfl, if_pos (by simp <;> omega), if_pos (by omega), if_pos (by simp <;> omega)]; rfl
        · rcases hmem z hz with h | h
          · exact hx.head z h
          · cases h
        · rcases List.mem_cons.1 hz with rfl | h
          · exact .inl List.mem_cons_self
          · rcases hmem z h with h | h
            · exact .inl (List.mem_cons_of_mem _ h)
            · cases h
        · rw [look_cons, hlook, look_nil, look_cons]; simp
      | cons q y' =>
        have go : ∀ r, Ev (fun k => cell_Over.j3 k (p :: x') (q :: y') (decide (p.f0 < q.f0)) c acc) r → Ev (fun k => cell_Over.l0 k (p :: x') (q :: y') c acc) r := by
          intro r hr
          refine Ev.step (f := fun k => cell_Over.j2 k (p :: x') (q :: y') true c acc) (fun k => ?_) (Ev.step (f := fun k => cell_Over.j3 k (p :: x') (q :: y') (decide (p.f0 < q.f0)) c acc) (fun k => ?_) hr)
          · rw [cell_Over.l0, if_pos (by simp <;> omega)]
          · rw [cell_Over.j2, if_pos rfl, if_neg (by simp <;> omega), if_pos (by simp <;> omega), if_pos (by simp <;> omega), if_pos (by simp <;> omega)]; rfl
        by_cases hlt : p.f0 < q.f0
        · obtain ⟨m, hm, hs, hmem, hlook⟩ := ih x' (q :: y') (acc ++ [p]) (by simp at hd ⊢; omega) (by simp at hd ⊢; omega) hx.tail hy
          refine ⟨p :: m, go _ ?_, List.pairwise_cons.2 ⟨fun z hz => ?_, hs⟩, fun z hz => ?_, fun a => ?_⟩
          · refine Ev.step (f := fun k => cell_Over.l0 k x' (q :: y') c (acc ++ [p])) (fun k => ?_) (by simpa using hm)
            rw [cell_Over.j3, if_pos (by simp [hlt]), if_pos (by simp <;> omega), if_pos (by omega), if_pos (by simp <;> omega)]; rfl
          · rcases hmem z hz with h | h
            · exact hx.head z h
            · rcases List.mem_cons.1 h with rfl | h
              · exact hlt
              · have := hy.head z h; omega
          · rcases List.mem_cons.1 hz with rfl | h
            · exact .inl List.mem_cons_self
            · rcases hmem z h with h | h
              · exact .inl (List.mem_cons_of_mem _ h)
              · exact .inr h
          · rw [look_cons, hlook, look_cons p]
            by_cases e : p.f0 = a
            · rw [if_pos e, if_pos e]; rfl
            · rw [if_neg e, if_neg e]
        · by_cases hgt : q.f0 < p.f0
          · obtain ⟨m, hm, hs, hmem, hlook⟩ := ih (p :: x') y' (acc ++ [q]) (by simp at hd ⊢; omega) (by simp at hd ⊢; omega) hx hy.tail
            refine ⟨q :: m, go _ ?_, List.pairwise_cons.2 ⟨fun z hz => ?_, hs⟩, fun z hz => ?_, fun a => ?_⟩
            · refine Ev.step (f := fun k => cell_Over.l0 k (p :: x') y' c (acc ++ [q])) (fun k => ?_) (by simpa using hm)
              rw [cell_Over.j3, if_neg (by simp [hlt]), if_neg (by simp <;> omega), if_pos (by simp <;> omega), if_pos (by simp <;> omega), if_pos (show (rdC (q :: y') 0).f0 < (rdC (p :: x') 0).f0 from hgt), if_pos (by omega), if_pos (by simp <;> omega)]; rfl
            · rcases hmem z hz with h | h
              · rcases List.mem_cons.1 h with rfl | h
                · exact hgt
                · have := hx.head z h; omega
              · exact hy.head z h
            · rcases List.mem_cons.1 hz with rfl | h
              · exact .inr List.mem_cons_self
              · rcases hmem z h with h | h
                · exact .inl h
                · exact .inr (List.mem_cons_of_mem _ h)
            · rw [look_cons, hlook, look_cons q]
              by_cases e : q.f0 = a
              · rw [if_pos e, if_pos e, look_none (l := p :: x') (fun z hz => by
                  rcases List.mem_cons.1 hz with rfl | h
                  · omega
                  · have := hx.head z h; omega)]
                rfl
              · rw [if_neg e, if_neg e]
          · have heq : p.f0 = q.f0 := by omega
            obtain ⟨m, hm, hs, hmem, hlook⟩ := ih (p :: x') y' acc (by simp at hd ⊢; omega) (by simp at hd ⊢; omega) hx hy.tail
            refine ⟨m, go _ ?_, hs, fun z hz => ?_, fun a => ?_⟩
            · refine Ev.step (f := fun k => cell_Over.l0 k (p :: x') y' c acc) (fun k => ?_) hm
              rw [cell_Over.j3, if_neg (by simp [hlt]), if_neg (by simp <;> omega), if_pos (by simp <;> omega), if_pos (by simp <;> omega), if_neg (show ¬ (rdC (q :: y') 0).f0 < (rdC (p :: x') 0).f0 from hgt), if_pos (by simp <;> omega)]; rfl
            · rcases hmem z hz with h | h
              · exact .inl h
              · exact .inr (List.mem_cons_of_mem _ h)
            · rw [hlook, look_cons q, look_cons p]
              by_cases e : p.f0 = a
              · rw [if_pos e]; rfl
              · rw [if_neg e, if_neg (by omega)]
theorem over_ok {n : Int} {x y : List SC} (h1 : 1 ≤ n) (h2 : n ≤ 64) (hx : Good n x) (hy : Good n y) : ∃ m, Ev (fun k => cell_Over.f k n x n y) (n, m) ∧ Good n m ∧ ∀ a, look m a = (look x a).or (look y a) := by
  have hxl := hx.length h2
  have hyl := hy.length h2
  obtain ⟨m, hm, hs, hmem, hlook⟩ := over_l0 n _ x y [] rfl (by simp <;> omega) hx.1 hy.1
  refine ⟨m, ?_, ⟨hs, fun z hz => ?_⟩, hlook⟩
  · refine Ev.congr (f := fun k => cell_Over.j0 k (n != n) n x n y) (fun k => ?_) (Ev.step (f := fun k => cell_Over.l0 k x y n []) (fun k => ?_) (by simpa using hm))
    · unfold cell_Over.f
      rw [hx.right_ok h1 h2, Option.bind_some, if_pos rfl, hy.right_ok h1 h2, Option.bind_some, if_pos rfl]
    · rw [cell_Over.j0, if_neg (by simp)]
  · rcases hmem z hz with h | h
    · exact hx.2 z h
    · exact hy.2 z h
/-- what a cluster reads, noughts where there is none -/
def valV (m : List SC) (a : Int) : ByteArray := match look m a with | none => zed16 | some t => txt t
theorem valV_size {n : Int} {m : List SC} (h : Good n m) (a : Int) : (valV m a).size = 16 := by
  unfold valV
  split
  · rfl
  · rename_i t ht; exact txt_size h ht
def flatV (n : Int) (m : List SC) : ByteArray := ⟨(layAll (nts (n.toNat * 16)) m).toArray⟩
theorem Good.flat {n : Int} {m : List SC} (h : Good n m) (h1 : 1 ≤ n) (h2 : n ≤ 64) : cell_Flat.f n m = some (flatV n m) := by
  unfold cell_Flat.f
  rw [if_pos ⟨by have := h.length h2; unfold maxLen; omega, h.sized⟩, h.right h1 h2, if_pos rfl]; rfl
def blk (b : List UInt8) (i : Nat) : List UInt8 := (b.drop (16 * i)).take 16
theorem textB_eq (t : ByteArray) : textB t = txt t := by
  unfold textB txt
  split <;> rfl
theorem lay_len (b : List UInt8) (o : Nat) (s : ByteArray) (h : o + s.size ≤ b.length) : (lay b o s).length = b.length := lay_length b o s h
theorem data_len (s : ByteArray) : s.data.toList.length = s.size := Array.length_toList
theorem blk_lay (b : List UInt8) (a i : Nat) (s : ByteArray) (hs : s.size = 16) (h : a * 16 + 16 ≤ b.length) : blk (lay b (a * 16) s) i = if i = a then s.data.toList else blk b i := by
  have hl := data_len s
  have hd : (b.take (a * 16)).length = a * 16 := by rw [List.length_take]; omega
  split
  · rename_i e
    subst e
    unfold blk lay
    rw [List.append_assoc, List.drop_append_of_le_length (by omega), List.drop_of_length_le (l := b.take (i * 16)) (by omega), List.nil_append, List.take_append_of_le_length (by omega), List.take_of_length_le (by omega)]
  · rename_i e
    apply List.ext_getElem?
    intro j
    unfold blk lay
    simp only [List.getElem?_take, List.getElem?_drop]
    by_cases hj : j < 16
    · rw [if_pos hj, if_pos hj, List.append_assoc]
      by_cases hlt : i < a
      · rw [List.getElem?_append_left (by omega), List.getElem?_take, if_pos (by omega)]
      · rw [List.getElem?_append_right (by omega), List.getElem?_append_right (by omega), List.getElem?_drop]
        congr 1; omega
    · rw [if_neg hj, if_neg hj]
theorem layAll_len {n : Int} (l : List SC) : ∀ b : List UInt8, b.length = n.toNat * 16 → (∀ x ∈ l, 0 ≤ x.f0 ∧ x.f0 < n ∧ (textB x.f1).size = 16) → (layAll b l).length = n.toNat * 16 := by
  induction l with
  | nil => intro b h _; exact h
  | cons c l ih =>
    intro b h hx
    have hc := hx c (by simp)
    exact ih _ (by rw [lay_len _ _ _ (by omega)]; exact h) (fun y hy => hx y (by simp [hy]))
theorem blk_layAll {n : Int} (l : List SC) : ∀ b : List UInt8, b.length = n.toNat * 16 → Srt l → (∀ x ∈ l, 0 ≤ x.f0 ∧ x.f0 < n ∧ (textB x.f1).size = 16) → ∀ i : Nat, blk (layAll b l) i = match look l (i : Int) with | none => blk b i | some t => (txt t).data.toList := by
  induction l with
  | nil => intro b _ _ _ i; rfl
  | cons c l ih =>
    intro b h hs hx i
    have hc := hx c (by simp)
    have hi := ih (lay b (c.f0.toNat * 16) (textB c.f1)) (by rw [lay_len _ _ _ (by omega)]; exact h) hs.tail (fun y hy => hx y (by simp [hy])) i
    show blk (layAll (lay b (c.f0.toNat * 16) (textB c.f1)) l) i = _
    rw [hi, look_cons, blk_lay _ _ _ _ hc.2.2 (by omega)]
    by_cases e : c.f0 = (i : Int)
    · rw [if_pos e, look_none (l := l) (fun y hy => by have := hs.head y hy; omega)]
      dsimp only
      rw [if_pos (by omega), textB_eq]
    · rw [if_neg e]
      cases look l (i : Int) with
      | some t => rfl
      | none => dsimp only; rw [if_neg (by omega)]
theorem Good.laid {n : Int} {m : List SC} (h : Good n m) : ∀ x ∈ m, 0 ≤ x.f0 ∧ x.f0 < n ∧ (textB x.f1).size = 16 := by
  intro x hx
  have := h.2 x hx
  refine ⟨this.1, this.2.1, ?_⟩
  unfold textB
  split
  · rfl
  · omega
theorem nts_len (k : Nat) : (nts k).length = k := by unfold nts; simp
theorem blk_nts (k i : Nat) (h : i < k) : blk (nts (k * 16)) i = zed16.data.toList := by
  unfold blk nts
  rw [List.drop_replicate, List.take_replicate, show min 16 (k * 16 - 16 * i) = 16 by omega]
  rfl
theorem flat_blk {n : Int} {m : List SC} (h : Good n m) (i : Nat) (hi : (i : Int) < n) : blk (layAll (nts (n.toNat * 16)) m) i = (valV m i).data.toList := by
  rw [blk_layAll m _ (nts_len _) h.1 h.laid i]
  unfold valV
  cases look m (i : Int) with
  | none => exact blk_nts _ _ (by omega)
  | some t => rfl
theorem flat_len {n : Int} {m : List SC} (h : Good n m) : (layAll (nts (n.toNat * 16)) m).length = n.toNat * 16 := layAll_len m _ (nts_len _) h.laid
theorem flatV_size {n : Int} {m : List SC} (h1 : 1 ≤ n) (h : Good n m) : ((flatV n m).size : Int) = 16 * n := by
  show (((layAll (nts (n.toNat * 16)) m).toArray.size : Nat) : Int) = _
  rw [List.size_toArray, flat_len h]; omega
theorem flatV_ext {n : Int} {m : List SC} (h : Good n m) (i : Nat) (hi : (i : Int) < n) : (flatV n m).extract (16 * i) (16 * i + 16) = valV m i := by
  apply ByteArray.ext
  rw [ByteArray.data_extract]
  apply Array.ext'
  rw [Array.toList_extract, ← flat_blk h i hi]
  show List.extract (layAll (nts (n.toNat * 16)) m) _ _ = _
  unfold blk List.extract
  rw [show 16 * i + 16 - 16 * i = 16 by omega]
theorem blk_ext {a b : List UInt8} (k : Nat) (ha : a.length = k * 16) (hb : b.length = k * 16) (h : ∀ i, i < k → blk a i = blk b i) : a = b := by
  apply List.ext_getElem?
  intro j
  by_cases hj : j < k * 16
  · have := congrArg (fun l : List UInt8 => l[j % 16]?) (h (j / 16) (by omega))
    unfold blk at this
    simp only [List.getElem?_take, List.getElem?_drop] at this
    rw [if_pos (by omega), if_pos (by omega), show 16 * (j / 16) + j % 16 = j by omega] at this
    exact this
  · rw [List.getElem?_eq_none (by omega), List.getElem?_eq_none (by omega)]
theorem flatV_eq {n : Int} {m k : List SC} (hk : Good n k) (hm : Good n m) (h : ∀ a, 0 ≤ a ∧ a < n → valV k a = valV m a) : flatV n k = flatV n m := by
  unfold flatV
  rw [blk_ext n.toNat (flat_len hk) (flat_len hm) (fun i hi => by rw [flat_blk hk i (by omega), flat_blk hm i (by omega), h i (by omega)])]
/-! ### paths of right images -/
def GoodP (n : Int) (p : List SL) : Prop := ∀ x ∈ p, x.f2.f0 = n ∧ Good n x.f2.f1
def lookP : List SL → Int → Option ByteArray
  | [], _ => none
  | x :: r, a => (look x.f2.f1 a).or (lookP r a)
theorem lookP_append (p q : List SL) (a : Int) : lookP (p ++ q) a = (lookP p a).or (lookP q a) := by
  induction p with
  | nil => rfl
  | cons x r ih => rw [List.cons_append, lookP, lookP, ih]; cases look x.f2.f1 a <;> rfl
def valO (o : Option ByteArray) : ByteArray := match o with | none => zed16 | some t => txt t
theorem through_val {n : Int} (p : List SL) (h : GoodP n p) (a : Int) : throughL p a = valO (lookP p a) := by
  induction p with
  | nil => rfl
  | cons x r ih =>
    have hx := (h x (by simp)).2
    rw [throughL, lookP]
    cases hl : look x.f2.f1 a with
    | none => rw [if_neg (by rw [getB_n hx.1 hl]; decide), ih fun y hy => h y (by simp [hy])]; rfl
    | some t => rw [getB_t hx.1 hl, if_pos rfl]; rfl
theorem foldO_ok {n : Int} (h1 : 1 ≤ n) (h2 : n ≤ 64) (p : List SL) : ∀ cs : List SC, GoodP n p → Good n cs → ∃ m, foldO p n cs = some (n, m) ∧ Good n m ∧ ∀ a, look m a = (look cs a).or (lookP p a) := by
  induction p with
  | nil => intro cs _ hc; exact ⟨cs, rfl, hc, fun a => by rw [lookP]; cases look cs a <;> rfl⟩
  | cons x r ih =>
    intro cs hp hc
    obtain ⟨e, hx⟩ := hp x (by simp)
    obtain ⟨o, ⟨K, hK⟩, go, lo⟩ := over_ok h1 h2 hc hx
    obtain ⟨m, hm, gm, lm⟩ := ih o (fun y hy => hp y (by simp [hy])) go
    refine ⟨m, ?_, gm, fun a => ?_⟩
    · rw [foldO, e, overX_of (hK K (Nat.le_refl _)), Option.bind_some]; exact hm
    · rw [lm, lo, lookP]; cases look cs a <;> rfl
theorem flatTo_blk {n : Int} (p : List SL) (h : ∀ x ∈ p, rightB n (prs x.f2.f1) = true) (k : Nat) : ∀ i, i < k → blk (flatTo p k) i = (throughL p (i : Int)).data.toList := by
  induction k with
  | zero => intro i hi; omega
  | succ k ih =>
    intro i hi
    have hl := flatTo_len p h k
    have hs : (throughL p (k : Int)).data.toList.length = 16 := by rw [data_len, throughL_size p h]
    rw [flatTo]
    by_cases e : i < k
    · rw [← ih i e]
      unfold blk
      rw [List.drop_append_of_le_length (by omega), List.take_append_of_le_length (by rw [List.length_drop]; omega)]
    · obtain rfl : i = k := by omega
      unfold blk
      rw [← hl, List.drop_left, List.take_of_length_le (by omega)]
/-- a way: the path from a link on, all of whose images are right -/
structure Way (ls : List SL) (a : Int) (p : List SL) (n : Int) : Prop where
  path : pathP ls a = (p, 0)
  ne : p ≠ []
  good : GoodP n p
  sized : sizedL ls = true
  len : ls.length ≤ 900000
  n1 : 1 ≤ n
  n2 : n ≤ 64
theorem Way.cl {ls p : List SL} {a n : Int} (h : Way ls a p n) : cl0 p = n := by
  unfold cl0
  cases hp : p with
  | nil => exact absurd hp h.ne
  | cons x r => exact (h.good x (by rw [hp]; simp)).1
theorem Way.right {ls p : List SL} {a n : Int} (h : Way ls a p n) : ∀ x ∈ p, rightB n (prs x.f2.f1) = true := fun x hx => (h.good x hx).2.right h.n1 h.n2
theorem Way.whole {ls p : List SL} {a n : Int} (h : Way ls a p n) : wholeL ls a = (p, 0) := by
  unfold wholeL
  rw [h.path]
  simp only
  rw [if_neg (by decide), if_neg ?_]
  rw [h.cl, List.any_eq_true]
  rintro ⟨x, hx, hm⟩
  unfold misfit unlike at hm
  rw [(h.good x hx).1, h.right x hx] at hm
  simp at hm
theorem Way.flat {ls p : List SL} {a n : Int} (h : Way ls a p n) : chain_Flat.f ls a = some (⟨(flatTo p n.toNat).toArray⟩, 0) := by
  unfold chain_Flat.f flatL
  rw [if_pos ⟨h.len, h.sized⟩, h.whole]
  simp only
  rw [if_neg (by decide), h.cl]
theorem Way.ids {ls p : List SL} {a n : Int} (h : Way ls a p n) : chain_Path.f ls a = some (p.map (·.f0), 0) := by
  unfold chain_Path.f idsL
  rw [if_pos ⟨h.len, h.sized⟩, h.path]
  simp only
  rw [if_neg (by decide)]
theorem Way.fold {ls p : List SL} {a n : Int} (h : Way ls a p n) (q : Nat) (hq : q < p.length) : ∃ m, chain_Fold.f ls a ((q + 1 : Nat) : Int) = some (n, m, p[q].f1, 0) ∧ Good n m ∧ ∀ b, look m b = lookP (p.take (q + 1)) b := by
  obtain ⟨m, hm, gm, lm⟩ := foldO_ok h.n1 h.n2 (p.take (q + 1)) [] (fun x hx => h.good x (List.mem_of_mem_take hx)) (Good.nil n)
  refine ⟨m, ?_, gm, fun b => by rw [lm, look_nil]; rfl⟩
  unfold chain_Fold.f foldL
  rw [if_pos ⟨h.len, h.sized⟩, h.whole]
  simp only
  rw [if_neg (by decide), if_neg (by omega), show (((q + 1 : Nat) : Int) - 1).toNat = q by omega, List.getElem?_eq_getElem hq, Option.bind_some, h.cl, hm]
  rfl
theorem Way.fold_bad {ls p : List SL} {a n : Int} (h : Way ls a p n) (m : Int) (hm : m < 1 ∨ (p.length : Int) < m) : chain_Fold.f ls a m = some (0, [], 0, 1) := by
  unfold chain_Fold.f foldL
  rw [if_pos ⟨h.len, h.sized⟩, h.whole]
  simp only
  rw [if_neg (by decide), if_pos hm]
theorem Way.flat_len {ls p : List SL} {a n : Int} (h : Way ls a p n) : (flatTo p n.toNat).length = 16 * n.toNat := flatTo_len p h.right _
theorem ways_same {ls p ls' p' : List SL} {a a' n : Int} (h : Way ls a p n) (h' : Way ls' a' p' n) (hl : ∀ b, lookP p b = lookP p' b) : flatTo p n.toNat = flatTo p' n.toNat :=
  blk_ext n.toNat (by rw [h.flat_len]; omega) (by rw [h'.flat_len]; omega) fun i hi => by
    rw [flatTo_blk p h.right _ i hi, flatTo_blk p' h'.right _ i hi, through_val p h.good, through_val p' h'.good, hl]
theorem way_flatV {ls p : List SL} {a n : Int} (h : Way ls a p n) {m : List SC} (hm : Good n m) (hl : ∀ b, look m b = lookP p b) : flatV n m = ⟨(flatTo p n.toNat).toArray⟩ := by
  unfold flatV
  rw [blk_ext n.toNat (flat_len hm) (by rw [h.flat_len]; omega) fun i hi => by
    rw [flat_blk hm i (by omega), flatTo_blk p h.right _ i hi, through_val p h.good, ← hl]; rfl]
theorem RowOK.way {n : Int} {ls : List SL} (h : RowOK n ls) (hp : 0 < ls.length) (hl : ls.length ≤ 12) (h1 : 1 ≤ n) (h2 : n ≤ 64) : Way ls (ls.length : Int) ls.reverse n where
  path := h.path hp
  ne := by intro e; rw [List.reverse_eq_nil_iff] at e; rw [e] at hp; exact absurd hp (Nat.lt_irrefl _)
  good := fun x hx => h.good x (List.mem_reverse.1 hx)
  sized := h.sized h2
  len := by omega
  n1 := h1
  n2 := h2
end Go.Proofs.Ytbeloaccgmgocaa.Pr
end
