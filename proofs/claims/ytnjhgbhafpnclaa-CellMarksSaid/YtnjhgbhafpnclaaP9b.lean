/- Plain laws of the statements' helpers: pick, cluster, made, New, Get, the example. No conditions but that numbers are those of their kinds. -/
import Derived.Test.YtnjhgbhafpnclaaP9a
import Derived.Test.YtnjhgbhafpnclaaHRefRight
import Derived.OpenShut
import Derived.Test.YtnjhgbhafpnclaaPrx1
import Derived.Test.YtnjhgbhafpnclaaPrx3
namespace Go.Proofs.Ytnjhgbhafpnclaa.Pr
open Go.RowKit Go.Proofs.Ytnjhgbhafpnclaa Go.Proofs.YtnjhgbhafpnclaaW.PrintWords Go.Proofs.YtnjhgbhafpnclaaW.PrintLast
theorem wf64 {a : Int} (h : (Lit.int .i64 a).wf = true) : -9223372036854775808 ≤ a ∧ a ≤ 9223372036854775807 := bounds_i64 h
theorem w64 {n : Int} (h : -9223372036854775808 ≤ n ∧ n ≤ 9223372036854775807) : wrap64 n = n := by unfold wrap64; omega
def pickV (c n : Int) : Int := (if c < 0 then -(c + 1) else c) % n
theorem pickV_range (c n : Int) (hn : 1 ≤ n) : 0 ≤ pickV c n ∧ pickV c n < n := by
  unfold pickV
  exact ⟨Int.emod_nonneg _ (by omega), Int.emod_lt_of_pos _ (by omega)⟩
theorem pick_ok (c n : Int) (hc : (Lit.int .i64 c).wf = true) (hn : 1 ≤ n) : rootcellarlaw9_pick.f c n = some (pickV c n) := by
  have hb := wf64 hc
  unfold rootcellarlaw9_pick.f pickV
  by_cases h0 : c < 0
  · rw [if_pos h0, if_neg (by omega), if_pos h0, w64 (n := c + 1) (by omega), w64 (by omega), Int.tmod_eq_emod_of_nonneg (by omega)]
  · rw [if_neg h0, if_neg (by omega), if_neg h0, Int.tmod_eq_emod_of_nonneg (by omega)]
/-- sixteen bytes of a raw number -/
def clRun (c : Int) : Nat → List Int → List Int
  | 0, xs => xs.set 15 1
  | d + 1, xs => clRun c d (xs.set (7 - d) ((shr .i64 c ((8 * (7 - d) : Nat) : Int)) % 256))
def clV (c : Int) : ByteArray := if Int.tmod c 5 = 0 then z16 else strOfNums (clRun c 8 (List.replicate 16 0))
theorem clRun_length (c : Int) : ∀ d xs, (clRun c d xs).length = xs.length := by
  intro d
  induction d with
  | zero => intro xs; simp [clRun]
  | succ d ih => intro xs; rw [clRun, ih]; simp
theorem clRun_last (c : Int) : ∀ d xs, xs.length = 16 → (clRun c d xs)[15]? = some 1 := by
  intro d
  induction d with
  | zero => intro xs h; rw [clRun, List.getElem?_set]; simp [h]
  | succ d ih => intro xs h; rw [clRun]; exact ih _ (by simpa using h)
theorem cl_l0 (c : Int) (d : Nat) (hd : d ≤ 8) : ∀ xs : List Int, xs.length = 16 → Ev (fun k => rootcellarlaw9_cluster.l0 k c xs ((8 - d : Nat) : Int)) (strOfNums (clRun c d xs)) := by
  induction d with
  | zero =>
    intro xs h
    refine Ev.step (f := fun _ => some (strOfNums (clRun c 0 xs))) (fun k => ?_) (Ev.now _)
    rw [rootcellarlaw9_cluster.l0, if_neg (by omega), if_pos (by omega)]
    rfl
  | succ d ih =>
    intro xs h
    have e8 : wrap64 (8 * ((8 - (d + 1) : Nat) : Int)) = ((8 * (7 - d) : Nat) : Int) := by rw [w64 (by omega)]; omega
    have e1 : wrap64 (((8 - (d + 1) : Nat) : Int) + 1) = ((8 - d : Nat) : Int) := by rw [w64 (by omega)]; omega
    refine Ev.step (f := fun k => rootcellarlaw9_cluster.l0 k c (xs.set (7 - d) ((shr .i64 c ((8 * (7 - d) : Nat) : Int)) % 256)) ((8 - d : Nat) : Int)) (fun k => ?_) (ih (by omega) _ (by simpa using h))
    rw [rootcellarlaw9_cluster.l0, if_pos (by omega), e8, if_pos (by omega), if_pos (by omega), if_pos (by omega), e1, show (((8 - (d + 1) : Nat) : Int)).toNat = 7 - d by omega]
theorem cl_ev (c : Int) : Ev (fun k => rootcellarlaw9_cluster.f k c) (clV c) := by
  unfold clV
  by_cases h : Int.tmod c 5 = 0
  · rw [if_pos h]
    refine Ev.congr (f := fun _ => some z16) (fun k => ?_) (Ev.now _)
    unfold rootcellarlaw9_cluster.f
    rw [if_pos (by decide), Option.bind_some, if_pos h]; rfl
  · rw [if_neg h]
    refine Ev.congr (f := fun k => rootcellarlaw9_cluster.l0 k c (List.replicate 16 0) 0) (fun k => ?_) (cl_l0 c 8 (by omega) _ (by simp))
    unfold rootcellarlaw9_cluster.f
    rw [if_pos (by decide), Option.bind_some, if_neg h]
theorem clV_size (c : Int) : (clV c).size = 16 := by
  unfold clV
  split
  · rfl
  · rw [strOfNums_size, clRun_length]; simp
theorem z16_zero : zeroB z16 = true := by decide +kernel
theorem clV_zero (c : Int) : zeroB (clV c) = decide (Int.tmod c 5 = 0) := by
  unfold clV
  by_cases h : Int.tmod c 5 = 0
  · rw [if_pos h, z16_zero]; simp [h]
  · rw [if_neg h]
    have hl := clRun_last c 8 (List.replicate 16 0) (by simp)
    have : zeroB (strOfNums (clRun c 8 (List.replicate 16 0))) = false := by
      rw [Bool.eq_false_iff]
      intro hz
      unfold zeroB at hz
      have e := eq_of_beq hz
      rw [strOfNums_data] at e
      have e15 := congrArg (fun l : List UInt8 => l[15]?) e
      simp only [List.getElem?_map, hl] at e15
      revert e15; decide
    rw [this]; simp [h]
theorem zero_z16 {s : ByteArray} (h : zeroB s = true) : s = z16 := by
  unfold zeroB at h
  have e := eq_of_beq h
  apply ByteArray.ext; apply Array.ext'
  rw [e]; rfl
theorem clV_of_zero (c : Int) (h : zeroB (clV c) = true) : clV c = z16 := zero_z16 h
/-- a right image -/
def Good (n : Int) (l : List SC) : Prop := Srt l ∧ ∀ x ∈ l, 0 ≤ x.f0 ∧ x.f0 < n ∧ (x.f1.size = 0 ∨ x.f1.size = 16 ∧ zeroB x.f1 = false)
theorem Good.nil (n : Int) : Good n [] := ⟨List.Pairwise.nil, fun x hx => by cases hx⟩
theorem putT_ok (s : ByteArray) (hs : s.size = 16) : (putT s).size = 0 ∨ (putT s).size = 16 ∧ zeroB (putT s) = false := by
  unfold putT
  cases h : zeroB s with
  | true => exact .inl rfl
  | false => exact .inr ⟨hs, h⟩
theorem Good.put {n : Int} {l : List SC} (h : Good n l) (a : Int) (s : ByteArray) (ha : 0 ≤ a ∧ a < n) (hs : s.size = 16) : Good n (putL l a s) := by
  have hp := putL_spec h.1 a s
  refine ⟨hp.1, fun x hx => ?_⟩
  rcases hp.2.2.1 x hx with hx | rfl
  · exact h.2 x hx
  · exact ⟨ha.1, ha.2, putT_ok s hs⟩
theorem Good.drop {n : Int} {l : List SC} (h : Good n l) (a : Int) : Good n (l.filter (other a)) :=
  ⟨(filter_spec h.1 a).1, fun x hx => h.2 x (List.mem_filter.1 hx).1⟩
theorem Good.sized {n : Int} {l : List SC} (h : Good n l) : sizedC l = true := by
  unfold sizedC
  rw [List.all_eq_true]
  intro x hx
  have := (h.2 x hx).2.2
  simp only [decide_eq_true_eq]; unfold maxLen; omega
theorem rightFrom_good (c : Int) (l : List SC) : ∀ last, (∀ x ∈ l, last < x.f0) → (Srt l ∧ ∀ x ∈ l, x.f0 < c ∧ (x.f1.size = 0 ∨ x.f1.size = 16 ∧ zeroB x.f1 = false)) → rightFrom c last (prs l) = true := by
  induction l with
  | nil => intro _ _ _; rfl
  | cons x l ih =>
    intro last hl ⟨hs, hx⟩
    have h1 := hl x (by simp)
    have h2 := hx x (by simp)
    have hb : badC c last (x.f0, x.f1) = false := by
      unfold badC
      rcases h2.2 with h | ⟨h, hz⟩
      · simp [h]; omega
      · simp [h, hz]; omega
    show rightFrom c last ((x.f0, x.f1) :: prs l) = true
    rw [rightFrom, hb, if_neg (by decide)]
    exact ih x.f0 (fun y hy => hs.head y hy) ⟨hs.tail, fun y hy => hx y (by simp [hy])⟩
theorem Good.right {n : Int} {l : List SC} (h : Good n l) (h1 : 1 ≤ n) (h2 : n ≤ 64) : rightB n (prs l) = true := by
  unfold rightB newR
  rw [rightFrom_good n l (-1) (fun x hx => by have := (h.2 x hx).1; omega) ⟨h.1, fun x hx => (h.2 x hx).2⟩, if_neg (by omega)]
  rfl
theorem Good.length {n : Int} {l : List SC} (h : Good n l) (h2 : n ≤ 64) : l.length ≤ 64 := by
  have key : ∀ (l : List SC) (lo : Int), Srt l → (∀ x ∈ l, lo ≤ x.f0 ∧ x.f0 < n) → (l.length : Int) ≤ max (n - lo) 0 := by
    intro l
    induction l with
    | nil => intro lo _ _; simp; omega
    | cons x l ih =>
      intro lo hs hx
      have h1 := hx x (by simp)
      have := ih (x.f0 + 1) hs.tail (fun y hy => by have := hs.head y hy; have := hx y (by simp [hy]); omega)
      rw [List.length_cons]; omega
  have := key l 0 h.1 (fun x hx => ⟨(h.2 x hx).1, (h.2 x hx).2.1⟩)
  omega
theorem Good.right_ok {n : Int} {l : List SC} (h : Good n l) (h1 : 1 ≤ n) (h2 : n ≤ 64) : cell_Right.f n l = some true := by
  unfold cell_Right.f
  rw [if_pos ⟨by have := h.length h2; unfold maxLen; omega, h.sized⟩, h.right h1 h2]
theorem put_ok {n : Int} {l : List SC} (h : Good n l) (h2 : n ≤ 64) (a : Int) (s : ByteArray) (ha : 0 ≤ a ∧ a < n) (hs : s.size = 16) : cell_Put.f n l a s = some (n, putL l a s, 0) := by
  unfold cell_Put.f
  have : hasB n a = true := by unfold hasB; simp [ha]
  rw [if_neg (by rw [this]; decide), if_neg (by simp [hs]), if_pos (by have := h.length h2; omega)]
theorem drop_ok {n : Int} {l : List SC} (h : Good n l) (h2 : n ≤ 64) (a : Int) (ha : 0 ≤ a ∧ a < n) : cell_Drop.f n l a = some (n, l.filter (other a), 0) := by
  unfold cell_Drop.f
  have : hasB n a = true := by unfold hasB; simp [ha]
  rw [if_neg (by rw [this]; decide), if_pos (by have := h.length h2; omega)]
theorem new_ok {n : Int} (h1 : 1 ≤ n) (h2 : n ≤ 64) : cell_New.f n = some (n, [], 0) := by
  unfold cell_New.f
  rw [if_neg (by omega), if_neg (by omega)]
/-- what a cluster reads -/
def txt (t : ByteArray) : ByteArray := if t.size = 0 then z16 else t
def getV (l : List SC) (a : Int) : ByteArray × Bool := match look l a with | none => (⟨#[]⟩, false) | some t => (txt t, true)
theorem toList_empty (s : ByteArray) : (s.toList = ([] : List UInt8)) ↔ s.size = 0 := by
  have := empty_list s
  constructor
  · intro h; rw [h] at this; simpa using this.symm
  · intro h; rw [h] at this; simpa using this
theorem text_ok (a : Int) (t : ByteArray) : cell_Cell_text.f a t = some (txt t) := by
  unfold cell_Cell_text.f txt
  by_cases h : t.size = 0
  · rw [if_pos ((toList_empty t).2 h), if_pos h]
    have : strings_Repeat.f (⟨#[0]⟩ : ByteArray) 16 = some z16 := by
      unfold strings_Repeat.f
      rw [if_pos ⟨rfl, by decide, by decide⟩]
      rfl
    rw [this]; rfl
  · rw [if_neg (fun e => h ((toList_empty t).1 e)), if_neg h]
theorem get_ok {l : List SC} (hs : Srt l) (hl : l.length ≤ 1000000) (c a : Int) : cell_Get.f c l a = some (getV l a) := by
  unfold cell_Get.f cell_Image_place.f
  rw [if_pos (by omega), Option.bind_some]
  dsimp only
  rw [hit_look hs]
  unfold getV
  cases h : look l a with
  | none => rfl
  | some t =>
    obtain ⟨hp, hx⟩ := plc_look hs a t h
    have hr : rd_T51 l (plc l a : Int) = ⟨a, t⟩ := by
      unfold rd_T51
      rw [Int.toNat_natCast, List.getD_eq_getElem?_getD, List.getElem?_eq_getElem hp, hx]; rfl
    simp only [Option.isSome_some, if_true]
    rw [if_pos (by omega), if_pos (by omega), hr, text_ok]
    rfl
theorem Good.get {n : Int} {l : List SC} (h : Good n l) (h2 : n ≤ 64) (c a : Int) : cell_Get.f c l a = some (getV l a) := get_ok h.1 (by have := h.length h2; omega) c a
theorem txt_put (s : ByteArray) (hs : s.size = 16) : txt (putT s) = s := by
  unfold putT
  cases h : zeroB s with
  | true => rw [if_pos rfl, zero_z16 h]; rfl
  | false => rw [if_neg (by decide)]; unfold txt; rw [if_neg (by omega)]
theorem txt_size {n : Int} {l : List SC} (h : Good n l) {a : Int} {t : ByteArray} (ht : look l a = some t) : (txt t).size = 16 := by
  have := (h.2 _ (look_mem ht)).2.2
  unfold txt
  split
  · rfl
  · dsimp only at this; omega
theorem txt_inj {t u : ByteArray} (ht : t.size = 0 ∨ t.size = 16 ∧ zeroB t = false) (hu : u.size = 0 ∨ u.size = 16 ∧ zeroB u = false) (h : txt t = txt u) : t = u := by
  have e0 : ∀ s : ByteArray, s.size = 0 → s = ⟨#[]⟩ := fun s hs => by
    apply ByteArray.ext
    exact Array.eq_empty_of_size_eq_zero hs
  unfold txt at h
  rcases ht with ht | ⟨ht, hz⟩ <;> rcases hu with hu | ⟨hu, hz'⟩
  · rw [e0 t ht, e0 u hu]
  · rw [if_pos ht, if_neg (by omega)] at h; rw [← h, z16_zero] at hz'; cases hz'
  · rw [if_neg (by omega), if_pos hu] at h; rw [h, z16_zero] at hz; cases hz
  · rw [if_neg (by omega), if_neg (by omega)] at h; exact h
end Go.Proofs.Ytnjhgbhafpnclaa.Pr
