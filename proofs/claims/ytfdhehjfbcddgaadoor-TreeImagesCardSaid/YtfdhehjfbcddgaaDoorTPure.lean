/- Trees, plain: what a right tree is; what makes, moves and changes one; each leaves it right. No conditions. -/
import Derived.Test.YtfdhehjfbcddgaaDoorTWith2
namespace Go.Proofs.YtfdhehjfbcddgaaDoor.Pr
open Go.RowKit Go.Proofs.YtfdhehjfbcddgaaDoorW.PrintWords Go.Proofs.YtfdhehjfbcddgaaDoorW.PrintLast Go.Proofs.YtfdhehjfbcddgaaDoor
set_option linter.unusedVariables false
structure Tr where
  l : List Nd
  lv : Int
  nx : Int
  nw : Int
def zT : Tr := ⟨[], 0, 0, 0⟩
def firstB (x : Nd) : Bool := decide (x.id = 1) && (decide (x.par = 0) && !x.ghost)
def linkB (l : List Nd) (i : Nat) : Bool := wellB (l.getD i zN) && (if i = 0 then firstB (l.getD i zN) else ((findN (l.take i) (l.getD i zN).par).2 && decide ((l.getD (i - 1) zN).id < (l.getD i zN).id)))
def rightL (l : List Nd) : Bool := (List.range l.length).all (linkB l)
def rightN (t : Tr) : Bool := decide (0 < t.l.length) && (decide (t.l.length ≤ 60) && (rightL t.l && ((findN t.l t.lv).2 && (decide ((t.l.getD (t.l.length - 1) zN).id < t.nx) && decide (t.nx ≤ 2147483647)))))
def makeN (t : Tr) (s : St) : Tr × Int :=
  if 60 ≤ t.l.length then (zT, 6)
  else if s.a < t.nx ∨ s.a = 2147483647 ∨ (findN t.l s.b).2 = false then (zT, 1)
  else (⟨t.l ++ [if 0 < s.text.size then ⟨s.a, s.b, s.text, s.n, false, false⟩ else ⟨s.a, s.b, ⟨#[]⟩, 0, true, false⟩], t.lv, s.a + 1, t.nw⟩, 0)
/-- a link of a tree is another one -/
def putN (t : Tr) (a : Int) (f : Nd → Nd) : Tr := ⟨t.l.set (plc t.l a) (f (t.l.getD (plc t.l a) zN)), t.lv, t.nx, t.nw⟩
def moveN (t : Tr) (a p : Int) : Tr × Int :=
  if (findN t.l a).2 = false ∨ (findN t.l p).2 = false then (zT, 4)
  else if a = 1 then (zT, 13)
  else if a ≤ p then (zT, 1)
  else (putN t a (setPar p), 0)
def otherN (a : Int) (x : Nd) : Bool := !(x.id == a)
def changeN (t : Tr) (s : St) : Tr × Int :=
  if (findN t.l s.a).2 = false then (zT, 4)
  else if s.a = 1 then (zT, 13)
  else if (s.kind = 3 ∧ 0 < (kidsN t.l t.lv s.a).length) ∨ (s.kind ≠ 3 ∧ (findN t.l s.a).1.ghost = true) then (zT, 7)
  else if s.kind = 3 then (⟨t.l.filter (otherN s.a), t.lv, t.nx, t.nw⟩, 0)
  else if s.kind = 2 then (putN t s.a setGhost, 0)
  else if 1 < s.b then (zT, 1)
  else (putN t s.a (setPin s.b), 0)
def applyN (t : Tr) (s : St) : Tr × Int :=
  if rightN t = false ∨ stepB s = false ∨ s.kind = 8 ∨ (s.kind = 7 ∧ s.n < t.nw) then (zT, 1)
  else if s.kind = 1 then makeN t s
  else if s.kind = 4 then moveN t s.a s.b
  else if s.kind = 6 ∧ (findN t.l s.a).2 = false then (zT, 4)
  else if s.kind = 6 ∧ 0 < s.b ∧ s.b < t.nx then (zT, 1)
  else if s.kind = 6 then (⟨t.l, s.a, max t.nx s.b, t.nw⟩, 0)
  else if s.kind = 7 then (⟨t.l, t.lv, t.nx, s.n⟩, 0)
  else changeN t s
/-! ## finding -/
theorem find_none {l : List Nd} {a : Int} (h : ∀ x ∈ l, x.id ≠ a) : findN l a = (zN, false) := by
  unfold findN
  rw [List.findIdx?_eq_none_iff.2 (fun x hx => by simpa using h x hx)]
theorem find_some {l : List Nd} {a : Int} (h : ∃ x ∈ l, x.id = a) : (findN l a).2 = true ∧ (findN l a).1 ∈ l ∧ (findN l a).1.id = a := by
  unfold findN
  cases hf : l.findIdx? (fun x => x.id == a) with
  | none =>
    obtain ⟨x, hx, e⟩ := h
    have := List.findIdx?_eq_none_iff.1 hf x hx
    simp [e] at this
  | some i =>
    obtain ⟨hi, h1, _⟩ := List.findIdx?_eq_some_iff_getElem.1 hf
    have e : l.getD i zN = l[i] := by rw [List.getD_eq_getElem?_getD, List.getElem?_eq_getElem hi]; rfl
    refine ⟨rfl, ?_, ?_⟩
    · show l.getD i zN ∈ l
      rw [e]; exact List.getElem_mem hi
    · show (l.getD i zN).id = a
      rw [e]; simpa using h1
theorem find_iff {l : List Nd} {a : Int} : (findN l a).2 = true ↔ ∃ x ∈ l, x.id = a := by
  constructor
  · intro h
    by_cases hx : ∃ x ∈ l, x.id = a
    · exact hx
    · rw [find_none (fun x hm e => hx ⟨x, hm, e⟩)] at h; cases h
  · intro h; exact (find_some h).1
theorem find_false {l : List Nd} {a : Int} : (findN l a).2 = false ↔ ∀ x ∈ l, x.id ≠ a := by
  constructor
  · intro h x hx e
    rw [(find_some ⟨x, hx, e⟩).1] at h; cases h
  · intro h; rw [find_none h]
abbrev SrtN (l : List Nd) : Prop := l.Pairwise fun x y => x.id < y.id
theorem srt_eq {l : List Nd} (hs : SrtN l) : ∀ {x y : Nd}, x ∈ l → y ∈ l → x.id = y.id → x = y := by
  induction l with
  | nil => intro x y h; cases h
  | cons z l ih =>
    obtain ⟨h1, h2⟩ := List.pairwise_cons.1 hs
    intro x y hx hy e
    rcases List.mem_cons.1 hx with hx' | hx'
    · rcases List.mem_cons.1 hy with hy' | hy'
      · rw [hx', hy']
      · have := h1 _ hy'; rw [hx'] at e; omega
    · rcases List.mem_cons.1 hy with hy' | hy'
      · have := h1 _ hx'; rw [hy'] at e; omega
      · exact ih h2 hx' hy' e
theorem find_mem {l : List Nd} (hs : SrtN l) {x : Nd} (hx : x ∈ l) {a : Int} (ha : x.id = a) : findN l a = (x, true) := by
  obtain ⟨h1, h2, h3⟩ := find_some ⟨x, hx, ha⟩
  have := srt_eq hs h2 hx (by omega)
  rw [← this, ← h1]
/-! ## places -/
theorem bsl_spec (l : List Int) (t : Int) (hs : ∀ i j, i < j → j < l.length → l.getD i 0 < l.getD j 0) : ∀ d i j, i ≤ j → j ≤ l.length → j ≤ i + d → (∀ k, k < i → l.getD k 0 < t) → (∀ k, j ≤ k → k < l.length → ¬ l.getD k 0 < t) →
    bsl l t d i j ≤ l.length ∧ (∀ k, k < bsl l t d i j → l.getD k 0 < t) ∧ (∀ k, bsl l t d i j ≤ k → k < l.length → ¬ l.getD k 0 < t) := by
  intro d
  induction d with
  | zero =>
    intro i j h1 h2 h3 h4 h5
    obtain rfl : i = j := by omega
    exact ⟨h2, h4, h5⟩
  | succ d ih =>
    intro i j h1 h2 h3 h4 h5
    rw [bsl]
    split
    · rename_i hij
      split
      · rename_i hlt
        refine ih _ _ (by omega) h2 (by omega) (fun k hk => ?_) h5
        by_cases e : k = (i + j) / 2
        · rw [e]; exact hlt
        · have := hs k ((i + j) / 2) (by omega) (by omega); omega
      · rename_i hlt
        refine ih _ _ (by omega) (by omega) (by omega) h4 (fun k hk hkn => ?_)
        by_cases e : k = (i + j) / 2
        · rw [e]; exact hlt
        · have := hs ((i + j) / 2) k (by omega) hkn; omega
    · obtain rfl : i = j := by omega
      exact ⟨h2, h4, h5⟩
theorem ats_length (l : List Nd) : (ats l).length = l.length := by simp [ats]
theorem srt_ats {l : List Nd} (hs : SrtN l) : ∀ i j, i < j → j < (ats l).length → (ats l).getD i 0 < (ats l).getD j 0 := by
  intro i j hij hj
  rw [ats_length] at hj
  rw [ats_getD l i (by omega), ats_getD l j hj]
  exact List.pairwise_iff_getElem.1 hs i j (by omega) hj hij
theorem plc_found {l : List Nd} (hs : SrtN l) {x : Nd} (hx : x ∈ l) : ∃ h : plc l x.id < l.length, l[plc l x.id] = x := by
  have h := bsl_spec (ats l) x.id (srt_ats hs) l.length 0 l.length (Nat.zero_le _) (by rw [ats_length]; exact Nat.le_refl _) (by omega) (fun k hk => by omega) (fun k hk hkn => by rw [ats_length] at hkn; omega)
  rw [ats_length] at h
  obtain ⟨hp, hb, ha⟩ := h
  change plc l x.id ≤ l.length at hp
  change ∀ k, k < plc l x.id → (ats l).getD k 0 < x.id at hb
  change ∀ k, plc l x.id ≤ k → k < l.length → ¬ (ats l).getD k 0 < x.id at ha
  obtain ⟨i, hi, rfl⟩ := List.getElem_of_mem hx
  have h1 : ¬ i < plc l l[i].id := fun hlt => by
    have := hb i hlt
    rw [ats_getD l i hi] at this; omega
  have hlt : plc l l[i].id < l.length := by omega
  refine ⟨hlt, ?_⟩
  have h2 := ha _ (Nat.le_refl _) hlt
  rw [ats_getD l _ hlt] at h2
  by_cases e : plc l l[i].id = i
  · simp only [e]
  · have := List.pairwise_iff_getElem.1 hs (plc l l[i].id) i hlt hi (by omega)
    omega
/-- one link another one: by its number -/
def mapN (l : List Nd) (a : Int) (f : Nd → Nd) : List Nd := l.map fun y => if y.id = a then f y else y
theorem set_map {l : List Nd} (hs : SrtN l) {x : Nd} (hx : x ∈ l) (f : Nd → Nd) : l.set (plc l x.id) (f (l.getD (plc l x.id) zN)) = mapN l x.id f := by
  obtain ⟨hp, he⟩ := plc_found hs hx
  apply List.ext_getElem
  · simp [mapN]
  · intro i h1 h2
    simp only [List.length_set] at h1
    rw [List.getElem_set]
    simp only [mapN, List.getElem_map]
    split
    · rename_i e
      subst e
      rw [List.getD_eq_getElem?_getD, List.getElem?_eq_getElem hp]
      rw [if_pos (by rw [he])]; rfl
    · rename_i e
      have : l[i].id ≠ x.id := fun h => by
        have h3 := List.pairwise_iff_getElem.1 hs
        rcases Nat.lt_or_gt_of_ne e with h4 | h4
        · have := h3 _ _ hp h1 h4; rw [he] at this; omega
        · have := h3 _ _ h1 hp h4; rw [he] at this; omega
      rw [if_neg this]
/-! ## right trees -/
structure RightP (t : Tr) : Prop where
  head : ∃ r tl, t.l = r :: tl ∧ r.id = 1 ∧ r.par = 0 ∧ r.ghost = false
  len : t.l.length ≤ 60
  srt : SrtN t.l
  well : ∀ x ∈ t.l, wellB x = true
  par : ∀ x ∈ t.l, x.id ≠ 1 → ∃ y ∈ t.l, y.id = x.par ∧ y.id < x.id
  live : ∃ y ∈ t.l, y.id = t.lv
  next : ∀ x ∈ t.l, x.id < t.nx
  top : t.nx ≤ 2147483647
theorem rightL_iff (l : List Nd) : rightL l = true ↔ ∀ i, i < l.length → linkB l i = true := by
  unfold rightL
  rw [List.all_eq_true]
  simp
theorem getD_get {l : List Nd} {i : Nat} (h : i < l.length) : l.getD i zN = l[i] := by rw [List.getD_eq_getElem?_getD, List.getElem?_eq_getElem h]; rfl
theorem right_iff (t : Tr) : rightN t = true ↔ RightP t := by
  obtain ⟨l, lv, nx, nw⟩ := t
  unfold rightN
  simp only [Bool.and_eq_true, decide_eq_true_eq, rightL_iff, find_iff]
  constructor
  · rintro ⟨h0, h60, hl, hv, hn, ht⟩
    have hs : ∀ j (hj : j < l.length), ∀ i, (hij : i < j) → l[i].id < l[j].id := by
      intro j
      induction j with
      | zero => intro _ i hi; omega
      | succ j ih =>
        intro hj i hi
        have h1 := hl (j + 1) hj
        unfold linkB at h1
        rw [if_neg (by omega), Bool.and_eq_true, Bool.and_eq_true, decide_eq_true_eq, getD_get hj, getD_get (i := j + 1 - 1) (by omega)] at h1
        have h2 := h1.2.2
        simp only [Nat.add_sub_cancel] at h2
        by_cases e : i = j
        · subst e; exact h2
        · have := ih (by omega) i (by omega); omega
    have hsr : SrtN l := List.pairwise_iff_getElem.2 (fun i j hi hj hij => hs j hj i hij)
    have hf := hl 0 h0
    unfold linkB at hf
    rw [if_pos rfl, getD_get h0] at hf
    unfold firstB at hf
    simp only [Bool.and_eq_true, decide_eq_true_eq, Bool.not_eq_true'] at hf
    refine ⟨?_, h60, hsr, ?_, ?_, hv, ?_, ht⟩
    · cases l with
      | nil => simp at h0
      | cons r tl => exact ⟨r, tl, rfl, hf.2.1, hf.2.2.1, hf.2.2.2⟩
    · intro x hx
      obtain ⟨i, hi, rfl⟩ := List.getElem_of_mem hx
      have h1 := hl i hi
      unfold linkB at h1
      rw [Bool.and_eq_true, getD_get hi] at h1
      exact h1.1
    · intro x hx h1
      obtain ⟨i, hi, rfl⟩ := List.getElem_of_mem hx
      have hi0 : i ≠ 0 := by rintro rfl; exact h1 hf.2.1
      have h2 := hl i hi
      unfold linkB at h2
      rw [if_neg hi0, Bool.and_eq_true, Bool.and_eq_true, getD_get hi, find_iff] at h2
      obtain ⟨y, hy, e⟩ := h2.2.1
      obtain ⟨k, hk, rfl⟩ := List.getElem_of_mem hy
      rw [List.length_take] at hk
      rw [List.getElem_take] at e
      exact ⟨l[k], List.getElem_mem _, e, hs i hi k (by omega)⟩
    · intro x hx
      obtain ⟨i, hi, rfl⟩ := List.getElem_of_mem hx
      rw [getD_get (by omega)] at hn
      by_cases e : i = l.length - 1
      · subst e; exact hn
      · change i < l.length at hi
        have := hs (l.length - 1) (by omega) i (by omega)
        show l[i].id < nx
        omega
  · rintro ⟨⟨r, tl, hrt, h1, h2, h3⟩, hlen, hs, hw, hp, hv, hn, ht⟩
    dsimp only at *
    have h0 : 0 < l.length := by rw [hrt]; simp
    have hr0 : l[0] = r := by simp [hrt]
    have hg := List.pairwise_iff_getElem.1 hs
    refine ⟨h0, hlen, fun i hi => ?_, hv, ?_, ht⟩
    · unfold linkB
      rw [getD_get hi, hw _ (List.getElem_mem hi), Bool.true_and]
      by_cases e : i = 0
      · subst e
        rw [if_pos rfl, hr0]
        unfold firstB
        rw [decide_eq_true h1, decide_eq_true h2, h3]; rfl
      · rw [if_neg e, Bool.and_eq_true, find_iff, decide_eq_true_eq, getD_get (by omega)]
        refine ⟨?_, hg (i - 1) i (by omega) hi (by omega)⟩
        have hne : l[i].id ≠ 1 := by
          have := hg 0 i h0 hi (by omega)
          rw [hr0] at this; omega
        obtain ⟨y, hy, e1, e2⟩ := hp _ (List.getElem_mem hi) hne
        obtain ⟨k, hk, rfl⟩ := List.getElem_of_mem hy
        have hki : k < i := by
          by_cases hh : k < i
          · exact hh
          · rcases Nat.lt_or_eq_of_le (Nat.le_of_not_lt hh) with h4 | h4
            · have := hg i k hi hk h4; omega
            · subst h4; omega
        exact ⟨l[k], List.mem_take_iff_getElem.2 ⟨k, by omega, rfl⟩, e1⟩
    · rw [getD_get (by omega)]
      exact hn _ (List.getElem_mem _)
theorem RightP.one {t : Tr} (h : RightP t) : ∃ r ∈ t.l, r.id = 1 ∧ r.par = 0 ∧ r.ghost = false := by
  obtain ⟨r, tl, e, h1, h2, h3⟩ := h.head
  exact ⟨r, by rw [e]; simp, h1, h2, h3⟩
theorem RightP.pos {t : Tr} (h : RightP t) {x : Nd} (hx : x ∈ t.l) : 1 ≤ x.id := by
  obtain ⟨r, tl, e, h1, h2, h3⟩ := h.head
  have hs := h.srt
  rw [e] at hs hx
  rcases List.mem_cons.1 hx with rfl | hx
  · omega
  · have := (List.pairwise_cons.1 hs).1 x hx; omega
theorem RightP.root {t : Tr} (h : RightP t) {x : Nd} (hx : x ∈ t.l) (h1 : x.id = 1) : x.par = 0 ∧ x.ghost = false := by
  obtain ⟨r, hr, e1, e2, e3⟩ := h.one
  obtain rfl := srt_eq h.srt hx hr (by omega)
  exact ⟨e2, e3⟩
theorem RightP.parent {t : Tr} (h : RightP t) {x : Nd} (hx : x ∈ t.l) (h1 : x.id ≠ 1) : 1 ≤ x.par ∧ x.par < x.id ∧ ∃ y ∈ t.l, y.id = x.par := by
  obtain ⟨y, hy, e1, e2⟩ := h.par x hx h1
  have := h.pos hy
  exact ⟨by omega, by omega, y, hy, e1⟩
theorem RightP.nx_pos {t : Tr} (h : RightP t) : 2 ≤ t.nx := by
  obtain ⟨r, hr, e1, e2, e3⟩ := h.one
  have := h.next r hr
  omega
/-! ## what is kept -/
theorem kidsR_nil {l : List Nd} {a : Int} : (kidsR l a).length = 0 ↔ ∀ x ∈ l, x.par = a → x.id = a := by
  unfold kidsR
  rw [List.length_map, List.length_eq_zero_iff, List.filter_eq_nil_iff]
  unfold kidB
  constructor
  · intro h x hx e
    have := h x hx
    rw [decide_eq_true e, Bool.true_and, decide_eq_true_eq] at this
    omega
  · intro h x hx
    by_cases e : x.par = a
    · simp [h x hx e]
    · simp [e]
theorem kidsN_len (l : List Nd) (lv a : Int) : (kidsN l lv a).length = (kidsR l a).length + (if lv = a then 1 else 0) := by
  unfold kidsN
  rw [List.length_append]
  split <;> rfl
theorem kidsN_nil {l : List Nd} {lv a : Int} : (kidsN l lv a).length = 0 ↔ (∀ x ∈ l, x.par = a → x.id = a) ∧ lv ≠ a := by
  rw [kidsN_len, ← kidsR_nil]
  split
  · rename_i h; constructor
    · intro h1; omega
    · rintro ⟨_, h2⟩; exact absurd h h2
  · rename_i h; constructor
    · intro h1; exact ⟨by omega, h⟩
    · rintro ⟨h1, _⟩; omega
theorem mem_mapN {l : List Nd} {a : Int} {f : Nd → Nd} {z : Nd} : z ∈ mapN l a f ↔ ∃ y ∈ l, z = if y.id = a then f y else y := by
  unfold mapN
  rw [List.mem_map]
  constructor
  · rintro ⟨y, hy, rfl⟩; exact ⟨y, hy, rfl⟩
  · rintro ⟨y, hy, rfl⟩; exact ⟨y, hy, rfl⟩
/-- a link (not the root) turned into one of the same number that is well and hangs on an earlier one -/
theorem right_map {t : Tr} (h : RightP t) {x : Nd} (hx : x ∈ t.l) (hx1 : x.id ≠ 1) (f : Nd → Nd) (hid : (f x).id = x.id) (hw : wellB (f x) = true) (hp : ∃ y ∈ t.l, y.id = (f x).par ∧ y.id < x.id) :
    RightP ⟨mapN t.l x.id f, t.lv, t.nx, t.nw⟩ := by
  obtain ⟨l, lv, nx, nw⟩ := t
  have hR := h
  obtain ⟨⟨r, tl, e, h1, h2, h3⟩, hlen, hs, hwl, hpar, hlv, hnx, htop⟩ := h
  dsimp only at *
  have hidm : ∀ y ∈ l, (if y.id = x.id then f y else y).id = y.id := by
    intro y hy
    split
    · rename_i e
      obtain rfl := srt_eq hs hy hx e
      exact hid
    · rfl
  have hex : ∀ a, (∃ y ∈ l, y.id = a) → ∃ y ∈ mapN l x.id f, y.id = a := by
    rintro a ⟨y, hy, rfl⟩
    exact ⟨_, mem_mapN.2 ⟨y, hy, rfl⟩, hidm y hy⟩
  refine ⟨⟨r, mapN tl x.id f, ?_, h1, h2, h3⟩, ?_, ?_, ?_, ?_, hex _ hlv, ?_, htop⟩
  · show mapN l x.id f = _
    rw [e]
    unfold mapN
    rw [List.map_cons, if_neg (by omega)]
  · show (mapN l x.id f).length ≤ 60
    unfold mapN; rw [List.length_map]; exact hlen
  · show SrtN (mapN l x.id f)
    unfold mapN
    refine List.pairwise_map.2 (List.Pairwise.imp_of_mem (fun ha hb hab => ?_) hs)
    rw [hidm _ ha, hidm _ hb]; exact hab
  · intro z hz
    obtain ⟨y, hy, rfl⟩ := mem_mapN.1 hz
    split
    · rename_i e
      obtain rfl := srt_eq hs hy hx e
      exact hw
    · exact hwl y hy
  · intro z hz hz1
    obtain ⟨y, hy, rfl⟩ := mem_mapN.1 hz
    rw [hidm y hy] at hz1 ⊢
    by_cases e : y.id = x.id
    · obtain rfl := srt_eq hs hy hx e
      rw [if_pos rfl]
      obtain ⟨v, hv, e1, e2⟩ := hp
      obtain ⟨v', hv', e3⟩ := hex _ ⟨v, hv, e1⟩
      exact ⟨v', hv', e3, by omega⟩
    · rw [if_neg e]
      obtain ⟨v, hv, e1, e2⟩ := hpar y hy hz1
      obtain ⟨v', hv', e3⟩ := hex _ ⟨v, hv, e1⟩
      exact ⟨v', hv', e3, by omega⟩
  · intro z hz
    obtain ⟨y, hy, rfl⟩ := mem_mapN.1 hz
    show (if y.id = x.id then f y else y).id < nx
    rw [hidm y hy]; exact hnx y hy
theorem put_map {t : Tr} (h : RightP t) {x : Nd} (hx : x ∈ t.l) (f : Nd → Nd) : putN t x.id f = ⟨mapN t.l x.id f, t.lv, t.nx, t.nw⟩ := by
  unfold putN
  rw [set_map h.srt hx]
theorem right_drop {t : Tr} (h : RightP t) {a : Int} (ha : a ≠ 1) (hk : (kidsN t.l t.lv a).length = 0) : RightP ⟨t.l.filter (otherN a), t.lv, t.nx, t.nw⟩ := by
  obtain ⟨l, lv, nx, nw⟩ := t
  obtain ⟨⟨r, tl, e, h1, h2, h3⟩, hlen, hs, hwl, hpar, hlv, hnx, htop⟩ := h
  dsimp only at *
  obtain ⟨k1, k2⟩ := kidsN_nil.1 hk
  have hm : ∀ z, z ∈ l.filter (otherN a) ↔ z ∈ l ∧ z.id ≠ a := by
    intro z
    rw [List.mem_filter]
    unfold otherN
    simp
  have hne : otherN a r = true := by unfold otherN; simp; omega
  refine ⟨⟨r, tl.filter (otherN a), ?_, h1, h2, h3⟩, Nat.le_trans (List.length_filter_le _ _) hlen, hs.filter _, ?_, ?_, ?_, ?_, htop⟩
  · show l.filter (otherN a) = _
    rw [e, List.filter_cons, if_pos hne]
  · intro z hz
    exact hwl z ((hm z).1 hz).1
  · intro z hz hz1
    obtain ⟨g1, g2⟩ := (hm z).1 hz
    obtain ⟨y, hy, e1, e2⟩ := hpar z g1 hz1
    refine ⟨y, (hm y).2 ⟨hy, fun e3 => ?_⟩, e1, e2⟩
    exact g2 (k1 z g1 (by omega))
  · obtain ⟨y, hy, e1⟩ := hlv
    exact ⟨y, (hm y).2 ⟨hy, by omega⟩, e1⟩
  · intro z hz
    exact hnx z ((hm z).1 hz).1
theorem right_make {t : Tr} (h : RightP t) (x : Nd) (h60 : t.l.length < 60) (hnx : t.nx ≤ x.id) (htop : x.id < 2147483647) (hw : wellB x = true) (hp : ∃ y ∈ t.l, y.id = x.par) : RightP ⟨t.l ++ [x], t.lv, x.id + 1, t.nw⟩ := by
  obtain ⟨l, lv, nx, nw⟩ := t
  obtain ⟨⟨r, tl, e, h1, h2, h3⟩, hlen, hs, hwl, hpar, hlv, hn, _⟩ := h
  dsimp only at *
  refine ⟨⟨r, tl ++ [x], by show l ++ [x] = _; rw [e]; rfl, h1, h2, h3⟩, by show (l ++ [x]).length ≤ 60; rw [List.length_append]; simp; omega, ?_, ?_, ?_, ?_, ?_, by show x.id + 1 ≤ _; omega⟩
  · refine List.pairwise_append.2 ⟨hs, List.pairwise_singleton _ _, fun y hy z hz => ?_⟩
    rw [List.mem_singleton] at hz; subst hz
    have := hn y hy; omega
  · intro z hz
    rcases List.mem_append.1 hz with hz | hz
    · exact hwl z hz
    · rw [List.mem_singleton] at hz; subst hz; exact hw
  · intro z hz hz1
    rcases List.mem_append.1 hz with hz | hz
    · obtain ⟨y, hy, e1, e2⟩ := hpar z hz hz1
      exact ⟨y, List.mem_append_left _ hy, e1, e2⟩
    · rw [List.mem_singleton] at hz; subst hz
      obtain ⟨y, hy, e1⟩ := hp
      have := hn y hy
      exact ⟨y, List.mem_append_left _ hy, e1, by omega⟩
  · obtain ⟨y, hy, e1⟩ := hlv
    exact ⟨y, List.mem_append_left _ hy, e1⟩
  · intro z hz
    rcases List.mem_append.1 hz with hz | hz
    · have := hn z hz; show z.id < x.id + 1; omega
    · rw [List.mem_singleton] at hz; subst hz; show z.id < z.id + 1; omega
theorem stepB_iff (s : St) : stepB s = true ↔ (s.text.size = 0 ∨ (s.kind = 1 ∧ labelB s.text = true)) ∧ 1 ≤ s.kind ∧ s.kind ≤ 8 ∧ 0 ≤ s.a ∧ s.a ≤ 2147483647 ∧ 0 ≤ s.b ∧ s.b ≤ 2147483647 := by
  unfold stepB numB
  by_cases h : 0 < s.text.size ∧ (s.kind ≠ 1 ∨ labelB s.text = false)
  · rw [if_pos h]
    constructor
    · intro h1; cases h1
    · rintro ⟨h1, _⟩
      rcases h1 with h1 | ⟨h1, h2⟩
      · omega
      · rcases h.2 with h3 | h3
        · exact absurd h1 h3
        · rw [h2] at h3; cases h3
  · rw [if_neg h]
    simp only [Bool.and_eq_true, decide_eq_true_eq]
    constructor
    · rintro ⟨h1, h2, ⟨h3, h4⟩, h5, h6⟩
      refine ⟨?_, h1, h2, h3, h4, h5, h6⟩
      by_cases h0 : s.text.size = 0
      · exact .inl h0
      · right
        constructor
        · exact Classical.byContradiction fun hc => h ⟨by omega, .inl hc⟩
        · cases hh : labelB s.text
          · exact absurd ⟨by omega, .inr hh⟩ h
          · rfl
    · rintro ⟨_, h1, h2, h3, h4, h5, h6⟩; exact ⟨h1, h2, ⟨h3, h4⟩, h5, h6⟩
theorem well_ghost (i p : Int) : wellB ⟨i, p, ⟨#[]⟩, 0, true, false⟩ = true := rfl
/-- what applies leaves a right tree -/
theorem apply_right {t : Tr} {s : St} (h : (applyN t s).2 = 0) : RightP t ∧ RightP (applyN t s).1 := by
  unfold applyN at h ⊢
  split at h
  · cases h
  rename_i hc
  have hr : rightN t = true := by
    cases hh : rightN t
    · exact absurd (.inl hh) hc
    · rfl
  have hst : stepB s = true := by
    cases hh : stepB s
    · exact absurd (.inr (.inl hh)) hc
    · rfl
  rw [if_neg hc]
  have hR := (right_iff t).1 hr
  refine ⟨hR, ?_⟩
  obtain ⟨g1, g2, g3, g4, g5, g6, g7⟩ := (stepB_iff s).1 hst
  by_cases k1 : s.kind = 1
  · rw [if_pos k1] at h ⊢
    unfold makeN at h ⊢
    split at h
    · cases h
    rename_i c1
    rw [if_neg c1]
    split at h
    · cases h
    rename_i c2
    rw [if_neg c2]
    have hb : ∃ y ∈ t.l, y.id = s.b := by
      rw [← find_iff]
      cases hh : (findN t.l s.b).2
      · exact absurd (.inr (.inr hh)) c2
      · rfl
    by_cases ht : 0 < s.text.size
    · rw [if_pos ht]
      have hl : labelB s.text = true := by rcases g1 with g | g; omega; exact g.2
      exact right_make hR ⟨s.a, s.b, s.text, s.n, false, false⟩ (by omega) (by show t.nx ≤ s.a; omega) (by show s.a < _; omega) (by unfold wellB; simpa using hl) hb
    · rw [if_neg ht]
      exact right_make hR ⟨s.a, s.b, ⟨#[]⟩, 0, true, false⟩ (by omega) (by show t.nx ≤ s.a; omega) (by show s.a < _; omega) rfl hb
  rw [if_neg k1] at h ⊢
  by_cases k4 : s.kind = 4
  · rw [if_pos k4] at h ⊢
    unfold moveN at h ⊢
    split at h
    · cases h
    rename_i c1
    rw [if_neg c1]
    split at h
    · cases h
    rename_i c2
    rw [if_neg c2]
    split at h
    · cases h
    rename_i c3
    rw [if_neg c3]
    have ha : ∃ y ∈ t.l, y.id = s.a := by
      rw [← find_iff]
      cases hh : (findN t.l s.a).2
      · exact absurd (.inl hh) c1
      · rfl
    have hb : ∃ y ∈ t.l, y.id = s.b := by
      rw [← find_iff]
      cases hh : (findN t.l s.b).2
      · exact absurd (.inr hh) c1
      · rfl
    obtain ⟨x, hx, e⟩ := ha
    obtain ⟨y, hy, e2⟩ := hb
    rw [← e]
    rw [put_map hR hx]
    refine right_map hR hx (by omega) _ rfl ?_ ⟨y, hy, e2, by omega⟩
    exact hR.well x hx
  rw [if_neg k4] at h ⊢
  by_cases k6 : s.kind = 6
  · by_cases c1 : s.kind = 6 ∧ (findN t.l s.a).2 = false
    · rw [if_pos c1] at h; cases h
    rw [if_neg c1] at h ⊢
    by_cases c2 : s.kind = 6 ∧ 0 < s.b ∧ s.b < t.nx
    · rw [if_pos c2] at h; cases h
    rw [if_neg c2, if_pos k6]
    have ha : ∃ y ∈ t.l, y.id = s.a := by
      rw [← find_iff]
      cases hh : (findN t.l s.a).2
      · exact absurd ⟨k6, hh⟩ c1
      · rfl
    obtain ⟨q1, q2, q3, q4, q5, q6, q7, q8⟩ := hR
    exact ⟨q1, q2, q3, q4, q5, ha, fun x hx => by have := q7 x hx; show x.id < max t.nx s.b; omega, by show max t.nx s.b ≤ _; omega⟩
  rw [if_neg (fun c => k6 c.1), if_neg (fun c => k6 c.1), if_neg k6] at h ⊢
  by_cases k7 : s.kind = 7
  · rw [if_pos k7]
    obtain ⟨q1, q2, q3, q4, q5, q6, q7, q8⟩ := hR
    exact ⟨q1, q2, q3, q4, q5, q6, q7, q8⟩
  rw [if_neg k7] at h ⊢
  unfold changeN at h ⊢
  split at h
  · cases h
  rename_i c1
  rw [if_neg c1]
  split at h
  · cases h
  rename_i c2
  rw [if_neg c2]
  split at h
  · cases h
  rename_i c3
  rw [if_neg c3]
  have ha : ∃ y ∈ t.l, y.id = s.a := by
    rw [← find_iff]
    cases hh : (findN t.l s.a).2
    · exact absurd hh c1
    · rfl
  obtain ⟨x, hx, e⟩ := ha
  have hfx := find_mem hR.srt hx e
  by_cases k3 : s.kind = 3
  · rw [if_pos k3]
    refine right_drop hR c2 ?_
    exact Classical.byContradiction fun hh => c3 (.inl ⟨k3, by omega⟩)
  rw [if_neg k3] at h ⊢
  have hg : x.ghost = false := by
    cases hh : x.ghost
    · rfl
    · exact absurd (.inr ⟨k3, by rw [hfx]; exact hh⟩) c3
  by_cases k2 : s.kind = 2
  · rw [if_pos k2]
    rw [← e, put_map hR hx]
    exact right_map hR hx (by omega) _ rfl rfl (hR.par x hx (by omega))
  rw [if_neg k2] at h ⊢
  split at h
  · cases h
  rename_i c4
  rw [if_neg c4, ← e, put_map hR hx]
  refine right_map hR hx (by omega) _ rfl ?_ (hR.par x hx (by omega))
  have := hR.well x hx
  unfold wellB at this ⊢
  rw [hg] at this
  rw [show (setPin s.b x).ghost = false from hg]
  exact this
end Go.Proofs.YtfdhehjfbcddgaaDoor.Pr
