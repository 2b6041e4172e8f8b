/- Plain laws of layer 11, on: cell.Over and cell.Flat of right images, and what is folded, read and flattened along a path. No conditions but that images are right. -/
import Derived.Test.YtbeloaccgmgocaaP11
import Derived.Test.YtbeloaccgmgocaaHChFold
import Derived.Test.YtbeloaccgmgocaaPrx2
namespace Go.Proofs.Ytbeloaccgmgocaa.Pr
open Go.RowKit Go.Proofs.Ytbeloaccgmgocaa Go.Proofs.YtbeloaccgmgocaaW.PrintWords Go.Proofs.YtbeloaccgmgocaaW.PrintLast
abbrev rdC := rd_T67
theorem rdC_eq {l : List SC} {i : Nat} (h : i < l.length) : rd_T67 l (i : Int) = l[i] := by
  unfold rd_T67
  rw [Int.toNat_natCast, List.getD_eq_getElem?_getD, List.getElem?_eq_getElem h]; rfl
theorem over_l0 (c : Int) (d : Nat) : ∀ x y acc : List SC, x.length + y.length = d → acc.length + d ≤ 1000000 → Srt x → Srt y → ∃ m, Ev (fun k => cell_Over.l0 k x y c acc) (c, acc ++ m) ∧ Srt m ∧ (∀ z ∈ m, z ∈ x ∨ z ∈ y) ∧ (∀ a, look m a = (look x a).or (look y a)) := by
  induction d with
  | zero =>
    intro x y acc hd _ _ _
    obtain rfl : x = [] := List.length_eq_zero_iff.1 (by omega)
    obtain rfl : y = [] := List.length_eq_zero_iff.1 (by omega)
    refine ⟨[], ?_, List.Pairwise.nil, fun z hz => (by simp at hz), fun a => rfl⟩
    refine Ev.step (f := fun k => cell_Over.j2 k [] [] (decide ((([] : List SC).length : Int) > 0)) c acc) (fun k => ?_) (Ev.step (f := fun _ => some (c, acc ++ [])) (fun k => ?_) (Ev.now _))
    · rw [cell_Over.l0, if_neg (by simp)]
    · rw [cell_Over.j2, if_neg (by simp), List.append_nil]
  | succ d ih =>
    intro x y acc hd hacc hx hy
    cases x with
    | nil =>
      cases y with
      | nil => simp at hd
      | cons q y' =>
        obtain ⟨m, hm, hs, hmem, hlook⟩ := ih [] y' (acc ++ [q]) (by simp at hd ⊢; omega) (by simp at hd ⊢; omega) hx hy.tail
        refine ⟨q :: m, ?_, List.pairwise_cons.2 ⟨fun z hz => ?_, hs⟩, fun z hz => ?_, fun a => ?_⟩
        · refine Ev.step (f := fun k => cell_Over.j2 k [] (q :: y') (decide (((q :: y').length : Int) > 0)) c acc) (fun k => ?_) (Ev.step (f := fun k => cell_Over.j3 k [] (q :: y') false c acc) (fun k => ?_) (Ev.step (f := fun k => cell_Over.l0 k [] y' c (acc ++ [q])) (fun k => ?_) (by simpa using hm)))
          · rw [cell_Over.l0, if_neg (by simp)]
          · rw [cell_Over.j2, if_pos (by simp <;> omega), if_neg (by simp <;> omega), if_neg (by simp)]
          · rw [cell_Over.j3, if_neg (by decide), if_pos (by simp), if_pos (by simp <;> omega), if_pos (by omega), if_pos (by simp <;> omega)]; rfl
        · rcases hmem z hz with h | h
          · cases h
          · exact hy.head z h
        · rcases List.mem_cons.1 hz with rfl | h
          · exact .inr List.mem_cons_self
          · rcases hmem z h with h | h
            · cases h
            · exact .inr (List.mem_cons_of_mem _ h)
        · rw [look_cons, hlook, look_nil, look_cons]; simp
    | cons p x' =>
      cases y with
      | nil =>
        obtain ⟨m, hm, hs, hmem, hlook⟩ := ih x' [] (acc ++ [p]) (by simp at hd ⊢; omega) (by simp at hd ⊢; omega) hx.tail hy
        refine ⟨p :: m, ?_, List.pairwise_cons.2 ⟨fun z hz => ?_, hs⟩, fun z hz => ?_, fun a => ?_⟩
        · refine Ev.step (f := fun k => cell_Over.j2 k (p :: x') [] true c acc) (fun k => ?_) (Ev.step (f := fun k => cell_Over.j3 k (p :: x') [] true c acc) (fun k => ?_) (Ev.step (f := fun k => cell_Over.l0 k x' [] c (acc ++ [p])) (fun k => ?_) (by simpa using hm)))
          · rw [cell_Over.l0, if_pos (by simp <;> omega)]
          · rw [cell_Over.j2, if_pos rfl, if_pos (by simp)]
          · rw [cell_Over.j3, if_pos rfl, if_pos (by simp <;> omega), if_pos (by omega), if_pos (by simp <;> omega)]; rfl
        · rcases hmem z hz with h | h
          · exact hx.head z h
          · cases h
        · rcases List.mem_cons.1 hz with rfl | h
          · exact .inl List.mem_cons_self
          · rcases hmem z h with h | h
            · exact .inl (List.mem_cons_of_mem _ h)
            · cases h
        · rw [look_cons, hlook, look_nil, look_cons]; simp
      | cons q y' =>
        have go : ∀ r, Ev (fun k => cell_Over.j3 k (p :: x') (q :: y') (decide (p.f0 < q.f0)) c acc) r → Ev (fun k => cell_Over.l0 k (p :: x') (q :: y') c acc) r := by
          intro r hr
          refine Ev.step (f := fun k => cell_Over.j2 k (p :: x') (q :: y') true c acc) (fun k => ?_) (Ev.step (f := fun k => cell_Over.j3 k (p :: x') (q :: y') (decide (p.f0 < q.f0)) c acc) (fun k => ?_) hr)
          · rw [cell_Over.l0, if_pos (by simp <;> omega)]
          · rw [cell_Over.j2, if_pos rfl, if_neg (by simp <;> omega), if_pos (by simp <;> omega), if_pos (by simp <;> omega), if_pos (by simp <;> omega)]; rfl
        by_cases hlt : p.f0 < q.f0
        · obtain ⟨m, hm, hs, hmem, hlook⟩ := ih x' (q :: y') (acc ++ [p]) (by simp at hd ⊢; omega) (by simp at hd ⊢; omega) hx.tail hy
          refine ⟨p :: m, go _ ?_, List.pairwise_cons.2 ⟨fun z hz => ?_, hs⟩, fun z hz => ?_, fun a => ?_⟩
          · refine Ev.step (f := fun k => cell_Over.l0 k x' (q :: y') c (acc ++ [p])) (fun k => ?_) (by simpa using hm)
            rw [cell_Over.j3, if_pos (by simp [hlt]), if_pos (by simp <;> omega), if_pos (by omega), if_pos (by simp <;> omega)]; rfl
          · rcases hmem z hz with h | h
            · exact hx.head z h
            · rcases List.mem_cons.1 h with rfl | h
              · exact hlt
              · have := hy.head z h; omega
          · rcases List.mem_cons.1 hz with rfl | h
            · exact .inl List.mem_cons_self
            · rcases hmem z h with h | h
              · exact .inl (List.mem_cons_of_mem _ h)
              · exact .inr h
          · rw [look_cons, hlook, look_cons p]
            by_cases e : p.f0 = a
            · rw [if_pos e, if_pos e]; rfl
            · rw [if_neg e, if_neg e]
        · by_cases hgt : q.f0 < p.f0
          · obtain ⟨m, hm, hs, hmem, hlook⟩ := ih (p :: x') y' (acc ++ [q]) (by simp at hd ⊢; omega) (by simp at hd ⊢; omega) hx hy.tail
            refine ⟨q :: m, go _ ?_, List.pairwise_cons.2 ⟨fun z hz => ?_, hs⟩, fun z hz => ?_, fun a => ?_⟩
            · refine Ev.step (f := fun k => cell_Over.l0 k (p :: x') y' c (acc ++ [q])) (fun k => ?_) (by simpa using hm)
              rw [cell_Over.j3, if_neg (by simp [hlt]), if_neg (by simp <;> omega), if_pos (by simp <;> omega), if_pos (by simp <;> omega), if_pos (show (rdC (q :: y') 0).f0 < (rdC (p :: x') 0).f0 from hgt), if_pos (by omega), if_pos (by simp <;> omega)]; rfl
            · rcases hmem z hz with h | h
              · rcases List.mem_cons.1 h with rfl | h
                · exact hgt
                · have := hx.head z h; omega
              · exact hy.head z h
            · rcases List.mem_cons.1 hz with rfl | h
              · exact .inr List.mem_cons_self
              · rcases hmem z h with h | h
                · exact .inl h
                · exact .inr (List.mem_cons_of_mem _ h)
            · rw [look_cons, hlook, look_cons q]
              by_cases e : q.f0 = a
              · rw [if_pos e, if_pos e, look_none (l := p :: x') (fun z hz => by
                  rcases List.mem_cons.1 hz with rfl | h
                  · omega
                  · have := hx.head z h; omega)]
                rfl
              · rw [if_neg e, if_neg e]
          · have heq : p.f0 = q.f0 := by omega
            obtain ⟨m, hm, hs, hmem, hlook⟩ := ih (p :: x') y' acc (by simp at hd ⊢; omega) (by simp at hd ⊢; omega) hx hy.tail
            refine ⟨m, go _ ?_, hs, fun z hz => ?_, fun a => ?_⟩
            · refine Ev.step (f := fun k => cell_Over.l0 k (p :: x') y' c acc) (fun k => ?_) hm
              rw [cell_Over.j3, if_neg (by simp [hlt]), if_neg (by simp <;> omega), if_pos (by simp <;> omega), if_pos (by simp <;> omega), if_neg (show ¬ (rdC (q :: y') 0).f0 < (rdC (p :: x') 0).f0 from hgt), if_pos (by simp <;> omega)]; rfl
            · rcases hmem z hz with h | h
              · exact .inl h
              · exact .inr (List.mem_cons_of_mem _ h)
            · rw [hlook, look_cons q, look_cons p]
              by_cases e : p.f0 = a
              · rw [if_pos e]; rfl
              · rw [if_neg e, if_neg (by omega)]
theorem over_ok {n : Int} {x y : List SC} (h1 : 1 ≤ n) (h2 : n ≤ 64) (hx : Good n x) (hy : Good n y) : ∃ m, Ev (fun k => cell_Over.f k n x n y) (n, m) ∧ Good n m ∧ ∀ a, look m a = (look x a).or (look y a) := by
  have hxl := hx.length h2
  have hyl := hy.length h2
  obtain ⟨m, hm, hs, hmem, hlook⟩ := over_l0 n _ x y [] rfl (by simp <;> omega) hx.1 hy.1
  refine ⟨m, ?_, ⟨hs, fun z hz => ?_⟩, hlook⟩
  · refine Ev.congr (f := fun k => cell_Over.j0 k (n != n) n x n y) (fun k => ?_) (Ev.step (f := fun k => cell_Over.l0 k x y n []) (fun k => ?_) (by simpa using hm))
    · unfold cell_Over.f
      rw [hx.right_ok h1 h2, Option.bind_some, if_pos rfl, hy.right_ok h1 h2, Option.bind_some, if_pos rfl]
    · rw [cell_Over.j0, if_neg (by simp)]
  · rcases hmem z hz with h | h
    · exact hx.2 z h
    · exact hy.2 z h
/-- what a cluster reads, noughts where there is none -/
def valV (m : List SC) (a : Int) : ByteArray := match look m a with | none => z16 | some t => txt t
theorem valV_size {n : Int} {m : List SC} (h : Good n m) (a : Int) : (valV m a).size = 16 := by
  unfold valV
  split
  · rfl
  · rename_i t ht; exact txt_size h ht
def flatV (n : Int) (m : List SC) : ByteArray := ⟨(layAll (nts (n.toNat * 16)) m).toArray⟩
theorem Good.flat {n : Int} {m : List SC} (h : Good n m) (h1 : 1 ≤ n) (h2 : n ≤ 64) : cell_Flat.f n m = some (flatV n m) := by
  unfold cell_Flat.f
  rw [if_pos ⟨by have := h.length h2; unfold maxLen; omega, h.sized⟩, h.right h1 h2, if_pos rfl]; rfl
def blk (b : List UInt8) (i : Nat) : List UInt8 := (b.drop (16 * i)).take 16
theorem textB_eq (t : ByteArray) : textB t = txt t := by
  unfold textB txt
  split <;> rfl
theorem lay_len (b : List UInt8) (o : Nat) (s : ByteArray) (h : o + s.size ≤ b.length) : (lay b o s).length = b.length := lay_length b o s h
theorem data_len (s : ByteArray) : s.data.toList.length = s.size := Array.length_toList
theorem blk_lay (b : List UInt8) (a i : Nat) (s : ByteArray) (hs : s.size = 16) (h : a * 16 + 16 ≤ b.length) : blk (lay b (a * 16) s) i = if i = a then s.data.toList else blk b i := by
  have hl := data_len s
  have hd : (b.take (a * 16)).length = a * 16 := by rw [List.length_take]; omega
  split
  · rename_i e
    subst e
    unfold blk lay
    rw [List.append_assoc, List.drop_append_of_le_length (by omega), List.drop_of_length_le (l := b.take (i * 16)) (by omega), List.nil_append, List.take_append_of_le_length (by omega), List.take_of_length_le (by omega)]
  · rename_i e
    apply List.ext_getElem?
    intro j
    unfold blk lay
    simp only [List.getElem?_take, List.getElem?_drop]
    by_cases hj : j < 16
    · rw [if_pos hj, if_pos hj, List.append_assoc]
      by_cases hlt : i < a
      · rw [List.getElem?_append_left (by omega), List.getElem?_take, if_pos (by omega)]
      · rw [List.getElem?_append_right (by omega), List.getElem?_append_right (by omega), List.getElem?_drop]
        congr 1; omega
    · rw [if_neg hj, if_neg hj]
theorem layAll_len {n : Int} (l : List SC) : ∀ b : List UInt8, b.length = n.toNat * 16 → (∀ x ∈ l, 0 ≤ x.f0 ∧ x.f0 < n ∧ (textB x.f1).size = 16) → (layAll b l).length = n.toNat * 16 := by
  induction l with
  | nil => intro b h _; exact h
  | cons c l ih =>
    intro b h hx
    have hc := hx c (by simp)
    exact ih _ (by rw [lay_len _ _ _ (by omega)]; exact h) (fun y hy => hx y (by simp [hy]))
theorem blk_layAll {n : Int} (l : List SC) : ∀ b : List UInt8, b.length = n.toNat * 16 → Srt l → (∀ x ∈ l, 0 ≤ x.f0 ∧ x.f0 < n ∧ (textB x.f1).size = 16) → ∀ i : Nat, blk (layAll b l) i = match look l (i : Int) with | none => blk b i | some t => (txt t).data.toList := by
  induction l with
  | nil => intro b _ _ _ i; rfl
  | cons c l ih =>
    intro b h hs hx i
    have hc := hx c (by simp)
    have hi := ih (lay b (c.f0.toNat * 16) (textB c.f1)) (by rw [lay_len _ _ _ (by omega)]; exact h) hs.tail (fun y hy => hx y (by simp [hy])) i
    show blk (layAll (lay b (c.f0.toNat * 16) (textB c.f1)) l) i = _
    rw [hi, look_cons, blk_lay _ _ _ _ hc.2.2 (by omega)]
    by_cases e : c.f0 = (i : Int)
    · rw [if_pos e, look_none (l := l) (fun y hy => by have := hs.head y hy; omega)]
      dsimp only
      rw [if_pos (by omega), textB_eq]
    · rw [if_neg e]
      cases look l (i : Int) with
      | some t => rfl
      | none => dsimp only; rw [if_neg (by omega)]
theorem Good.laid {n : Int} {m : List SC} (h : Good n m) : ∀ x ∈ m, 0 ≤ x.f0 ∧ x.f0 < n ∧ (textB x.f1).size = 16 := by
  intro x hx
  have := h.2 x hx
  refine ⟨this.1, this.2.1, ?_⟩
  unfold textB
  split
  · rfl
  · omega
theorem nts_len (k : Nat) : (nts k).length = k := by unfold nts; simp
theorem blk_nts (k i : Nat) (h : i < k) : blk (nts (k * 16)) i = z16.data.toList := by
  unfold blk nts
  rw [List.drop_replicate, List.take_replicate, show min 16 (k * 16 - 16 * i) = 16 by omega]
  rfl
theorem flat_blk {n : Int} {m : List SC} (h : Good n m) (i : Nat) (hi : (i : Int) < n) : blk (layAll (nts (n.toNat * 16)) m) i = (valV m i).data.toList := by
  rw [blk_layAll m _ (nts_len _) h.1 h.laid i]
  unfold valV
  cases look m (i : Int) with
  | none => exact blk_nts _ _ (by omega)
  | some t => rfl
theorem flat_len {n : Int} {m : List SC} (h : Good n m) : (layAll (nts (n.toNat * 16)) m).length = n.toNat * 16 := layAll_len m _ (nts_len _) h.laid
theorem flatV_size {n : Int} {m : List SC} (h1 : 1 ≤ n) (h : Good n m) : ((flatV n m).size : Int) = 16 * n := by
  show (((layAll (nts (n.toNat * 16)) m).toArray.size : Nat) : Int) = _
  rw [List.size_toArray, flat_len h]; omega
theorem flatV_ext {n : Int} {m : List SC} (h : Good n m) (i : Nat) (hi : (i : Int) < n) : (flatV n m).extract (16 * i) (16 * i + 16) = valV m i := by
  apply ByteArray.ext
  rw [ByteArray.data_extract]
  apply Array.ext'
  rw [Array.toList_extract, ← flat_blk h i hi]
  show List.extract (layAll (nts (n.toNat * 16)) m) _ _ = _
  unfold blk List.extract
  rw [show 16 * i + 16 - 16 * i = 16 by omega]
theorem blk_ext {a b : List UInt8} (k : Nat) (ha : a.length = k * 16) (hb : b.length = k * 16) (h : ∀ i, i < k → blk a i = blk b i) : a = b := by
  apply List.ext_getElem?
  intro j
  by_cases hj : j < k * 16
  · have := congrArg (fun l : List UInt8 => l[j % 16]?) (h (j / 16) (by omega))
    unfold blk at this
    simp only [List.getElem?_take, List.getElem?_drop] at this
    rw [if_pos (by omega), if_pos (by omega), show 16 * (j / 16) + j % 16 = j by omega] at this
    exact this
  · rw [List.getElem?_eq_none (by omega), List.getElem?_eq_none (by omega)]
theorem flatV_eq {n : Int} {m k : List SC} (hk : Good n k) (hm : Good n m) (h : ∀ a, 0 ≤ a ∧ a < n → valV k a = valV m a) : flatV n k = flatV n m := by
  unfold flatV
  rw [blk_ext n.toNat (flat_len hk) (flat_len hm) (fun i hi => by rw [flat_blk hk i (by omega), flat_blk hm i (by omega), h i (by omega)])]
/-! ### paths of right images -/
def GoodP (n : Int) (p : List SL) : Prop := ∀ x ∈ p, x.f2.f0 = n ∧ Good n x.f2.f1
def lookP : List SL → Int → Option ByteArray
  | [], _ => none
  | x :: r, a => (look x.f2.f1 a).or (lookP r a)
theorem lookP_append (p q : List SL) (a : Int) : lookP (p ++ q) a = (lookP p a).or (lookP q a) := by
  induction p with
  | nil => rfl
  | cons x r ih => rw [List.cons_append, lookP, lookP, ih]; cases look x.f2.f1 a <;> rfl
def valO (o : Option ByteArray) : ByteArray := match o with | none => z16 | some t => txt t
theorem through_val {n : Int} (p : List SL) (h : GoodP n p) (a : Int) : throughL p a = valO (lookP p a) := by
  induction p with
  | nil => rfl
  | cons x r ih =>
    have hx := (h x (by simp)).2
    rw [throughL, lookP]
    cases hl : look x.f2.f1 a with
    | none => rw [if_neg (by rw [getB_n hx.1 hl]; decide), ih fun y hy => h y (by simp [hy])]; rfl
    | some t => rw [getB_t hx.1 hl, if_pos rfl]; rfl
theorem foldO_ok {n : Int} (h1 : 1 ≤ n) (h2 : n ≤ 64) (p : List SL) : ∀ cs : List SC, GoodP n p → Good n cs → ∃ m, foldO p n cs = some (n, m) ∧ Good n m ∧ ∀ a, look m a = (look cs a).or (lookP p a) := by
  induction p with
  | nil => intro cs _ hc; exact ⟨cs, rfl, hc, fun a => by rw [lookP]; cases look cs a <;> rfl⟩
  | cons x r ih =>
    intro cs hp hc
    obtain ⟨e, hx⟩ := hp x (by simp)
    obtain ⟨o, ⟨K, hK⟩, go, lo⟩ := over_ok h1 h2 hc hx
    obtain ⟨m, hm, gm, lm⟩ := ih o (fun y hy => hp y (by simp [hy])) go
    refine ⟨m, ?_, gm, fun a => ?_⟩
    · rw [foldO, e, overX_of (hK K (Nat.le_refl _)), Option.bind_some]; exact hm
    · rw [lm, lo, lookP]; cases look cs a <;> rfl
theorem flatTo_blk {n : Int} (p : List SL) (h : ∀ x ∈ p, rightB n (prs x.f2.f1) = true) (k : Nat) : ∀ i, i < k → blk (flatTo p k) i = (throughL p (i : Int)).data.toList := by
  induction k with
  | zero => intro i hi; omega
  | succ k ih =>
    intro i hi
    have hl := flatTo_len p h k
    have hs : (throughL p (k : Int)).data.toList.length = 16 := by rw [data_len, throughL_size p h]
    rw [flatTo]
    by_cases e : i < k
    · rw [← ih i e]
      unfold blk
      rw [List.drop_append_of_le_length (by omega), List.take_append_of_le_length (by rw [List.length_drop]; omega)]
    · obtain rfl : i = k := by omega
      unfold blk
      rw [← hl, List.drop_left, List.take_of_length_le (by omega)]
/-- a way: the path from a link on, all of whose images are right -/
structure Way (ls : List SL) (a : Int) (p : List SL) (n : Int) : Prop where
  path : pathP ls a = (p, 0)
  ne : p ≠ []
  good : GoodP n p
  sized : sizedL ls = true
  len : ls.length ≤ 900000
  n1 : 1 ≤ n
  n2 : n ≤ 64
theorem Way.cl {ls p : List SL} {a n : Int} (h : Way ls a p n) : cl0 p = n := by
  unfold cl0
  cases hp : p with
  | nil => exact absurd hp h.ne
  | cons x r => exact (h.good x (by rw [hp]; simp)).1
theorem Way.right {ls p : List SL} {a n : Int} (h : Way ls a p n) : ∀ x ∈ p, rightB n (prs x.f2.f1) = true := fun x hx => (h.good x hx).2.right h.n1 h.n2
theorem Way.whole {ls p : List SL} {a n : Int} (h : Way ls a p n) : wholeL ls a = (p, 0) := by
  unfold wholeL
  rw [h.path]
  simp only
  rw [if_neg (by decide), if_neg ?_]
  rw [h.cl, List.any_eq_true]
  rintro ⟨x, hx, hm⟩
  unfold misfit unlike at hm
  rw [(h.good x hx).1, h.right x hx] at hm
  simp at hm
theorem Way.flat {ls p : List SL} {a n : Int} (h : Way ls a p n) : chain_Flat.f ls a = some (⟨(flatTo p n.toNat).toArray⟩, 0) := by
  unfold chain_Flat.f flatL
  rw [if_pos ⟨h.len, h.sized⟩, h.whole]
  simp only
  rw [if_neg (by decide), h.cl]
theorem Way.ids {ls p : List SL} {a n : Int} (h : Way ls a p n) : chain_Path.f ls a = some (p.map (·.f0), 0) := by
  unfold chain_Path.f idsL
  rw [if_pos ⟨h.len, h.sized⟩, h.path]
  simp only
  rw [if_neg (by decide)]
theorem Way.fold {ls p : List SL} {a n : Int} (h : Way ls a p n) (q : Nat) (hq : q < p.length) : ∃ m, chain_Fold.f ls a ((q + 1 : Nat) : Int) = some (n, m, p[q].f1, 0) ∧ Good n m ∧ ∀ b, look m b = lookP (p.take (q + 1)) b := by
  obtain ⟨m, hm, gm, lm⟩ := foldO_ok h.n1 h.n2 (p.take (q + 1)) [] (fun x hx => h.good x (List.mem_of_mem_take hx)) (Good.nil n)
  refine ⟨m, ?_, gm, fun b => by rw [lm, look_nil]; rfl⟩
  unfold chain_Fold.f foldL
  rw [if_pos ⟨h.len, h.sized⟩, h.whole]
  simp only
  rw [if_neg (by decide), if_neg (by omega), show (((q + 1 : Nat) : Int) - 1).toNat = q by omega, List.getElem?_eq_getElem hq, Option.bind_some, h.cl, hm]
  rfl
theorem Way.fold_bad {ls p : List SL} {a n : Int} (h : Way ls a p n) (m : Int) (hm : m < 1 ∨ (p.length : Int) < m) : chain_Fold.f ls a m = some (0, [], 0, 1) := by
  unfold chain_Fold.f foldL
  rw [if_pos ⟨h.len, h.sized⟩, h.whole]
  simp only
  rw [if_neg (by decide), if_pos hm]
theorem Way.flat_len {ls p : List SL} {a n : Int} (h : Way ls a p n) : (flatTo p n.toNat).length = 16 * n.toNat := flatTo_len p h.right _
theorem ways_same {ls p ls' p' : List SL} {a a' n : Int} (h : Way ls a p n) (h' : Way ls' a' p' n) (hl : ∀ b, lookP p b = lookP p' b) : flatTo p n.toNat = flatTo p' n.toNat :=
  blk_ext n.toNat (by rw [h.flat_len]; omega) (by rw [h'.flat_len]; omega) fun i hi => by
    rw [flatTo_blk p h.right _ i hi, flatTo_blk p' h'.right _ i hi, through_val p h.good, through_val p' h'.good, hl]
theorem way_flatV {ls p : List SL} {a n : Int} (h : Way ls a p n) {m : List SC} (hm : Good n m) (hl : ∀ b, look m b = lookP p b) : flatV n m = ⟨(flatTo p n.toNat).toArray⟩ := by
  unfold flatV
  rw [blk_ext n.toNat (flat_len hm) (by rw [h.flat_len]; omega) fun i hi => by
    rw [flat_blk hm i (by omega), flatTo_blk p h.right _ i hi, through_val p h.good, ← hl]; rfl]
theorem RowOK.way {n : Int} {ls : List SL} (h : RowOK n ls) (hp : 0 < ls.length) (hl : ls.length ≤ 12) (h1 : 1 ≤ n) (h2 : n ≤ 64) : Way ls (ls.length : Int) ls.reverse n where
  path := h.path hp
  ne := by intro e; rw [List.reverse_eq_nil_iff] at e; rw [e] at hp; exact absurd hp (Nat.lt_irrefl _)
  good := fun x hx => h.good x (List.mem_reverse.1 hx)
  sized := h.sized h2
  len := by omega
  n1 := h1
  n2 := h2
end Go.Proofs.Ytbeloaccgmgocaa.Pr
