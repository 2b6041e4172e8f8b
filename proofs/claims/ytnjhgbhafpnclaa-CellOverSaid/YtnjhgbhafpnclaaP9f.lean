/- Plain laws of all clusters of an image: sixteen bytes each. No conditions but that the image is right. -/
import Derived.Test.YtnjhgbhafpnclaaP9
import Derived.Test.YtnjhgbhafpnclaaHFlat

namespace Go.Proofs.Ytnjhgbhafpnclaa.Pr
open Go.RowKit Go.Proofs.Ytnjhgbhafpnclaa Go.Proofs.YtnjhgbhafpnclaaW.PrintWords Go.Proofs.YtnjhgbhafpnclaaW.PrintLast
/-- what a cluster reads, noughts where there is none -/
def valV (m : List SC) (a : Int) : ByteArray := match look m a with | none => z16 | some t => txt t
theorem valV_size {n : Int} {m : List SC} (h : Good n m) (a : Int) : (valV m a).size = 16 := by
  unfold valV
  split
  · rfl
  · rename_i t ht; exact txt_size h ht
def flatV (n : Int) (m : List SC) : ByteArray := ⟨(layAll (nts (n.toNat * 16)) m).toArray⟩
theorem Good.flat {n : Int} {m : List SC} (h : Good n m) (h1 : 1 ≤ n) (h2 : n ≤ 64) : cell_Flat.f n m = some (flatV n m) := by
  unfold cell_Flat.f
  rw [if_pos ⟨by have := h.length h2; unfold maxLen; omega, h.sized⟩, h.right h1 h2, if_pos rfl]; rfl
def blk (b : List UInt8) (i : Nat) : List UInt8 := (b.drop (16 * i)).take 16
theorem textB_eq (t : ByteArray) : textB t = txt t := by
  unfold textB txt
  split <;> rfl
theorem lay_len (b : List UInt8) (o : Nat) (s : ByteArray) (h : o + s.size ≤ b.length) : (lay b o s).length = b.length := lay_length b o s h
theorem data_len (s : ByteArray) : s.data.toList.length = s.size := Array.length_toList
theorem blk_lay (b : List UInt8) (a i : Nat) (s : ByteArray) (hs : s.size = 16) (h : a * 16 + 16 ≤ b.length) : blk (lay b (a * 16) s) i = if i = a then s.data.toList else blk b i := by
  have hl := data_len s
  have hd : (b.take (a * 16)).length = a * 16 := by rw [List.length_take]; omega
  split
  · rename_i e
    subst e
    unfold blk lay
    rw [List.append_assoc, List.drop_append_of_le_length (by omega), List.drop_of_length_le (l := b.take (i * 16)) (by omega), List.nil_append, List.take_append_of_le_length (by omega), List.take_of_length_le (by omega)]
  · rename_i e
    apply List.ext_getElem?
    intro j
    unfold blk lay
    simp only [List.getElem?_take, List.getElem?_drop]
    by_cases hj : j < 16
    · rw [if_pos hj, if_pos hj, List.append_assoc]
      by_cases hlt : i < a
      · rw [List.getElem?_append_left (by omega), List.getElem?_take, if_pos (by omega)]
      · rw [List.getElem?_append_right (by omega), List.getElem?_append_right (by omega), List.getElem?_drop]
        congr 1; omega
    · rw [if_neg hj, if_neg hj]
theorem layAll_len {n : Int} (l : List SC) : ∀ b : List UInt8, b.length = n.toNat * 16 → (∀ x ∈ l, 0 ≤ x.f0 ∧ x.f0 < n ∧ (textB x.f1).size = 16) → (layAll b l).length = n.toNat * 16 := by
  induction l with
  | nil => intro b h _; exact h
  | cons c l ih =>
    intro b h hx
    have hc := hx c (by simp)
    exact ih _ (by rw [lay_len _ _ _ (by omega)]; exact h) (fun y hy => hx y (by simp [hy]))
theorem blk_layAll {n : Int} (l : List SC) : ∀ b : List UInt8, b.length = n.toNat * 16 → Srt l → (∀ x ∈ l, 0 ≤ x.f0 ∧ x.f0 < n ∧ (textB x.f1).size = 16) → ∀ i : Nat, blk (layAll b l) i = match look l (i : Int) with | none => blk b i | some t => (txt t).data.toList := by
  induction l with
  | nil => intro b _ _ _ i; rfl
  | cons c l ih =>
    intro b h hs hx i
    have hc := hx c (by simp)
    have hi := ih (lay b (c.f0.toNat * 16) (textB c.f1)) (by rw [lay_len _ _ _ (by omega)]; exact h) hs.tail (fun y hy => hx y (by simp [hy])) i
    show blk (layAll (lay b (c.f0.toNat * 16) (textB c.f1)) l) i = _
    rw [hi, look_cons, blk_lay _ _ _ _ hc.2.2 (by omega)]
    by_cases e : c.f0 = (i : Int)
    · rw [if_pos e, look_none (l := l) (fun y hy => by have := hs.head y hy; omega)]
      dsimp only
      rw [if_pos (by omega), textB_eq]
    · rw [if_neg e]
      cases look l (i : Int) with
      | some t => rfl
      | none => dsimp only; rw [if_neg (by omega)]
theorem Good.laid {n : Int} {m : List SC} (h : Good n m) : ∀ x ∈ m, 0 ≤ x.f0 ∧ x.f0 < n ∧ (textB x.f1).size = 16 := by
  intro x hx
  have := h.2 x hx
  refine ⟨this.1, this.2.1, ?_⟩
  unfold textB
  split
  · rfl
  · omega
theorem nts_len (k : Nat) : (nts k).length = k := by unfold nts; simp
theorem blk_nts (k i : Nat) (h : i < k) : blk (nts (k * 16)) i = z16.data.toList := by
  unfold blk nts
  rw [List.drop_replicate, List.take_replicate, show min 16 (k * 16 - 16 * i) = 16 by omega]
  rfl
theorem flat_blk {n : Int} {m : List SC} (h : Good n m) (i : Nat) (hi : (i : Int) < n) : blk (layAll (nts (n.toNat * 16)) m) i = (valV m i).data.toList := by
  rw [blk_layAll m _ (nts_len _) h.1 h.laid i]
  unfold valV
  cases look m (i : Int) with
  | none => exact blk_nts _ _ (by omega)
  | some t => rfl
theorem flat_len {n : Int} {m : List SC} (h : Good n m) : (layAll (nts (n.toNat * 16)) m).length = n.toNat * 16 := layAll_len m _ (nts_len _) h.laid
theorem flatV_size {n : Int} {m : List SC} (h1 : 1 ≤ n) (h : Good n m) : ((flatV n m).size : Int) = 16 * n := by
  show (((layAll (nts (n.toNat * 16)) m).toArray.size : Nat) : Int) = _
  rw [List.size_toArray, flat_len h]; omega
theorem flatV_ext {n : Int} {m : List SC} (h : Good n m) (i : Nat) (hi : (i : Int) < n) : (flatV n m).extract (16 * i) (16 * i + 16) = valV m i := by
  apply ByteArray.ext
  rw [ByteArray.data_extract]
  apply Array.ext'
  rw [Array.toList_extract, ← flat_blk h i hi]
  show List.extract (layAll (nts (n.toNat * 16)) m) _ _ = _
  unfold blk List.extract
  rw [show 16 * i + 16 - 16 * i = 16 by omega]
theorem blk_ext {a b : List UInt8} (k : Nat) (ha : a.length = k * 16) (hb : b.length = k * 16) (h : ∀ i, i < k → blk a i = blk b i) : a = b := by
  apply List.ext_getElem?
  intro j
  by_cases hj : j < k * 16
  · have := congrArg (fun l : List UInt8 => l[j % 16]?) (h (j / 16) (by omega))
    unfold blk at this
    simp only [List.getElem?_take, List.getElem?_drop] at this
    rw [if_pos (by omega), if_pos (by omega), show 16 * (j / 16) + j % 16 = j by omega] at this
    exact this
  · rw [List.getElem?_eq_none (by omega), List.getElem?_eq_none (by omega)]
theorem flatV_eq {n : Int} {m k : List SC} (hk : Good n k) (hm : Good n m) (h : ∀ a, 0 ≤ a ∧ a < n → valV k a = valV m a) : flatV n k = flatV n m := by
  unfold flatV
  rw [blk_ext n.toNat (flat_len hk) (flat_len hm) (fun i hi => by rw [flat_blk hk i (by omega), flat_blk hm i (by omega), h i (by omega)])]
end Go.Proofs.Ytnjhgbhafpnclaa.Pr
