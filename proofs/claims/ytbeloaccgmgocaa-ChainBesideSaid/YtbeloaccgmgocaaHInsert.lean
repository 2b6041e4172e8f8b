/- slices.Insert of one cell into a row of the call's own. Condition: the row is the call's own, the new cell lies in another block. -/
import Derived.Test.YtbeloaccgmgocaaHClone
import Derived.Lib.Overlaps
import Derived.Lib.AppendZerosOnto
import Derived.Lib.AppendZeros
import Derived.Laws.NewBlocks
import Derived.Laws.Externs
import Derived.Deep.RegionLaw
namespace Go.Proofs.Ytbeloaccgmgocaa.Pr
open Go.RowKit Go.Proofs.YtbeloaccgmgocaaW.PrintWords Go.Proofs.YtbeloaccgmgocaaW.PrintLast Go.Proofs.Ytbeloaccgmgocaa
set_option linter.unusedVariables false
theorem nmin_r {a b : Nat} (h : b ≤ a) : Nat.min a b = b := Nat.min_eq_right h
theorem nmin_l {a b : Nat} (h : a ≤ b) : Nat.min a b = a := Nat.min_eq_left h
theorem ins_room (cur F e : List Value) (p n2 : Nat) (hF : cur.take n2 = F) (hn : F.length = n2) (hp : p ≤ n2) (hc : p + e.length ≤ cur.length) :
    (cur.take (p + e.length) ++ F.drop p ++ cur.drop (p + e.length + (F.drop p).length)).take p ++ e ++ (cur.take (p + e.length) ++ F.drop p ++ cur.drop (p + e.length + (F.drop p).length)).drop (p + e.length) =
      F.take p ++ e ++ F.drop p ++ cur.drop (p + e.length + (F.drop p).length) := by
  have hl : (cur.take (p + e.length)).length = p + e.length := by rw [List.length_take, Nat.min_eq_left hc]
  have h1 : (cur.take (p + e.length) ++ F.drop p ++ cur.drop (p + e.length + (F.drop p).length)).take p = F.take p := by
    rw [List.append_assoc, List.take_append_of_le_length (by omega), List.take_take, ← hF, List.take_take]
    congr 1; omega
  have h2 : (cur.take (p + e.length) ++ F.drop p ++ cur.drop (p + e.length + (F.drop p).length)).drop (p + e.length) = F.drop p ++ cur.drop (p + e.length + (F.drop p).length) := by
    rw [List.append_assoc, List.drop_left' hl]
  rw [h1, h2]
  simp only [List.append_assoc]
theorem ins_flat (l : List SC) (x : SC) (i : Nat) : (flatE encC l).take (i * 2) ++ encC x ++ (flatE encC l).drop (i * 2) = flatE encC (l.take i ++ x :: l.drop i) := by
  rw [flatE_append, flatE_cons, flatE_take encC_len, flatE_drop encC_len, List.append_assoc]
theorem sizeC : (Try.prog.info? 67).map (·.size) = some 2 := by kernel_rfl
theorem one_read (w : World) (vb : Nat) (x : SC) (t : TypeId) (hb : Blk w vb t (encC x).toArray) : Kd.C kC w (some ⟨vb, 0, none⟩) 1 [x] := by
  refine ⟨rfl, by omega, fun _ => ⟨_, rfl, fun j p hj => ?_⟩⟩
  obtain ⟨hj1, rfl⟩ := List.getElem?_eq_some_iff.1 hj
  have : j = 0 := by simpa using hj1
  subst this
  refine ⟨encC x, rfl, k67_mk w x, fun i u hu => ?_⟩
  rw [Addr.add_lit, hb.cell]
  simpa using hu
set_option maxRecDepth 100000 in
set_option maxHeartbeats 4000000 in
theorem insert_end (B : Nat) (v : Value) (l : List SC) (x : SC) (vb : Nat) (t : TypeId) (w : World) (hl : l.length ≤ 1000000) (hown : ownC w B v l) (hb : Blk w vb t (encC x).toArray) (hB : B ≤ w.heap.size) :
    Calls Try.prog 36 #[v, .int .i64 l.length, .slice (some ⟨vb, 0, none⟩) 1 1] w fun e w' => (∃ v', e = .returned v' ∧ ownC w' B v' (l ++ [x])) ∧ Below B w w' := by
  have hC := one_read w vb x t hb
  obtain ⟨A, c, rfl, hc⟩ : ∃ A c, v = .slice A l.length c ∧ l.length ≤ c := by
    obtain ⟨A, c, h⟩ := own_slice hown
    subst h
    exact ⟨A, c, rfl, own_le hown⟩
  have hc63 : c ≤ 9223372036854775807 := by
    rcases hown.2 with ⟨h, _⟩ | ⟨g, cap, cur, h, _, _, _, hm, _⟩
    · injection h with _ _ h3; omega
    · injection h with _ _ h3; unfold maxLen at hm; omega
  have hA : A = none → c = 0 := by
    rintro rfl
    rcases hown.2 with ⟨h, _⟩ | ⟨g, cap, cur, h, _⟩
    · injection h
    · injection h with h1; cases h1
  have HO := Lib.hid hown
  have HC := Lib.hid hC
  have HA := Lib.hid hA
  clear hown hC hA hb
  obtain ⟨n, hn⟩ : ∃ n, n = l.length := ⟨_, rfl⟩
  have HN := Lib.hid hn
  rw [← hn] at hc hl
  rw [show (Value.slice A l.length c) = Value.slice A n c by rw [hn], show (Value.int IntKind.i64 (l.length : Int)) = Value.int IntKind.i64 (n : Int) by rw [hn]]
  clear hn
  have HO : Hid (ownC w B (.slice A n c) l) := Lib.hid (by have := HO.out; rw [← HN.out] at this; exact this)
  by_cases hcn : c = n
  · subst hcn
    go_enter Try.func36, Try.ntmps36
    go_wp2_with (at_builtin; refine Kd.R_append_rows kC (w0 := w) B rfl _ _ 24 67 _ 24 rfl Try.underlying24 infoC rfl (by decide) (by decide) (.slice A c c) l [x] (some ⟨vb, 0, none⟩) 1 1 (fun _ => True) (fun _ => False) rfl rfl (ownC_R HO.out) HC.out (fun x cs hx => by rw [encC_openK _ _ _ hx]; exact encC_mk _ _ _ x) (fun _ h => h.elim) (fun _ _ => trivial) (Below.refl _ _) hB (by rw [← HN.out]; omega) ?_)
    intro v1 w1 hR hB1 hg hat
    have H1 := Lib.hid (R_ownC hR)
    have H2 := Lib.hid hB1
    clear hR hB1 hg hat
    go_wp2
    go_ret
    exact ⟨⟨_, rfl, H1.out⟩, H2.out⟩
  · skip
    go_enter Try.func36, Try.ntmps36
    go_wp2_with (at_builtin; refine Kd.R_append_rows kC (w0 := w) B rfl _ _ 24 67 _ 24 rfl Try.underlying24 infoC rfl (by decide) (by decide) (.slice A n c) l [x] (some ⟨vb, 0, none⟩) 1 1 (fun _ => True) (fun _ => False) rfl rfl (ownC_R HO.out) HC.out (fun x cs hx => by rw [encC_openK _ _ _ hx]; exact encC_mk _ _ _ x) (fun _ h => h.elim) (fun _ _ => trivial) (Below.refl _ _) hB (by rw [← HN.out]; omega) ?_)
    intro v1 w1 hR hB1 hg hat
    have H1 := Lib.hid (R_ownC hR)
    have H2 := Lib.hid hB1
    clear hR hB1 hg hat
    go_wp2
    go_ret
    exact ⟨⟨_, rfl, H1.out⟩, H2.out⟩
set_option maxRecDepth 100000 in
set_option maxHeartbeats 4000000 in
theorem insert_room (B g n cap i : Nat) (cur : Array Value) (l : List SC) (x : SC) (vb : Nat) (w : World) (hl : l.length = n) (hi : i < n) (hroom : n + 1 ≤ cap) (hcap : cap ≤ maxLen)
    (hg : w.heap[g]? = some (.cells cur 67 (0, 0))) (hcur : cur.size = cap * 2) (htake : cur.toList.take (n * 2) = flatE encC l) (hBg : B ≤ g) (hb : Blk w vb 67 (encC x).toArray) (hne : vb ≠ g) :
    Calls Try.prog 36 #[.slice (some ⟨g, 0, none⟩) n cap, .int .i64 i, .slice (some ⟨vb, 0, none⟩) 1 1] w fun e w' => (∃ v', e = .returned v' ∧ ownC w' B v' (l.take i ++ x :: l.drop i)) ∧ Below B w w' := by
  unfold maxLen at hcap
  have hF : (flatE encC l).length = n * 2 := by rw [flatE_length encC_len, hl]
  have hD : ((flatE encC l).drop (i * 2)).length = (n - i) * 2 := by rw [List.length_drop, hF]; omega
  have hov : ∀ lb cb, (callFunc 52 #[.slice (some ⟨vb, 0, none⟩) 1 1, .slice (some ⟨g, (i + 1) * 2, none⟩) lb cb]).run Try.prog w = .ok (.value (.bool false)) w := fun lb cb => by
    rw [run_callFunc_extern Try.func52 (by kernel_rfl) (by kernel_rfl) (by kernel_rfl) (e := Extern.SlicesOverlaps.overlaps #[24, 24] #[4]) (by kernel_rfl),
      Lib.run_overlaps_apart w 24 4 67 Try.underlying24 2 Try.sizeOf67 ⟨vb, 0, none⟩ ⟨g, (i + 1) * 2, none⟩ 1 1 lb cb hne 67 67 2 cur.size (by show w.shape? vb = _; unfold Blk at hb; simp [World.shape?, hb, encC]) (by show w.shape? g = _; simp [World.shape?, hg]) (by omega) (hb.frozen 0) (hb.frozen 2)]
    rfl
  obtain ⟨r1, hr1⟩ : ∃ r1, r1 = cur.toList.take (i * 2 + 2) ++ (flatE encC l).drop (i * 2) ++ cur.toList.drop (i * 2 + 2 + ((flatE encC l).drop (i * 2)).length) := ⟨_, rfl⟩
  have hr1l : r1.length = cap * 2 := by
    have hc2 : cur.toList.length = cap * 2 := by rw [Array.length_toList, hcur]
    rw [hr1]; simp only [List.length_append, List.length_take, List.length_drop, hF, hc2]; omega
  have hsrc : ∀ j v, ((flatE encC l).drop (i * 2))[j]? = some v → w.cell? ((⟨g, i * 2, none⟩ : Addr).add j) = some v := fun j v hj => by
    rw [Addr.add_lit, cell_of_row w g _ cur _ _ hg]
    rw [List.getElem?_drop, ← htake, List.getElem?_take] at hj
    split at hj
    · rw [← Array.getElem?_toList]; exact hj
    · cases hj
  have hcp1 : ∀ ty dc sc, (Builtin.copy_ #[24, 24] ty #[.slice (some ⟨g, (i + 1) * 2, none⟩) (n - i) dc, .slice (some ⟨g, i * 2, none⟩) (n + 1 - i) sc]).run Try.prog w.drew = .ok (goInt (Nat.min (n + 1 - i) (n - i))) (w.drew.setRow g r1.toArray) := fun ty dc sc => by
    have h := run_copy_rowK (P := Try.prog) w.drew 24 24 ty 67 g ((i + 1) * 2) (n - i) dc ⟨g, i * 2, none⟩ (n + 1 - i) sc cur 67 ((flatE encC l).drop (i * 2)) 2 Try.underlying24 sizeC hg (by rw [hD, nmin_r (by omega)]) hsrc (by rw [hD, hcur]; omega) (fun v hv => flatE_one encC_one l v (List.mem_of_mem_drop hv))
    rw [show (i + 1) * 2 = i * 2 + 2 by omega] at h ⊢
    rw [h, hr1]
  obtain ⟨r2, hr2⟩ : ∃ r2, r2 = r1.take (i * 2) ++ encC x ++ r1.drop (i * 2 + 2) := ⟨_, rfl⟩
  have hB1 : ∀ j v, (encC x)[j]? = some v → (w.drew.setRow g r1.toArray).cell? ((⟨vb, 0, none⟩ : Addr).add j) = some v := fun j v hj => by
    have hb' : Blk (w.drew.setRow g r1.toArray) vb 67 (encC x).toArray := (setRow_other w.drew g vb r1.toArray hne).trans hb
    rw [Addr.add_lit, hb'.cell]
    simpa using hj
  have hcp2 : ∀ ty dc, (Builtin.copy_ #[24, 24] ty #[.slice (some ⟨g, i * 2, none⟩) (n + 1 - i) dc, .slice (some ⟨vb, 0, none⟩) 1 1]).run Try.prog (w.drew.setRow g r1.toArray) = .ok (goInt 1) ((w.drew.setRow g r1.toArray).setRow g r2.toArray) := fun ty dc => by
    have h := run_copy_rowK (P := Try.prog) (w.drew.setRow g r1.toArray) 24 24 ty 67 g (i * 2) (n + 1 - i) dc ⟨vb, 0, none⟩ 1 1 r1.toArray 67 (encC x) 2 Try.underlying24 sizeC (setRow_heap w.drew g cur r1.toArray _ _ hg) (by rw [encC_len, nmin_l (by omega)]) hB1 (by rw [encC_len, List.size_toArray, hr1l]; omega) (encC_one x)
    rw [nmin_l (by omega), encC_len] at h
    rw [h, hr2]; rfl
  obtain ⟨W1, hW1⟩ : ∃ W1, W1 = w.drew.setRow g r1.toArray := ⟨_, rfl⟩
  rw [← hW1] at hcp1 hcp2
  have hfin : ownC (W1.setRow g r2.toArray) B (.slice (some ⟨g, 0, none⟩) (n + 1) cap) (l.take i ++ x :: l.drop i) ∧ Below B w (W1.setRow g r2.toArray) := by
    have hfl := ins_room cur.toList (flatE encC l) (encC x) (i * 2) (n * 2) htake hF (by omega) (by rw [encC_len, Array.length_toList, hcur]; omega)
    rw [encC_len, ← hr1, ← hr2, ins_flat] at hfl
    have hlen : (l.take i ++ x :: l.drop i).length = n + 1 := by simp; omega
    refine ⟨⟨by rw [flatE_length encC_len], .inr ⟨g, cap, r2.toArray, by rw [hlen], hBg, ?_, by rw [hlen]; exact hroom, by unfold maxLen; exact hcap, ?_, ?_⟩⟩, ?_⟩
    · rw [hW1]; exact setRow_heap _ g r1.toArray r2.toArray _ _ (setRow_heap w.drew g cur r1.toArray _ _ hg)
    · rw [List.size_toArray, hr2, List.length_append, List.length_append, List.length_take, List.length_drop, hr1l, encC_len]; omega
    · rw [hfl, List.take_left' (by rw [flatE_length encC_len])]
    · rw [hW1]
      exact below_setRow' (below_setRow' (Below.refl B w).drew hBg _) hBg _
  have FIN := Lib.hid hfin
  have hw1 : IntKind.i64.wrap ((i : Int) + 1) = (i : Int) + 1 := by rw [IntKind.wrap_i64]; omega
  have hw2 : IntKind.i64.wrap ((n : Int) + 1) = (n : Int) + 1 := by rw [IntKind.wrap_i64]; omega
  have hin : ¬ ((i : Int) = (n : Int)) := by omega
  have hile : i ≤ n := by omega
  have hb5 : (i : Int) + 1 ≤ (n : Int) + 1 := by omega
  have hc1 : ¬ (cap = i + 1) := by omega
  have hc2 : ¬ (cap = i) := by omega
  have hb1 : (0 : Int) ≤ (i : Int) + 1 := by omega
  have htn : ((i : Int) + 1).toNat = i + 1 := by omega
  have hb3 : (i : Int) ≤ (n : Int) + 1 := by omega
  clear hfin hW1 hr2 hr1 hr1l hB1 hsrc hD hF hb hg htake hcur hl
  go_enter Try.func36, Try.ntmps36
  go_wp2_with (simp only [hov])
  go_region_law (refine step_copy_run' rfl _ _ 24 24 rfl _ _ (by simp [Act.eval, Act.put]) (by simp [Act.eval, Act.put]) (hcp1 _ _ _) ?_)
  go_wp2_with (at_builtin; refine wpList_copy_run' _ rfl _ _ 24 24 rfl _ _ rfl rfl (hcp2 _ _) ?_)
  go_ret
  exact ⟨⟨_, rfl, FIN.out.1⟩, FIN.out.2⟩
set_option maxRecDepth 100000 in
set_option maxHeartbeats 4000000 in
theorem insert_grow (B g n cap i : Nat) (cur : Array Value) (l : List SC) (x : SC) (vb : Nat) (w : World) (hl : l.length = n) (hi : i < n) (hsm : n ≤ 1000000) (hnc : n ≤ cap) (hroom : cap < n + 1)
    (hg : w.heap[g]? = some (.cells cur 67 (0, 0))) (htake : cur.toList.take (n * 2) = flatE encC l) (hB : B ≤ w.heap.size) (hb : Blk w vb 67 (encC x).toArray) :
    Calls Try.prog 36 #[.slice (some ⟨g, 0, none⟩) n cap, .int .i64 i, .slice (some ⟨vb, 0, none⟩) 1 1] w fun e w' => (∃ v', e = .returned v' ∧ ownC w' B v' (l.take i ++ x :: l.drop i)) ∧ Below B w w' := by
  obtain rfl : cap = n := by omega
  obtain ⟨i0, hi0, hz0, hzs, hzb⟩ := info_parts infoC
  have hglt : g < w.heap.size := (Array.getElem?_eq_some_iff.1 hg).1
  have hF : (flatE encC l).length = cap * 2 := by rw [flatE_length encC_len, hl]
  have hD : ((flatE encC l).drop (i * 2)).length = (cap - i) * 2 := by rw [List.length_drop, hF]; omega
  have hT : ((flatE encC l).take (i * 2)).length = i * 2 := by rw [List.length_take, hF]; omega
  have hread : ∀ j v, (flatE encC l)[j]? = some v → w.cell? ⟨g, j, none⟩ = some v := fun j v hj => by
    rw [cell_of_row w g _ cur _ _ hg]
    rw [← htake, List.getElem?_take] at hj
    split at hj
    · rw [← Array.getElem?_toList]; exact hj
    · cases hj
  have hold : (Builtin.firstCells i0.size i (.slice (some ⟨g, 0, none⟩) i cap)).run Try.prog w.drew = .ok ((flatE encC l).take (i * 2)).toArray w.drew := by
    rw [hzs]
    exact run_firstCells_some w.drew 2 i ⟨g, 0, none⟩ i cap ((flatE encC l).take (i * 2)) hT (fun j v hj => by
      rw [Addr.add_lit, Nat.zero_add]
      rw [List.getElem?_take] at hj
      split at hj
      · exact hread j v hj
      · cases hj)
  have hik : i + (cap + 1 - i) = cap + 1 := by omega
  have hkk : (cap : Int) + 1 - (i : Int) = ((cap + 1 - i : Nat) : Int) := by omega
  obtain ⟨G, hG⟩ : ∃ G, G = grownCap w (cap + 1) cap 67 := ⟨_, rfl⟩
  obtain ⟨ROW, hROW⟩ : ∃ ROW : Array Value, ROW = ((flatE encC l).take (i * 2)).toArray ++ Builtin.zeroCells (Value.agg #[.int .i64 0, .string ⟨#[]⟩]).cells (cap + 1 - i) ++ Builtin.zeroCells (Value.agg #[.int .i64 0, .string ⟨#[]⟩]).cells (G - (cap + 1)) := ⟨_, rfl⟩
  have hrz : ∀ ty, (Builtin.append_ #[24, 3] ty #[.slice (some ⟨g, 0, none⟩) i cap, .int .i64 ((cap : Int) + 1 - (i : Int))]).run Try.prog w =
      .ok (.slice (some ⟨w.heap.size, 0, none⟩) (cap + 1) G) (w.drew.alloc (.cells ROW 67)) := fun ty => by
    have h := Lib.run_append_grow_zeros w 24 3 ty 67 i0 _ .i64 .i64 Try.underlying24 Try.underlying3 hi0 hz0 (some ⟨g, 0, none⟩) i cap ((flatE encC l).take (i * 2)) hold (cap + 1 - i) (by omega) (by omega) (by omega) (by omega) (by rw [hzb]; omega) (by rw [hzb, hik]; exact growslice_fits hroom (by omega))
    rw [hik] at h
    rw [hkk, hROW, hG]
    exact h
  have hGn : cap + 1 ≤ G := by rw [hG]; exact grownCap_ge w _ _ _
  have hG63 : G ≤ 9223372036854775807 := by
    have := grownCap_le_maxLen w (cap + 1) cap 67 (by unfold maxLen; omega)
    rw [← hG] at this
    unfold maxLen at this
    omega
  have hRs : ROW.size = G * 2 := by
    rw [hROW, Array.size_append, Array.size_append, List.size_toArray, hT]
    simp [Builtin.zeroCells, Value.cells]
    omega
  obtain ⟨W1, hW1⟩ : ∃ W1, W1 = w.drew.alloc (.cells ROW 67) := ⟨_, rfl⟩
  have hA : W1.heap[w.heap.size]? = some (.cells ROW 67 (0, 0)) := by rw [hW1]; exact heap_alloc_new w.drew _
  obtain ⟨r1, hr1⟩ : ∃ r1, r1 = ROW.toList.take (i * 2) ++ encC x ++ ROW.toList.drop (i * 2 + 2) := ⟨_, rfl⟩
  have hRl : ROW.toList.length = G * 2 := by rw [Array.length_toList, hRs]
  have hr1l : r1.length = G * 2 := by rw [hr1]; simp only [List.length_append, List.length_take, List.length_drop, encC_len, hRl]; omega
  have hvlt : vb < w.heap.size := hb.lt
  have hbW : Blk W1 vb 67 (encC x).toArray := by rw [hW1]; exact hb.alloc _
  have hcpA : ∀ ty dc, (Builtin.copy_ #[24, 24] ty #[.slice (some ⟨w.heap.size, i * 2, none⟩) (cap + 1 - i) dc, .slice (some ⟨vb, 0, none⟩) 1 1]).run Try.prog W1 = .ok (goInt 1) (W1.setRow w.heap.size r1.toArray) := fun ty dc => by
    have h := run_copy_rowK (P := Try.prog) W1 24 24 ty 67 w.heap.size (i * 2) (cap + 1 - i) dc ⟨vb, 0, none⟩ 1 1 ROW 67 (encC x) 2 Try.underlying24 sizeC hA (by rw [encC_len, nmin_l (by omega)]) (fun j v hj => by rw [Addr.add_lit, hbW.cell]; simpa using hj) (by rw [encC_len, hRs]; omega) (encC_one x)
    rw [nmin_l (by omega), encC_len] at h
    rw [h, hr1]; rfl
  obtain ⟨W2, hW2⟩ : ∃ W2, W2 = W1.setRow w.heap.size r1.toArray := ⟨_, rfl⟩
  rw [← hW2] at hcpA
  obtain ⟨r2, hr2⟩ : ∃ r2, r2 = r1.take ((i + 1) * 2) ++ (flatE encC l).drop (i * 2) ++ r1.drop ((i + 1) * 2 + ((flatE encC l).drop (i * 2)).length) := ⟨_, rfl⟩
  have hA2 : W2.heap[w.heap.size]? = some (.cells r1.toArray 67 (0, 0)) := by rw [hW2]; exact setRow_heap W1 w.heap.size ROW r1.toArray _ _ hA
  have hsrcB : ∀ j v, ((flatE encC l).drop (i * 2))[j]? = some v → W2.drew.cell? ((⟨g, i * 2, none⟩ : Addr).add j) = some v := fun j v hj => by
    rw [List.getElem?_drop] at hj
    have h1 := hread _ v hj
    have hg1 : W1.heap[g]? = w.heap[g]? := by rw [hW1]; exact Below.heap_alloc w.drew _ g hglt
    have hg2 : W2.heap[g]? = w.heap[g]? := by rw [hW2, setRow_other W1 w.heap.size g r1.toArray (by omega)]; exact hg1
    rw [Addr.add_lit]
    rw [cell_of_row w g _ cur _ _ hg] at h1
    rw [show W2.drew.cell? ⟨g, i * 2 + j, none⟩ = W2.cell? ⟨g, i * 2 + j, none⟩ from rfl, cell_of_row W2 g _ cur _ _ (hg2.trans hg)]
    exact h1
  have hcpB : ∀ ty dc sc, (Builtin.copy_ #[24, 24] ty #[.slice (some ⟨w.heap.size, (i + 1) * 2, none⟩) (cap - i) dc, .slice (some ⟨g, i * 2, none⟩) (cap - i) sc]).run Try.prog W2.drew = .ok (goInt (Nat.min (cap - i) (cap - i))) (W2.drew.setRow w.heap.size r2.toArray) := fun ty dc sc => by
    have h := run_copy_rowK (P := Try.prog) W2.drew 24 24 ty 67 w.heap.size ((i + 1) * 2) (cap - i) dc ⟨g, i * 2, none⟩ (cap - i) sc r1.toArray 67 ((flatE encC l).drop (i * 2)) 2 Try.underlying24 sizeC hA2 (by rw [hD, nmin_r (Nat.le_refl _)]) hsrcB (by rw [hD, List.size_toArray, hr1l]; omega) (fun v hv => flatE_one encC_one l v (List.mem_of_mem_drop hv))
    rw [h, hr2]
  have hfin : ownC (W2.drew.setRow w.heap.size r2.toArray) B (.slice (some ⟨w.heap.size, 0, none⟩) (cap + 1) G) (l.take i ++ x :: l.drop i) ∧ Below B w (W2.drew.setRow w.heap.size r2.toArray) := by
    have hlen : (l.take i ++ x :: l.drop i).length = cap + 1 := by simp; omega
    have hx1 : r1.take ((i + 1) * 2) = (flatE encC l).take (i * 2) ++ encC x := by
      have h1 : ROW.toList.take (i * 2) = (flatE encC l).take (i * 2) := by
        rw [hROW, Array.toList_append, Array.toList_append, List.append_assoc, List.take_left' (by rw [List.toList_toArray, hT])]
      rw [hr1, h1, List.take_left' (by rw [List.length_append, hT, encC_len]; omega)]
    refine ⟨⟨by rw [flatE_length encC_len], .inr ⟨w.heap.size, G, r2.toArray, by rw [hlen], hB, ?_, by rw [hlen]; exact hGn, by unfold maxLen; exact hG63, ?_, ?_⟩⟩, ?_⟩
    · exact setRow_heap W2.drew w.heap.size r1.toArray r2.toArray _ _ hA2
    · rw [List.size_toArray, hr2]; simp only [List.length_append, List.length_take, List.length_drop, hr1l, hF]; omega
    · show List.take _ r2 = _
      rw [hr2, hx1, ins_flat, List.take_left' (by rw [flatE_length encC_len])]
    · refine below_setRow' ?_ hB _
      refine Below.drew ?_
      rw [hW2]
      refine below_setRow' ?_ hB _
      rw [hW1]
      exact ((Below.refl B w).drew).alloc hB _
  have FIN := Lib.hid hfin
  have hw1 : IntKind.i64.wrap ((i : Int) + 1) = (i : Int) + 1 := by rw [IntKind.wrap_i64]; omega
  have hw2 : IntKind.i64.wrap ((cap : Int) + 1) = (cap : Int) + 1 := by rw [IntKind.wrap_i64]; omega
  have hw3 : IntKind.i64.wrap ((cap : Int) + 1 - (i : Int)) = (cap : Int) + 1 - (i : Int) := by rw [IntKind.wrap_i64]; omega
  have hin : ¬ ((i : Int) = (cap : Int)) := by omega
  have hile : i ≤ cap := by omega
  have hb5 : (i : Int) + 1 ≤ (cap : Int) + 1 := by omega
  have hc1 : ¬ (G = i + 1) := by omega
  have hc2 : ¬ (G = i) := by omega
  have hc3 : ¬ (cap = i) := by omega
  have hb1 : (0 : Int) ≤ (i : Int) + 1 := by omega
  have htn : ((i : Int) + 1).toNat = i + 1 := by omega
  have hb3 : (i : Int) ≤ (cap : Int) + 1 := by omega
  have hrz' : ∀ ty, (Builtin.append_ #[24, 3] ty #[.slice (some ⟨g, 0, none⟩) i cap, .int .i64 ((cap : Int) + 1 - (i : Int))]).run Try.prog w = .ok (.slice (some ⟨w.heap.size, 0, none⟩) (cap + 1) G) W1 := fun ty => by rw [hW1]; exact hrz ty
  clear hfin hW1 hW2 hr2 hr1 hr1l hsrcB hD hF hb hg htake hl hrz hROW hG hRs hRl hA hA2 hbW hold hread hT hkk hik hi0 hz0 hzs hzb
  go_enter Try.func36, Try.ntmps36
  go_wp2_with (first
    | (at_builtin; refine Lib.wpList_append_run _ rfl _ _ _ _ rfl _ _ rfl rfl _ _ (hrz' _) ?_)
    | (at_builtin; refine wpList_copy_run' _ rfl _ _ 24 24 rfl _ _ rfl rfl (hcpA _ _) ?_))
  go_region_law (refine step_copy_run' rfl _ _ 24 24 rfl _ _ (by simp [Act.eval, Act.put]) (by simp [Act.eval, Act.put]) (hcpB _ _ _) ?_)
  go_wp2
  go_ret
  exact ⟨⟨_, rfl, FIN.out.1⟩, FIN.out.2⟩
/-- one more cell, at place i -/
theorem insert_any (B : Nat) (v : Value) (l : List SC) (x : SC) (i vb : Nat) (w : World) (hl : l.length ≤ 1000000) (hi : i ≤ l.length) (hown : ownC w B v l) (hb : Blk w vb 67 (encC x).toArray) (hne : v.ownBlock ≠ some vb) (hB : B ≤ w.heap.size) :
    Calls Try.prog 36 #[v, .int .i64 i, .slice (some ⟨vb, 0, none⟩) 1 1] w fun e w' => (∃ v', e = .returned v' ∧ ownC w' B v' (l.take i ++ x :: l.drop i)) ∧ Below B w w' := by
  by_cases he : i = l.length
  · subst he
    rw [List.take_length, List.drop_length]
    exact insert_end B v l x vb _ w hl hown hb hB
  · rcases hown.2 with ⟨_, h0⟩ | ⟨g, cap, cur, rfl, hBg, hg, hn, hm, hcs, ht⟩
    · omega
    · have hne' : vb ≠ g := fun e => hne (by rw [e]; rfl)
      by_cases hr : l.length + 1 ≤ cap
      · exact insert_room B g l.length cap i cur l x vb w rfl (by omega) hr hm hg hcs ht hBg hb hne'
      · exact insert_grow B g l.length cap i cur l x vb w rfl (by omega) hl hn (by omega) hg ht hB hb
end Go.Proofs.Ytbeloaccgmgocaa.Pr
