/- rootcellarlaw14.grown: a tree behind acts; what is planned is short and bears no long text. Conditions: the acts are not more than a million, their numbers are numbers of Go, no name is longer than a million; the tables of unicode/utf8 lie in memory. -/
import Derived.Test.YtfdhehjfbcddgaaDoorTLPlan
import Derived.Test.YtfdhehjfbcddgaaDoorTDone
namespace Go.Proofs.YtfdhehjfbcddgaaDoor.Pr
open Go.RowKit Go.Proofs.YtfdhehjfbcddgaaDoorW.PrintWords Go.Proofs.YtfdhehjfbcddgaaDoorW.PrintLast Go.Proofs.YtfdhehjfbcddgaaDoor
set_option linter.unusedVariables false
def PsOk (k : Nat) (s : Ps) : Prop := s.ss.length ≤ k ∧ ∀ x ∈ s.ss, x.text.size = 0
theorem psok_do {k : Nat} {s : Ps} (h : PsOk k s) (a b c : Int) : PsOk (k + 1) (doN s (st3 a b c)) := by
  unfold doN
  split
  · refine ⟨by have := h.1; simp; omega, fun x hx => ?_⟩
    rcases List.mem_append.1 hx with hx | hx
    · exact h.2 x hx
    · rw [List.mem_singleton] at hx; subst hx; rfl
  · exact ⟨Nat.le_succ_of_le h.1, h.2⟩
theorem psok_down {k : Nat} {s : Ps} (h : PsOk k s) (x : Nd) (kid : Int) : PsOk (k + 2) (downN s x kid) := by
  unfold downN
  refine psok_do ?_ 3 x.id 0
  split
  · exact psok_do (s := ⟨s.t, s.ms ++ [⟨kid, x.id⟩], s.ss⟩) h 6 x.par 0
  · exact psok_do (s := ⟨s.t, s.ms ++ [⟨kid, x.id⟩], s.ss⟩) h 4 kid x.par
theorem psok_clear : ∀ (f k : Nat) (s : Ps), PsOk k s → PsOk (k + f) (clearN f s) := by
  intro f
  induction f with
  | zero => intro k s h; exact h
  | succ f ih =>
    intro k s h
    rw [clearN]
    split
    · exact ⟨by have := h.1; omega, h.2⟩
    · have := ih (k + 1) _ (psok_do h 3 (s.t.l.getD ‹Nat› zN).id 0)
      rw [show k + (f + 1) = k + 1 + f by omega]
      exact this
theorem PsOk.mono {k k' : Nat} {s : Ps} (h : PsOk k s) (hk : k ≤ k') : PsOk k' s := ⟨Nat.le_trans h.1 hk, h.2⟩
theorem psok_short {k : Nat} {s : Ps} (h : PsOk k s) (bound : Int) : ∀ l' : List Nd, PsOk (k + 2) (shortN s bound l').1 := by
  intro l'
  induction l' with
  | nil => exact h.mono (by omega)
  | cons x l' ih =>
    rw [shortN]
    split
    · exact ih
    split
    · exact (psok_do h _ _ _).mono (by omega)
    split
    · exact psok_down h _ _
    split
    · exact PsOk.mono (k' := k + 2) (psok_do (k := k) (s := ⟨s.t, s.ms ++ [⟨x.id, (findN s.t.l x.par).1.id⟩], s.ss⟩) h 4 x.id (findN s.t.l x.par).1.par) (by omega)
    · exact ih
theorem psok_con (bound : Int) : ∀ (f k : Nat) (s : Ps), PsOk k s → PsOk (k + 2 * f) (conF bound f s) := by
  intro f
  induction f with
  | zero => intro k s h; exact h
  | succ f ih =>
    intro k s h
    rw [conF]
    split
    · exact (ih (k + 2) _ (psok_short h bound _)).mono (by omega)
    · exact h.mono (by omega)
def PlanOk (p : Pl) : Prop := p.ss.length ≤ 1099511627776 ∧ ∀ x ∈ p.ss, x.text.size ≤ 1000000
theorem planok_of {k : Nat} {s : Ps} (h : PsOk k s) (hk : k ≤ 1099511627776) (ms : List Mg) : PlanOk ⟨ms, s.ss⟩ := ⟨Nat.le_trans h.1 hk, fun x hx => by rw [h.2 x hx]; exact Nat.zero_le _⟩
theorem planok_zero : PlanOk zP := ⟨Nat.zero_le _, fun x hx => by cases hx⟩
theorem psok_nil (t : Tr) : PsOk 0 ⟨t, [], []⟩ := ⟨Nat.le_refl _, fun x hx => by cases hx⟩
theorem planok_clear {t : Tr} {st : St} {a b c : Int} (h : RightP t) (hs : st = st3 a b c) : PlanOk (planC (doN ⟨t, [], []⟩ st)) := by
  subst hs
  have h1 : RightP (doN ⟨t, [], []⟩ (st3 a b c)).t := right_do (s := ⟨t, [], []⟩) h
  exact planok_of (psok_clear _ 1 _ (psok_do (psok_nil t) a b c)) (by have := h1.len; omega) _
theorem plan_ok (t : Tr) (a : Ac) (ha : a.name.size ≤ 1000000) : PlanOk (planN t a).1 := by
  unfold planN
  split
  · unfold snapN
    split
    · exact planok_zero
    split
    · exact planok_zero
    · refine ⟨by show (2 : Nat) ≤ _; decide, fun x hx => ?_⟩
      simp only [List.mem_cons, List.not_mem_nil, or_false] at hx
      rcases hx with rfl | rfl
      · exact ha
      · exact Nat.zero_le _
  split
  · unfold revertN
    split
    · rename_i h0
      exact planok_clear (node_ok h0).1 rfl
    · exact planok_zero
  split
  · unfold deleteN
    split
    · rename_i h0
      split
      · exact planok_zero
      split
      · exact planok_zero
      split
      · exact planok_clear (node_ok h0).1 rfl
      split
      · exact planok_of (psok_down (psok_nil t) _ _) (by decide) _
      · exact planok_of (psok_do (psok_nil t) _ _ _) (by decide) _
    · exact planok_zero
  split
  · exact ⟨by show (1 : Nat) ≤ _; decide, fun x hx => by rw [List.mem_singleton] at hx; subst hx; exact Nat.zero_le _⟩
  split
  · unfold consN
    split
    · exact planok_zero
    · rename_i h0
      have hR : RightP t := (right_iff t).1 (by cases hh : rightN t; exact absurd (.inl hh) h0; rfl)
      exact planok_of (psok_con a.n _ 0 _ (psok_nil t)) (by have := mea_right hR; omega) _
  · exact ⟨by show (1 : Nat) ≤ _; decide, fun x hx => by rw [List.mem_singleton] at hx; subst hx; exact Nat.zero_le _⟩
theorem done_small : ∀ (ss : List St) (t : Tr), SmallT t → (∀ s ∈ ss, s.text.size ≤ 1000000) → SmallT (doneN t ss).1 := by
  intro ss
  induction ss with
  | nil => intro t h _; exact h
  | cons s ss ih =>
    intro t h hs
    rw [done_on]
    split
    · rename_i h0
      exact ih _ (small_apply h (hs s (by simp)) h0) (fun x hx => hs x (by simp [hx]))
    · exact h
theorem grow_small {t : Tr} {a : Ac} (h : SmallT t) (ha : a.name.size ≤ 1000000) : SmallT (growN t a) := by
  unfold growN
  split
  · exact done_small _ _ h (plan_ok t a ha).2
  · exact h
theorem new_small : SmallT newT := ⟨by decide, fun x hx => by rw [show newT.l = [⟨1, 0, rootS, 0, false, false⟩] from rfl, List.mem_singleton] at hx; subst hx; decide⟩
theorem new_any (w : World) : Calls Tryd.prog 11 #[] w fun e w' => ∃ A cap, e = .returned (.agg #[.slice A 1 cap, .int .i64 1, .int .i64 2, .int .u64 0]) ∧ 1 ≤ cap ∧ NodesAt w' A newT.l ∧ Below w.heap.size w w' := by
  refine (tnew_any w).mono ?_
  rintro e w' ⟨v, rfl, ⟨A, cap, rfl, hc, hn⟩, hb⟩
  exact ⟨A, cap, rfl, hc, hn, hb⟩
set_option maxRecDepth 100000 in
set_option maxHeartbeats 8000000 in
theorem grown_any (A : Option Addr) (cap : Nat) (l : List Ac) (w : World) (hl : l.length ≤ 1000000) (hr : ActsAt w A l) (hT : Tabs w) (hok : ∀ a ∈ l, AcOk a) (hnm : ∀ a ∈ l, a.name.size ≤ 1000000) :
    Calls Tryd.prog 18 #[.slice A l.length cap] w fun e w' => ∃ v, e = .returned v ∧ TrAt w' v (grownN l) ∧ Below w.heap.size w w' := by
  obtain ⟨n, hn⟩ : ∃ n, l.length = n := ⟨_, rfl⟩
  obtain ⟨D, hD⟩ : ∃ D, grownN l = D := ⟨_, rfl⟩
  have HD0 := Lib.hid (show (l.drop 0).foldl growN newT = D ∧ SmallT newT from ⟨hD, new_small⟩)
  rw [hD, hn]
  rw [hn] at hl
  have HN0 := Lib.hid hn
  have HAR := Lib.hid hr
  have HTT := Lib.hid hT
  have HOK := Lib.hid hok
  have HNM := Lib.hid hnm
  clear hr hT hok hnm hD hn
  have hb0 : Below w.heap.size w (w.alloc (.cells #[.slice none 0 0, .int .i64 0, .int .i64 0, .int .u64 0] 28)) := (Below.refl _ _).alloc (Nat.le_refl _) _
  have hk0 := Blk.new w 28 #[.slice none 0 0, .int .i64 0, .int .i64 0, .int .u64 0]
  have hnew := new_any (w.alloc (.cells #[.slice none 0 0, .int .i64 0, .int .i64 0, .int .u64 0] 28))
  have HNW := Lib.hid hnew
  clear hnew
  go_enter Tryd.func18, Tryd.ntmps18
  go_upto_region 1 with fail
  generalize (w.alloc (.cells #[.slice none 0 0, .int .i64 0, .int .i64 0, .int .u64 0] 28)) = w0 at hb0 hk0 HNW ⊢
  have HB0 := Lib.hid hb0
  have HK0 := Lib.hid hk0
  clear hb0 hk0
  go_wp2_with fail
  refine HNW.out.mono ?_
  rintro e w1 ⟨A1, cp1, rfl, hc1, hn1, hb1⟩
  obtain ⟨gt, hgt⟩ : ∃ gt, gt = w1.heap.size := ⟨_, rfl⟩
  have hw0 : w.heap.size < w1.heap.size := Nat.lt_of_lt_of_le HK0.out.lt hb1.size
  have hgw : w.heap.size < gt := by omega
  have hk1 := HK0.out.below hb1 HK0.out.lt
  have hb1' := HB0.out.trans (hb1.mono HB0.out.size)
  have HG := Lib.hid hgt
  have HC1 := Lib.hid hc1
  have HN1 := Lib.hid hn1
  have HK1 := Lib.hid hk1
  have HB1 := Lib.hid hb1'
  clear hgt hc1 hn1 hk1 hb1 hb1' HB0 HK0 HNW hw0
  go_upto_region 2 with fail
  have hbx : Below w1.heap.size w1 (w1.alloc (.cells #[.slice A1 1 cp1, .int .i64 1, .int .i64 2, .int .u64 0] 28)) := (Below.refl _ _).alloc (Nat.le_refl _) _
  have hkx := Blk.new w1 28 #[.slice A1 1 cp1, .int .i64 1, .int .i64 2, .int .u64 0]
  rw [← HG.out] at hkx ⊢
  generalize (w1.alloc (.cells #[.slice A1 1 cp1, .int .i64 1, .int .i64 2, .int .u64 0] 28)) = w2 at hbx hkx ⊢
  have HKG := Lib.hid hkx
  have HKR := Lib.hid (HK1.out.below hbx HK1.out.lt)
  have HNX := Lib.hid (HN1.out.below hbx)
  have HBX := Lib.hid (HB1.out.trans (hbx.mono HB1.out.size))
  clear hbx hkx HK1 HN1 HB1 HG
  go_wp2_with fail
  go_loopg [4] n (fun k v4 wr => ∃ (j : Nat) (l' : List Nd) (lv' nx' nw' : Int) (A' : Option Addr) (cap' n' : Nat), j + k = n ∧ v4 = .int .i64 (j : Int) ∧ Hid ((l.drop j).foldl growN ⟨l', lv', nx', nw'⟩ = D ∧ SmallT ⟨l', lv', nx', nw'⟩) ∧ Hid (l'.length = n') ∧ Hid (Blk wr gt 28 #[.slice A' n' cap', .int .i64 lv', .int .i64 nx', .int .u64 nw']) ∧ Hid (n' ≤ cap') ∧ Hid (NodesAt wr A' l') ∧ Hid (Blk wr w.heap.size 28 #[.slice none 0 0, .int .i64 0, .int .i64 0, .int .u64 0]) ∧ Hid (Below w.heap.size w wr))
  case atStart => exact ⟨0, newT.l, 1, 2, 0, A1, cp1, 1, by omega, rfl, HD0, Lib.hid rfl, HKG, HC1, HNX, HKR, HBX⟩
  case round =>
    clear HKG HKR HNX HBX HC1 HD0
    obtain ⟨j, l', lv', nx', nw', A', cap', n', hjk, rfl, HD, HN, HK0, HCP, HR, HK2, HB⟩ := hrel
    have hlg : gt < wr.heap.size := HK0.out.lt
    have p0 : wr.cell? ⟨gt, 0, none⟩ = some (.slice A' n' cap') := (HK0.out.cell 0).trans rfl
    have p1 : wr.cell? ⟨gt, 1, none⟩ = some (.int .i64 lv') := (HK0.out.cell 1).trans rfl
    have p2 : wr.cell? ⟨gt, 2, none⟩ = some (.int .i64 nx') := (HK0.out.cell 2).trans rfl
    have p3 : wr.cell? ⟨gt, 3, none⟩ = some (.int .u64 nw') := (HK0.out.cell 3).trans rfl
    by_cases hlt : j < n
    · have hjl : j < l.length := by rw [HN0.out]; exact hlt
      have hds := HD.out.1
      rw [List.drop_eq_getElem_cons hjl, List.foldl_cons] at hds
      have hsz := HNM.out _ (List.getElem_mem hjl)
      have hak := HOK.out _ (List.getElem_mem hjl)
      obtain ⟨b2, off, rfl, hob, hcell⟩ := HAR.out (by omega)
      obtain ⟨d0, d1, d2, d3⟩ := acts_get hcell j hjl
      have hl2 : b2 < wr.heap.size := Nat.lt_of_lt_of_le hob HB.out.size
      have d0 := (HB.out.cell (p := ⟨b2, off + j * 4, none⟩) hob).trans d0
      have d1 := (HB.out.cell (p := ⟨b2, off + j * 4 + 1, none⟩) hob).trans d1
      have d2 := (HB.out.cell (p := ⟨b2, off + j * 4 + 2, none⟩) hob).trans d2
      have d3 := (HB.out.cell (p := ⟨b2, off + j * 4 + 3, none⟩) hob).trans d3
      obtain ⟨a, ha⟩ : ∃ a, l[j]'hjl = a := ⟨_, rfl⟩
      rw [ha] at d0 d1 d2 d3 hds hsz hak
      obtain ⟨a0, a1, a2, a3⟩ := a
      dsimp only at d0 d1 d2 d3 hsz
      have hap := fun (wx : World) (hb : Below wr.heap.size wr wx) => plan_any A' cap' l' lv' nx' nw' a0 a1 a2 a3 wx HD.out.2.1 (by rw [HN.out]; exact HCP.out) (HR.out.below hb) (HTT.out.below (HB.out.trans (hb.mono HB.out.size))) HD.out.2.2 hak.1 hak.2.2 hsz
      have hpok := plan_ok ⟨l', lv', nx', nw'⟩ ⟨a0, a1, a2, a3⟩ hsz
      have hgs := grow_small (a := ⟨a0, a1, a2, a3⟩) HD.out.2 hsz
      obtain ⟨G, hG⟩ : ∃ G, growN ⟨l', lv', nx', nw'⟩ ⟨a0, a1, a2, a3⟩ = G := ⟨_, rfl⟩
      rw [hG] at hds hgs
      unfold growN at hG
      obtain ⟨⟨⟨pm, ps⟩, pe⟩, hQ⟩ : ∃ Q, planN ⟨l', lv', nx', nw'⟩ ⟨a0, a1, a2, a3⟩ = Q := ⟨_, rfl⟩
      rw [hQ] at hap hpok hG
      rw [HN.out] at hap
      dsimp only at hap hpok hG
      obtain ⟨km, hkm⟩ : ∃ km, pm.length = km := ⟨_, rfl⟩
      obtain ⟨ks, hks⟩ : ∃ ks, ps.length = ks := ⟨_, rfl⟩
      have HKM := Lib.hid hkm
      have HKS := Lib.hid hks
      have HAP := Lib.hid hap
      have HDS := Lib.hid hds
      have HPO := Lib.hid hpok
      have HGS := Lib.hid hgs
      have HGG := Lib.hid hG
      clear hap hds hQ ha hcell hob hsz hak hgs hG hpok hkm hks
      go_upto_region 5 with fail
      go_cut [5, 6] from 10 to 37 (fun v5 v6 wx => ∃ (g mc5 sc5 : Nat) (MA5 SA5 : Option Addr), v5 = .pointer (some ⟨g, 0, none⟩) ∧ v6 = .int .i64 pe ∧ Hid (Blk wx g 33 #[.slice MA5 km mc5, .slice SA5 ks sc5]) ∧ Hid (RowAt 62 encS wx SA5 ps) ∧ Hid (Below wr.heap.size wr wx) ∧ Hid (wr.heap.size ≤ g))
      case first =>
        have hkeep : ∀ w', Below wr.heap.size wr w' → w'.cell? ⟨gt, 0, none⟩ = some (.slice A' n' cap') ∧ w'.cell? ⟨gt, 1, none⟩ = some (.int .i64 lv') ∧ w'.cell? ⟨gt, 2, none⟩ = some (.int .i64 nx') ∧ w'.cell? ⟨gt, 3, none⟩ = some (.int .u64 nw') ∧ w'.cell? ⟨b2, off + j * 4, none⟩ = some (.int .i64 a0) ∧ w'.cell? ⟨b2, off + j * 4 + 1, none⟩ = some (.int .i64 a1) ∧ w'.cell? ⟨b2, off + j * 4 + 2, none⟩ = some (.int .i64 a2) ∧ w'.cell? ⟨b2, off + j * 4 + 3, none⟩ = some (.string a3) := fun w' hb => ⟨(hb.cell (p := ⟨gt, 0, none⟩) hlg).trans p0, (hb.cell (p := ⟨gt, 1, none⟩) hlg).trans p1, (hb.cell (p := ⟨gt, 2, none⟩) hlg).trans p2, (hb.cell (p := ⟨gt, 3, none⟩) hlg).trans p3, (hb.cell (p := ⟨b2, off + j * 4, none⟩) hl2).trans d0, (hb.cell (p := ⟨b2, off + j * 4 + 1, none⟩) hl2).trans d1, (hb.cell (p := ⟨b2, off + j * 4 + 2, none⟩) hl2).trans d2, (hb.cell (p := ⟨b2, off + j * 4 + 3, none⟩) hl2).trans d3⟩
        have HKP := Lib.hid hkeep
        clear hkeep
        go_region_held3 (fun w' => w'.cell? ⟨gt, 0, none⟩ = some (.slice A' n' cap') ∧ w'.cell? ⟨gt, 1, none⟩ = some (.int .i64 lv') ∧ w'.cell? ⟨gt, 2, none⟩ = some (.int .i64 nx') ∧ w'.cell? ⟨gt, 3, none⟩ = some (.int .u64 nw') ∧ w'.cell? ⟨b2, off + j * 4, none⟩ = some (.int .i64 a0) ∧ w'.cell? ⟨b2, off + j * 4 + 1, none⟩ = some (.int .i64 a1) ∧ w'.cell? ⟨b2, off + j * 4 + 2, none⟩ = some (.int .i64 a2) ∧ w'.cell? ⟨b2, off + j * 4 + 3, none⟩ = some (.string a3))
          (first | exact HKP.out _ (below_drew1 (Below.refl _ _)) | exact HKP.out _ (below_alloc (below_drew1 (Below.refl _ _)) _) | exact HKP.out _ hbl5 | exact HKP.out _ (below_alloc hbl5 _) | exact HKP.out _ (((hbl5).setCell (p := ⟨wr.heap.size, 0, none⟩) (Nat.le_refl _) _).setCell (p := ⟨wr.heap.size, 1, none⟩) (Nat.le_refl _) _) | fail)
          (first
            | (go_at_call 12; refine (HAP.out _ ?_).mono ?_; (first | exact below_drew1 (Below.refl _ _) | exact below_alloc (below_drew1 (Below.refl _ _)) _); (rintro e w5 ⟨v5, rfl, ht5, hb5⟩; have hbl5 : Below wr.heap.size wr w5 := (by first | exact (below_drew1 (Below.refl _ _)).trans hb5 | exact (below_alloc (below_drew1 (Below.refl _ _)) _).trans (hb5.mono (by simp))); obtain ⟨MA5, mc5, SA5, sc5, rfl, hm5, hs5⟩ := ht5; dsimp only at hm5 hs5 ⊢; rw [HKM.out, HKS.out]; (first | (have HZ := Lib.hid (show Blk w5 wr.heap.size 33 #[.slice none 0 0, .slice none 0 0] from (hb5.block wr.heap.size (by simp)).trans (heap_alloc_new wr.drew _)); have z0 : w5.cell? ⟨wr.heap.size, 0, none⟩ = some (.slice none 0 0) := (HZ.out.cell 0).trans rfl; have z1 : w5.cell? ⟨wr.heap.size, 1, none⟩ = some (.slice none 0 0) := (HZ.out.cell 1).trans rfl; have y0 := HZ.out.frozen 0; have y1 := HZ.out.frozen 1) | skip)))
            | fail)
        all_goals (go_wp2_with fail; go_meet)
        · exact ⟨w5.heap.size, mc5, sc5, MA5, SA5, rfl, rfl, Lib.hid (Blk.new w5 _ _), Lib.hid (hs5.below (below_alloc (Below.refl _ _) _)), Lib.hid (below_alloc hbl5 _), Lib.hid hbl5.size⟩
        · exact ⟨wr.heap.size, mc5, sc5, MA5, SA5, rfl, rfl, Lib.hid (((((HZ.out).set_ 0 _)).set_ 1 _)), Lib.hid ((hs5.setB HZ.out (by decide) 0 _).setB (HZ.out.set_ 0 _) (by decide) 1 _), Lib.hid (((hbl5).setCell (p := ⟨wr.heap.size, 0, none⟩) (Nat.le_refl _) _).setCell (p := ⟨wr.heap.size, 1, none⟩) (Nat.le_refl _) _), Lib.hid (Nat.le_refl _)⟩
      case rest =>
        clear p0 p1 p2 p3 d0 d1 d2 d3 HAP
        obtain ⟨g, mc5, sc5, MA5, SA5, rfl, rfl, HKP, HS5, HB5, HG5⟩ := hcut
        have hk0 := HK0.out.below HB5.out HK0.out.lt
        have hk2 := HK2.out.below HB5.out HK2.out.lt
        have hr2 := HR.out.below HB5.out
        have hbb := HB.out.trans (HB5.out.mono HB.out.size)
        clear HK0 HK2 HR HB HB5
        have HK0 := Lib.hid hk0
        have HK2 := Lib.hid hk2
        have HR := Lib.hid hr2
        have HB := Lib.hid hbb
        have hdn := done_any A' cap' l' lv' nx' nw' MA5 km mc5 SA5 sc5 ps wc HD.out.2.1 (by rw [HN.out]; exact HCP.out) HR.out (HTT.out.below HB.out) HD.out.2.2 HS5.out HPO.out.1 HPO.out.2
        obtain ⟨⟨⟨ql, q1, q2, q3⟩, qe⟩, hQ⟩ : ∃ Q, doneN ⟨l', lv', nx', nw'⟩ ps = Q := ⟨_, rfl⟩
        have hgg := HGG.out
        rw [hQ] at hdn hgg
        rw [HN.out, HKS.out] at hdn
        dsimp only at hdn hgg
        obtain ⟨qn, hqn⟩ : ∃ qn, ql.length = qn := ⟨_, rfl⟩
        have HQN := Lib.hid hqn
        have HDN := Lib.hid hdn
        have HGQ := Lib.hid hgg
        clear hk0 hk2 hr2 hbb hdn hQ hgg HGG hqn
        have p0 : wc.cell? ⟨gt, 0, none⟩ = some (.slice A' n' cap') := (HK0.out.cell 0).trans rfl
        have p1 : wc.cell? ⟨gt, 1, none⟩ = some (.int .i64 lv') := (HK0.out.cell 1).trans rfl
        have p2 : wc.cell? ⟨gt, 2, none⟩ = some (.int .i64 nx') := (HK0.out.cell 2).trans rfl
        have p3 : wc.cell? ⟨gt, 3, none⟩ = some (.int .u64 nw') := (HK0.out.cell 3).trans rfl
        have m0 : wc.cell? ⟨g, 0, none⟩ = some (.slice MA5 km mc5) := (HKP.out.cell 0).trans rfl
        have m1 : wc.cell? ⟨g, 1, none⟩ = some (.slice SA5 ks sc5) := (HKP.out.cell 1).trans rfl
        go_wp2_with fail
        refine HDN.out.mono ?_
        rintro e w6 ⟨v6, rfl, ht6, hb6⟩
        obtain ⟨A6, cp6, rfl, hc6, hn6⟩ := ht6
        dsimp only at hc6 hn6 ⊢
        rw [HQN.out] at hc6 ⊢
        obtain ⟨g6, hg6⟩ : ∃ g6, g6 = w6.heap.size := ⟨_, rfl⟩
        have HG6 := Lib.hid hg6
        have hk0 := HK0.out.below hb6 HK0.out.lt
        have hk2 := HK2.out.below hb6 HK2.out.lt
        have hr2 := HR.out.below hb6
        have hbb := HB.out.trans (hb6.mono HB.out.size)
        have HC6 := Lib.hid hc6
        have HN6 := Lib.hid hn6
        have hlt6 : gt < w6.heap.size := hk0.lt
        clear HK0 HK2 HR HB p0 p1 p2 p3 m0 m1 HKP HS5 HG5 HDN HPO hc6 hn6 hb6 hg6
        have HK0 := Lib.hid hk0
        have HK2 := Lib.hid hk2
        have HR := Lib.hid hr2
        have HB := Lib.hid hbb
        clear hk0 hk2 hr2 hbb
        go_upto_region 7 with fail
        have hbx : Below w6.heap.size w6 (w6.alloc (.cells #[.slice A6 qn cp6, .int .i64 q1, .int .i64 q2, .int .u64 q3] 28)) := (Below.refl _ _).alloc (Nat.le_refl _) _
        have hkx := Blk.new w6 28 #[.slice A6 qn cp6, .int .i64 q1, .int .i64 q2, .int .u64 q3]
        rw [← HG6.out] at hkx ⊢
        have hne : gt ≠ g6 := by have := HG6.out; omega
        generalize (w6.alloc (.cells #[.slice A6 qn cp6, .int .i64 q1, .int .i64 q2, .int .u64 q3] 28)) = w7 at hbx hkx ⊢
        have hk0 := HK0.out.below hbx HK0.out.lt
        have hk2 := HK2.out.below hbx HK2.out.lt
        have hr2 := HR.out.below hbx
        have hbb := HB.out.trans (hbx.mono HB.out.size)
        have hn7 := HN6.out.below hbx
        clear HK0 HK2 HR HB HN6 hbx
        have HK0 := Lib.hid hk0
        have HK2 := Lib.hid hk2
        have HR := Lib.hid hr2
        have HB := Lib.hid hbb
        have HN7 := Lib.hid hn7
        have p0 : w7.cell? ⟨gt, 0, none⟩ = some (.slice A' n' cap') := (hk0.cell 0).trans rfl
        have p1 : w7.cell? ⟨gt, 1, none⟩ = some (.int .i64 lv') := (hk0.cell 1).trans rfl
        have p2 : w7.cell? ⟨gt, 2, none⟩ = some (.int .i64 nx') := (hk0.cell 2).trans rfl
        have p3 : w7.cell? ⟨gt, 3, none⟩ = some (.int .u64 nw') := (hk0.cell 3).trans rfl
        have f0 := hk0.frozen 0
        have f1 := hk0.frozen 1
        have f2 := hk0.frozen 2
        have f3 := hk0.frozen 3
        have m0 : w7.cell? ⟨g6, 0, none⟩ = some (.slice A6 qn cp6) := (hkx.cell 0).trans rfl
        have m1 : w7.cell? ⟨g6, 1, none⟩ = some (.int .i64 q1) := (hkx.cell 1).trans rfl
        have m2 : w7.cell? ⟨g6, 2, none⟩ = some (.int .i64 q2) := (hkx.cell 2).trans rfl
        have m3 : w7.cell? ⟨g6, 3, none⟩ = some (.int .u64 q3) := (hkx.cell 3).trans rfl
        clear hk0 hk2 hr2 hbb hn7 hkx hlt6
        by_cases hpe : pe = 0
        · subst hpe
          by_cases hqe : qe = 0
          · subst hqe
            have hgq := HGQ.out
            rw [if_pos ⟨rfl, rfl⟩] at hgq
            have hnew : (l.drop (j + 1)).foldl growN ⟨ql, q1, q2, q3⟩ = D ∧ SmallT ⟨ql, q1, q2, q3⟩ := by rw [hgq]; exact ⟨HDS.out, HGS.out⟩
            have HNEW := Lib.hid hnew
            clear hgq hnew HGQ HDS HGS HD HN HCP
            go_wp2_with fail
            go_roundg (gk - 1)
            case measure => omega
            case rel =>
              refine ⟨j + 1, ql, q1, q2, q3, A6, cp6, qn, by omega, by go_num, HNEW, HQN, Lib.hid ((((((((HK0.out).set_ 0 _)).set_ 1 _)).set_ 2 _)).set_ 3 _), HC6, Lib.hid (HN7.out.set4 HK0.out (by decide) _ _ _ _), Lib.hid ?_, Lib.hid ?_⟩
              · exact blk_set4 HK2.out (by omega) _ _ _ _
              · repeat (refine below_set ?_ (by omega))
                exact HB.out
          · have hqb : (qe == 0) = false := by rw [beq_eq_false_iff_ne]; exact hqe
            have hgq := HGQ.out
            rw [if_neg (fun c => hqe c.2)] at hgq
            have hnew : (l.drop (j + 1)).foldl growN ⟨l', lv', nx', nw'⟩ = D ∧ SmallT ⟨l', lv', nx', nw'⟩ := by rw [hgq]; exact ⟨HDS.out, HGS.out⟩
            have HNEW := Lib.hid hnew
            clear hgq hnew HGQ HDS HGS HD
            go_wp2_with fail
            go_roundg (gk - 1)
            case measure => omega
            case rel => exact ⟨j + 1, l', lv', nx', nw', A', cap', n', by omega, by go_num, HNEW, HN, HK0, HCP, HR, HK2, HB⟩
        · have hpb : (pe == 0) = false := by rw [beq_eq_false_iff_ne]; exact hpe
          have hgq := HGQ.out
          rw [if_neg (fun c => hpe c.1)] at hgq
          have hnew : (l.drop (j + 1)).foldl growN ⟨l', lv', nx', nw'⟩ = D ∧ SmallT ⟨l', lv', nx', nw'⟩ := by rw [hgq]; exact ⟨HDS.out, HGS.out⟩
          have HNEW := Lib.hid hnew
          clear hgq hnew HGQ HDS HGS HD
          go_wp2_with fail
          go_roundg (gk - 1)
          case measure => omega
          case rel => exact ⟨j + 1, l', lv', nx', nw', A', cap', n', by omega, by go_num, HNEW, HN, HK0, HCP, HR, HK2, HB⟩
    · obtain rfl : j = n := by omega
      have HDD := Lib.hid (show (⟨l', lv', nx', nw'⟩ : Tr) = D by rw [← HD.out.1, ← HN0.out, List.drop_length]; rfl)
      clear HD
      have r0 : wr.cell? ⟨w.heap.size, 0, none⟩ = some (.slice none 0 0) := (HK2.out.cell 0).trans rfl
      have r1 : wr.cell? ⟨w.heap.size, 1, none⟩ = some (.int .i64 0) := (HK2.out.cell 1).trans rfl
      have r2 : wr.cell? ⟨w.heap.size, 2, none⟩ = some (.int .i64 0) := (HK2.out.cell 2).trans rfl
      have r3 : wr.cell? ⟨w.heap.size, 3, none⟩ = some (.int .u64 0) := (HK2.out.cell 3).trans rfl
      have f0 := HK2.out.frozen 0
      have f1 := HK2.out.frozen 1
      have f2 := HK2.out.frozen 2
      have f3 := HK2.out.frozen 3
      go_wp2_with fail
      rw [← HDD.out]
      have h3 := ((((((((HK2.out).set_ 0 (.slice A' n' cap'))).set_ 1 (.int .i64 lv'))).set_ 2 (.int .i64 nx'))).set_ 3 (.int .u64 nw'))
      refine bodyPost_ret (results_cell_row rfl _ _ w.heap.size _ _ _ _ rfl h3 Tryd.underlying28 rfl (by rw [tr_info]; rfl)) rfl ?_
      refine ⟨_, rfl, ⟨_, _, by dsimp only; rw [HN.out]; rfl, by dsimp only; rw [HN.out]; exact HCP.out, (HR.out).set4 HK2.out (by decide) _ _ _ _⟩, ?_⟩
      repeat (refine below_set ?_ (by omega))
      exact HB.out
end Go.Proofs.YtfdhehjfbcddgaaDoor.Pr
