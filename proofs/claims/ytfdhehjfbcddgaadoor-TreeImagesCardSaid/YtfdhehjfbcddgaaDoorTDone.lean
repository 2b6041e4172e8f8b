/- rootcellarlaw14.done: a tree behind a plan's steps. Conditions: the nodes are not more than a million, nor is any name or text longer; the tables of unicode/utf8 lie in memory. -/
import Derived.Test.YtfdhehjfbcddgaaDoorTLaw0
import Derived.Deep.LoopGhost
import Derived.Deep.CutRange
namespace Go.Proofs.YtfdhehjfbcddgaaDoor.Pr
open Go.RowKit Go.Proofs.YtfdhehjfbcddgaaDoorW.PrintWords Go.Proofs.YtfdhehjfbcddgaaDoorW.PrintLast Go.Proofs.YtfdhehjfbcddgaaDoor
set_option linter.unusedVariables false
theorem steps_get {w : World} {b off : Nat} {l : List St} (h : ∀ j u, (flatE encS l)[j]? = some u → w.cell? ⟨b, off + j, none⟩ = some u) (i : Nat) (hi : i < l.length) :
    w.cell? ⟨b, off + i * 5, none⟩ = some (.int .i64 l[i].kind) ∧ w.cell? ⟨b, off + i * 5 + 1, none⟩ = some (.int .i64 l[i].a) ∧ w.cell? ⟨b, off + i * 5 + 2, none⟩ = some (.int .i64 l[i].b) ∧ w.cell? ⟨b, off + i * 5 + 3, none⟩ = some (.int .u64 l[i].n) ∧ w.cell? ⟨b, off + i * 5 + 4, none⟩ = some (.string l[i].text) := by
  have g := fun (j : Nat) (hj : j < 5) => flatE_get encS_len l i hi j hj
  refine ⟨h (i * 5) _ ((g 0 (by decide)).trans rfl), ?_, ?_, ?_, ?_⟩
  · rw [Nat.add_assoc]; exact h _ _ ((g 1 (by decide)).trans rfl)
  · rw [Nat.add_assoc]; exact h _ _ ((g 2 (by decide)).trans rfl)
  · rw [Nat.add_assoc]; exact h _ _ ((g 3 (by decide)).trans rfl)
  · rw [Nat.add_assoc]; exact h _ _ ((g 4 (by decide)).trans rfl)
theorem done_on (t : Tr) (s : St) (l : List St) : doneN t (s :: l) = if (applyN t s).2 = 0 then doneN (applyN t s).1 l else (t, (applyN t s).2) := rfl
theorem blk_set4 {w : World} {c d : Nat} {ty : TypeId} {cs : Array Value} (h : Blk w c ty cs) (hne : c ≠ d) (v0 v1 v2 v3 : Value) : Blk ((((w.setCell ⟨d, 0, none⟩ v0).setCell ⟨d, 1, none⟩ v1).setCell ⟨d, 2, none⟩ v2).setCell ⟨d, 3, none⟩ v3) c ty cs :=
  (Below.heap_setCell _ ⟨d, 3, none⟩ v3 c hne).trans ((Below.heap_setCell _ ⟨d, 2, none⟩ v2 c hne).trans ((Below.heap_setCell _ ⟨d, 1, none⟩ v1 c hne).trans ((Below.heap_setCell _ ⟨d, 0, none⟩ v0 c hne).trans h)))
set_option maxRecDepth 100000 in
set_option maxHeartbeats 8000000 in
theorem done_any (A : Option Addr) (cap : Nat) (l : List Nd) (lv nx nw : Int) (MA : Option Addr) (km ma : Nat) (SA : Option Addr) (sa : Nat) (ss : List St) (w : World) (hl : l.length ≤ 1000000) (hcp : l.length ≤ cap) (hr : NodesAt w A l) (hT : Tabs w) (hnm : ∀ x ∈ l, x.name.size ≤ 1000000)
    (hs : RowAt 62 encS w SA ss) (hsl : ss.length ≤ 1099511627776) (hst : ∀ s ∈ ss, s.text.size ≤ 1000000) :
    Calls Tryd.prog 13 #[.agg #[.slice A l.length cap, .int .i64 lv, .int .i64 nx, .int .u64 nw], .agg #[.slice MA km ma, .slice SA ss.length sa]] w fun e w' => ∃ v, e = .returned (.tuple #[v, .int .i64 (doneN ⟨l, lv, nx, nw⟩ ss).2]) ∧ TrAt w' v (doneN ⟨l, lv, nx, nw⟩ ss).1 ∧ Below w.heap.size w w' := by
  obtain ⟨n, hn⟩ : ∃ n, l.length = n := ⟨_, rfl⟩
  obtain ⟨ks, hks⟩ : ∃ ks, ss.length = ks := ⟨_, rfl⟩
  obtain ⟨D, hD⟩ : ∃ D, doneN ⟨l, lv, nx, nw⟩ ss = D := ⟨_, rfl⟩
  have hsm : SmallT ⟨l, lv, nx, nw⟩ := ⟨hl, hnm⟩
  rw [hn] at hl hcp
  rw [hks] at hsl
  rw [hn, hks, hD]
  have HN := Lib.hid hn
  have HKS := Lib.hid hks
  have HD0 := Lib.hid (show doneN ⟨l, lv, nx, nw⟩ (ss.drop 0) = D ∧ SmallT ⟨l, lv, nx, nw⟩ from ⟨hD, hsm⟩)
  have HST := Lib.hid hst
  have HTT := Lib.hid hT
  have HSR := Lib.hid hs
  have hbel : Below w.heap.size w (((w.alloc (.cells #[.slice A n cap, .int .i64 lv, .int .i64 nx, .int .u64 nw] 28)).alloc (.cells #[.slice MA km ma, .slice SA ks sa] 33)).alloc (.cells #[.slice none 0 0, .int .i64 0, .int .i64 0, .int .u64 0] 28)) := (((Below.refl _ _).alloc (Nat.le_refl _) _).alloc (by simp) _).alloc (by simp; omega) _
  have hk0 : Blk (((w.alloc (.cells #[.slice A n cap, .int .i64 lv, .int .i64 nx, .int .u64 nw] 28)).alloc (.cells #[.slice MA km ma, .slice SA ks sa] 33)).alloc (.cells #[.slice none 0 0, .int .i64 0, .int .i64 0, .int .u64 0] 28)) w.heap.size 28 #[.slice A n cap, .int .i64 lv, .int .i64 nx, .int .u64 nw] := ((Blk.new w 28 #[.slice A n cap, .int .i64 lv, .int .i64 nx, .int .u64 nw]).alloc _).alloc _
  have hk1 : Blk (((w.alloc (.cells #[.slice A n cap, .int .i64 lv, .int .i64 nx, .int .u64 nw] 28)).alloc (.cells #[.slice MA km ma, .slice SA ks sa] 33)).alloc (.cells #[.slice none 0 0, .int .i64 0, .int .i64 0, .int .u64 0] 28)) (w.heap.size + 1) 33 #[.slice MA km ma, .slice SA ks sa] := (blk_new1 w _ _ _).alloc _
  have hk2 : Blk (((w.alloc (.cells #[.slice A n cap, .int .i64 lv, .int .i64 nx, .int .u64 nw] 28)).alloc (.cells #[.slice MA km ma, .slice SA ks sa] 33)).alloc (.cells #[.slice none 0 0, .int .i64 0, .int .i64 0, .int .u64 0] 28)) (w.heap.size + 1 + 1) 28 #[.slice none 0 0, .int .i64 0, .int .i64 0, .int .u64 0] := by
    have := Blk.new ((w.alloc (.cells #[.slice A n cap, .int .i64 lv, .int .i64 nx, .int .u64 nw] 28)).alloc (.cells #[.slice MA km ma, .slice SA ks sa] 33)) 28 #[.slice none 0 0, .int .i64 0, .int .i64 0, .int .u64 0]
    simpa using this
  have hr0 := hr.below hbel
  have hks' : w.heap.size + 1 + 1 = w.heap.size + 1 + 1 := rfl
  clear hr hT hnm hs hst hD hn hks hsm hks'
  have HCP := Lib.hid hcp
  clear hcp
  go_enter Tryd.func13, Tryd.ntmps13
  go_upto_region 1 with fail
  generalize (((w.alloc (.cells #[.slice A n cap, .int .i64 lv, .int .i64 nx, .int .u64 nw] 28)).alloc (.cells #[.slice MA km ma, .slice SA ks sa] 33)).alloc (.cells #[.slice none 0 0, .int .i64 0, .int .i64 0, .int .u64 0] 28)) = w0 at hbel hk0 hk1 hk2 hr0 ⊢
  have HB := Lib.hid hbel
  have HK0 := Lib.hid hk0
  have HK1 := Lib.hid hk1
  have HK2 := Lib.hid hk2
  have HR := Lib.hid hr0
  clear hbel hk0 hk1 hk2 hr0
  go_wp2_with fail
  go_loopg [6] ks (fun k v6 wr => ∃ (j : Nat) (l' : List Nd) (lv' nx' nw' : Int) (A' : Option Addr) (cap' n' : Nat), j + k = ks ∧ v6 = .int .i64 (j : Int) ∧ Hid (doneN ⟨l', lv', nx', nw'⟩ (ss.drop j) = D ∧ SmallT ⟨l', lv', nx', nw'⟩) ∧ Hid (l'.length = n') ∧ Hid (Blk wr w.heap.size 28 #[.slice A' n' cap', .int .i64 lv', .int .i64 nx', .int .u64 nw']) ∧ Hid (n' ≤ cap') ∧ Hid (NodesAt wr A' l') ∧ Hid (Blk wr (w.heap.size + 1) 33 #[.slice MA km ma, .slice SA ks sa]) ∧ Hid (Blk wr (w.heap.size + 1 + 1) 28 #[.slice none 0 0, .int .i64 0, .int .i64 0, .int .u64 0]) ∧ Hid (Below w.heap.size w wr))
  case atStart => exact ⟨0, l, lv, nx, nw, A, cap, n, by omega, rfl, HD0, HN, HK0, HCP, HR, HK1, HK2, HB⟩
  case round =>
    clear HK0 HK1 HK2 HR HB HN HCP HD0
    obtain ⟨j, l', lv', nx', nw', A', cap', n', hjk, rfl, HD, HN, HK0, HCP, HR, HK1, HK2, HB⟩ := hrel
    have hl0 : w.heap.size < wr.heap.size := HK0.out.lt
    have hl1 : w.heap.size + 1 < wr.heap.size := HK1.out.lt
    have hl3 : w.heap.size + 1 + 1 < wr.heap.size := HK2.out.lt
    have p0 : wr.cell? ⟨w.heap.size, 0, none⟩ = some (.slice A' n' cap') := (HK0.out.cell 0).trans rfl
    have p1 : wr.cell? ⟨w.heap.size, 1, none⟩ = some (.int .i64 lv') := (HK0.out.cell 1).trans rfl
    have p2 : wr.cell? ⟨w.heap.size, 2, none⟩ = some (.int .i64 nx') := (HK0.out.cell 2).trans rfl
    have p3 : wr.cell? ⟨w.heap.size, 3, none⟩ = some (.int .u64 nw') := (HK0.out.cell 3).trans rfl
    have q1 : wr.cell? ⟨w.heap.size + 1, 1, none⟩ = some (.slice SA ks sa) := (HK1.out.cell 1).trans rfl
    by_cases hlt : j < ks
    · have hjl : j < ss.length := by rw [HKS.out]; exact hlt
      have hds := HD.out.1
      rw [List.drop_eq_getElem_cons hjl, done_on] at hds
      have hsz := HST.out _ (List.getElem_mem hjl)
      obtain ⟨b2, off, rfl, ⟨cs, fr, hob⟩, hcell⟩ := HSR.out (by omega)
      obtain ⟨d0, d1, d2, d3, d4⟩ := steps_get hcell j hjl
      have hl2 : b2 < wr.heap.size := Nat.lt_of_lt_of_le (obj_lt hob) HB.out.size
      have d0 := (HB.out.cell (p := ⟨b2, off + j * 5, none⟩) (obj_lt hob)).trans d0
      have d1 := (HB.out.cell (p := ⟨b2, off + j * 5 + 1, none⟩) (obj_lt hob)).trans d1
      have d2 := (HB.out.cell (p := ⟨b2, off + j * 5 + 2, none⟩) (obj_lt hob)).trans d2
      have d3 := (HB.out.cell (p := ⟨b2, off + j * 5 + 3, none⟩) (obj_lt hob)).trans d3
      have d4 := (HB.out.cell (p := ⟨b2, off + j * 5 + 4, none⟩) (obj_lt hob)).trans d4
      obtain ⟨s, hs⟩ : ∃ s, ss[j]'hjl = s := ⟨_, rfl⟩
      rw [hs] at d0 d1 d2 d3 d4 hds hsz
      obtain ⟨s0, s1, s2, s3, s4⟩ := s
      dsimp only at d0 d1 d2 d3 d4 hsz
      have hap := fun (wx : World) (hb : Below wr.heap.size wr wx) => tapply_any A' cap' l' lv' nx' nw' s0 s1 s2 s3 s4 wx HD.out.2.1 (by rw [HN.out]; exact HCP.out) (HR.out.below hb) (HTT.out.below (HB.out.trans (hb.mono HB.out.size))) HD.out.2.2 hsz
      have hsmall := small_apply (s := ⟨s0, s1, s2, s3, s4⟩) HD.out.2 hsz
      obtain ⟨⟨⟨ql, q1', q2, q3⟩, qe⟩, hQ⟩ : ∃ Q, applyN ⟨l', lv', nx', nw'⟩ ⟨s0, s1, s2, s3, s4⟩ = Q := ⟨_, rfl⟩
      rw [hQ] at hap hds hsmall
      rw [HN.out] at hap
      dsimp only at hap hds hsmall
      obtain ⟨qn, hqn⟩ : ∃ qn, ql.length = qn := ⟨_, rfl⟩
      have HQN := Lib.hid hqn
      have HAP := Lib.hid hap
      have HDS := Lib.hid hds
      have HSA := Lib.hid hsmall
      clear hap hds hsmall hQ hs hcell hob hsz hqn
      go_upto_region 4 with fail
      go_cut [7, 8] from 9 to 30 (fun v7 v8 wx => ∃ (g cp5 : Nat) (A5 : Option Addr), v7 = .pointer (some ⟨g, 0, none⟩) ∧ v8 = .int .i64 qe ∧ Hid (Blk wx g 28 #[.slice A5 qn cp5, .int .i64 q1', .int .i64 q2, .int .u64 q3]) ∧ Hid (qn ≤ cp5) ∧ Hid (NodesAt wx A5 ql) ∧ Hid (Below wr.heap.size wr wx) ∧ Hid (wr.heap.size ≤ g))
      case first =>
        have hkeep : ∀ w', Below wr.heap.size wr w' → w'.cell? ⟨w.heap.size, 0, none⟩ = some (.slice A' n' cap') ∧ w'.cell? ⟨w.heap.size, 1, none⟩ = some (.int .i64 lv') ∧ w'.cell? ⟨w.heap.size, 2, none⟩ = some (.int .i64 nx') ∧ w'.cell? ⟨w.heap.size, 3, none⟩ = some (.int .u64 nw') ∧ w'.cell? ⟨w.heap.size + 1, 1, none⟩ = some (.slice (some ⟨b2, off, none⟩) ks sa) ∧ w'.cell? ⟨b2, off + j * 5, none⟩ = some (.int .i64 s0) ∧ w'.cell? ⟨b2, off + j * 5 + 1, none⟩ = some (.int .i64 s1) ∧ w'.cell? ⟨b2, off + j * 5 + 2, none⟩ = some (.int .i64 s2) ∧ w'.cell? ⟨b2, off + j * 5 + 3, none⟩ = some (.int .u64 s3) ∧ w'.cell? ⟨b2, off + j * 5 + 4, none⟩ = some (.string s4) := fun w' hb => ⟨(hb.cell (p := ⟨w.heap.size, 0, none⟩) hl0).trans p0, (hb.cell (p := ⟨w.heap.size, 1, none⟩) hl0).trans p1, (hb.cell (p := ⟨w.heap.size, 2, none⟩) hl0).trans p2, (hb.cell (p := ⟨w.heap.size, 3, none⟩) hl0).trans p3, (hb.cell (p := ⟨w.heap.size + 1, 1, none⟩) hl1).trans q1, (hb.cell (p := ⟨b2, off + j * 5, none⟩) hl2).trans d0, (hb.cell (p := ⟨b2, off + j * 5 + 1, none⟩) hl2).trans d1, (hb.cell (p := ⟨b2, off + j * 5 + 2, none⟩) hl2).trans d2, (hb.cell (p := ⟨b2, off + j * 5 + 3, none⟩) hl2).trans d3, (hb.cell (p := ⟨b2, off + j * 5 + 4, none⟩) hl2).trans d4⟩
        have HKP := Lib.hid hkeep
        clear hkeep
        go_region_held3 (fun w' => w'.cell? ⟨w.heap.size, 0, none⟩ = some (.slice A' n' cap') ∧ w'.cell? ⟨w.heap.size, 1, none⟩ = some (.int .i64 lv') ∧ w'.cell? ⟨w.heap.size, 2, none⟩ = some (.int .i64 nx') ∧ w'.cell? ⟨w.heap.size, 3, none⟩ = some (.int .u64 nw') ∧ w'.cell? ⟨w.heap.size + 1, 1, none⟩ = some (.slice (some ⟨b2, off, none⟩) ks sa) ∧ w'.cell? ⟨b2, off + j * 5, none⟩ = some (.int .i64 s0) ∧ w'.cell? ⟨b2, off + j * 5 + 1, none⟩ = some (.int .i64 s1) ∧ w'.cell? ⟨b2, off + j * 5 + 2, none⟩ = some (.int .i64 s2) ∧ w'.cell? ⟨b2, off + j * 5 + 3, none⟩ = some (.int .u64 s3) ∧ w'.cell? ⟨b2, off + j * 5 + 4, none⟩ = some (.string s4))
          (first | exact HKP.out _ (below_drew1 (Below.refl _ _)) | exact HKP.out _ (below_alloc (below_drew1 (Below.refl _ _)) _) | exact HKP.out _ hbl5 | exact HKP.out _ (below_alloc hbl5 _) | exact HKP.out _ (((((hbl5).setCell (p := ⟨wr.heap.size, 0, none⟩) (Nat.le_refl _) _).setCell (p := ⟨wr.heap.size, 1, none⟩) (Nat.le_refl _) _).setCell (p := ⟨wr.heap.size, 2, none⟩) (Nat.le_refl _) _).setCell (p := ⟨wr.heap.size, 3, none⟩) (Nat.le_refl _) _) | fail)
          (first
            | (go_at_call 21; refine (HAP.out _ ?_).mono ?_; (first | exact below_drew1 (Below.refl _ _) | exact below_alloc (below_drew1 (Below.refl _ _)) _); (rintro e w5 ⟨v5, rfl, ht5, hb5⟩; have hbl5 : Below wr.heap.size wr w5 := (by first | exact (below_drew1 (Below.refl _ _)).trans hb5 | exact (below_alloc (below_drew1 (Below.refl _ _)) _).trans (hb5.mono (by simp))); obtain ⟨A5, cp5, rfl, hc5, hn5⟩ := ht5; dsimp only at hc5 hn5 ⊢; rw [HQN.out] at hc5 ⊢; (first | (have HZ := Lib.hid (show Blk w5 wr.heap.size 28 #[.slice none 0 0, .int .i64 0, .int .i64 0, .int .u64 0] from (hb5.block wr.heap.size (by simp)).trans (heap_alloc_new wr.drew _)); have z0 : w5.cell? ⟨wr.heap.size, 0, none⟩ = some (.slice none 0 0) := (HZ.out.cell 0).trans rfl; have z1 : w5.cell? ⟨wr.heap.size, 1, none⟩ = some (.int .i64 0) := (HZ.out.cell 1).trans rfl; have z2 : w5.cell? ⟨wr.heap.size, 2, none⟩ = some (.int .i64 0) := (HZ.out.cell 2).trans rfl; have z3 : w5.cell? ⟨wr.heap.size, 3, none⟩ = some (.int .u64 0) := (HZ.out.cell 3).trans rfl; have y0 := HZ.out.frozen 0; have y1 := HZ.out.frozen 1; have y2 := HZ.out.frozen 2; have y3 := HZ.out.frozen 3) | skip)))
            | fail)
        all_goals (go_wp2_with fail; go_meet)
        · exact ⟨w5.heap.size, cp5, A5, rfl, rfl, Lib.hid (Blk.new w5 _ _), Lib.hid hc5, Lib.hid (hn5.below (below_alloc (Below.refl _ _) _)), Lib.hid (below_alloc hbl5 _), Lib.hid hbl5.size⟩
        · exact ⟨wr.heap.size, cp5, A5, rfl, rfl, Lib.hid (((((((((HZ.out).set_ 0 _)).set_ 1 _)).set_ 2 _)).set_ 3 _)), Lib.hid hc5, Lib.hid (hn5.set4 HZ.out (by decide) _ _ _ _), Lib.hid (((((hbl5).setCell (p := ⟨wr.heap.size, 0, none⟩) (Nat.le_refl _) _).setCell (p := ⟨wr.heap.size, 1, none⟩) (Nat.le_refl _) _).setCell (p := ⟨wr.heap.size, 2, none⟩) (Nat.le_refl _) _).setCell (p := ⟨wr.heap.size, 3, none⟩) (Nat.le_refl _) _), Lib.hid (Nat.le_refl _)⟩
      case rest =>
        clear p0 p1 p2 p3 q1 d0 d1 d2 d3 d4 HAP
        obtain ⟨g, cp5, A5, rfl, rfl, HKG, HC5, HN5, HB5, HG5⟩ := hcut
        have hgne : w.heap.size ≠ g := by have := HG5.out; omega
        have hk0 := HK0.out.below HB5.out HK0.out.lt
        have hk1 := HK1.out.below HB5.out HK1.out.lt
        have hk2 := HK2.out.below HB5.out HK2.out.lt
        have hr2 := HR.out.below HB5.out
        have hbb := HB.out.trans (HB5.out.mono HB.out.size)
        have hg5 : w.heap.size ≤ g := by have := HG5.out; omega
        clear HK0 HK1 HK2 HR HB HB5 HG5
        have HK0 := Lib.hid hk0
        have HK1 := Lib.hid hk1
        have HK2 := Lib.hid hk2
        have HR := Lib.hid hr2
        have HB := Lib.hid hbb
        clear hk0 hk1 hk2 hr2 hbb
        by_cases hq : qe = 0
        · subst hq
          have hds := HDS.out
          rw [if_pos rfl] at hds
          have HNEW := Lib.hid (show doneN ⟨ql, q1', q2, q3⟩ (ss.drop (j + 1)) = D ∧ SmallT ⟨ql, q1', q2, q3⟩ from ⟨hds, HSA.out rfl⟩)
          clear hds HDS HSA HD HN HCP
          have p0 : wc.cell? ⟨g, 0, none⟩ = some (.slice A5 qn cp5) := (HKG.out.cell 0).trans rfl
          have p1 : wc.cell? ⟨g, 1, none⟩ = some (.int .i64 q1') := (HKG.out.cell 1).trans rfl
          have p2 : wc.cell? ⟨g, 2, none⟩ = some (.int .i64 q2) := (HKG.out.cell 2).trans rfl
          have p3 : wc.cell? ⟨g, 3, none⟩ = some (.int .u64 q3) := (HKG.out.cell 3).trans rfl
          have c0 : wc.cell? ⟨w.heap.size, 0, none⟩ = some (.slice A' n' cap') := (HK0.out.cell 0).trans rfl
          have c1 : wc.cell? ⟨w.heap.size, 1, none⟩ = some (.int .i64 lv') := (HK0.out.cell 1).trans rfl
          have c2 : wc.cell? ⟨w.heap.size, 2, none⟩ = some (.int .i64 nx') := (HK0.out.cell 2).trans rfl
          have c3 : wc.cell? ⟨w.heap.size, 3, none⟩ = some (.int .u64 nw') := (HK0.out.cell 3).trans rfl
          have f0 := HK0.out.frozen 0
          have f1 := HK0.out.frozen 1
          have f2 := HK0.out.frozen 2
          have f3 := HK0.out.frozen 3
          go_wp2_with fail
          go_roundg (gk - 1)
          case measure => omega
          case rel =>
            refine ⟨j + 1, ql, q1', q2, q3, A5, cp5, qn, by omega, by go_num, HNEW, HQN, Lib.hid ((((((((HK0.out).set_ 0 _)).set_ 1 _)).set_ 2 _)).set_ 3 _), HC5, Lib.hid (HN5.out.set4 HK0.out (by decide) _ _ _ _), Lib.hid ?_, Lib.hid ?_, Lib.hid ?_⟩
            · exact blk_set4 HK1.out (by omega) _ _ _ _
            · exact blk_set4 HK2.out (by omega) _ _ _ _
            · repeat (refine below_set ?_ (by omega))
              exact HB.out
        · have hqb : (qe == 0) = false := by rw [beq_eq_false_iff_ne]; exact hq
          have hds := HDS.out
          rw [if_neg hq] at hds
          have HDD := Lib.hid hds
          clear hds HDS HSA HD
          have c0 : wc.cell? ⟨w.heap.size, 0, none⟩ = some (.slice A' n' cap') := (HK0.out.cell 0).trans rfl
          have c1 : wc.cell? ⟨w.heap.size, 1, none⟩ = some (.int .i64 lv') := (HK0.out.cell 1).trans rfl
          have c2 : wc.cell? ⟨w.heap.size, 2, none⟩ = some (.int .i64 nx') := (HK0.out.cell 2).trans rfl
          have c3 : wc.cell? ⟨w.heap.size, 3, none⟩ = some (.int .u64 nw') := (HK0.out.cell 3).trans rfl
          have r0 : wc.cell? ⟨w.heap.size + 1 + 1, 0, none⟩ = some (.slice none 0 0) := (HK2.out.cell 0).trans rfl
          have r1 : wc.cell? ⟨w.heap.size + 1 + 1, 1, none⟩ = some (.int .i64 0) := (HK2.out.cell 1).trans rfl
          have r2 : wc.cell? ⟨w.heap.size + 1 + 1, 2, none⟩ = some (.int .i64 0) := (HK2.out.cell 2).trans rfl
          have r3 : wc.cell? ⟨w.heap.size + 1 + 1, 3, none⟩ = some (.int .u64 0) := (HK2.out.cell 3).trans rfl
          have f0 := HK2.out.frozen 0
          have f1 := HK2.out.frozen 1
          have f2 := HK2.out.frozen 2
          have f3 := HK2.out.frozen 3
          go_wp2_with fail
          rw [← HDD.out]
          have h3 := ((((((((HK2.out).set_ 0 (.slice A' n' cap'))).set_ 1 (.int .i64 lv'))).set_ 2 (.int .i64 nx'))).set_ 3 (.int .u64 nw'))
          refine bodyPost_ret (results_row_tmp rfl _ _ (w.heap.size + 1 + 1) _ _ _ _ rfl h3 Tryd.underlying28 rfl (by rw [tr_info]; rfl)) rfl ?_
          refine tr_goal (R := (⟨l', lv', nx', nw'⟩, qe)) rfl ⟨_, _, by dsimp only; rw [HN.out]; rfl, by dsimp only; rw [HN.out]; exact HCP.out, (HR.out).set4 HK2.out (by decide) _ _ _ _⟩ ?_
          repeat (refine below_set ?_ (by omega))
          exact HB.out
    · obtain rfl : j = ks := by omega
      have HDD := Lib.hid (show (⟨l', lv', nx', nw'⟩, 0) = D by rw [← HD.out.1, ← HKS.out, List.drop_length]; rfl)
      clear HD
      have r0 : wr.cell? ⟨w.heap.size + 1 + 1, 0, none⟩ = some (.slice none 0 0) := (HK2.out.cell 0).trans rfl
      have r1 : wr.cell? ⟨w.heap.size + 1 + 1, 1, none⟩ = some (.int .i64 0) := (HK2.out.cell 1).trans rfl
      have r2 : wr.cell? ⟨w.heap.size + 1 + 1, 2, none⟩ = some (.int .i64 0) := (HK2.out.cell 2).trans rfl
      have r3 : wr.cell? ⟨w.heap.size + 1 + 1, 3, none⟩ = some (.int .u64 0) := (HK2.out.cell 3).trans rfl
      have f0 := HK2.out.frozen 0
      have f1 := HK2.out.frozen 1
      have f2 := HK2.out.frozen 2
      have f3 := HK2.out.frozen 3
      go_wp2_with fail
      rw [← HDD.out]
      have h3 := ((((((((HK2.out).set_ 0 (.slice A' n' cap'))).set_ 1 (.int .i64 lv'))).set_ 2 (.int .i64 nx'))).set_ 3 (.int .u64 nw'))
      refine bodyPost_ret (results_row_tmp rfl _ _ (w.heap.size + 1 + 1) _ _ _ _ rfl h3 Tryd.underlying28 rfl (by rw [tr_info]; rfl)) rfl ?_
      refine tr_goal (R := ((⟨l', lv', nx', nw'⟩, 0) : Tr × Int)) rfl ⟨_, _, by dsimp only; rw [HN.out]; rfl, by dsimp only; rw [HN.out]; exact HCP.out, (HR.out).set4 HK2.out (by decide) _ _ _ _⟩ ?_
      repeat (refine below_set ?_ (by omega))
      exact HB.out
end Go.Proofs.YtfdhehjfbcddgaaDoor.Pr
