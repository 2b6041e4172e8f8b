/- tree.Delete: plans to delete a node. Conditions: the nodes are not more than a million, nor is any name longer; the tables of unicode/utf8 lie in memory. -/
import Derived.Test.YtfdhehjfbcddgaaDoorTRevert
namespace Go.Proofs.YtfdhehjfbcddgaaDoor.Pr
open Go.RowKit Go.Proofs.YtfdhehjfbcddgaaDoorW.PrintWords Go.Proofs.YtfdhehjfbcddgaaDoorW.PrintLast Go.Proofs.YtfdhehjfbcddgaaDoor
set_option linter.unusedVariables false
def planS (s : Ps) : Pl := ⟨s.ms, s.ss⟩
def deleteN (t : Tr) (a : Int) : Pl × Int :=
  if (nodeN t a).2 = 0 then
    (if a = 1 then (zP, 13) else if (nodeN t a).1.pin = true then (zP, 12)
     else if (kidsN t.l t.lv a).length = 0 then (planC (doN ⟨t, [], []⟩ (st3 3 a 0)), 0)
     else if (kidsN t.l t.lv a).length = 1 then (planS (downN ⟨t, [], []⟩ (nodeN t a).1 ((kidsN t.l t.lv a).getD 0 0)), 0)
     else (planS (doN ⟨t, [], []⟩ (st3 2 a 0)), 0))
  else (zP, (nodeN t a).2)
set_option maxRecDepth 100000 in
set_option maxHeartbeats 4000000 in
theorem tdelete2_any (A : Option Addr) (cap : Nat) (l : List Nd) (lv nx nw : Int) (a : Int) (w : World) (hl : l.length ≤ 1000000) (hcp : l.length ≤ cap) (hr : NodesAt w A l) (hT : Tabs w) (hnm : ∀ x ∈ l, x.name.size ≤ 1000000) :
    Calls Tryd.prog 22 #[.agg #[.slice A l.length cap, .int .i64 lv, .int .i64 nx, .int .u64 nw], .int .i64 a] w fun e w' => ∃ v, e = .returned (.tuple #[v, .int .i64 (deleteN ⟨l, lv, nx, nw⟩ a).2]) ∧ PlAt w' v (deleteN ⟨l, lv, nx, nw⟩ a).1 ∧ Below w.heap.size w w' := by
  have hbel : Below w.heap.size w ((w.alloc (.cells #[.slice A l.length cap, .int .i64 lv, .int .i64 nx, .int .u64 nw] 28)).alloc (.cells #[.slice none 0 0, .slice none 0 0] 33)) := ((Below.refl _ _).alloc (Nat.le_refl _) _).alloc (by simp) _
  have hk0 : Blk ((w.alloc (.cells #[.slice A l.length cap, .int .i64 lv, .int .i64 nx, .int .u64 nw] 28)).alloc (.cells #[.slice none 0 0, .slice none 0 0] 33)) w.heap.size 28 #[.slice A l.length cap, .int .i64 lv, .int .i64 nx, .int .u64 nw] := (Blk.new w 28 #[.slice A l.length cap, .int .i64 lv, .int .i64 nx, .int .u64 nw]).alloc _
  have hk1 : Blk ((w.alloc (.cells #[.slice A l.length cap, .int .i64 lv, .int .i64 nx, .int .u64 nw] 28)).alloc (.cells #[.slice none 0 0, .slice none 0 0] 33)) (w.heap.size + 1) 33 #[.slice none 0 0, .slice none 0 0] := blk_new1 w _ _ _
  have hnode := fun (w1 : World) (hx : NodesAt w1 A l) (ht : Tabs w1) => tnode_any A cap l lv nx nw a w1 hl hcp hx ht hnm
  have hkids := fun (w1 : World) (h1 : NodesAt w1 A l) => kids_any A cap l lv nx nw a w1 hl h1
  have hr0 := hr.below hbel
  have hT0 := hT.below hbel
  have hsm : SmallT ⟨l, lv, nx, nw⟩ := ⟨hl, hnm⟩
  obtain ⟨R, hR⟩ : ∃ R, deleteN ⟨l, lv, nx, nw⟩ a = R := ⟨_, rfl⟩
  have hnd := (show deleteN ⟨l, lv, nx, nw⟩ a = if (nodeN ⟨l, lv, nx, nw⟩ a).2 = 0 then
    (if a = 1 then (zP, 13) else if (nodeN ⟨l, lv, nx, nw⟩ a).1.pin = true then (zP, 12)
     else if (kidsN l lv a).length = 0 then (planC (doN ⟨⟨l, lv, nx, nw⟩, [], []⟩ (st3 3 a 0)), 0)
     else if (kidsN l lv a).length = 1 then (planS (downN ⟨⟨l, lv, nx, nw⟩, [], []⟩ (nodeN ⟨l, lv, nx, nw⟩ a).1 ((kidsN l lv a).getD 0 0)), 0)
     else (planS (doN ⟨⟨l, lv, nx, nw⟩, [], []⟩ (st3 2 a 0)), 0))
  else (zP, (nodeN ⟨l, lv, nx, nw⟩ a).2) from rfl)
  rw [hR] at hnd ⊢
  have hok : (nodeN ⟨l, lv, nx, nw⟩ a).2 = 0 → RightP ⟨l, lv, nx, nw⟩ ∧ (nodeN ⟨l, lv, nx, nw⟩ a).1 ∈ l ∧ (nodeN ⟨l, lv, nx, nw⟩ a).1.id = a := node_ok
  obtain ⟨⟨x, er⟩, hno⟩ : ∃ q, nodeN ⟨l, lv, nx, nw⟩ a = q := ⟨_, rfl⟩
  rw [hno] at hnd hnode hok
  obtain ⟨x0, x1, x2, x3, x4, x5⟩ := x
  dsimp only at hnd hnode hok
  unfold valN at hnode
  dsimp only at hnode
  obtain ⟨n, hn⟩ : ∃ n, l.length = n := ⟨_, rfl⟩
  have HN := Lib.hid hn
  rw [hn] at hl hcp hbel hk0 hk1 hr0 hT0 hnode hkids ⊢
  obtain ⟨kn, hkn⟩ : ∃ kn, kidsN l lv a = kn := ⟨_, rfl⟩
  rw [hkn] at hkids hnd
  obtain ⟨km, hkm⟩ : ∃ km, kn.length = km := ⟨_, rfl⟩
  rw [hkm] at hkids hnd
  have HKM := Lib.hid hkm
  have HNO := Lib.hid hnode
  clear hkn hkm
  have HKI := Lib.hid hkids
  have HND := Lib.hid hnd
  have HOK := Lib.hid hok
  have HSM := Lib.hid hsm
  have HCP := Lib.hid hcp
  have HT := Lib.hid hT0
  clear hr hT hnm hcp hnode hkids hnd hok hsm hR hno hn hT0
  go_enter Tryd.func22, Tryd.ntmps22
  go_upto_region 1 with fail
  generalize ((w.alloc (.cells #[.slice A n cap, .int .i64 lv, .int .i64 nx, .int .u64 nw] 28)).alloc (.cells #[.slice none 0 0, .slice none 0 0] 33)) = w0 at hbel hk0 hk1 hr0 HT ⊢
  have t0 : w0.cell? ⟨w.heap.size, 0, none⟩ = some (.slice A n cap) := (hk0.cell 0).trans rfl
  have t1 : w0.cell? ⟨w.heap.size, 1, none⟩ = some (.int .i64 lv) := (hk0.cell 1).trans rfl
  have t2 : w0.cell? ⟨w.heap.size, 2, none⟩ = some (.int .i64 nx) := (hk0.cell 2).trans rfl
  have t3 : w0.cell? ⟨w.heap.size, 3, none⟩ = some (.int .u64 nw) := (hk0.cell 3).trans rfl
  have HB := Lib.hid hbel
  have HK0 := Lib.hid hk0
  have HK1 := Lib.hid hk1
  have HR := Lib.hid hr0
  have HNW := Lib.hid (HNO.out w0 hr0 HT.out)
  clear hbel hk0 hk1 hr0 HNO
  go_wp2_with fail
  refine HNW.out.mono ?_
  rintro e w1 ⟨rfl, hb1⟩
  have hbx := hb1.alloc hb1.size (.cells #[.int .i64 x0, .int .i64 x1, .string x2, .int .u64 x3, .bool x4, .bool x5] 42)
  have hx := Blk.new w1 42 #[.int .i64 x0, .int .i64 x1, .string x2, .int .u64 x3, .bool x4, .bool x5]
  obtain ⟨g, hg⟩ : ∃ g, g = w1.heap.size := ⟨_, rfl⟩
  have HG := Lib.hid hg
  clear t0 t1 t2 t3 hb1 hg HNW
  go_upto_region 2 with fail
  rw [← HG.out] at hx ⊢
  generalize (w1.alloc (.cells #[.int .i64 x0, .int .i64 x1, .string x2, .int .u64 x3, .bool x4, .bool x5] 42)) = w2 at hbx hx ⊢
  have k0 := HK0.out.below hbx HK0.out.lt
  have k1 := HK1.out.below hbx HK1.out.lt
  have hr2 := HR.out.below hbx
  have ht2 := HT.out.below hbx
  have hb2 := HB.out.trans (hbx.mono HB.out.size)
  have t0 : w2.cell? ⟨w.heap.size, 0, none⟩ = some (.slice A n cap) := (k0.cell 0).trans rfl
  have t1 : w2.cell? ⟨w.heap.size, 1, none⟩ = some (.int .i64 lv) := (k0.cell 1).trans rfl
  have t2 : w2.cell? ⟨w.heap.size, 2, none⟩ = some (.int .i64 nx) := (k0.cell 2).trans rfl
  have t3 : w2.cell? ⟨w.heap.size, 3, none⟩ = some (.int .u64 nw) := (k0.cell 3).trans rfl
  have e0 : w2.cell? ⟨g, 0, none⟩ = some (.int .i64 x0) := (hx.cell 0).trans rfl
  have e1 : w2.cell? ⟨g, 1, none⟩ = some (.int .i64 x1) := (hx.cell 1).trans rfl
  have e2 : w2.cell? ⟨g, 2, none⟩ = some (.string x2) := (hx.cell 2).trans rfl
  have e3 : w2.cell? ⟨g, 3, none⟩ = some (.int .u64 x3) := (hx.cell 3).trans rfl
  have e4 : w2.cell? ⟨g, 4, none⟩ = some (.bool x4) := (hx.cell 4).trans rfl
  have e5 : w2.cell? ⟨g, 5, none⟩ = some (.bool x5) := (hx.cell 5).trans rfl
  have c0 : w2.cell? ⟨w.heap.size + 1, 0, none⟩ = some (.slice none 0 0) := (k1.cell 0).trans rfl
  have c1 : w2.cell? ⟨w.heap.size + 1, 1, none⟩ = some (.slice none 0 0) := (k1.cell 1).trans rfl
  have f0 := k1.frozen 0
  have f1 := k1.frozen 1
  clear HK0 HK1 HR HT HB hbx
  have HK0 := Lib.hid k0
  have HK1 := Lib.hid k1
  have HX := Lib.hid hx
  have HR := Lib.hid hr2
  have HT := Lib.hid ht2
  have HB := Lib.hid hb2
  have hwl : w.heap.size + 1 < w2.heap.size := k1.lt
  clear k0 k1 hx hr2 ht2 hb2
  by_cases h0 : er = 0
  · subst h0
    have HNDQ := Lib.hid (show R = (if a = 1 then (zP, 13) else if x5 = true then (zP, 12)
     else if km = 0 then (planC (doN ⟨⟨l, lv, nx, nw⟩, [], []⟩ (st3 3 a 0)), 0)
     else if km = 1 then (planS (downN ⟨⟨l, lv, nx, nw⟩, [], []⟩ ⟨x0, x1, x2, x3, x4, x5⟩ (kn.getD 0 0)), 0)
     else (planS (doN ⟨⟨l, lv, nx, nw⟩, [], []⟩ (st3 2 a 0)), 0)) by rw [HND.out]; simp)
    have HRP := Lib.hid (HOK.out (by simp)).1
    clear HND HOK
    by_cases h1 : a = 1
    · have HR2 := Lib.hid (show R = (zP, 13) by rw [HNDQ.out, if_pos h1])
      clear HNDQ HKI
      go_wp2_with fail
      have h3 := (HK1.out.set_ 0 (.slice none 0 0)).set_ 1 (.slice none 0 0)
      refine bodyPost_ret (results_row_tmp rfl _ _ (w.heap.size + 1) _ _ _ _ rfl h3 Tryd.underlying33 rfl (by rw [pl_info]; rfl)) rfl ?_
      refine ⟨_, by rw [HR2.out]; rfl, by rw [HR2.out]; exact PlAt.zero _, ?_⟩
      repeat (refine below_set ?_ (by omega))
      exact HB.out
    cases x5 with
    | true =>
      have HR2 := Lib.hid (show R = (zP, 12) by rw [HNDQ.out, if_neg h1]; simp)
      clear HNDQ HKI
      go_wp2_with fail
      have h3 := (HK1.out.set_ 0 (.slice none 0 0)).set_ 1 (.slice none 0 0)
      refine bodyPost_ret (results_row_tmp rfl _ _ (w.heap.size + 1) _ _ _ _ rfl h3 Tryd.underlying33 rfl (by rw [pl_info]; rfl)) rfl ?_
      refine ⟨_, by rw [HR2.out]; rfl, by rw [HR2.out]; exact PlAt.zero _, ?_⟩
      repeat (refine below_set ?_ (by omega))
      exact HB.out
    | false =>
      have HNDR := Lib.hid (show R = (if km = 0 then (planC (doN ⟨⟨l, lv, nx, nw⟩, [], []⟩ (st3 3 a 0)), 0)
       else if km = 1 then (planS (downN ⟨⟨l, lv, nx, nw⟩, [], []⟩ ⟨x0, x1, x2, x3, x4, false⟩ (kn.getD 0 0)), 0)
       else (planS (doN ⟨⟨l, lv, nx, nw⟩, [], []⟩ (st3 2 a 0)), 0)) by rw [HNDQ.out, if_neg h1]; simp)
      clear HNDQ
      go_upto_region 9 with fail
      have hbp := (Below.refl w2.heap.size w2).alloc (Nat.le_refl _) (.cells #[.slice A n cap, .int .i64 lv, .int .i64 nx, .int .u64 nw, .slice none 0 0, .slice none 0 0] 96)
      have hpk := Blk.new w2 96 #[.slice A n cap, .int .i64 lv, .int .i64 nx, .int .u64 nw, .slice none 0 0, .slice none 0 0]
      generalize (w2.alloc (.cells #[.slice A n cap, .int .i64 lv, .int .i64 nx, .int .u64 nw, .slice none 0 0, .slice none 0 0] 96)) = w3 at hbp hpk ⊢
      have hps : PsAt w3 w2.heap.size w2.heap.size ⟨⟨l, lv, nx, nw⟩, [], []⟩ := ⟨A, cap, none, 0, none, 0, by dsimp only; rw [HN.out]; exact hpk, by dsimp only; rw [HN.out]; exact HCP.out, HR.out.below hbp, own_nil _ _ _ _, own_nil _ _ _ _, Nat.le_refl _⟩
      have HPS := Lib.hid hps
      have HBP := Lib.hid hbp
      clear hps hpk hbp
      clear t0 t1 t2 t3 e0 e1 e2 e3 e4 e5 c0 c1 f0 f1
      have k0 := HK0.out.below HBP.out HK0.out.lt
      have t0 : w3.cell? ⟨w.heap.size, 0, none⟩ = some (.slice A n cap) := (k0.cell 0).trans rfl
      have t1 : w3.cell? ⟨w.heap.size, 1, none⟩ = some (.int .i64 lv) := (k0.cell 1).trans rfl
      have t2 : w3.cell? ⟨w.heap.size, 2, none⟩ = some (.int .i64 nx) := (k0.cell 2).trans rfl
      have t3 : w3.cell? ⟨w.heap.size, 3, none⟩ = some (.int .u64 nw) := (k0.cell 3).trans rfl
      have HKW := Lib.hid (HKI.out w3 (HR.out.below HBP.out))
      clear k0 HKI
      go_wp2_with fail
      refine HKW.out.mono ?_
      rintro e w4 ⟨v4, rfl, ho4, hb4⟩
      obtain ⟨A4, cp4, rfl⟩ := own_formT ho4
      have HP4 := Lib.hid (HPS.out.below hb4)
      have HE4 := Lib.hid (HBP.out.trans (hb4.mono HBP.out.size))
      have HO4 := Lib.hid ho4
      clear t0 t1 t2 t3 hb4 ho4 HPS HBP HKW
      by_cases k0 : km = 0
      · subst k0
        have HR2 := Lib.hid (show R = (planC (doN ⟨⟨l, lv, nx, nw⟩, [], []⟩ (st3 3 a 0)), 0) by rw [HNDR.out]; simp)
        clear HNDR HO4
        have HCD := Lib.hid (do_ps w2 HT.out w2.heap.size ⟨⟨l, lv, nx, nw⟩, [], []⟩ 3 a 0 w4 HE4.out HP4.out HSM.out (Nat.zero_le _))
        go_wp2_with fail
        refine HCD.out.mono ?_
        rintro e w5 ⟨rfl, hp5, hE5, _⟩
        have HP5 := Lib.hid hp5
        have HE5 := Lib.hid hE5
        clear hp5 hE5 HCD HP4 HE4
        have k1 := HK1.out.below HE5.out hwl
        have c0 : w5.cell? ⟨w.heap.size + 1, 0, none⟩ = some (.slice none 0 0) := (k1.cell 0).trans rfl
        have c1 : w5.cell? ⟨w.heap.size + 1, 1, none⟩ = some (.slice none 0 0) := (k1.cell 1).trans rfl
        have HCC := Lib.hid (clear_ps w2 HT.out w2.heap.size (doN ⟨⟨l, lv, nx, nw⟩, [], []⟩ (st3 3 a 0)) w5 HE5.out HP5.out (small_do HSM.out (Nat.zero_le _)) (right_do HRP.out) (Nat.le_trans (do_len _ _).1 (show 0 + 1 ≤ 1000000 by decide)))
        clear k1 c0 c1
        go_wp2_with fail
        refine HCC.out.mono ?_
        rintro e w6 ⟨v6, rfl, hpl6, hE6, _⟩
        have k1 := HK1.out.below hE6 hwl
        have c0 : w6.cell? ⟨w.heap.size + 1, 0, none⟩ = some (.slice none 0 0) := (k1.cell 0).trans rfl
        have c1 : w6.cell? ⟨w.heap.size + 1, 1, none⟩ = some (.slice none 0 0) := (k1.cell 1).trans rfl
        have f0 := k1.frozen 0
        have f1 := k1.frozen 1
        have HK6 := Lib.hid k1
        have HB6 := Lib.hid (HB.out.trans (hE6.mono HB.out.size))
        obtain ⟨MAx, mcx, SAx, scx, rfl, rmx, rsx⟩ := hpl6
        obtain ⟨kmx, hkmx⟩ : ∃ k, (planC (doN ⟨⟨l, lv, nx, nw⟩, [], []⟩ (st3 3 a 0))).ms.length = k := ⟨_, rfl⟩
        obtain ⟨ksx, hksx⟩ : ∃ k, (planC (doN ⟨⟨l, lv, nx, nw⟩, [], []⟩ (st3 3 a 0))).ss.length = k := ⟨_, rfl⟩
        have HKMX := Lib.hid hkmx
        have HKSX := Lib.hid hksx
        have RMX := Lib.hid rmx
        have RSX := Lib.hid rsx
        unfold planC at hkmx hksx
        dsimp only at hkmx hksx ⊢
        rw [hkmx, hksx]
        clear hkmx hksx rmx rsx k1 hE6 HCC HE5 HP5
        go_wp2_with fail
        have h3 := (HK6.out.set_ 0 (.slice MAx kmx mcx)).set_ 1 (.slice SAx ksx scx)
        refine bodyPost_ret (results_row_tmp rfl _ _ (w.heap.size + 1) _ _ _ _ rfl h3 Tryd.underlying33 rfl (by rw [pl_info]; rfl)) rfl ?_
        refine ⟨_, by rw [HR2.out]; rfl, ?_, ?_⟩
        · rw [HR2.out]
          exact ⟨MAx, mcx, SAx, scx, by dsimp only; rw [HKMX.out, HKSX.out]; rfl, (RMX.out.setB HK6.out (by decide) 0 _).setB (HK6.out.set_ 0 _) (by decide) 1 _, (RSX.out.setB HK6.out (by decide) 0 _).setB (HK6.out.set_ 0 _) (by decide) 1 _⟩
        · repeat (refine below_set ?_ (by omega))
          exact HB6.out
      by_cases k1 : km = 1
      · subst k1
        have HR2 := Lib.hid (show R = (planS (downN ⟨⟨l, lv, nx, nw⟩, [], []⟩ ⟨x0, x1, x2, x3, x4, false⟩ (kn.getD 0 0)), 0) by rw [HNDR.out]; simp)
        clear HNDR
        obtain ⟨kid, hkid⟩ : ∃ kid, kn = [kid] := by
          have hkm := HKM.out
          match kn, hkm with
          | [k], _ => exact ⟨k, rfl⟩
        subst hkid
        have HRD := Lib.hid (show R = (planS (downN ⟨⟨l, lv, nx, nw⟩, [], []⟩ ⟨x0, x1, x2, x3, x4, false⟩ kid), 0) by rw [HR2.out]; rfl)
        clear HR2
        have HR2 := HRD
        obtain ⟨g4, cg4, e4', hg4⟩ := own_formS (n := 0) HO4.out
        injection e4' with e1' e2' e3'
        subst e1' e3'
        have hblk : ∃ cs, w4.heap[g4]? = some (.cells cs 3 (0, 0)) := by
          rcases HO4.out.2 with ⟨h1, _⟩ | ⟨g', c', cur, he, _, hh, _⟩
          · cases h1
          · injection he with he1 _ _
            injection he1 with he1
            injection he1 with he1
            subst he1
            exact ⟨cur, hh⟩
        obtain ⟨cs4, hb4k⟩ := hblk
        have r0 : w4.cell? ⟨g4, 0, none⟩ = some (.int .i64 kid) := (HO4.out.cellAt 0 (by decide)).trans rfl
        have HX4 := Lib.hid (HX.out.below HE4.out HX.out.lt)
        have hx4 := HX4.out
        have e0 : w4.cell? ⟨g, 0, none⟩ = some (.int .i64 x0) := (hx4.cell 0).trans rfl
        have e1 : w4.cell? ⟨g, 1, none⟩ = some (.int .i64 x1) := (hx4.cell 1).trans rfl
        have e2 : w4.cell? ⟨g, 2, none⟩ = some (.string x2) := (hx4.cell 2).trans rfl
        have e3 : w4.cell? ⟨g, 3, none⟩ = some (.int .u64 x3) := (hx4.cell 3).trans rfl
        have e4 : w4.cell? ⟨g, 4, none⟩ = some (.bool x4) := (hx4.cell 4).trans rfl
        have e5 : w4.cell? ⟨g, 5, none⟩ = some (.bool false) := (hx4.cell 5).trans rfl
        have HBK := Lib.hid hb4k
        have hcall := down_ps w2 HT.out w2.heap.size ⟨⟨l, lv, nx, nw⟩, [], []⟩ ⟨x0, x1, x2, x3, x4, false⟩ kid w4.drew (below_drew1 HE4.out) (HP4.out.below (below_drew1 (Below.refl _ _))) HSM.out (Nat.zero_le _) (Nat.zero_le _)
        unfold valN at hcall
        dsimp only at hcall
        have HCALL := Lib.hid hcall
        clear hcall hx4 hb4k
        go_upto_region 16 with fail
        have hkeep : ∀ w' : World, w'.heap[g]? = w4.heap[g]? → w'.heap[g4]? = w4.heap[g4]? → w'.cell? ⟨g, 0, none⟩ = some (.int .i64 x0) ∧ w'.cell? ⟨g, 1, none⟩ = some (.int .i64 x1) ∧ w'.cell? ⟨g, 2, none⟩ = some (.string x2) ∧ w'.cell? ⟨g, 3, none⟩ = some (.int .u64 x3) ∧ w'.cell? ⟨g, 4, none⟩ = some (.bool x4) ∧ w'.cell? ⟨g, 5, none⟩ = some (.bool false) ∧ w'.cell? ⟨g4, 0, none⟩ = some (.int .i64 kid) := fun w' h1 h2 =>
          ⟨(World.cell?_of_block (a := ⟨g, 0, none⟩) h1).trans e0, (World.cell?_of_block (a := ⟨g, 1, none⟩) h1).trans e1, (World.cell?_of_block (a := ⟨g, 2, none⟩) h1).trans e2, (World.cell?_of_block (a := ⟨g, 3, none⟩) h1).trans e3, (World.cell?_of_block (a := ⟨g, 4, none⟩) h1).trans e4, (World.cell?_of_block (a := ⟨g, 5, none⟩) h1).trans e5, (World.cell?_of_block (a := ⟨g4, 0, none⟩) h2).trans r0⟩
        have HKP := Lib.hid hkeep
        have KPD := Lib.hid (hkeep w4.drew rfl rfl)
        clear hkeep
        go_region_held3 (fun w' => w'.cell? ⟨g, 0, none⟩ = some (.int .i64 x0) ∧ w'.cell? ⟨g, 1, none⟩ = some (.int .i64 x1) ∧ w'.cell? ⟨g, 2, none⟩ = some (.string x2) ∧ w'.cell? ⟨g, 3, none⟩ = some (.int .u64 x3) ∧ w'.cell? ⟨g, 4, none⟩ = some (.bool x4) ∧ w'.cell? ⟨g, 5, none⟩ = some (.bool false) ∧ w'.cell? ⟨g4, 0, none⟩ = some (.int .i64 kid))
          (first | with_reducible exact KPD.out | with_reducible exact HKP.out _ hka hkb | fail)
          (first
            | (go_at_call 47; refine HCALL.out.mono ?_; (rintro e w5 ⟨rfl, hp5, hE5, hk5⟩; have hka : w5.heap[g]? = w4.heap[g]? := (hk5.2 g _ _ _ HX4.out (by decide) (by decide) (by decide)); have hkb : w5.heap[g4]? = w4.heap[g4]? := (hk5.2 g4 _ _ _ HBK.out (by decide) (by decide) (by decide)); have HP5 := Lib.hid hp5; have HE5 := Lib.hid hE5; clear hp5 hE5 hk5))
            | fail)
        clear e0 e1 e2 e3 e4 e5 r0
        have k1 := HK1.out.below HE5.out hwl
        have c0 : w5.cell? ⟨w.heap.size + 1, 0, none⟩ = some (.slice none 0 0) := (k1.cell 0).trans rfl
        have c1 : w5.cell? ⟨w.heap.size + 1, 1, none⟩ = some (.slice none 0 0) := (k1.cell 1).trans rfl
        have f0 := k1.frozen 0
        have f1 := k1.frozen 1
        have HK6 := Lib.hid k1
        have HB6 := Lib.hid (HB.out.trans (HE5.out.mono HB.out.size))
        obtain ⟨Ax, capx, MAx, mcx, SAx, scx, hkx, _, _, hmx, hsx, _⟩ := HP5.out
        have rmx := rowAt_own encM_len hmx
        have rsx := rowAt_own encS_len hsx
        generalize downN ⟨⟨l, lv, nx, nw⟩, [], []⟩ ⟨x0, x1, x2, x3, x4, false⟩ kid = s5 at HR2 hkx rmx rsx
        obtain ⟨kmx, hkmx⟩ : ∃ k, s5.ms.length = k := ⟨_, rfl⟩
        obtain ⟨ksx, hksx⟩ : ∃ k, s5.ss.length = k := ⟨_, rfl⟩
        have HKMX := Lib.hid hkmx
        have HKSX := Lib.hid hksx
        have RMX := Lib.hid rmx
        have RSX := Lib.hid rsx
        rw [hkmx, hksx] at hkx
        have p4 : w5.cell? ⟨w2.heap.size, 4, none⟩ = some (.slice MAx kmx mcx) := (hkx.cell 4).trans rfl
        have p5 : w5.cell? ⟨w2.heap.size, 5, none⟩ = some (.slice SAx ksx scx) := (hkx.cell 5).trans rfl
        clear hkmx hksx rmx rsx k1 HE5 HP5 hkx hmx hsx
        go_wp2_with fail
        have h3 := (HK6.out.set_ 0 (.slice MAx kmx mcx)).set_ 1 (.slice SAx ksx scx)
        refine bodyPost_ret (results_row_tmp rfl _ _ (w.heap.size + 1) _ _ _ _ rfl h3 Tryd.underlying33 rfl (by rw [pl_info]; rfl)) rfl ?_
        refine ⟨_, by rw [HR2.out]; rfl, ?_, ?_⟩
        · rw [HR2.out]
          exact ⟨MAx, mcx, SAx, scx, by rw [show (planS s5).ms.length = kmx from HKMX.out, show (planS s5).ss.length = ksx from HKSX.out]; rfl, (RMX.out.setB HK6.out (by decide) 0 _).setB (HK6.out.set_ 0 _) (by decide) 1 _, (RSX.out.setB HK6.out (by decide) 0 _).setB (HK6.out.set_ 0 _) (by decide) 1 _⟩
        · repeat (refine below_set ?_ (by omega))
          exact HB6.out
      have HR2 := Lib.hid (show R = (planS (doN ⟨⟨l, lv, nx, nw⟩, [], []⟩ (st3 2 a 0)), 0) by rw [HNDR.out, if_neg k0, if_neg k1])
      clear HNDR HO4
      have HCD := Lib.hid (do_ps w2 HT.out w2.heap.size ⟨⟨l, lv, nx, nw⟩, [], []⟩ 2 a 0 w4 HE4.out HP4.out HSM.out (Nat.zero_le _))
      go_wp2_with fail
      refine HCD.out.mono ?_
      rintro e w5 ⟨rfl, hp5, hE5, _⟩
      have HP5 := Lib.hid hp5
      have HE5 := Lib.hid hE5
      clear hp5 hE5 HCD HP4 HE4
      have k1 := HK1.out.below HE5.out hwl
      have c0 : w5.cell? ⟨w.heap.size + 1, 0, none⟩ = some (.slice none 0 0) := (k1.cell 0).trans rfl
      have c1 : w5.cell? ⟨w.heap.size + 1, 1, none⟩ = some (.slice none 0 0) := (k1.cell 1).trans rfl
      have f0 := k1.frozen 0
      have f1 := k1.frozen 1
      have HK6 := Lib.hid k1
      have HB6 := Lib.hid (HB.out.trans (HE5.out.mono HB.out.size))
      obtain ⟨Ax, capx, MAx, mcx, SAx, scx, hkx, _, _, hmx, hsx, _⟩ := HP5.out
      have rmx := rowAt_own encM_len hmx
      have rsx := rowAt_own encS_len hsx
      generalize doN ⟨⟨l, lv, nx, nw⟩, [], []⟩ (st3 2 a 0) = s5 at HR2 hkx rmx rsx
      obtain ⟨kmx, hkmx⟩ : ∃ k, s5.ms.length = k := ⟨_, rfl⟩
      obtain ⟨ksx, hksx⟩ : ∃ k, s5.ss.length = k := ⟨_, rfl⟩
      have HKMX := Lib.hid hkmx
      have HKSX := Lib.hid hksx
      have RMX := Lib.hid rmx
      have RSX := Lib.hid rsx
      rw [hkmx, hksx] at hkx
      have p4 : w5.cell? ⟨w2.heap.size, 4, none⟩ = some (.slice MAx kmx mcx) := (hkx.cell 4).trans rfl
      have p5 : w5.cell? ⟨w2.heap.size, 5, none⟩ = some (.slice SAx ksx scx) := (hkx.cell 5).trans rfl
      clear hkmx hksx rmx rsx k1 HE5 HP5 hkx hmx hsx
      go_wp2_with fail
      have h3 := (HK6.out.set_ 0 (.slice MAx kmx mcx)).set_ 1 (.slice SAx ksx scx)
      refine bodyPost_ret (results_row_tmp rfl _ _ (w.heap.size + 1) _ _ _ _ rfl h3 Tryd.underlying33 rfl (by rw [pl_info]; rfl)) rfl ?_
      refine ⟨_, by rw [HR2.out]; rfl, ?_, ?_⟩
      · rw [HR2.out]
        exact ⟨MAx, mcx, SAx, scx, by rw [show (planS s5).ms.length = kmx from HKMX.out, show (planS s5).ss.length = ksx from HKSX.out]; rfl, (RMX.out.setB HK6.out (by decide) 0 _).setB (HK6.out.set_ 0 _) (by decide) 1 _, (RSX.out.setB HK6.out (by decide) 0 _).setB (HK6.out.set_ 0 _) (by decide) 1 _⟩
      · repeat (refine below_set ?_ (by omega))
        exact HB6.out
  · have h0b : (er == 0) = false := by rw [beq_eq_false_iff_ne]; exact h0
    have HR2 := Lib.hid (show R = (zP, er) by rw [HND.out, if_neg h0])
    clear HND HOK HKI
    go_wp2_with fail
    have h3 := (HK1.out.set_ 0 (.slice none 0 0)).set_ 1 (.slice none 0 0)
    refine bodyPost_ret (results_row_tmp rfl _ _ (w.heap.size + 1) _ _ _ _ rfl h3 Tryd.underlying33 rfl (by rw [pl_info]; rfl)) rfl ?_
    refine ⟨_, by rw [HR2.out]; rfl, by rw [HR2.out]; exact PlAt.zero _, ?_⟩
    repeat (refine below_set ?_ (by omega))
    exact HB.out
end Go.Proofs.YtfdhehjfbcddgaaDoor.Pr
