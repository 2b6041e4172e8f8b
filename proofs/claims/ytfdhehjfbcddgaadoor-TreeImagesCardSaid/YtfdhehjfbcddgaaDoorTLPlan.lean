/- rootcellarlaw14.plan: an act's plan. Conditions: the nodes are not more than a million, nor is any name longer; the act's numbers are numbers of Go; the tables of unicode/utf8 lie in memory. -/
import Derived.Test.YtfdhehjfbcddgaaDoorTLaw0
import Derived.Test.YtfdhehjfbcddgaaDoorTCons
namespace Go.Proofs.YtfdhehjfbcddgaaDoor.Pr
open Go.RowKit Go.Proofs.YtfdhehjfbcddgaaDoorW.PrintWords Go.Proofs.YtfdhehjfbcddgaaDoorW.PrintLast Go.Proofs.YtfdhehjfbcddgaaDoor
set_option linter.unusedVariables false
set_option maxRecDepth 100000 in
set_option maxHeartbeats 16000000 in
theorem plan_any (A : Option Addr) (cap : Nat) (l : List Nd) (lv nx nw : Int) (a0 a1 a2 : Int) (a3 : ByteArray) (w : World) (hl : l.length ≤ 1000000) (hcp : l.length ≤ cap) (hr : NodesAt w A l) (hT : Tabs w) (hnm : ∀ x ∈ l, x.name.size ≤ 1000000) (ha0 : I64 a0) (ha2 : I64 a2) (hsz : a3.size ≤ 1000000) :
    Calls Tryd.prog 12 #[.agg #[.slice A l.length cap, .int .i64 lv, .int .i64 nx, .int .u64 nw], .agg #[.int .i64 a0, .int .i64 a1, .int .i64 a2, .string a3]] w fun e w' => ∃ v, e = .returned (.tuple #[v, .int .i64 (planN ⟨l, lv, nx, nw⟩ ⟨a0, a1, a2, a3⟩).2]) ∧ PlAt w' v (planN ⟨l, lv, nx, nw⟩ ⟨a0, a1, a2, a3⟩).1 ∧ Below w.heap.size w w' := by
  obtain ⟨n, hn⟩ : ∃ n, l.length = n := ⟨_, rfl⟩
  obtain ⟨P, hP⟩ : ∃ P, pickN a0 12 = P := ⟨_, rfl⟩
  obtain ⟨hP0, hP1⟩ := pickN_range a0 12 (by decide)
  have hpick := fun (wx : World) => pick_any a0 12 wx ha0 (by decide) (by decide)
  obtain ⟨R, hR⟩ : ∃ R, planN ⟨l, lv, nx, nw⟩ ⟨a0, a1, a2, a3⟩ = R := ⟨_, rfl⟩
  have hnd : R = (if P ≤ 3 then snapN ⟨l, lv, nx, nw⟩ a3 else if P ≤ 5 then revertN ⟨l, lv, nx, nw⟩ a1 else if P ≤ 8 then deleteN ⟨l, lv, nx, nw⟩ a1 else if P = 9 then (⟨[], [⟨5, max a1 0, pickN a2 2, 0, ⟨#[]⟩⟩]⟩, 0) else if P = 10 then consN ⟨l, lv, nx, nw⟩ a2 else (⟨[], [⟨7, 0, 0, IntKind.u64.wrap (nw + pickN a2 9), ⟨#[]⟩⟩]⟩, 0)) := by rw [← hR, ← hP]; rfl
  rw [hP] at hP0 hP1 hpick
  rw [hR]
  have hsnap := fun (w1 : World) (hx : NodesAt w1 A l) (ht : Tabs w1) => tsnap_any A cap l lv nx nw a3 w1 hl hcp hx ht hnm hsz
  have hrev := fun (w1 : World) (hx : NodesAt w1 A l) (ht : Tabs w1) => trevert_any A cap l lv nx nw a1 w1 hl hcp hx ht hnm
  have hdel := fun (w1 : World) (hx : NodesAt w1 A l) (ht : Tabs w1) => tdelete2_any A cap l lv nx nw a1 w1 hl hcp hx ht hnm
  have hcon := fun (w1 : World) (hx : NodesAt w1 A l) (ht : Tabs w1) => tcons_any A cap l lv nx nw a2 w1 hl hcp hx ht hnm
  rw [hn] at hl hcp hsnap hrev hdel hcon ⊢
  have hbel : Below w.heap.size w (((w.alloc (.cells #[.slice A n cap, .int .i64 lv, .int .i64 nx, .int .u64 nw] 28)).alloc (.cells #[.int .i64 a0, .int .i64 a1, .int .i64 a2, .string a3] 38)).alloc (.cells #[.slice none 0 0, .slice none 0 0] 33)) := (((Below.refl _ _).alloc (Nat.le_refl _) _).alloc (by simp) _).alloc (by simp; omega) _
  have hk0 : Blk (((w.alloc (.cells #[.slice A n cap, .int .i64 lv, .int .i64 nx, .int .u64 nw] 28)).alloc (.cells #[.int .i64 a0, .int .i64 a1, .int .i64 a2, .string a3] 38)).alloc (.cells #[.slice none 0 0, .slice none 0 0] 33)) w.heap.size 28 #[.slice A n cap, .int .i64 lv, .int .i64 nx, .int .u64 nw] := ((Blk.new w 28 #[.slice A n cap, .int .i64 lv, .int .i64 nx, .int .u64 nw]).alloc _).alloc _
  have hk1 : Blk (((w.alloc (.cells #[.slice A n cap, .int .i64 lv, .int .i64 nx, .int .u64 nw] 28)).alloc (.cells #[.int .i64 a0, .int .i64 a1, .int .i64 a2, .string a3] 38)).alloc (.cells #[.slice none 0 0, .slice none 0 0] 33)) (w.heap.size + 1) 38 #[.int .i64 a0, .int .i64 a1, .int .i64 a2, .string a3] := (blk_new1 w _ _ _).alloc _
  have hk2 : Blk (((w.alloc (.cells #[.slice A n cap, .int .i64 lv, .int .i64 nx, .int .u64 nw] 28)).alloc (.cells #[.int .i64 a0, .int .i64 a1, .int .i64 a2, .string a3] 38)).alloc (.cells #[.slice none 0 0, .slice none 0 0] 33)) (w.heap.size + 1 + 1) 33 #[.slice none 0 0, .slice none 0 0] := by
    have := Blk.new ((w.alloc (.cells #[.slice A n cap, .int .i64 lv, .int .i64 nx, .int .u64 nw] 28)).alloc (.cells #[.int .i64 a0, .int .i64 a1, .int .i64 a2, .string a3] 38)) 33 #[.slice none 0 0, .slice none 0 0]
    simpa using this
  have hr0 := hr.below hbel
  have hT0 := hT.below hbel
  have HND := Lib.hid hnd
  have HPK := Lib.hid hpick
  have HA2 := Lib.hid ha2
  have HSN := Lib.hid hsnap
  have HRV := Lib.hid hrev
  have HDL := Lib.hid hdel
  have HCN := Lib.hid hcon
  clear hr hT hnm hsnap hrev hdel hcon hpick hnd hR hP hn ha0 ha2 hcp hsz
  go_enter Tryd.func12, Tryd.ntmps12
  go_upto_region 1 with fail
  generalize (((w.alloc (.cells #[.slice A n cap, .int .i64 lv, .int .i64 nx, .int .u64 nw] 28)).alloc (.cells #[.int .i64 a0, .int .i64 a1, .int .i64 a2, .string a3] 38)).alloc (.cells #[.slice none 0 0, .slice none 0 0] 33)) = w0 at hbel hk0 hk1 hk2 hr0 hT0 ⊢
  have t0 : w0.cell? ⟨w.heap.size, 0, none⟩ = some (.slice A n cap) := (hk0.cell 0).trans rfl
  have t1 : w0.cell? ⟨w.heap.size, 1, none⟩ = some (.int .i64 lv) := (hk0.cell 1).trans rfl
  have t2 : w0.cell? ⟨w.heap.size, 2, none⟩ = some (.int .i64 nx) := (hk0.cell 2).trans rfl
  have t3 : w0.cell? ⟨w.heap.size, 3, none⟩ = some (.int .u64 nw) := (hk0.cell 3).trans rfl
  have u0 : w0.cell? ⟨w.heap.size + 1, 0, none⟩ = some (.int .i64 a0) := (hk1.cell 0).trans rfl
  have u1 : w0.cell? ⟨w.heap.size + 1, 1, none⟩ = some (.int .i64 a1) := (hk1.cell 1).trans rfl
  have u2 : w0.cell? ⟨w.heap.size + 1, 2, none⟩ = some (.int .i64 a2) := (hk1.cell 2).trans rfl
  have u3 : w0.cell? ⟨w.heap.size + 1, 3, none⟩ = some (.string a3) := (hk1.cell 3).trans rfl
  have c0 : w0.cell? ⟨w.heap.size + 1 + 1, 0, none⟩ = some (.slice none 0 0) := (hk2.cell 0).trans rfl
  have c1 : w0.cell? ⟨w.heap.size + 1 + 1, 1, none⟩ = some (.slice none 0 0) := (hk2.cell 1).trans rfl
  have f0 := hk2.frozen 0
  have f1 := hk2.frozen 1
  have HB := Lib.hid hbel
  have HK2 := Lib.hid hk2
  have HR := Lib.hid hr0
  have HT := Lib.hid hT0
  have hl2 := hk2.lt
  clear hbel hk0 hk1 hk2 hr0 hT0
  go_upto_block 0 with fail
  refine (HPK.out _).mono ?_
  rintro e w1 ⟨rfl, rfl⟩
  go_upto_block 0 with fail
  by_cases h3 : P ≤ 3
  · have hP : P = 0 ∨ P = 1 ∨ P = 2 ∨ P = 3 := by omega
    rcases hP with rfl | rfl | rfl | rfl
    all_goals (
      clear HPK
      obtain ⟨⟨⟨pm, ps⟩, er⟩, hQ⟩ : ∃ Q, snapN ⟨l, lv, nx, nw⟩ a3 = Q := ⟨_, rfl⟩
      have hcl := HSN.out w1 HR.out HT.out
      rw [hQ] at hcl
      dsimp only at hcl
      have HR2 := Lib.hid (show R = (⟨pm, ps⟩, er) by rw [HND.out, if_pos h3, hQ])
      have HCL := Lib.hid hcl
      clear hcl hQ HND
      go_wp2_with fail
      refine HCL.out.mono ?_
      rintro e w5 ⟨v5, rfl, hpl, hb5⟩
      obtain ⟨MAx, mcx, SAx, scx, rfl, rmx, rsx⟩ := hpl
      dsimp only at rmx rsx ⊢
      obtain ⟨kmx, hkmx⟩ : ∃ k, pm.length = k := ⟨_, rfl⟩
      obtain ⟨ksx, hksx⟩ : ∃ k, ps.length = k := ⟨_, rfl⟩
      rw [hkmx, hksx]
      have HKMX := Lib.hid hkmx
      have HKSX := Lib.hid hksx
      have RMX := Lib.hid rmx
      have RSX := Lib.hid rsx
      have k2 := HK2.out.below hb5 HK2.out.lt
      have hb6 := HB.out.trans (hb5.mono HB.out.size)
      clear t0 t1 t2 t3 u0 u1 u2 u3 c0 c1 f0 f1 HCL hkmx hksx rmx rsx hb5
      have c0 : w5.cell? ⟨w.heap.size + 1 + 1, 0, none⟩ = some (.slice none 0 0) := (k2.cell 0).trans rfl
      have c1 : w5.cell? ⟨w.heap.size + 1 + 1, 1, none⟩ = some (.slice none 0 0) := (k2.cell 1).trans rfl
      have f0 := k2.frozen 0
      have f1 := k2.frozen 1
      have HK6 := Lib.hid k2
      have HB6 := Lib.hid hb6
      clear k2 hb6
      go_wp2_with fail
      have h3 := (HK6.out.set_ 0 (.slice MAx kmx mcx)).set_ 1 (.slice SAx ksx scx)
      refine bodyPost_ret (results_row_tmp rfl _ _ (w.heap.size + 1 + 1) _ _ _ _ rfl h3 Tryd.underlying33 rfl (by rw [pl_info]; rfl)) rfl ?_
      refine ⟨_, by rw [HR2.out]; rfl, ?_, ?_⟩
      · rw [HR2.out]
        exact ⟨MAx, mcx, SAx, scx, by dsimp only; rw [HKMX.out, HKSX.out]; rfl, (RMX.out.setB HK6.out (by decide) 0 _).setB (HK6.out.set_ 0 _) (by decide) 1 _, (RSX.out.setB HK6.out (by decide) 0 _).setB (HK6.out.set_ 0 _) (by decide) 1 _⟩
      · repeat (refine below_set ?_ (by omega))
        exact HB6.out
    )
  by_cases h5 : P ≤ 5
  · have hP : P = 4 ∨ P = 5 := by omega
    rcases hP with rfl | rfl
    all_goals (
      clear HPK
      obtain ⟨⟨⟨pm, ps⟩, er⟩, hQ⟩ : ∃ Q, revertN ⟨l, lv, nx, nw⟩ a1 = Q := ⟨_, rfl⟩
      have hcl := HRV.out w1 HR.out HT.out
      rw [hQ] at hcl
      dsimp only at hcl
      have HR2 := Lib.hid (show R = (⟨pm, ps⟩, er) by rw [HND.out, if_neg h3, if_pos h5, hQ])
      have HCL := Lib.hid hcl
      clear hcl hQ HND
      go_wp2_with fail
      refine HCL.out.mono ?_
      rintro e w5 ⟨v5, rfl, hpl, hb5⟩
      obtain ⟨MAx, mcx, SAx, scx, rfl, rmx, rsx⟩ := hpl
      dsimp only at rmx rsx ⊢
      obtain ⟨kmx, hkmx⟩ : ∃ k, pm.length = k := ⟨_, rfl⟩
      obtain ⟨ksx, hksx⟩ : ∃ k, ps.length = k := ⟨_, rfl⟩
      rw [hkmx, hksx]
      have HKMX := Lib.hid hkmx
      have HKSX := Lib.hid hksx
      have RMX := Lib.hid rmx
      have RSX := Lib.hid rsx
      have k2 := HK2.out.below hb5 HK2.out.lt
      have hb6 := HB.out.trans (hb5.mono HB.out.size)
      clear t0 t1 t2 t3 u0 u1 u2 u3 c0 c1 f0 f1 HCL hkmx hksx rmx rsx hb5
      have c0 : w5.cell? ⟨w.heap.size + 1 + 1, 0, none⟩ = some (.slice none 0 0) := (k2.cell 0).trans rfl
      have c1 : w5.cell? ⟨w.heap.size + 1 + 1, 1, none⟩ = some (.slice none 0 0) := (k2.cell 1).trans rfl
      have f0 := k2.frozen 0
      have f1 := k2.frozen 1
      have HK6 := Lib.hid k2
      have HB6 := Lib.hid hb6
      clear k2 hb6
      go_wp2_with fail
      have h3 := (HK6.out.set_ 0 (.slice MAx kmx mcx)).set_ 1 (.slice SAx ksx scx)
      refine bodyPost_ret (results_row_tmp rfl _ _ (w.heap.size + 1 + 1) _ _ _ _ rfl h3 Tryd.underlying33 rfl (by rw [pl_info]; rfl)) rfl ?_
      refine ⟨_, by rw [HR2.out]; rfl, ?_, ?_⟩
      · rw [HR2.out]
        exact ⟨MAx, mcx, SAx, scx, by dsimp only; rw [HKMX.out, HKSX.out]; rfl, (RMX.out.setB HK6.out (by decide) 0 _).setB (HK6.out.set_ 0 _) (by decide) 1 _, (RSX.out.setB HK6.out (by decide) 0 _).setB (HK6.out.set_ 0 _) (by decide) 1 _⟩
      · repeat (refine below_set ?_ (by omega))
        exact HB6.out
    )
  by_cases h8 : P ≤ 8
  · have hP : P = 6 ∨ P = 7 ∨ P = 8 := by omega
    rcases hP with rfl | rfl | rfl
    all_goals (
      clear HPK
      obtain ⟨⟨⟨pm, ps⟩, er⟩, hQ⟩ : ∃ Q, deleteN ⟨l, lv, nx, nw⟩ a1 = Q := ⟨_, rfl⟩
      have hcl := HDL.out w1 HR.out HT.out
      rw [hQ] at hcl
      dsimp only at hcl
      have HR2 := Lib.hid (show R = (⟨pm, ps⟩, er) by rw [HND.out, if_neg h3, if_neg h5, if_pos h8, hQ])
      have HCL := Lib.hid hcl
      clear hcl hQ HND
      go_wp2_with fail
      refine HCL.out.mono ?_
      rintro e w5 ⟨v5, rfl, hpl, hb5⟩
      obtain ⟨MAx, mcx, SAx, scx, rfl, rmx, rsx⟩ := hpl
      dsimp only at rmx rsx ⊢
      obtain ⟨kmx, hkmx⟩ : ∃ k, pm.length = k := ⟨_, rfl⟩
      obtain ⟨ksx, hksx⟩ : ∃ k, ps.length = k := ⟨_, rfl⟩
      rw [hkmx, hksx]
      have HKMX := Lib.hid hkmx
      have HKSX := Lib.hid hksx
      have RMX := Lib.hid rmx
      have RSX := Lib.hid rsx
      have k2 := HK2.out.below hb5 HK2.out.lt
      have hb6 := HB.out.trans (hb5.mono HB.out.size)
      clear t0 t1 t2 t3 u0 u1 u2 u3 c0 c1 f0 f1 HCL hkmx hksx rmx rsx hb5
      have c0 : w5.cell? ⟨w.heap.size + 1 + 1, 0, none⟩ = some (.slice none 0 0) := (k2.cell 0).trans rfl
      have c1 : w5.cell? ⟨w.heap.size + 1 + 1, 1, none⟩ = some (.slice none 0 0) := (k2.cell 1).trans rfl
      have f0 := k2.frozen 0
      have f1 := k2.frozen 1
      have HK6 := Lib.hid k2
      have HB6 := Lib.hid hb6
      clear k2 hb6
      go_wp2_with fail
      have h3 := (HK6.out.set_ 0 (.slice MAx kmx mcx)).set_ 1 (.slice SAx ksx scx)
      refine bodyPost_ret (results_row_tmp rfl _ _ (w.heap.size + 1 + 1) _ _ _ _ rfl h3 Tryd.underlying33 rfl (by rw [pl_info]; rfl)) rfl ?_
      refine ⟨_, by rw [HR2.out]; rfl, ?_, ?_⟩
      · rw [HR2.out]
        exact ⟨MAx, mcx, SAx, scx, by dsimp only; rw [HKMX.out, HKSX.out]; rfl, (RMX.out.setB HK6.out (by decide) 0 _).setB (HK6.out.set_ 0 _) (by decide) 1 _, (RSX.out.setB HK6.out (by decide) 0 _).setB (HK6.out.set_ 0 _) (by decide) 1 _⟩
      · repeat (refine below_set ?_ (by omega))
        exact HB6.out
    )
  by_cases h10 : P = 10
  · subst h10
    clear HPK
    obtain ⟨⟨⟨pm, ps⟩, er⟩, hQ⟩ : ∃ Q, consN ⟨l, lv, nx, nw⟩ a2 = Q := ⟨_, rfl⟩
    have hcl := HCN.out w1 HR.out HT.out
    rw [hQ] at hcl
    dsimp only at hcl
    have HR2 := Lib.hid (show R = (⟨pm, ps⟩, er) by rw [HND.out, if_neg h3, if_neg h5, if_neg h8, if_neg (by decide), if_pos rfl, hQ])
    have HCL := Lib.hid hcl
    clear hcl hQ HND
    go_wp2_with fail
    refine HCL.out.mono ?_
    rintro e w5 ⟨v5, rfl, hpl, hb5⟩
    obtain ⟨MAx, mcx, SAx, scx, rfl, rmx, rsx⟩ := hpl
    dsimp only at rmx rsx ⊢
    obtain ⟨kmx, hkmx⟩ : ∃ k, pm.length = k := ⟨_, rfl⟩
    obtain ⟨ksx, hksx⟩ : ∃ k, ps.length = k := ⟨_, rfl⟩
    rw [hkmx, hksx]
    have HKMX := Lib.hid hkmx
    have HKSX := Lib.hid hksx
    have RMX := Lib.hid rmx
    have RSX := Lib.hid rsx
    have k2 := HK2.out.below hb5 HK2.out.lt
    have hb6 := HB.out.trans (hb5.mono HB.out.size)
    clear t0 t1 t2 t3 u0 u1 u2 u3 c0 c1 f0 f1 HCL hkmx hksx rmx rsx hb5
    have c0 : w5.cell? ⟨w.heap.size + 1 + 1, 0, none⟩ = some (.slice none 0 0) := (k2.cell 0).trans rfl
    have c1 : w5.cell? ⟨w.heap.size + 1 + 1, 1, none⟩ = some (.slice none 0 0) := (k2.cell 1).trans rfl
    have f0 := k2.frozen 0
    have f1 := k2.frozen 1
    have HK6 := Lib.hid k2
    have HB6 := Lib.hid hb6
    clear k2 hb6
    go_wp2_with fail
    have h3 := (HK6.out.set_ 0 (.slice MAx kmx mcx)).set_ 1 (.slice SAx ksx scx)
    refine bodyPost_ret (results_row_tmp rfl _ _ (w.heap.size + 1 + 1) _ _ _ _ rfl h3 Tryd.underlying33 rfl (by rw [pl_info]; rfl)) rfl ?_
    refine ⟨_, by rw [HR2.out]; rfl, ?_, ?_⟩
    · rw [HR2.out]
      exact ⟨MAx, mcx, SAx, scx, by dsimp only; rw [HKMX.out, HKSX.out]; rfl, (RMX.out.setB HK6.out (by decide) 0 _).setB (HK6.out.set_ 0 _) (by decide) 1 _, (RSX.out.setB HK6.out (by decide) 0 _).setB (HK6.out.set_ 0 _) (by decide) 1 _⟩
    · repeat (refine below_set ?_ (by omega))
      exact HB6.out
  by_cases h9 : P = 9
  · subst h9
    have hpk2 := fun (wx : World) => pick_any a2 2 wx HA2.out (by decide) (by decide)
    obtain ⟨Q, hQ⟩ : ∃ Q, pickN a2 2 = Q := ⟨_, rfl⟩
    rw [hQ] at hpk2
    have HP2 := Lib.hid hpk2
    clear hpk2 HPK
    have HR2 := Lib.hid (show R = (⟨[], [⟨5, max a1 0, Q, 0, ⟨#[]⟩⟩]⟩, 0) by rw [HND.out, if_neg h3, if_neg h5, if_neg h8, if_pos rfl, hQ])
    clear HND hQ
    go_upto_region 15 with fail
    go_region_with ((first | (go_at_call 19; refine (HP2.out _).mono ?_; rintro e w' ⟨rfl, rfl⟩) | fail))
    all_goals go_wp2_with fail
    all_goals (
      have hs := Blk.new ((w1.setCell ⟨w.heap.size + 1 + 1, 0, none⟩ (.slice none 0 0)).setCell ⟨w.heap.size + 1 + 1, 1, none⟩ (.slice (some ⟨w1.heap.size, 0, none⟩) 1 1)) 62 #[.int .i64 5, .int .i64 (max a1 0), .int .i64 Q, .int .u64 0, .string ⟨#[]⟩]
      rw [show ((w1.setCell ⟨w.heap.size + 1 + 1, 0, none⟩ (.slice none 0 0)).setCell ⟨w.heap.size + 1 + 1, 1, none⟩ (.slice (some ⟨w1.heap.size, 0, none⟩) 1 1)).heap.size = w1.heap.size by simp [World.setCell]] at hs
      have h3 := ((HK2.out.set_ 0 (.slice none 0 0)).set_ 1 (.slice (some ⟨w1.heap.size, 0, none⟩) 1 1)).alloc (.cells #[.int .i64 5, .int .i64 (max a1 0), .int .i64 Q, .int .u64 0, .string ⟨#[]⟩] 62)
      refine bodyPost_ret (results_row_tmp rfl _ _ (w.heap.size + 1 + 1) _ _ _ _ rfl h3 Tryd.underlying33 rfl (by rw [pl_info]; rfl)) rfl ?_
      refine ⟨_, by rw [HR2.out]; rfl, ?_, ?_⟩
      · rw [HR2.out]
        exact ⟨none, 0, some ⟨w1.heap.size, 0, none⟩, 1, rfl, RowAt.nil _ _, fun _ => ⟨w1.heap.size, 0, rfl, ⟨_, _, hs⟩, fun j u hu => by rw [Nat.zero_add]; exact (hs.cell j).trans (by rw [← Array.getElem?_toList]; exact hu)⟩⟩
      · first | refine below_alloc ?_ _ | refine below_drew1 (below_alloc ?_ _)
        repeat (refine below_set ?_ (by omega))
        exact HB.out)
  obtain rfl : P = 11 := by omega
  have hpk2 := fun (wx : World) => pick_any a2 9 wx HA2.out (by decide) (by decide)
  obtain ⟨hQ0, hQ1⟩ := pickN_range a2 9 (by decide)
  obtain ⟨Q, hQ⟩ : ∃ Q, pickN a2 9 = Q := ⟨_, rfl⟩
  rw [hQ] at hpk2 hQ0 hQ1
  have hwr : IntKind.u64.wrap Q = Q := by rw [IntKind.wrap_u64]; omega
  have HP2 := Lib.hid hpk2
  clear hpk2 HPK
  have HR2 := Lib.hid (show R = (⟨[], [⟨7, 0, 0, IntKind.u64.wrap (nw + Q), ⟨#[]⟩⟩]⟩, 0) by rw [HND.out, if_neg h3, if_neg h5, if_neg h8, if_neg h9, if_neg h10, hQ])
  clear HND hQ
  go_upto_region 18 with fail
  go_region_with ((first | (go_at_call 19; refine (HP2.out _).mono ?_; rintro e w' ⟨rfl, rfl⟩) | fail))
  all_goals go_wp2_with fail
  all_goals (
    have hs := Blk.new ((w1.setCell ⟨w.heap.size + 1 + 1, 0, none⟩ (.slice none 0 0)).setCell ⟨w.heap.size + 1 + 1, 1, none⟩ (.slice (some ⟨w1.heap.size, 0, none⟩) 1 1)) 62 #[.int .i64 7, .int .i64 0, .int .i64 0, .int .u64 (IntKind.u64.wrap (nw + Q)), .string ⟨#[]⟩]
    rw [show ((w1.setCell ⟨w.heap.size + 1 + 1, 0, none⟩ (.slice none 0 0)).setCell ⟨w.heap.size + 1 + 1, 1, none⟩ (.slice (some ⟨w1.heap.size, 0, none⟩) 1 1)).heap.size = w1.heap.size by simp [World.setCell]] at hs
    have h3 := ((HK2.out.set_ 0 (.slice none 0 0)).set_ 1 (.slice (some ⟨w1.heap.size, 0, none⟩) 1 1)).alloc (.cells #[.int .i64 7, .int .i64 0, .int .i64 0, .int .u64 (IntKind.u64.wrap (nw + Q)), .string ⟨#[]⟩] 62)
    refine bodyPost_ret (results_row_tmp rfl _ _ (w.heap.size + 1 + 1) _ _ _ _ rfl h3 Tryd.underlying33 rfl (by rw [pl_info]; rfl)) rfl ?_
    refine ⟨_, by rw [HR2.out]; rfl, ?_, ?_⟩
    · rw [HR2.out]
      exact ⟨none, 0, some ⟨w1.heap.size, 0, none⟩, 1, rfl, RowAt.nil _ _, fun _ => ⟨w1.heap.size, 0, rfl, ⟨_, _, hs⟩, fun j u hu => by rw [Nat.zero_add]; exact (hs.cell j).trans (by rw [← Array.getElem?_toList]; exact hu)⟩⟩
    · first | refine below_alloc ?_ _ | refine below_drew1 (below_alloc ?_ _)
      repeat (refine below_set ?_ (by omega))
      exact HB.out)
end Go.Proofs.YtfdhehjfbcddgaaDoor.Pr
