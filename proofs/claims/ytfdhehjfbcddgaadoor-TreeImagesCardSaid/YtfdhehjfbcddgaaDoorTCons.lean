/- tree.Consolidate: plans to take away what is wanted no more. Conditions: the nodes are not more than a million, nor is any name longer; the tables of unicode/utf8 lie in memory. -/
import Derived.Test.YtfdhehjfbcddgaaDoorTShort
import Derived.Test.YtfdhehjfbcddgaaDoorTDel
import Derived.Test.YtfdhehjfbcddgaaDoorTPlan
namespace Go.Proofs.YtfdhehjfbcddgaaDoor.Pr
open Go.RowKit Go.Proofs.YtfdhehjfbcddgaaDoorW.PrintWords Go.Proofs.YtfdhehjfbcddgaaDoorW.PrintLast Go.Proofs.YtfdhehjfbcddgaaDoor
set_option linter.unusedVariables false
theorem small_down {s : Ps} {x : Nd} {kid : Int} (h : SmallT s.t) : SmallT (downN s x kid).t := by
  unfold downN
  refine small_do (small_do (s := ⟨s.t, _, _⟩) h ?_) (Nat.zero_le _)
  split <;> exact Nat.zero_le _
theorem small_short {s : Ps} {bound : Int} (h : SmallT s.t) : ∀ l' : List Nd, SmallT (shortN s bound l').1.t := by
  intro l'
  induction l' with
  | nil => exact h
  | cons x l' ih =>
    rw [shortN]
    split
    · exact ih
    split
    · exact small_do h (Nat.zero_le _)
    split
    · exact small_down h
    split
    · exact small_do (s := ⟨s.t, _, _⟩) h (Nat.zero_le _)
    · exact ih
theorem short_same {s : Ps} (h : RightP s.t) {bound : Int} (hb : 1 ≤ bound) (c : (shortN s bound s.t.l).2 = false) : (shortN s bound s.t.l).1 = s := by
  rcases short_spec h hb s.t.l (fun x hx => hx) with ⟨h1, _⟩ | ⟨x, hx, hg, hx1, ⟨k0, h1⟩ | ⟨kid, hk, h1⟩ | ⟨y, hy, e1, e2, e3, h1⟩⟩
  · rw [h1]
  all_goals (rw [h1] at c; cases c)
set_option maxRecDepth 100000 in
set_option maxHeartbeats 4000000 in
theorem tcons_any (A : Option Addr) (cap : Nat) (l : List Nd) (lv nx nw : Int) (a : Int) (w : World) (hl : l.length ≤ 1000000) (hcp : l.length ≤ cap) (hr : NodesAt w A l) (hT : Tabs w) (hnm : ∀ x ∈ l, x.name.size ≤ 1000000) :
    Calls Tryd.prog 35 #[.agg #[.slice A l.length cap, .int .i64 lv, .int .i64 nx, .int .u64 nw], .int .i64 a] w fun e w' => ∃ v, e = .returned (.tuple #[v, .int .i64 (consN ⟨l, lv, nx, nw⟩ a).2]) ∧ PlAt w' v (consN ⟨l, lv, nx, nw⟩ a).1 ∧ Below w.heap.size w w' := by
  have hbel : Below w.heap.size w ((w.alloc (.cells #[.slice A l.length cap, .int .i64 lv, .int .i64 nx, .int .u64 nw] 28)).alloc (.cells #[.slice none 0 0, .slice none 0 0] 33)) := ((Below.refl _ _).alloc (Nat.le_refl _) _).alloc (by simp) _
  have hk0 : Blk ((w.alloc (.cells #[.slice A l.length cap, .int .i64 lv, .int .i64 nx, .int .u64 nw] 28)).alloc (.cells #[.slice none 0 0, .slice none 0 0] 33)) w.heap.size 28 #[.slice A l.length cap, .int .i64 lv, .int .i64 nx, .int .u64 nw] := (Blk.new w 28 #[.slice A l.length cap, .int .i64 lv, .int .i64 nx, .int .u64 nw]).alloc _
  have hk1 : Blk ((w.alloc (.cells #[.slice A l.length cap, .int .i64 lv, .int .i64 nx, .int .u64 nw] 28)).alloc (.cells #[.slice none 0 0, .slice none 0 0] 33)) (w.heap.size + 1) 33 #[.slice none 0 0, .slice none 0 0] := blk_new1 w _ _ _
  have hright := fun (w1 : World) (hx : NodesAt w1 A l) (ht : Tabs w1) => tright_any A cap l lv nx nw w1 hl hcp hx ht hnm
  have hr0 := hr.below hbel
  have hT0 := hT.below hbel
  have hsm : SmallT ⟨l, lv, nx, nw⟩ := ⟨hl, hnm⟩
  obtain ⟨R, hR⟩ : ∃ R, consN ⟨l, lv, nx, nw⟩ a = R := ⟨_, rfl⟩
  have hnd := (show consN ⟨l, lv, nx, nw⟩ a = if rightN ⟨l, lv, nx, nw⟩ = false ∨ a < 1 then (zP, 1) else (planS (conF a (mea l) ⟨⟨l, lv, nx, nw⟩, [], []⟩), 0) from rfl)
  rw [hR] at hnd ⊢
  have hok : rightN ⟨l, lv, nx, nw⟩ = true → RightP ⟨l, lv, nx, nw⟩ := (right_iff _).1
  obtain ⟨rN, hrN⟩ : ∃ q, rightN ⟨l, lv, nx, nw⟩ = q := ⟨_, rfl⟩
  rw [hrN] at hnd hright hok
  obtain ⟨n, hn⟩ : ∃ n, l.length = n := ⟨_, rfl⟩
  have HN := Lib.hid hn
  rw [hn] at hl hcp hbel hk0 hk1 hr0 hT0 hright ⊢
  have HRI := Lib.hid hright
  have HND := Lib.hid hnd
  have HOK := Lib.hid hok
  have HSM := Lib.hid hsm
  have HCP := Lib.hid hcp
  have HT := Lib.hid hT0
  clear hr hT hnm hcp hright hnd hok hsm hR hrN hn hT0
  go_enter Tryd.func35, Tryd.ntmps35
  go_upto_region 1 with fail
  generalize ((w.alloc (.cells #[.slice A n cap, .int .i64 lv, .int .i64 nx, .int .u64 nw] 28)).alloc (.cells #[.slice none 0 0, .slice none 0 0] 33)) = w0 at hbel hk0 hk1 hr0 HT ⊢
  have t0 : w0.cell? ⟨w.heap.size, 0, none⟩ = some (.slice A n cap) := (hk0.cell 0).trans rfl
  have t1 : w0.cell? ⟨w.heap.size, 1, none⟩ = some (.int .i64 lv) := (hk0.cell 1).trans rfl
  have t2 : w0.cell? ⟨w.heap.size, 2, none⟩ = some (.int .i64 nx) := (hk0.cell 2).trans rfl
  have t3 : w0.cell? ⟨w.heap.size, 3, none⟩ = some (.int .u64 nw) := (hk0.cell 3).trans rfl
  have HB := Lib.hid hbel
  have HK0 := Lib.hid hk0
  have HK1 := Lib.hid hk1
  have HR := Lib.hid hr0
  have HRW := Lib.hid (HRI.out w0 hr0 HT.out)
  clear hbel hk0 hk1 hr0 HRI
  obtain ⟨sm, hsmall⟩ : ∃ sm : Bool, decide (a < 1) = sm := ⟨_, rfl⟩
  have HSL := Lib.hid hsmall
  go_wp2_with fail
  refine HRW.out.mono ?_
  rintro e w2 ⟨rfl, hb2⟩
  have k0 := HK0.out.below hb2 HK0.out.lt
  have k1 := HK1.out.below hb2 HK1.out.lt
  have hr2 := HR.out.below hb2
  have ht2 := HT.out.below hb2
  have hbb := HB.out.trans (hb2.mono HB.out.size)
  clear t0 t1 t2 t3 HRW HK0 HK1 HR HT HB hb2
  have t0 : w2.cell? ⟨w.heap.size, 0, none⟩ = some (.slice A n cap) := (k0.cell 0).trans rfl
  have t1 : w2.cell? ⟨w.heap.size, 1, none⟩ = some (.int .i64 lv) := (k0.cell 1).trans rfl
  have t2 : w2.cell? ⟨w.heap.size, 2, none⟩ = some (.int .i64 nx) := (k0.cell 2).trans rfl
  have t3 : w2.cell? ⟨w.heap.size, 3, none⟩ = some (.int .u64 nw) := (k0.cell 3).trans rfl
  have c0 : w2.cell? ⟨w.heap.size + 1, 0, none⟩ = some (.slice none 0 0) := (k1.cell 0).trans rfl
  have c1 : w2.cell? ⟨w.heap.size + 1, 1, none⟩ = some (.slice none 0 0) := (k1.cell 1).trans rfl
  have f0 := k1.frozen 0
  have f1 := k1.frozen 1
  have HK1 := Lib.hid k1
  have HR := Lib.hid hr2
  have HT := Lib.hid ht2
  have HB := Lib.hid hbb
  have hwl : w.heap.size + 1 < w2.heap.size := k1.lt
  clear k0 k1 hr2 ht2 hbb
  cases rN with
  | false =>
    have HR2 := Lib.hid (show R = (zP, 1) by rw [HND.out]; simp)
    clear HND HOK
    go_wp2_with fail
    have h3 := (HK1.out.set_ 0 (.slice none 0 0)).set_ 1 (.slice none 0 0)
    refine bodyPost_ret (results_row_tmp rfl _ _ (w.heap.size + 1) _ _ _ _ rfl h3 Tryd.underlying33 rfl (by rw [pl_info]; rfl)) rfl ?_
    refine ⟨_, by rw [HR2.out]; rfl, by rw [HR2.out]; exact PlAt.zero _, ?_⟩
    repeat (refine below_set ?_ (by omega))
    exact HB.out
  | true =>
    have HRP := Lib.hid (HOK.out rfl)
    clear HOK
    cases sm with
    | true =>
      have ha1 : a < 1 := of_decide_eq_true HSL.out
      have HR2 := Lib.hid (show R = (zP, 1) by rw [HND.out, if_pos (.inr ha1)])
      clear HND
      go_wp2_with fail
      have h3 := (HK1.out.set_ 0 (.slice none 0 0)).set_ 1 (.slice none 0 0)
      refine bodyPost_ret (results_row_tmp rfl _ _ (w.heap.size + 1) _ _ _ _ rfl h3 Tryd.underlying33 rfl (by rw [pl_info]; rfl)) rfl ?_
      refine ⟨_, by rw [HR2.out]; rfl, by rw [HR2.out]; exact PlAt.zero _, ?_⟩
      repeat (refine below_set ?_ (by omega))
      exact HB.out
    | false =>
      have ha1 : ¬ a < 1 := of_decide_eq_false HSL.out
      have HR2 := Lib.hid (show R = (planS (conF a (mea l) ⟨⟨l, lv, nx, nw⟩, [], []⟩), 0) by rw [HND.out, if_neg (by simp [ha1])])
      clear HND
      go_wp2_with fail
      have hbp := (Below.refl w2.heap.size w2).alloc (Nat.le_refl _) (.cells #[.slice A n cap, .int .i64 lv, .int .i64 nx, .int .u64 nw, .slice none 0 0, .slice none 0 0] 96)
      have hpk := Blk.new w2 96 #[.slice A n cap, .int .i64 lv, .int .i64 nx, .int .u64 nw, .slice none 0 0, .slice none 0 0]
      generalize (w2.alloc (.cells #[.slice A n cap, .int .i64 lv, .int .i64 nx, .int .u64 nw, .slice none 0 0, .slice none 0 0] 96)) = w3 at hbp hpk ⊢
      have hps : PsAt w3 w2.heap.size w2.heap.size ⟨⟨l, lv, nx, nw⟩, [], []⟩ := ⟨A, cap, none, 0, none, 0, by dsimp only; rw [HN.out]; exact hpk, by dsimp only; rw [HN.out]; exact HCP.out, HR.out.below hbp, own_nil _ _ _ _, own_nil _ _ _ _, Nat.le_refl _⟩
      have HPS := Lib.hid hps
      have HBP := Lib.hid hbp
      clear hps hpk hbp
      clear t0 t1 t2 t3 c0 c1 f0 f1
      obtain ⟨fu, hfu⟩ : ∃ fu, mea l = fu := ⟨_, rfl⟩
      obtain ⟨D, hD⟩ : ∃ D, conF a fu ⟨⟨l, lv, nx, nw⟩, [], []⟩ = D := ⟨_, rfl⟩
      have hlim : fu ≤ 128849018880 := by rw [← hfu]; exact mea_right HRP.out
      have HST := Lib.hid (show mea (Ps.t ⟨⟨l, lv, nx, nw⟩, [], []⟩).l ≤ fu ∧ conF a fu ⟨⟨l, lv, nx, nw⟩, [], []⟩ = D ∧ SmallT (Ps.t ⟨⟨l, lv, nx, nw⟩, [], []⟩) ∧ RightP (Ps.t ⟨⟨l, lv, nx, nw⟩, [], []⟩) ∧ (Ps.ss ⟨⟨l, lv, nx, nw⟩, [], []⟩).length + 2 * fu ≤ 257698037760 ∧ (Ps.ms ⟨⟨l, lv, nx, nw⟩, [], []⟩).length + fu ≤ 257698037760 from
        ⟨by rw [← hfu]; exact Nat.le_refl _, hD, HSM.out, HRP.out, by show 0 + 2 * fu ≤ _; omega, by show 0 + fu ≤ _; omega⟩)
      have HR3 := Lib.hid (show R = (planS D, 0) by rw [HR2.out, hfu, hD])
      clear HR2 hfu hD hlim
      go_loopg [] fu (fun k wr => ∃ s' : Ps, Hid (mea s'.t.l ≤ k ∧ conF a fu s' = D ∧ SmallT s'.t ∧ RightP s'.t ∧ s'.ss.length + 2 * k ≤ 257698037760 ∧ s'.ms.length + k ≤ 257698037760 ∧ k ≤ fu) ∧ Hid (PsAt wr w2.heap.size w2.heap.size s') ∧ Hid (Below w2.heap.size w2 wr))
      case atStart => exact ⟨⟨⟨l, lv, nx, nw⟩, [], []⟩, Lib.hid ⟨HST.out.1, HST.out.2.1, HST.out.2.2.1, HST.out.2.2.2.1, HST.out.2.2.2.2.1, HST.out.2.2.2.2.2, Nat.le_refl _⟩, HPS, HBP⟩
      case round =>
        obtain ⟨s', hs', hp', hE'⟩ := hrel
        have HCS := Lib.hid (short_ps w2 HT.out w2.heap.size s' a wr hE'.out hp'.out hs'.out.2.2.1 (by have := hs'.out.2.2.2.2.1; omega) (by have := hs'.out.2.2.2.2.2.1; omega))
        obtain ⟨q, hq⟩ : ∃ q, shortN s' a s'.t.l = q := ⟨_, rfl⟩
        have HQ := Lib.hid hq
        rw [hq] at HCS
        obtain ⟨s5, qb⟩ := q
        dsimp only at HCS
        clear hq
        go_wp2_with fail
        refine HCS.out.mono ?_
        rintro e w5 ⟨rfl, hp5, hE5, _⟩
        have HP5 := Lib.hid hp5
        have HE5 := Lib.hid hE5
        clear hp5 hE5 HCS hp' hE'
        cases qb with
        | true =>
          have hbb : (1 : Int) ≤ a := by omega
          have hc : (shortN s' a s'.t.l).2 = true := by rw [HQ.out]
          obtain ⟨n1, n2, n3, n4⟩ := short_less hs'.out.2.2.2.1 hbb hc
          have n5 := small_short (bound := a) hs'.out.2.2.1 s'.t.l
          have n6 := conF_on hbb hs'.out.2.2.2.1 (Nat.le_trans hs'.out.1 hs'.out.2.2.2.2.2.2) hc
          rw [HQ.out] at n1 n2 n3 n4 n5 n6
          dsimp only at n1 n2 n3 n4 n5 n6
          have m1 := hs'.out.1
          have m2 := hs'.out.2.2.2.2
          have HNEW := Lib.hid (show mea s5.t.l ≤ gk - 1 ∧ conF a fu s5 = D ∧ SmallT s5.t ∧ RightP s5.t ∧ s5.ss.length + 2 * (gk - 1) ≤ 257698037760 ∧ s5.ms.length + (gk - 1) ≤ 257698037760 ∧ gk - 1 ≤ fu from ⟨by omega, by rw [← n6]; exact hs'.out.2.1, n5, n1, by omega, by omega, by omega⟩)
          have hgk : 0 < gk := by omega
          clear n1 n2 n3 n4 n5 n6 m1 m2 hc
          go_wp2_with fail
          go_roundg (gk - 1)
          case measure => omega
          case rel => exact ⟨s5, HNEW, HP5, HE5⟩
        | false =>
          have hbb : (1 : Int) ≤ a := by omega
          have hc : (shortN s' a s'.t.l).2 = false := by rw [HQ.out]
          have hsame := short_same hs'.out.2.2.2.1 hbb hc
          rw [HQ.out] at hsame
          dsimp only at hsame
          have hfin : s5 = D := by rw [hsame, ← hs'.out.2.1, conF_end hc]
          have HR2 := Lib.hid (show R = (planS s5, 0) by rw [HR3.out, hfin])
          clear hc hsame hfin HQ hs' HR3
          have k1 := HK1.out.below HE5.out hwl
          have c0 : w5.cell? ⟨w.heap.size + 1, 0, none⟩ = some (.slice none 0 0) := (k1.cell 0).trans rfl
          have c1 : w5.cell? ⟨w.heap.size + 1, 1, none⟩ = some (.slice none 0 0) := (k1.cell 1).trans rfl
          have f0 := k1.frozen 0
          have f1 := k1.frozen 1
          have HK6 := Lib.hid k1
          have HB6 := Lib.hid (HB.out.trans (HE5.out.mono HB.out.size))
          obtain ⟨Ax, capx, MAx, mcx, SAx, scx, hkx, _, _, hmx, hsx, _⟩ := HP5.out
          have rmx := rowAt_own encM_len hmx
          have rsx := rowAt_own encS_len hsx
          obtain ⟨kmx, hkmx⟩ : ∃ k, s5.ms.length = k := ⟨_, rfl⟩
          obtain ⟨ksx, hksx⟩ : ∃ k, s5.ss.length = k := ⟨_, rfl⟩
          have HKMX := Lib.hid hkmx
          have HKSX := Lib.hid hksx
          have RMX := Lib.hid rmx
          have RSX := Lib.hid rsx
          rw [hkmx, hksx] at hkx
          have p4 : w5.cell? ⟨w2.heap.size, 4, none⟩ = some (.slice MAx kmx mcx) := (hkx.cell 4).trans rfl
          have p5 : w5.cell? ⟨w2.heap.size, 5, none⟩ = some (.slice SAx ksx scx) := (hkx.cell 5).trans rfl
          clear hkmx hksx rmx rsx k1 HE5 HP5 hkx hmx hsx
          go_wp2_with fail
          have h3 := (HK6.out.set_ 0 (.slice MAx kmx mcx)).set_ 1 (.slice SAx ksx scx)
          refine bodyPost_ret (results_row_tmp rfl _ _ (w.heap.size + 1) _ _ _ _ rfl h3 Tryd.underlying33 rfl (by rw [pl_info]; rfl)) rfl ?_
          refine ⟨_, by rw [HR2.out]; rfl, ?_, ?_⟩
          · rw [HR2.out]
            exact ⟨MAx, mcx, SAx, scx, by rw [show (planS s5).ms.length = kmx from HKMX.out, show (planS s5).ss.length = ksx from HKSX.out]; rfl, (RMX.out.setB HK6.out (by decide) 0 _).setB (HK6.out.set_ 0 _) (by decide) 1 _, (RSX.out.setB HK6.out (by decide) 0 _).setB (HK6.out.set_ 0 _) (by decide) 1 _⟩
          · repeat (refine below_set ?_ (by omega))
            exact HB6.out
end Go.Proofs.YtfdhehjfbcddgaaDoor.Pr
