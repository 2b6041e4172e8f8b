/- ChainTop by hand (under way): what is put into the uppermost image is read, and all else as before; what is below is read as ever. -/
import Derived.Test.YtbeloaccgmgocaaHChFold
import Derived.Test.YtbeloaccgmgocaaP11r
import Derived.BigFrame
import Derived.BigGuardPart
import Derived.Test.YtbeloaccgmgocaaPrx1
import Derived.Test.YtbeloaccgmgocaaPrx3
import Derived.Test.YtbeloaccgmgocaaPrx4
import Derived.Test.YtbeloaccgmgocaaPrx8
import Derived.Test.YtbeloaccgmgocaaPrx9
namespace Go.Proofs.Ytbeloaccgmgocaa.Pr
open Go.RowKit Go.Proofs.YtbeloaccgmgocaaW.PrintWords Go.Proofs.YtbeloaccgmgocaaW.PrintLast Go.Proofs.Ytbeloaccgmgocaa
set_option linter.unusedVariables false
/-- the cells of links that lie somewhere -/
theorem links_list {w : World} {b off : Nat} {l : List SL} (h : ∀ i (hi : i < l.length), ∃ (B : Option Addr) (cap : Nat), w.cell? ⟨b, off + i * 4, none⟩ = some (.int .i64 l[i].f0) ∧ w.cell? ⟨b, off + i * 4 + 1, none⟩ = some (.int .i64 l[i].f1) ∧ w.cell? ⟨b, off + i * 4 + 2, none⟩ = some (.int .i64 l[i].f2.f0) ∧ w.cell? ⟨b, off + i * 4 + 3, none⟩ = some (.slice B l[i].f2.f1.length cap) ∧ l[i].f2.f1.length ≤ cap ∧ Kd.C kC w B l[i].f2.f1.length l[i].f2.f1) :
    ∃ K : List LK, K.map (·.1) = l ∧ FoundAll w K ∧ ∀ j u, (flatE encK K)[j]? = some u → w.cell? ⟨b, off + j, none⟩ = some u := by
  have hex : ∀ i : Fin l.length, ∃ p : Option Addr × Nat, w.cell? ⟨b, off + i.1 * 4, none⟩ = some (.int .i64 l[i.1].f0) ∧ w.cell? ⟨b, off + i.1 * 4 + 1, none⟩ = some (.int .i64 l[i.1].f1) ∧ w.cell? ⟨b, off + i.1 * 4 + 2, none⟩ = some (.int .i64 l[i.1].f2.f0) ∧ w.cell? ⟨b, off + i.1 * 4 + 3, none⟩ = some (.slice p.1 l[i.1].f2.f1.length p.2) ∧ l[i.1].f2.f1.length ≤ p.2 ∧ Kd.C kC w p.1 l[i.1].f2.f1.length l[i.1].f2.f1 := fun i => by
    obtain ⟨B, cap, hh⟩ := h i.1 i.2
    exact ⟨(B, cap), hh⟩
  have F : ∀ i : Fin l.length, (Classical.choose (hex i)) = Classical.choose (hex i) := fun _ => rfl
  refine ⟨List.ofFn fun i : Fin l.length => (l[i.1], (Classical.choose (hex i)).1, (Classical.choose (hex i)).2), ?_, ?_, ?_⟩
  · apply List.ext_getElem
    · rw [List.length_map, List.length_ofFn]
    · intro i h1 h2
      rw [List.getElem_map, List.getElem_ofFn]
  · intro x hx
    obtain ⟨i, rfl⟩ := List.mem_ofFn.1 hx
    have hh := Classical.choose_spec (hex i)
    exact ⟨hh.2.2.2.2.1, hh.2.2.2.2.2⟩
  · intro j u hu
    have hjl : j < (flatE encK (List.ofFn fun i : Fin l.length => ((l[i.1], (Classical.choose (hex i)).1, (Classical.choose (hex i)).2) : LK))).length := (List.getElem?_eq_some_iff.1 hu).1
    rw [flatE_length encK_len, List.length_ofFn] at hjl
    have hi : j / 4 < l.length := by omega
    have hg := flatE_get encK_len (List.ofFn fun i : Fin l.length => ((l[i.1], (Classical.choose (hex i)).1, (Classical.choose (hex i)).2) : LK)) (j / 4) (by rw [List.length_ofFn]; exact hi) (j % 4) (by omega)
    rw [show j / 4 * 4 + j % 4 = j by omega, hu, List.getElem_ofFn] at hg
    have hh := Classical.choose_spec (hex ⟨j / 4, hi⟩)
    obtain ⟨e0, e1, e2, e3, _⟩ := hh
    have h4 : j % 4 = 0 ∨ j % 4 = 1 ∨ j % 4 = 2 ∨ j % 4 = 3 := by omega
    rcases h4 with h4 | h4 | h4 | h4
    · rw [h4] at hg
      rw [show off + j = off + j / 4 * 4 by omega, e0]; exact hg.symm
    · rw [h4] at hg
      rw [show off + j = off + j / 4 * 4 + 1 by omega, e1]; exact hg.symm
    · rw [h4] at hg
      rw [show off + j = off + j / 4 * 4 + 2 by omega, e2]; exact hg.symm
    · rw [h4] at hg
      rw [show off + j = off + j / 4 * 4 + 3 by omega, e3]; exact hg.symm
/-- the image is stored into the block that was made first -/
theorem top_stored {w3 wb : World} {g base : Nat} {n : Int} {mm : List SC} {Ab : Option Addr} {cb sz : Nat} (hg : w3.heap.size ≤ g) (hlt : g < base) (hsz : base ≤ sz) (hz : Blk wb g 26 #[.int .i64 0, .slice none 0 0])
    (hR : Kd.R kC 67 wb base (fun _ => True) (.slice Ab mm.length cb) mm) (hle : mm.length ≤ cb) (hb : Below w3.heap.size w3 wb) :
    ∃ (g' : Nat) (Ab' : Option Addr) (cb' : Nat), Value.pointer (some ⟨g, 0, none⟩) = .pointer (some ⟨g', 0, none⟩) ∧ Value.int .i64 0 = .int .i64 0 ∧ w3.heap.size ≤ g' ∧ mm.length ≤ cb' ∧
      Hid (Blk ((wb.setCell ⟨g, 0, none⟩ (.int .i64 n)).setCell ⟨g, 1, none⟩ (.slice Ab mm.length cb)) g' 26 #[.int .i64 n, .slice Ab' mm.length cb']) ∧ Hid (Kd.C kC ((wb.setCell ⟨g, 0, none⟩ (.int .i64 n)).setCell ⟨g, 1, none⟩ (.slice Ab mm.length cb)) Ab' mm.length mm) ∧
      Hid (Below w3.heap.size w3 ((wb.setCell ⟨g, 0, none⟩ (.int .i64 n)).setCell ⟨g, 1, none⟩ (.slice Ab mm.length cb))) :=
  ⟨g, Ab, cb, rfl, rfl, hg, hle, Lib.hid ((hz.set_ 0 _).set_ 1 _), Lib.hid (Kd.R_reads' (ownFo_R (own_setFo (p := ⟨g, 1, none⟩) (own_setFo (p := ⟨g, 0, none⟩) (R_ownFo hR) hlt _) hlt _))).2.2, Lib.hid ((hb.setCell (p := ⟨g, 0, none⟩) hg _).setCell (p := ⟨g, 1, none⟩) hg _)⟩
theorem own_succT {w : World} {base n : Nat} {e : TypeId} {size : Nat} {v : Value} {xs : List Value} (h : w.ownsRow base e size v (n + 1) xs) : ∃ g cap, v = .slice (some ⟨g, 0, none⟩) (n + 1) cap ∧ base ≤ g := by
  rcases h.2 with ⟨_, h0⟩ | ⟨g, cap, _, rfl, hb, _⟩
  · omega
  · exact ⟨g, cap, rfl, hb⟩
/-- the last link of a row is another one -/
theorem set_last {K : List LK} {q : Nat} (hq : K.length = q + 1) (y : LK) :
    ((((flatE encK K).set (q * 4) (.int .i64 y.1.f0)).set (q * 4 + 1) (.int .i64 y.1.f1)).set (q * 4 + 2) (.int .i64 y.1.f2.f0)).set (q * 4 + 3) (.slice y.2.1 y.1.f2.f1.length y.2.2) = flatE encK (K.take q ++ [y]) := by
  have hl : (flatE encK (K.take q)).length = q * 4 := by rw [flatE_length encK_len, List.length_take]; omega
  have e : K = K.take q ++ [K[q]] := by rw [← List.take_succ_eq_append_getElem (by omega), List.take_of_length_le (by omega)]
  conv => lhs; rw [e]
  rw [flatE_append, flatE_append]
  rw [List.set_append_right _ _ (by omega), List.set_append_right _ _ (by omega), List.set_append_right _ _ (by omega), List.set_append_right _ _ (by omega), hl, Nat.sub_self, show q * 4 + 1 - q * 4 = 1 by omega, show q * 4 + 2 - q * 4 = 2 by omega, show q * 4 + 3 - q * 4 = 3 by omega]
  rfl
theorem read_row {n : Int} {ls : List SL} (h : RowOK n ls) (hp : 0 < ls.length) (hl : ls.length ≤ 100) (h2 : n ≤ 64) (a : Int) (ha : 0 ≤ a ∧ a < n) : readL ls (ls.length : Int) a = (throughL ls.reverse a, 0) := by
  have := h.read hp hl h2 a ha
  unfold chain_Read.f at this
  split at this
  · exact Option.some.inj this
  · cases this
theorem bel_on {w w1 w2 : World} (h : Below w.heap.size w w1) (k : Below w1.heap.size w1 w2) : Below w.heap.size w w2 := h.trans (k.mono h.size)
set_option maxRecDepth 100000 in
set_option maxHeartbeats 16000000 in
theorem top_any (c : Int) (A : Option Addr) (cap : Nat) (l : List (List Int)) (a wt : Int) (w : World) (hr : Kd.C (Kd.slice 3 (Kd.int .i64)) w A l.length l) (hcap : l.length ≤ cap) (hc : (Lit.int .i64 c).wf = true) (hl : ∀ x ∈ l, ∀ y ∈ x, (Lit.int .i64 y).wf = true) (ha : (Lit.int .i64 a).wf = true) :
    Calls Try.prog 6 #[.int .i64 c, .slice A l.length cap, .int .i64 a, .int .i64 wt] w fun e w' => e = .returned (.bool true) ∧ Below w.heap.size w w' := by
  have hpc := pick_ok c 64 hc (by omega)
  have hrc := pickV_range c 64 (by omega)
  obtain ⟨P, hP⟩ : ∃ P : Nat, pickV c 64 = (P : Int) := ⟨(pickV c 64).toNat, by omega⟩
  rw [hP] at hpc hrc
  have hP64 : P < 64 := by omega
  obtain ⟨ls, ⟨K1, k1⟩, hrow, hlen⟩ := row_ev (n := 1 + (P : Int)) (by omega) (by omega) l hl
  replace k1 := k1 K1 (Nat.le_refl _)
  dsimp only at k1
  have hpa := pick_ok a (1 + (P : Int)) ha (by omega)
  have hra := pickV_range a (1 + (P : Int)) (by omega)
  obtain ⟨s, hs⟩ : ∃ s : Nat, pickV a (1 + (P : Int)) = (s : Int) := ⟨(pickV a (1 + (P : Int))).toNat, by omega⟩
  rw [hs] at hpa hra
  have hsP : s < 1 + P := by omega
  have hc1 := fun w => rootcellarlaw11_pick.calls c 64 (P : Int) w hpc
  have hc2 := fun w => rootcellarlaw11_pick.calls a (1 + (P : Int)) (s : Int) w hpa
  have hcr := fun (w1 : World) (h1 : Below w.heap.size w w1) => rootcellarlaw11_row.calls K1 (1 + (P : Int)) A cap l ls w1 (Kd.C_below hr h1) hcap k1
  obtain ⟨K2, k2⟩ := cl_ev wt
  have hcl := fun w => rootcellarlaw11_cluster.calls K2 wt (clV wt) w (k2 K2 (Nat.le_refl _))
  obtain ⟨ll, hll⟩ : ∃ ll, ll = l.length := ⟨_, rfl⟩
  rw [← hll] at hcr ⊢
  have HC1 := Lib.hid hc1
  have HC2 := Lib.hid hc2
  have HCR := Lib.hid hcr
  have HCL := Lib.hid hcl
  have HROW := Lib.hid hrow
  clear hpc hrc hP hpa hra hs hc1 hc2 hcr hcl hrow k1 k2 hr hc hl ha hll hcap
  go_enter Try.func6, Try.ntmps6
  go_wp2_with fail
  refine (shown11_any _).mono ?_
  rintro e w1 ⟨rfl, hb1⟩
  have HB1 := Lib.hid hb1
  clear hb1
  go_wp2_with fail
  refine (HC1.out _).mono ?_
  rintro e w2 ⟨rfl, hd2⟩
  have HB2 := Lib.hid (HB1.out.trans (hd2.below.mono HB1.out.size))
  clear hd2 HB1
  go_wp2_with fail
  refine (HCR.out _ HB2.out).mono ?_
  rintro e w3 ⟨v3, rfl, hS, hb3⟩
  have HB3 := Lib.hid (HB2.out.trans (hb3.mono HB2.out.size))
  obtain ⟨A3, c3, rfl, hle3, hC3⟩ := Kd.R_reads (Kd.S_R hS)
  have HLA := Lib.hid (linksAt_of_C hC3)
  clear hS hC3 hb3 HB2 HCR HC1
  obtain ⟨tp, htp⟩ : ∃ tp, tp = ls.length := ⟨_, rfl⟩
  rw [← htp] at hle3 hlen ⊢
  have HTP := Lib.hid htp
  clear htp
  by_cases h0 : tp = 0
  · subst h0
    go_wp2_with fail
    go_ret
    exact ⟨rfl, HB3.out⟩
  · obtain ⟨q, rfl⟩ : ∃ q, tp = q + 1 := ⟨tp - 1, by omega⟩
    have hql : q < ls.length := by rw [← HTP.out]; omega
    obtain ⟨b, off, rfl, hblt, hcell⟩ := HLA.out (by omega)
    obtain ⟨KL, hKL1, hKL2, hKL3⟩ := links_list hcell
    have HKL1 := Lib.hid hKL1
    have HKL2 := Lib.hid hKL2
    have HKL3 := Lib.hid hKL3
    obtain ⟨B, capB, e0, e1, e2, e3, e4, e5⟩ := hcell q hql
    clear hKL1 hKL2 hKL3
    have hnz : ((q : Int) + 1 == 0) = false := by rw [beq_eq_false_iff_ne]; omega
    clear hcell h0
    go_wp2_with fail
    refine (HC2.out _).mono ?_
    rintro e w4 ⟨rfl, hd4⟩
    have HB34 := Lib.hid (show Below w3.heap.size w3 w4 from hd4.below)
    clear hd4 HC2
    have hg := HROW.out.good ls[q] (List.getElem_mem hql)
    obtain ⟨z, hz⟩ : ∃ z, z = ls[q] := ⟨_, rfl⟩
    rw [← hz] at e0 e1 e2 e3 e4 e5 hg
    rw [hg.1] at e2
    have hput0 := put_ok hg.2 (by omega) (s : Int) (clV wt) ⟨by omega, by omega⟩ (clV_size wt)
    obtain ⟨mm, hmm⟩ : ∃ mm, mm = putL z.f2.f1 (s : Int) (clV wt) := ⟨_, rfl⟩
    rw [← hmm] at hput0
    have hput := fun (wx : World) (hx : Below w3.heap.size w3 wx) => cell_Put.calls (1 + (P : Int)) B capB z.f2.f1 (s : Int) (clV wt) (1 + (P : Int)) mm 0 wx (Kd.C_below e5 hx) e4 hput0
    obtain ⟨m, hm⟩ : ∃ m, m = z.f2.f1.length := ⟨_, rfl⟩
    rw [← hm] at hput e3
    have HPUT := Lib.hid hput
    have HMM := Lib.hid (show mm = putL z.f2.f1 (s : Int) (clV wt) ∧ z = ls[q] from ⟨hmm, hz⟩)
    obtain ⟨CV, hcv⟩ : ∃ CV, CV = clV wt := ⟨_, rfl⟩
    rw [← hcv] at HPUT HCL
    have HCV := Lib.hid hcv
    have d2 := (HB34.out.cell (p := ⟨b, off + q * 4 + 2, none⟩) hblt).trans e2
    have d3 := (HB34.out.cell (p := ⟨b, off + q * 4 + 3, none⟩) hblt).trans e3
    have E2 := Lib.hid e2
    have E3 := Lib.hid e3
    have hwq : IntKind.i64.wrap (q : Int) = (q : Int) := by rw [IntKind.wrap_i64] <;> omega
    clear e0 e1 e2 e3 e4 e5 hg hz hmm hput0 hput hm hcv
    go_upto_region 8 with fail
    go_cut [13, 14] from 50 to 62 (fun v13 v14 wx => ∃ (g : Nat) (Ab : Option Addr) (cb : Nat), v13 = .pointer (some ⟨g, 0, none⟩) ∧ v14 = .int .i64 0 ∧ w3.heap.size ≤ g ∧ mm.length ≤ cb ∧ Hid (Blk wx g 26 #[.int .i64 (1 + (P : Int)), .slice Ab mm.length cb]) ∧ Hid (Kd.C kC wx Ab mm.length mm) ∧ Hid (Below w3.heap.size w3 wx))
    case first =>
      have HDL := Lib.hid (show Below w3.heap.size w3 (w4.alloc (Obj.cells #[Value.int IntKind.i64 0, Value.slice none 0 0] 26)) by (apply below_alloc; exact HB34.out))
      have d2a := (HDL.out.cell (p := ⟨b, off + q * 4 + 2, none⟩) hblt).trans E2.out
      have d3a := (HDL.out.cell (p := ⟨b, off + q * 4 + 3, none⟩) hblt).trans E3.out
      go_region_with (first
        | (go_at_call 20
           refine (HCL.out _).mono ?_
           rintro e wa ⟨rfl, hba⟩
           have HBA := Lib.hid (bel_on (w := w3) (by repeat (first | (with_reducible exact HB34.out) | apply below_alloc | apply below_drew1)) hba)
           have f2 := (HBA.out.cell (p := ⟨b, off + q * 4 + 2, none⟩) hblt).trans E2.out
           have f3 := (HBA.out.cell (p := ⟨b, off + q * 4 + 3, none⟩) hblt).trans E3.out
           have HAL := Lib.hid (show Below w3.heap.size w3 (wa.alloc (Obj.cells #[Value.int IntKind.i64 0, Value.slice none 0 0] 26)) by (apply below_alloc; exact HBA.out))
           have f2a := (HAL.out.cell (p := ⟨b, off + q * 4 + 2, none⟩) hblt).trans E2.out
           have f3a := (HAL.out.cell (p := ⟨b, off + q * 4 + 3, none⟩) hblt).trans E3.out
           have hk0 := (Blk.new w4 26 #[.int .i64 0, .slice none 0 0]).drew
           try have HZ0 := Lib.hid (hk0.below hba hk0.lt)
           clear hk0)
        | (go_at_call 19
           refine (HPUT.out _ (by repeat (first | (with_reducible exact HBA.out) | apply below_alloc | apply below_drew1))).mono ?_
           rintro e wb ⟨vb, rfl, hRb, hbb⟩
           have HBB := Lib.hid (bel_on (w := w3) (by repeat (first | (with_reducible exact HBA.out) | apply below_alloc | apply below_drew1)) hbb)
           obtain ⟨Ab, cb, rfl, hleb, hCb⟩ := Kd.R_reads hRb
           have HCB := Lib.hid hCb
           try have HZ := Lib.hid (HZ0.out.below hbb HZ0.out.lt)
           have hk1 := Blk.new wa 26 #[.int .i64 0, .slice none 0 0]
           try have HZ := Lib.hid (hk1.below hbb hk1.lt)
           clear hk1
           try have c0 := HZ.out.cell 0
           try have c1 := HZ.out.cell 1
           try have g0 := HZ.out.frozen 0
           try have g1 := HZ.out.frozen 1
           try rw [show (#[Value.int IntKind.i64 0, .slice none 0 0] : Array Value)[0]? = some (.int .i64 0) from rfl] at c0
           try rw [show (#[Value.int IntKind.i64 0, .slice none 0 0] : Array Value)[1]? = some (.slice none 0 0) from rfl] at c1))
      all_goals (go_wp2_with fail; go_meet)
      all_goals first
        | exact ⟨_, Ab, cb, rfl, rfl, HBB.out.size, hleb, Lib.hid (Blk.new _ _ _), Lib.hid (Kd.C_alloc hCb _), Lib.hid (below_alloc HBB.out _)⟩
        | exact top_stored (g := w4.heap.size) HB34.out.size HZ0.out.lt hbb.size HZ.out hRb hleb HBB.out
        | exact top_stored (g := wa.heap.size) HBA.out.size (Blk.new wa 26 #[.int .i64 0, .slice none 0 0]).lt hbb.size HZ.out hRb hleb HBB.out
    case rest =>
      clear HPUT d2 d3 hwq
      obtain ⟨g, Ab, cb, rfl, rfl, hg3, hleb, HZ, HCB, HBc⟩ := hcut
      obtain ⟨i0, hi0, hzz⟩ := Option.map_eq_some_iff.1 infoL
      simp only [Prod.mk.injEq] at hzz
      obtain ⟨hz0, hz1, hz2⟩ := hzz
      have hKlen : KL.length = q + 1 := by rw [HTP.out, ← HKL1.out, List.length_map]
      have hb3s := HBc.out.size
      have hgl := HZ.out.lt
      have HWA := Lib.hid (below_alloc (w := w3) HBc.out (.cells #[] 32))
      have hown0 : (wc.alloc (.cells #[] 32)).ownsRow wc.heap.size 32 4 (.slice (some ⟨wc.heap.size, 0, none⟩) 0 0) 0 [] :=
        ⟨rfl, .inr ⟨wc.heap.size, 0, #[], rfl, Nat.le_refl _, Blk.new _ _ _, Nat.le_refl _, by simp [maxLen], rfl, rfl⟩⟩
      have hnews : ∀ j u, (flatE encK KL)[j]? = some u → (wc.alloc (.cells #[] 32)).cell? ((⟨b, off, none⟩ : Addr).add j) = some u := by
        intro j u hu
        have := HKL3.out j u hu
        rw [show (⟨b, off, none⟩ : Addr).add j = ⟨b, off + j, none⟩ by unfold Addr.add; split <;> simp_all]
        exact (HWA.out.cell (p := ⟨b, off + j, none⟩) hblt).trans this
      have hone : ∀ u ∈ flatE encK KL, u.oneCell' = true := flatE_one (fun x u hu => by simp [encK] at hu; rcases hu with rfl | rfl | rfl | rfl <;> rfl) KL
      have hlen4 : (flatE encK KL).length = (q + 1) * 4 := by rw [flatE_length encK_len, hKlen]
      go_upto_region 9 with fail
      go_wp2_with (at_builtin; refine wpList_append_own _ rfl _ _ 30 rfl wc.heap.size 32 i0 _ 4 48 Try.underlying30 hi0 hz0 hz1 hz2 rfl (by decide) (.slice (some ⟨wc.heap.size, 0, none⟩) 0 0) 0 [] rfl hown0 ⟨b, off, none⟩ (q + 1) c3 (flatE encK KL) rfl hlen4 hnews hone (by unfold maxLen; omega) (by omega) (by simp) ?_)
      intro v5 w5 hown hgrw _
      obtain ⟨gr, c5, rfl, hgr⟩ := own_succT hown
      have hb5 : Below wc.heap.size wc w5 := pw_below_grown (below_alloc (Below.refl _ _) (.cells #[] 32)) _ (by simp) hgrw (fun k hk => by simp [Value.ownBlock] at hk; omega)
      have HO5 := Lib.hid hown
      have HZ5 := Lib.hid (HZ.out.below hb5 HZ.out.lt)
      have HCB5 := Lib.hid (Kd.C_below HCB.out hb5)
      have HB5 := Lib.hid hb5
      clear hown hgrw hb5 HWA hown0 hnews hone hlen4 hi0 hz0 hz1 hz2
      have z0 := HZ5.out.cell 0
      have z1 := HZ5.out.cell 1
      rw [show (#[Value.int IntKind.i64 (1 + (P : Int)), .slice Ab mm.length cb] : Array Value)[0]? = some (.int .i64 (1 + (P : Int))) from rfl] at z0
      rw [show (#[Value.int IntKind.i64 (1 + (P : Int)), .slice Ab mm.length cb] : Array Value)[1]? = some (.slice Ab mm.length cb) from rfl] at z1
      have gt := fun (i : Nat) (hi : i < 4) => (HO5.out.cellAt (q * 4 + i) (by omega)).trans (flatE_get encK_len KL q (by omega) i hi)
      obtain ⟨y0, s0⟩ : ∃ y, w5.cell? ⟨gr, q * 4, none⟩ = some y := ⟨_, gt 0 (by decide)⟩
      obtain ⟨y1, s1⟩ : ∃ y, w5.cell? ⟨gr, q * 4 + 1, none⟩ = some y := ⟨_, gt 1 (by decide)⟩
      obtain ⟨y2, s2⟩ : ∃ y, w5.cell? ⟨gr, q * 4 + 2, none⟩ = some y := ⟨_, gt 2 (by decide)⟩
      obtain ⟨y3, s3⟩ : ∃ y, w5.cell? ⟨gr, q * 4 + 3, none⟩ = some y := ⟨_, gt 3 (by decide)⟩
      have f0 := HO5.out.frozenAt (q * 4)
      have f1 := HO5.out.frozenAt (q * 4 + 1)
      have f2 := HO5.out.frozenAt (q * 4 + 2)
      have f3 := HO5.out.frozenAt (q * 4 + 3)
      have hwq : IntKind.i64.wrap (q : Int) = (q : Int) := by rw [IntKind.wrap_i64] <;> omega
      have hgne : g ≠ gr := by omega
      clear gt
      go_upto_region 11 with fail
      have hown6 := ((((HO5.out.stored (q * 4) (.int .i64 ((q : Int) + 1))).1.stored (q * 4 + 1) (.int .i64 (q : Int))).1.stored (q * 4 + 2) (.int .i64 (1 + (P : Int)))).1.stored (q * 4 + 3) (.slice Ab mm.length cb)).1
      have hset := set_last hKlen ((⟨(q : Int) + 1, (q : Int), ⟨1 + (P : Int), mm⟩⟩, Ab, cb) : LK)
      dsimp only at hset
      rw [hset] at hown6
      have HO6 := Lib.hid hown6
      have HB6 := Lib.hid ((((HB5.out.setCell (p := ⟨gr, q * 4, none⟩) hgr (.int .i64 ((q : Int) + 1))).setCell (p := ⟨gr, q * 4 + 1, none⟩) hgr (.int .i64 (q : Int))).setCell (p := ⟨gr, q * 4 + 2, none⟩) hgr (.int .i64 (1 + (P : Int)))).setCell (p := ⟨gr, q * 4 + 3, none⟩) hgr (.slice Ab mm.length cb))
      clear hown6 hset HO5 HZ5 HCB5 HB5 z0 z1 s0 s1 s2 s3 f0 f1 f2 f3 y0 y1 y2 y3
      revert HO6 HB6
      generalize ((((w5.setCell ⟨gr, q * 4, none⟩ (.int .i64 ((q : Int) + 1))).setCell ⟨gr, q * 4 + 1, none⟩ (.int .i64 (q : Int))).setCell ⟨gr, q * 4 + 2, none⟩ (.int .i64 (1 + (P : Int)))).setCell ⟨gr, q * 4 + 3, none⟩ (.slice Ab mm.length cb)) = w6
      intro HO6 HB6
      have HB36 := Lib.hid (HBc.out.trans (HB6.out.mono hb3s))
      have HLK := Lib.hid (HLA.out.below HB36.out)
      have HZ6 := Lib.hid (HZ.out.below HB6.out HZ.out.lt)
      have HCB6 := Lib.hid (Kd.C_below HCB.out HB6.out)
      have hfall : FoundAll w6 (KL.take q ++ [((⟨(q : Int) + 1, (q : Int), ⟨1 + (P : Int), mm⟩⟩, Ab, cb) : LK)]) := by
        intro x hx
        rcases List.mem_append.1 hx with hx | hx
        · exact (HKL2.out x (List.mem_of_mem_take hx)).below HB36.out
        · rw [List.mem_singleton.1 hx]; exact ⟨hleb, HCB6.out⟩
      have hK2 : (KL.take q ++ [((⟨(q : Int) + 1, (q : Int), ⟨1 + (P : Int), mm⟩⟩, Ab, cb) : LK)]).map (·.1) = topped ls q (1 + (P : Int)) mm := by
        rw [List.map_append, List.map_take, HKL1.out]; rfl
      have hL2 : (KL.take q ++ [((⟨(q : Int) + 1, (q : Int), ⟨1 + (P : Int), mm⟩⟩, Ab, cb) : LK)]).length = q + 1 := by rw [List.length_append, List.length_take, List.length_singleton]; omega
      have hLC := links_of_own (show ownK w6 wc.heap.size (.slice (some ⟨gr, 0, none⟩) (q + 1) c5) (KL.take q ++ [((⟨(q : Int) + 1, (q : Int), ⟨1 + (P : Int), mm⟩⟩, Ab, cb) : LK)]) from by show World.ownsRow _ _ _ _ _ _ _; rw [hL2]; exact HO6.out) hfall
      rw [hK2] at hLC
      have HLC := Lib.hid hLC
      clear hLC hfall hK2 hL2 HO6 HKL1 HKL2 HKL3 HZ HCB HB6 HBc HLA hKlen
      have hpos : 0 < ls.length := by rw [← HTP.out]; omega
      have hcast : ((ls.length : Nat) : Int) = (q : Int) + 1 := by rw [← HTP.out]; rfl
      have hgz : Good (1 + (P : Int)) z.f2.f1 := by rw [HMM.out.2]; exact (HROW.out.good ls[q] (List.getElem_mem hql)).2
      have hgm : Good (1 + (P : Int)) mm := by rw [HMM.out.1]; exact hgz.put _ _ ⟨by omega, by omega⟩ (clV_size wt)
      have HTO := Lib.hid (topped_ok HROW.out q HTP.out.symm hgm)
      have htl := topped_len (n := 1 + (P : Int)) (ls := ls) q HTP.out.symm mm
      have hrd1 : ∀ (i : Nat) (wx : World), i < 1 + P → Below w6.heap.size w6 wx → Calls Try.prog 13 #[.slice (some ⟨b, off, none⟩) (q + 1) c3, .int .i64 ((q : Int) + 1), .int .i64 (i : Int)] wx fun e w' => e = .returned (.tuple #[.string (throughL ls.reverse (i : Int)), .int .i64 0]) ∧ Below wx.heap.size wx w' := by
        intro i wx hi hx
        have := read_any (some ⟨b, off, none⟩) c3 ls ((ls.length : Nat) : Int) (i : Int) wx (by omega) (HLK.out.below hx) (HROW.out.sized (by omega))
        rw [read_row HROW.out hpos (by omega) (by omega) (i : Int) ⟨by omega, by omega⟩, hcast, ← HTP.out] at this
        exact this
      have hrd2 : ∀ (i : Nat) (wx : World), i < 1 + P → Below w6.heap.size w6 wx → Calls Try.prog 13 #[.slice (some ⟨gr, 0, none⟩) (q + 1) c5, .int .i64 ((q : Int) + 1), .int .i64 (i : Int)] wx fun e w' => e = .returned (.tuple #[.string (if i = s then CV else throughL ls.reverse (i : Int)), .int .i64 0]) ∧ Below wx.heap.size wx w' := by
        intro i wx hi hx
        have := read_any (some ⟨gr, 0, none⟩) c5 (topped ls q (1 + (P : Int)) mm) (((topped ls q (1 + (P : Int)) mm).length : Nat) : Int) (i : Int) wx (by omega) (HLC.out.below hx) (HTO.out.sized (by omega))
        rw [read_row HTO.out (by omega) (by omega) (by omega) (i : Int) ⟨by omega, by omega⟩, htl] at this
        have hv : throughL (topped ls q (1 + (P : Int)) mm).reverse (i : Int) = if i = s then CV else throughL ls.reverse (i : Int) := by
          rw [HMM.out.1, HCV.out]
          by_cases his : i = s
          · rw [if_pos his, his]
            exact topped_at ls q hgz (s : Int) ⟨by omega, by omega⟩ (clV wt) (clV_size wt)
          · rw [if_neg his, HMM.out.2]
            exact topped_off HROW.out q HTP.out.symm (s : Int) (i : Int) (by omega) (clV wt)
        rw [hv] at this
        exact this
      have hfl := fun j hj => below_same HROW.out q HTP.out.symm mm hgm (by omega) (by omega) (by omega) j hj
      have hfl1 : ∀ (j : Nat) (wx : World), j < q → Below w6.heap.size w6 wx → Calls Try.prog 18 #[.slice (some ⟨b, off, none⟩) (q + 1) c3, .int .i64 ((j : Int) + 1)] wx fun e w' => e = .returned (.tuple #[.string (flatL ls ((j : Int) + 1)).1, .int .i64 0]) ∧ Below wx.heap.size wx w' := by
        intro j wx hj hx
        have := flatc_any (some ⟨b, off, none⟩) c3 ls ((j + 1 : Nat) : Int) wx (by omega) (HLK.out.below hx) (HROW.out.sized (by omega))
        rw [(hfl j hj).2, ← HTP.out] at this
        exact this
      have hfl2 : ∀ (j : Nat) (wx : World), j < q → Below w6.heap.size w6 wx → Calls Try.prog 18 #[.slice (some ⟨gr, 0, none⟩) (q + 1) c5, .int .i64 ((j : Int) + 1)] wx fun e w' => e = .returned (.tuple #[.string (flatL ls ((j : Int) + 1)).1, .int .i64 0]) ∧ Below wx.heap.size wx w' := by
        intro j wx hj hx
        have := flatc_any (some ⟨gr, 0, none⟩) c5 (topped ls q (1 + (P : Int)) mm) ((j + 1 : Nat) : Int) wx (by omega) (HLC.out.below hx) (HTO.out.sized (by omega))
        rw [← (hfl j hj).1, (hfl j hj).2, htl] at this
        exact this
      have hrp : ∀ (wx : World), Below w6.heap.size w6 wx → Calls Try.prog 13 #[.slice (some ⟨b, off, none⟩) (q + 1) c3, .int .i64 ((q : Int) + 1), .int .i64 (1 + (P : Int))] wx fun e w' => e = .returned (.tuple #[.string ⟨#[]⟩, .int .i64 11]) ∧ Below wx.heap.size wx w' := by
        intro wx hx
        have := read_any (some ⟨b, off, none⟩) c3 ls ((ls.length : Nat) : Int) (1 + (P : Int)) wx (by omega) (HLK.out.below hx) (HROW.out.sized (by omega))
        rw [read_past HROW.out hpos, hcast, ← HTP.out] at this
        exact this
      have hfp : ∀ (wx : World), Below w6.heap.size w6 wx → Calls Try.prog 18 #[.slice (some ⟨b, off, none⟩) (q + 1) c3, .int .i64 ((q : Int) + 1 + 1)] wx fun e w' => e = .returned (.tuple #[.string ⟨#[]⟩, .int .i64 4]) ∧ Below wx.heap.size wx w' := by
        intro wx hx
        have := flatc_any (some ⟨b, off, none⟩) c3 ls ((ls.length + 1 : Nat) : Int) wx (by omega) (HLK.out.below hx) (HROW.out.sized (by omega))
        rw [flat_past HROW.out, ← HTP.out] at this
        exact this
      obtain ⟨K3, k3⟩ := as_ev (1 + (P : Int)) mm (by have := hgm.length (by omega); omega)
      obtain ⟨K4, k4⟩ := rflat_ev (n := 1 + (P : Int)) (by omega) (by omega) hgm
      obtain ⟨mr, hmr⟩ : ∃ mr, mr = mm.map toR := ⟨_, rfl⟩
      replace k3 := k3 K3 (Nat.le_refl _)
      replace k4 := k4 K4 (Nat.le_refl _)
      dsimp only at k3 k4
      rw [← hmr] at k3 k4
      have has := fun (wx : World) (hx : Below w6.heap.size w6 wx) => rootcellarlaw11_as.calls K3 (1 + (P : Int)) Ab cb mm (1 + (P : Int)) mr wx (Kd.C_below HCB6.out hx) hleb k3
      have hrf := fun (A : Option Addr) (cx : Nat) (wx : World) (hc : Kd.C kR wx A mr.length mr) (hle : mr.length ≤ cx) => rootcellarref9_Flat.calls K4 (1 + (P : Int)) A cx mr (flatV (1 + (P : Int)) mm) wx hc hle k4
      have hfs := flatV_size (n := 1 + (P : Int)) (by omega) hgm
      have HRD1 := Lib.hid hrd1
      have HRD2 := Lib.hid hrd2
      have HFL1 := Lib.hid hfl1
      have HFL2 := Lib.hid hfl2
      have HRP := Lib.hid hrp
      have HFP := Lib.hid hfp
      have HAS := Lib.hid has
      have HRF := Lib.hid hrf
      have HFS := Lib.hid hfs
      clear hrd1 hrd2 hfl1 hfl2 hrp hfp has hrf hfs hfl HLC HLK HTO htl hgz hgm hcast hpos HMM HCV HROW E2 E3 HB34 hql k3 k4 hmr hgr hgne hb3s hgl
      go_wp2_with fail
      go_loopw [16] (fun v16 wr => ∃ (i : Nat), i ≤ 1 + P ∧ v16 = .int .i64 (i : Int) ∧ Hid (Below w6.heap.size w6 wr)) (fun v16 _ => 1 + P - (intOf v16).toNat)
      case atStart => exact ⟨0, by omega, rfl, Lib.hid (Below.refl _ _)⟩
      case round =>
        obtain ⟨i, hi, rfl, hbr⟩ := hrel
        by_cases hlt : i < 1 + P
        · have h1 := HRD1.out i
          have h2 := HRD2.out i
          by_cases his : i = s
          · rw [if_pos his] at h2
            generalize throughL ls.reverse (i : Int) = va at h1 h2
            have H1 := Lib.hid h1
            have H2 := Lib.hid h2
            subst his
            have hb2 : (CV.toList == CV.toList) = true := beq_self_eq_true _
            clear h1 h2 HRD1 HRD2 HFL1 HFL2 HRP HFP HAS HRF HFS
            go_wp2_with fail
            refine (H1.out wr hlt hbr.out).mono ?_
            rintro e wx ⟨rfl, hbx⟩
            have HBX := Lib.hid (hbr.out.trans (hbx.mono hbr.out.size))
            clear hbx hbr H1
            go_wp2_with fail
            refine (H2.out wx hlt HBX.out).mono ?_
            rintro e wy ⟨rfl, hby⟩
            have HBY := Lib.hid (HBX.out.trans (hby.mono HBX.out.size))
            clear hby HBX H2
            go_wp2_with fail
            refine (HCL.out _).mono ?_
            rintro e wz ⟨rfl, hbz⟩
            have HBZ := Lib.hid (HBY.out.trans (hbz.mono HBY.out.size))
            clear hbz HBY HCL
            go_wp2_with fail
            go_roundw
            case rel => exact ⟨i + 1, by omega, by go_num, HBZ⟩
            case measure => simp [intOf]; omega
          · rw [if_neg his] at h2
            generalize throughL ls.reverse (i : Int) = va at h1 h2
            have H1 := Lib.hid h1
            have H2 := Lib.hid h2
            have hb1 : ¬ ((i : Int) = (s : Int)) := by omega
            have hb2 : (va.toList == va.toList) = true := beq_self_eq_true _
            clear h1 h2 HRD1 HRD2 HFL1 HFL2 HRP HFP HAS HRF HFS
            go_wp2_with fail
            refine (H1.out wr hlt hbr.out).mono ?_
            rintro e wx ⟨rfl, hbx⟩
            have HBX := Lib.hid (hbr.out.trans (hbx.mono hbr.out.size))
            clear hbx hbr H1
            go_wp2_with fail
            refine (H2.out wx hlt HBX.out).mono ?_
            rintro e wy ⟨rfl, hby⟩
            have HBY := Lib.hid (HBX.out.trans (hby.mono HBX.out.size))
            clear hby HBX H2
            go_wp2_with fail
            go_roundw
            case rel => exact ⟨i + 1, by omega, by go_num, HBY⟩
            case measure => simp [intOf]; omega
        · have hii : (i : Int) = 1 + (P : Int) := by omega
          rw [hii]
          clear HRD1 HRD2 hlt hi hii
          go_wp2_with fail
          go_loopw [21] (fun v21 wr => ∃ (j : Nat), j ≤ q ∧ v21 = .int .i64 ((j : Int) + 1) ∧ Hid (Below w6.heap.size w6 wr)) (fun v21 _ => q + 1 - (intOf v21).toNat)
          case atStart => exact ⟨0, by omega, rfl, hbr⟩
          case round =>
            clear hbr
            obtain ⟨j, hj, rfl, hbr⟩ := hrel
            by_cases hlt : j < q
            · have h1 := HFL1.out j
              have h2 := HFL2.out j
              generalize (flatL ls ((j : Int) + 1)).1 = va at h1 h2
              have H1 := Lib.hid h1
              have H2 := Lib.hid h2
              have hb2 : (va.toList == va.toList) = true := beq_self_eq_true _
              clear h1 h2 HFL1 HFL2 HRP HFP HAS HRF HFS
              go_wp2_with fail
              refine (H1.out _ hlt hbr.out).mono ?_
              rintro e wx ⟨rfl, hbx⟩
              have HBX := Lib.hid (hbr.out.trans (hbx.mono hbr.out.size))
              clear hbx hbr H1
              go_wp2_with fail
              refine (H2.out wx hlt HBX.out).mono ?_
              rintro e wy ⟨rfl, hby⟩
              have HBY := Lib.hid (HBX.out.trans (hby.mono HBX.out.size))
              clear hby HBX H2
              go_wp2_with fail
              go_roundw
              case rel => exact ⟨j + 1, by omega, by go_num, HBY⟩
              case measure => simp [intOf]; omega
            · obtain rfl : j = q := by omega
              clear HFL1 HFL2 hlt hj
              go_wp2_with fail
              refine (HRP.out _ hbr.out).mono ?_
              rintro e wx ⟨rfl, hbx⟩
              have HBX := Lib.hid (hbr.out.trans (hbx.mono hbr.out.size))
              clear hbx hbr HRP
              go_wp2_with fail
              refine (HFP.out _ HBX.out).mono ?_
              rintro e wy ⟨rfl, hby⟩
              have HBY := Lib.hid (HBX.out.trans (hby.mono HBX.out.size))
              have HZY := HZ6.out.below HBY.out HZ6.out.lt
              clear hby HBX HFP
              have z0 := HZY.cell 0
              have z1 := HZY.cell 1
              rw [show (#[Value.int IntKind.i64 (1 + (P : Int)), .slice Ab mm.length cb] : Array Value)[0]? = some (.int .i64 (1 + (P : Int))) from rfl] at z0
              rw [show (#[Value.int IntKind.i64 (1 + (P : Int)), .slice Ab mm.length cb] : Array Value)[1]? = some (.slice Ab mm.length cb) from rfl] at z1
              clear HZY
              go_wp2_with fail
              refine (HAS.out _ HBY.out).mono ?_
              rintro e wz ⟨vz, rfl, hRz, hbz⟩
              have HBZ := Lib.hid (HBY.out.trans (hbz.mono HBY.out.size))
              obtain ⟨Az, cz, rfl, hlez, hCz⟩ := Kd.R_reads hRz
              clear hRz hbz HAS HBY z0 z1
              go_wp2_with fail
              refine (HRF.out _ _ _ hCz hlez).mono ?_
              rintro e wl ⟨rfl, hbl⟩
              have HBL := Lib.hid (HBZ.out.trans (hbl.mono HBZ.out.size))
              clear hbl HBZ hCz hlez HRF
              have hfs := HFS.out
              go_wp2_with fail
              go_ret
              exact ⟨rfl, HB3.out.trans ((HB36.out.trans (HBL.out.mono HB36.out.size)).mono HB3.out.size)⟩
end Go.Proofs.Ytbeloaccgmgocaa.Pr
