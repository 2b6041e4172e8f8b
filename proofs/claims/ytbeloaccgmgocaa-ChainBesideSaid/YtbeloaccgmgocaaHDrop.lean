/- The contract of cell.Drop. Condition: no more cells than a million. -/
import Derived.Test.YtbeloaccgmgocaaHDelete
namespace Go.Proofs.Ytbeloaccgmgocaa.Pr
open Go.RowKit Go.Proofs.YtbeloaccgmgocaaW.PrintWords Go.Proofs.YtbeloaccgmgocaaW.PrintLast Go.Proofs.Ytbeloaccgmgocaa
set_option linter.unusedVariables false
def cell_Drop.f (a0_0 : Int) (l0_1 : List SC) (a1 : Int) : Option (Int × (List SC) × Int) :=
  if hasB a0_0 a1 = false then some (0, [], 11) else if l0_1.length ≤ 1000000 then some (a0_0, l0_1.filter (other a1), 0) else none
theorem blk_three (w : World) (t : TypeId) (cs : Array Value) (o o' : Obj) : Blk (((w.alloc o).alloc o').alloc (.cells cs t)) (w.heap.size + 2) t cs := by
  have := Blk.new ((w.alloc o).alloc o') t cs
  simpa using this
set_option maxRecDepth 100000 in
set_option maxHeartbeats 4000000 in
theorem cell_Drop.calls (a0_0 : Int) (A0_1 : Option Addr) (c0_1 : Nat) (l0_1 : List SC) (a1 : Int) (r1 : Int) (r2 : List SC) (r3 : Int) (w : World) (hr0_1 : Kd.C kC w A0_1 l0_1.length l0_1) (hc0_1 : l0_1.length ≤ c0_1) (h : cell_Drop.f a0_0 l0_1 a1 = some (r1, r2, r3)) :
    Calls Try.prog 24 #[.agg #[.int .i64 a0_0, .slice A0_1 l0_1.length c0_1], .int .i64 a1] w fun e w' => ∃ v1_ : Value, e = .returned (.tuple #[.agg #[.int .i64 r1, v1_], .int .i64 r3]) ∧ Kd.R kC 67 w' w.heap.size (fun _ => True) v1_ r2 ∧ Below w.heap.size w w' := by
  obtain ⟨n, hn⟩ : ∃ n, n = l0_1.length := ⟨_, rfl⟩
  have HN := Lib.hid hn
  have hh := fun w => has_any a0_0 A0_1 n c0_1 a1 w
  have hb0 := ((Blk.new w 26 #[.int .i64 a0_0, .slice A0_1 n c0_1]).alloc (.cells #[.int .i64 a1] 3)).alloc (.cells #[.int .i64 0, .slice none 0 0] 26)
  have hba := (blk_two w 3 #[.int .i64 a1] (.cells #[.int .i64 a0_0, .slice A0_1 n c0_1] 26)).alloc (.cells #[.int .i64 0, .slice none 0 0] 26)
  have hbr := blk_three w 26 #[.int .i64 0, .slice none 0 0] (.cells #[.int .i64 a0_0, .slice A0_1 n c0_1] 26) (.cells #[.int .i64 a1] 3)
  have hbel := (((Below.refl w.heap.size w).alloc (Nat.le_refl _) (.cells #[.int .i64 a0_0, .slice A0_1 n c0_1] 26)).alloc (by simp) (.cells #[.int .i64 a1] 3)).alloc (by simp; omega) (.cells #[.int .i64 0, .slice none 0 0] 26)
  rw [← hn] at hc0_1 ⊢
  clear hn
  unfold cell_Drop.f at h
  have HB0 := Lib.hid hb0
  have HBA := Lib.hid hba
  have HBR := Lib.hid hbr
  have HBEL := Lib.hid hbel
  cases hhas : hasB a0_0 a1 with
  | false =>
    rw [if_pos hhas] at h
    obtain ⟨rfl, rfl, rfl⟩ : (0 : Int) = r1 ∧ ([] : List SC) = r2 ∧ (11 : Int) = r3 := by simpa using h
    rw [hhas] at hh
    have HH := Lib.hid hh
    clear h hh hhas hb0 hba hbr hbel hr0_1
    go_enter Try.func24, Try.ntmps24
    go_wp2_with fail
    refine (HH.out _).mono ?_
    rintro e w1 ⟨rfl, hb1⟩
    have H1 := Lib.hid (HBR.out.below hb1 HBR.out.lt)
    have H2 := Lib.hid (HBEL.out.trans (hb1.mono HBEL.out.size))
    clear hb1
    have c0 := H1.out.cell 0
    have c1 := H1.out.cell 1
    have f0 := H1.out.frozen 0
    have f1 := H1.out.frozen 1
    rw [show (#[Value.int IntKind.i64 0, Value.slice none 0 0] : Array Value)[0]? = some (.int .i64 0) from rfl] at c0
    rw [show (#[Value.int IntKind.i64 0, Value.slice none 0 0] : Array Value)[1]? = some (.slice none 0 0) from rfl] at c1
    have H3 := Lib.hid ((H1.out.set_ 0 (.int .i64 0)).set_ 1 (.slice none 0 0))
    have H4 := Lib.hid ((H2.out.setCell (p := ⟨w.heap.size + 2, 0, none⟩) (by simp) (.int .i64 0)).setCell (p := ⟨w.heap.size + 2, 1, none⟩) (by simp) (.slice none 0 0))
    go_wp2
    refine bodyPost_ret (results_row_tmp rfl _ _ (w.heap.size + 2) _ _ _ _ rfl H3.out Try.underlying26 rfl (by rw [im_info]; rfl)) rfl ?_
    exact ⟨_, rfl, ownC_R (own_nil _ _ _ _), H4.out⟩
  | true =>
    rw [if_neg (by rw [hhas]; decide)] at h
    rw [hhas] at hh
    have HH := Lib.hid hh
    have hl : l0_1.length ≤ 1000000 := by
      by_cases hl : l0_1.length ≤ 1000000
      · exact hl
      · rw [if_neg hl] at h; cases h
    rw [if_pos hl] at h
    obtain ⟨rfl, rfl, rfl⟩ : a0_0 = r1 ∧ l0_1.filter (other a1) = r2 ∧ (0 : Int) = r3 := by simpa using h
    have hcl := fun (w1 : World) (h1 : Below w.heap.size w w1) => clone_any A0_1 c0_1 l0_1 w1 (Kd.C_below hr0_1 h1) hl
    rw [← HN.out] at hcl
    have HCL := Lib.hid hcl
    have HLE := Lib.hid hl
    clear h hh hhas hb0 hba hbr hbel hr0_1 hcl hl
    go_enter Try.func24, Try.ntmps24
    go_wp2_with fail
    refine (HH.out _).mono ?_
    rintro e w1 ⟨rfl, hb1⟩
    have G0 := Lib.hid (HB0.out.below hb1 HB0.out.lt)
    have GA := Lib.hid (HBA.out.below hb1 HBA.out.lt)
    have G1 := Lib.hid (HBR.out.below hb1 HBR.out.lt)
    have G2 := Lib.hid (HBEL.out.trans (hb1.mono HBEL.out.size))
    clear hb1 HB0 HBA HBR HBEL HH
    have c1 := G0.out.cell 1
    rw [show (#[Value.int IntKind.i64 a0_0, Value.slice A0_1 n c0_1] : Array Value)[1]? = some (.slice A0_1 n c0_1) from rfl] at c1
    go_wp2_with fail
    refine (HCL.out _ G2.out).mono ?_
    rintro e w2 ⟨⟨v, rfl, hown⟩, hb2⟩
    have K0 := Lib.hid (G0.out.below hb2 G0.out.lt)
    have KA := Lib.hid (GA.out.below hb2 GA.out.lt)
    have K1 := Lib.hid (G1.out.below hb2 G1.out.lt)
    have K2 := Lib.hid (G2.out.trans (hb2.mono G2.out.size))
    have hlt1 := G1.out.lt
    have hlt2 := G2.out.size
    have hdel := deletef_any w1.heap.size v l0_1 a1 (w.heap.size + 1) w2 HLE.out hown (by have := KA.out.cell 0; simpa using this) (by omega) hb2.size
    have HD := Lib.hid hdel
    obtain ⟨A2, c2, rfl⟩ := own_slice hown
    clear hb2 hown hdel G0 GA G1 G2 c1
    go_wp2_with fail
    refine HD.out.mono ?_
    rintro e w3 ⟨⟨v3, rfl, hown3⟩, hb3⟩
    have M0 := Lib.hid (K0.out.below hb3 (by omega))
    have M1 := Lib.hid (K1.out.below hb3 (by omega))
    have M2 := Lib.hid (K2.out.trans (hb3.mono hlt2))
    have HST := Lib.hid hown3
    obtain ⟨A3, c3, rfl⟩ := own_slice hown3
    obtain ⟨m, hm⟩ : ∃ m, m = (l0_1.filter (other a1)).length := ⟨_, rfl⟩
    have HM := Lib.hid hm
    rw [← hm] at hown3 ⊢
    have hob : ∀ k, (Value.slice A3 m c3).ownBlock = some k → w1.heap.size ≤ k := fun k hk => own_base hown3 k hk
    have HOB := Lib.hid hob
    clear hm hob hown3 hb3 HD K0 K1 K2 KA
    have e0 := M0.out.cell 0
    have e1 := M0.out.cell 1
    have g1 := M0.out.frozen 1
    rw [show (#[Value.int IntKind.i64 a0_0, Value.slice A0_1 n c0_1] : Array Value)[0]? = some (.int .i64 a0_0) from rfl] at e0
    rw [show (#[Value.int IntKind.i64 a0_0, Value.slice A0_1 n c0_1] : Array Value)[1]? = some (.slice A0_1 n c0_1) from rfl] at e1
    have q0 := M1.out.cell 0
    have q1 := M1.out.cell 1
    have f0 := M1.out.frozen 0
    have f1 := M1.out.frozen 1
    rw [show (#[Value.int IntKind.i64 0, Value.slice none 0 0] : Array Value)[0]? = some (.int .i64 0) from rfl] at q0
    rw [show (#[Value.int IntKind.i64 0, Value.slice none 0 0] : Array Value)[1]? = some (.slice none 0 0) from rfl] at q1
    have M1' := Lib.hid (M1.out.far (p := ⟨w.heap.size, 1, none⟩) (by simp) (.slice A3 m c3))
    have M2' := Lib.hid (M2.out.setCell (p := ⟨w.heap.size, 1, none⟩) (Nat.le_refl _) (.slice A3 m c3))
    have H5 : Hid (ownC (w3.setCell ⟨w.heap.size, 1, none⟩ (.slice A3 m c3)) w1.heap.size (.slice A3 m c3) (l0_1.filter (other a1))) := by
      have h1 := HST.out
      rw [← HM.out] at h1
      exact Lib.hid (own_setCell h1 (p := ⟨w.heap.size, 1, none⟩) (fun e => by have := HOB.out _ e.symm; simp at this; omega) _)
    have H3 := Lib.hid ((M1'.out.set_ 0 (.int .i64 a0_0)).set_ 1 (.slice A3 m c3))
    have H4 := Lib.hid ((M2'.out.setCell (p := ⟨w.heap.size + 2, 0, none⟩) (by simp) (.int .i64 a0_0)).setCell (p := ⟨w.heap.size + 2, 1, none⟩) (by simp) (.slice A3 m c3))
    have H6 := Lib.hid (own_setCell (own_setCell H5.out (p := ⟨w.heap.size + 2, 0, none⟩) (fun e => by have := HOB.out _ e.symm; simp at this; omega) (.int .i64 a0_0)) (p := ⟨w.heap.size + 2, 1, none⟩) (fun e => by have := HOB.out _ e.symm; simp at this; omega) (.slice A3 m c3))
    clear H5 HST HOB M1' M2'
    go_wp2
    refine bodyPost_ret (results_row_tmp rfl _ _ (w.heap.size + 2) _ _ _ _ rfl H3.out Try.underlying26 rfl (by rw [im_info]; rfl)) rfl ?_
    exact ⟨_, rfl, ownC_R (own_weaken H6.out hlt2), H4.out⟩
end Go.Proofs.Ytbeloaccgmgocaa.Pr
