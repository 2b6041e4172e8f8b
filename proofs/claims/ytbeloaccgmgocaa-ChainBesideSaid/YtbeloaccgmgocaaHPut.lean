/- The contract of cell.Put. Condition: no more cells than a million. -/
import Derived.Test.YtbeloaccgmgocaaHInsert
import Derived.Test.YtbeloaccgmgocaaHPlace
import Derived.Test.YtbeloaccgmgocaaCellZero
namespace Go.Proofs.Ytbeloaccgmgocaa.Pr
open Go.RowKit Go.Proofs.YtbeloaccgmgocaaW.PrintWords Go.Proofs.YtbeloaccgmgocaaW.PrintLast Go.Proofs.Ytbeloaccgmgocaa
set_option linter.unusedVariables false
def hasB (c a : Int) : Bool := decide (0 ≤ a) && decide (a < c)
set_option maxRecDepth 100000 in
theorem has_any (c : Int) (A : Option Addr) (n cap : Nat) (a : Int) (w : World) :
    Calls Try.prog 33 #[.agg #[.int .i64 c, .slice A n cap], .int .i64 a] w fun e w' => e = .returned (.bool (hasB c a)) ∧ Below w.heap.size w w' := by
  by_cases h0 : 0 ≤ a
  · have hh : hasB c a = decide (a < c) := by simp [hasB, h0]
    have HH := Lib.hid hh
    clear hh
    go_enter Try.func33, Try.ntmps33
    go_wp2
    all_goals (go_ret; exact ⟨ret_bool (by rw [HH.out]), (Below.refl _ _).alloc (Nat.le_refl _) _⟩)
  · have hh : hasB c a = false := by simp [hasB, h0]
    have HH := Lib.hid hh
    clear hh
    go_enter Try.func33, Try.ntmps33
    go_wp2
    all_goals (go_ret; exact ⟨ret_bool (by rw [HH.out]), (Below.refl _ _).alloc (Nat.le_refl _) _⟩)
def putT (s : ByteArray) : ByteArray := if zeroB s then ⟨#[]⟩ else s
def putL (l : List SC) (a : Int) (s : ByteArray) : List SC := if hit l a then l.set (plc l a) ⟨a, putT s⟩ else l.take (plc l a) ++ ⟨a, putT s⟩ :: l.drop (plc l a)
def cell_Put.f (a0_0 : Int) (l0_1 : List SC) (a1 : Int) (a2 : ByteArray) : Option (Int × (List SC) × Int) :=
  if hasB a0_0 a1 = false then some (0, [], 11) else if a2.size ≠ 16 then some (0, [], 1) else if l0_1.length ≤ 1000000 then some (a0_0, putL l0_1 a1 a2, 0) else none
theorem flat_set (l : List SC) (p : Nat) (h : p < l.length) (T : ByteArray) : (flatE encC l).set (p * 2 + 1) (.string T) = flatE encC (l.set p ⟨l[p].f0, T⟩) := by
  induction l generalizing p with
  | nil => simp at h
  | cons x l ih =>
    cases p with
    | zero => simp [flatE_cons, encC]
    | succ p =>
      have := ih p (by simpa using h)
      rw [show (p + 1) * 2 + 1 = (p * 2 + 1) + 1 + 1 by omega]
      simp only [flatE_cons, encC, List.cons_append, List.nil_append, List.set_cons_succ, List.getElem_cons_succ]
      rw [this]
theorem own_text {w : World} {B g n cap : Nat} {l : List SC} (h : w.ownsRow B 67 2 (.slice (some ⟨g, 0, none⟩) n cap) n (flatE encC l)) (hn : l.length = n) (p : Nat) (hp : p < n) (T : ByteArray) :
    ownC (w.setCell ⟨g, p * 2 + 1, none⟩ (.string T)) B (.slice (some ⟨g, 0, none⟩) n cap) (l.set p ⟨l[p].f0, T⟩) ∧ Below B w (w.setCell ⟨g, p * 2 + 1, none⟩ (.string T)) := by
  subst hn
  rcases h.2 with ⟨h1, _⟩ | ⟨g', cap', cur, hv, hB, hg, hnc, hm, hcs, ht⟩
  · cases h1
  · injection hv with e1 _ e3
    injection e1 with e1
    injection e1 with e1
    subst e1 e3
    refine ⟨⟨by rw [flatE_length encC_len], .inr ⟨g, cap, cur.setIfInBounds (p * 2 + 1) (.string T), by rw [List.length_set], hB, ?_, by rw [List.length_set]; exact hnc, hm, by simpa using hcs, ?_⟩⟩, (Below.refl _ _).setCell (p := ⟨g, p * 2 + 1, none⟩) hB _⟩
    · simp [World.setCell, Array.getElem?_modify, hg]
    · rw [List.length_set, Array.toList_setIfInBounds, List.take_set, ht, flat_set l p hp T]
theorem blk_two (w : World) (t : TypeId) (cs : Array Value) (o : Obj) : Blk ((w.alloc o).alloc (.cells cs t)) (w.heap.size + 1) t cs := by
  have := Blk.new (w.alloc o) t cs
  simpa using this
set_option maxRecDepth 100000 in
set_option maxHeartbeats 4000000 in
theorem cell_Put.calls (a0_0 : Int) (A0_1 : Option Addr) (c0_1 : Nat) (l0_1 : List SC) (a1 : Int) (a2 : ByteArray) (r1 : Int) (r2 : List SC) (r3 : Int) (w : World) (hr0_1 : Kd.C kC w A0_1 l0_1.length l0_1) (hc0_1 : l0_1.length ≤ c0_1) (h : cell_Put.f a0_0 l0_1 a1 a2 = some (r1, r2, r3)) :
    Calls Try.prog 19 #[.agg #[.int .i64 a0_0, .slice A0_1 l0_1.length c0_1], .int .i64 a1, .string a2] w fun e w' => ∃ v1_ : Value, e = .returned (.tuple #[.agg #[.int .i64 r1, v1_], .int .i64 r3]) ∧ Kd.R kC 67 w' w.heap.size (fun _ => True) v1_ r2 ∧ Below w.heap.size w w' := by
  obtain ⟨n, hn⟩ : ∃ n, n = l0_1.length := ⟨_, rfl⟩
  have HN := Lib.hid hn
  have hh := fun w => has_any a0_0 A0_1 n c0_1 a1 w
  have hb0 := (Blk.new w 26 #[.int .i64 a0_0, .slice A0_1 n c0_1]).alloc (.cells #[.int .i64 0, .slice none 0 0] 26)
  have hbr := blk_two w 26 #[.int .i64 0, .slice none 0 0] (.cells #[.int .i64 a0_0, .slice A0_1 n c0_1] 26)
  have hbel := ((Below.refl w.heap.size w).alloc (Nat.le_refl _) (.cells #[.int .i64 a0_0, .slice A0_1 n c0_1] 26)).alloc (by simp) (.cells #[.int .i64 0, .slice none 0 0] 26)
  rw [← hn] at hc0_1 ⊢
  clear hn
  unfold cell_Put.f at h
  cases hhas : hasB a0_0 a1 with
  | false =>
    rw [if_pos hhas] at h
    obtain ⟨rfl, rfl, rfl⟩ : (0 : Int) = r1 ∧ ([] : List SC) = r2 ∧ (11 : Int) = r3 := by simpa using h
    rw [hhas] at hh
    have HH := Lib.hid hh
    have HBR := Lib.hid hbr
    have HBEL := Lib.hid hbel
    clear h hh hhas hb0 hbr hbel hr0_1
    go_enter Try.func19, Try.ntmps19
    go_wp2_with fail
    refine (HH.out _).mono ?_
    rintro e w1 ⟨rfl, hb1⟩
    have H1 := Lib.hid (HBR.out.below hb1 HBR.out.lt)
    have H2 := Lib.hid (HBEL.out.trans (hb1.mono HBEL.out.size))
    clear hb1
    have c0 := H1.out.cell 0
    have c1 := H1.out.cell 1
    have f0 := H1.out.frozen 0
    have f1 := H1.out.frozen 1
    rw [show (#[Value.int IntKind.i64 0, Value.slice none 0 0] : Array Value)[0]? = some (.int .i64 0) from rfl] at c0
    rw [show (#[Value.int IntKind.i64 0, Value.slice none 0 0] : Array Value)[1]? = some (.slice none 0 0) from rfl] at c1
    have H3 := Lib.hid ((H1.out.set_ 0 (.int .i64 0)).set_ 1 (.slice none 0 0))
    have H4 := Lib.hid ((H2.out.setCell (p := ⟨w.heap.size + 1, 0, none⟩) (by simp) (.int .i64 0)).setCell (p := ⟨w.heap.size + 1, 1, none⟩) (by simp) (.slice none 0 0))
    go_wp2
    refine bodyPost_ret (results_row_tmp rfl _ _ (w.heap.size + 1) _ _ _ _ rfl H3.out Try.underlying26 rfl (by rw [im_info]; rfl)) rfl ?_
    exact ⟨_, rfl, ownC_R (own_nil _ _ _ _), H4.out⟩
  | true =>
    rw [if_neg (by rw [hhas]; decide)] at h
    rw [hhas] at hh
    have HH := Lib.hid hh
    have HBR := Lib.hid hbr
    have HBEL := Lib.hid hbel
    have HB0 := Lib.hid hb0
    clear hh hhas hb0 hbr hbel
    by_cases h16 : a2.size = 16
    · rw [if_neg (by simpa using h16)] at h
      have hne : ((a2.size : Int) != 16) = false := by rw [bne_eq_false_iff_eq]; omega
      have hz := fun w => zero_any a2 h16 w
      have HZ := Lib.hid hz
      have hl : l0_1.length ≤ 1000000 := by
        by_cases hl : l0_1.length ≤ 1000000
        · exact hl
        · rw [if_neg hl] at h; cases h
      rw [if_pos hl] at h
      obtain ⟨rfl, rfl, rfl⟩ : a0_0 = r1 ∧ putL l0_1 a1 a2 = r2 ∧ (0 : Int) = r3 := by simpa using h
      have hpl := fun (w1 : World) (h1 : Below w.heap.size w w1) => cell_Image_place.calls a0_0 A0_1 c0_1 l0_1 a1 (plc l0_1 a1 : Int) (hit l0_1 a1) w1 (Kd.C_below hr0_1 h1) (by rw [← HN.out]; exact hc0_1) (by unfold cell_Image_place.f; rw [if_pos (by omega)])
      have hcl := fun (w1 : World) (h1 : Below w.heap.size w w1) => clone_any A0_1 c0_1 l0_1 w1 (Kd.C_below hr0_1 h1) hl
      rw [← HN.out] at hpl hcl
      have HPL := Lib.hid hpl
      have HCL := Lib.hid hcl
      have HLE := Lib.hid hl
      have hple : plc l0_1 a1 ≤ n := by rw [HN.out]; exact bsl_le _ _ _ _ _ (Nat.zero_le _)
      obtain ⟨T, hT⟩ : ∃ T, T = putT a2 := ⟨_, rfl⟩
      have HT := Lib.hid hT
      clear h hz hl hpl hcl hr0_1 hT
      go_enter Try.func19, Try.ntmps19
      go_upto_block 0 with fail
      go_cut [2] (fun s2 wc => s2 = .string T ∧ Hid (Blk wc w.heap.size 26 #[.int .i64 a0_0, .slice A0_1 n c0_1]) ∧ Hid (Blk wc (w.heap.size + 1) 26 #[.int .i64 0, .slice none 0 0]) ∧ Hid (Below w.heap.size w wc))
      case first =>
        go_wp2_with fail
        refine (HH.out _).mono ?_
        rintro e w1 ⟨rfl, hb1⟩
        have H0 := Lib.hid (HB0.out.below hb1 HB0.out.lt)
        have H1 := Lib.hid (HBR.out.below hb1 HBR.out.lt)
        have H2 := Lib.hid (HBEL.out.trans (hb1.mono HBEL.out.size))
        clear hb1 HB0 HBR HBEL
        go_wp2_with fail
        refine (HZ.out _).mono ?_
        rintro e w2 ⟨rfl, hb2⟩
        have G0 := Lib.hid (H0.out.below hb2 H0.out.lt)
        have G1 := Lib.hid (H1.out.below hb2 H1.out.lt)
        have G2 := Lib.hid (H2.out.trans (hb2.mono H2.out.size))
        clear hb2 H0 H1 H2
        go_wp2
        all_goals (go_meet; exact ⟨by rw [HT.out]; unfold putT; simp [*], G0, G1, G2⟩)
      case rest =>
        obtain ⟨rfl, G0, G1, G2⟩ := hcut
        clear HB0 HBR HBEL HH HZ
        have c0 := G0.out.cell 0
        have c1 := G0.out.cell 1
        rw [show (#[Value.int IntKind.i64 a0_0, Value.slice A0_1 n c0_1] : Array Value)[0]? = some (.int .i64 a0_0) from rfl] at c0
        rw [show (#[Value.int IntKind.i64 a0_0, Value.slice A0_1 n c0_1] : Array Value)[1]? = some (.slice A0_1 n c0_1) from rfl] at c1
        go_wp2_with fail
        refine (HPL.out _ G2.out).mono ?_
        rintro e w3 ⟨rfl, hb3⟩
        have K0 := Lib.hid (G0.out.below hb3 G0.out.lt)
        have K1 := Lib.hid (G1.out.below hb3 G1.out.lt)
        have K2 := Lib.hid (G2.out.trans (hb3.mono G2.out.size))
        clear hb3 G0 G1 G2 c0 c1
        have c0 := K0.out.cell 0
        have c1 := K0.out.cell 1
        rw [show (#[Value.int IntKind.i64 a0_0, Value.slice A0_1 n c0_1] : Array Value)[0]? = some (.int .i64 a0_0) from rfl] at c0
        rw [show (#[Value.int IntKind.i64 a0_0, Value.slice A0_1 n c0_1] : Array Value)[1]? = some (.slice A0_1 n c0_1) from rfl] at c1
        obtain ⟨p, hp⟩ : ∃ p, p = plc l0_1 a1 := ⟨_, rfl⟩
        have HP := Lib.hid hp
        rw [← hp] at hple
        rw [← hp]
        clear hp
        go_wp2_with fail
        refine (HCL.out _ K2.out).mono ?_
        rintro e w4 ⟨⟨v, rfl, hown⟩, hb4⟩
        have hwlt := K2.out.size
        have L0 := Lib.hid (K0.out.below hb4 K0.out.lt)
        have L1 := Lib.hid (K1.out.below hb4 K1.out.lt)
        have L2 := Lib.hid (K2.out.trans (hb4.mono K2.out.size))
        have hne0 : v.ownBlock ≠ some w.heap.size := fun e => by have := own_base hown _ e; have := K0.out.lt; omega
        have hne1 : v.ownBlock ≠ some (w.heap.size + 1) := fun e => by have := own_base hown _ e; have := K1.out.lt; omega
        have HOWN : Hid (ownC w4 w.heap.size v l0_1) := Lib.hid (own_weaken hown hwlt)
        have HOWN3 := Lib.hid hown
        have hw34 := hb4.size
        have HNE0 := Lib.hid hne0
        have HNE1 := Lib.hid hne1
        have hlt3 := K1.out.lt
        clear hb4 K0 K1 K2 c0 c1 hown hne0 hne1
        have c0 := L0.out.cell 0
        rw [show (#[Value.int IntKind.i64 a0_0, Value.slice A0_1 n c0_1] : Array Value)[0]? = some (.int .i64 a0_0) from rfl] at c0
        cases hhit : hit l0_1 a1 with
        | true =>
          have hpn : p < n := by
            have := hhit
            unfold hit at this
            rw [← HP.out, ← HN.out] at this
            simp only [Bool.and_eq_true, decide_eq_true_eq] at this
            exact this.1
          have hpl : p < l0_1.length := by rw [← HN.out]; exact hpn
          have hat : l0_1[p].f0 = a1 := by
            have := hhit
            unfold hit at this
            rw [← HP.out, ats_getD l0_1 p hpl] at this
            simp only [Bool.and_eq_true, decide_eq_true_eq] at this
            exact this.2
          have hpu : putL l0_1 a1 a2 = l0_1.set p ⟨l0_1[p].f0, T⟩ := by unfold putL; rw [if_pos hhit, ← HP.out, HT.out, hat]
          rcases HOWN.out.2 with ⟨_, h0⟩ | ⟨g, cap, cur, rfl, hBg, hg, hnc, hm, hcs, ht⟩
          · rw [← HN.out] at h0; omega
          rw [← HN.out] at hnc
          have hown : w4.ownsRow w.heap.size 67 2 (.slice (some ⟨g, 0, none⟩) n cap) n (flatE encC l0_1) := by have := HOWN.out; unfold ownC at this; rw [← HN.out] at this; exact this
          have hst := own_text hown HN.out.symm p hpn T
          have hcell : w4.cell? ⟨g, p * 2 + 1, none⟩ = some (.string l0_1[p].f1) := by
            have := hown.cells (g := g) rfl (p * 2 + 1) (.string l0_1[p].f1) (by rw [flatE_get encC_len l0_1 p hpl 1 (by omega)]; rfl)
            rw [Addr.add_lit, Nat.zero_add] at this
            exact this
          have hfro : w4.frozen? ⟨g, p * 2 + 1, none⟩ = false := by simp [World.frozen?, hg]
          have hg0 : g ≠ w.heap.size := fun e => HNE0.out (by rw [e]; rfl)
          have hg1 : g ≠ w.heap.size + 1 := fun e => HNE1.out (by rw [e]; rfl)
          have M0 := Lib.hid (L0.out.far (p := ⟨g, p * 2 + 1, none⟩) (fun e => hg0 e.symm) (.string T))
          have M1 := Lib.hid (L1.out.far (p := ⟨g, p * 2 + 1, none⟩) (fun e => hg1 e.symm) (.string T))
          have M2 := Lib.hid (L2.out.trans hst.2)
          have HST := Lib.hid hst.1
          have HPU := Lib.hid hpu
          rw [← HN.out]
          unfold maxLen at hm
          clear hst hown hpu hat hcs ht hg HOWN L0 L1 L2 HNE0 HNE1 c0
          go_upto_region 12 with fail
          generalize (w4.setCell ⟨g, p * 2 + 1, none⟩ (.string T)) = w5 at M0 M1 M2 HST ⊢
          have hb0 := M0.out
          have e0 := M0.out.cell 0
          rw [show (#[Value.int IntKind.i64 a0_0, Value.slice A0_1 n c0_1] : Array Value)[0]? = some (.int .i64 a0_0) from rfl] at e0
          have q0 := M1.out.cell 0
          have q1 := M1.out.cell 1
          have f0 := M1.out.frozen 0
          have f1 := M1.out.frozen 1
          rw [show (#[Value.int IntKind.i64 0, Value.slice none 0 0] : Array Value)[0]? = some (.int .i64 0) from rfl] at q0
          rw [show (#[Value.int IntKind.i64 0, Value.slice none 0 0] : Array Value)[1]? = some (.slice none 0 0) from rfl] at q1
          have H3 := Lib.hid ((M1.out.set_ 0 (.int .i64 a0_0)).set_ 1 (.slice (some ⟨g, 0, none⟩) n cap))
          have H4 := Lib.hid ((M2.out.setCell (p := ⟨w.heap.size + 1, 0, none⟩) (by simp) (.int .i64 a0_0)).setCell (p := ⟨w.heap.size + 1, 1, none⟩) (by simp) (.slice (some ⟨g, 0, none⟩) n cap))
          have H5 : Hid (ownC ((w5.setCell ⟨w.heap.size + 1, 0, none⟩ (.int .i64 a0_0)).setCell ⟨w.heap.size + 1, 1, none⟩ (.slice (some ⟨g, 0, none⟩) n cap)) w.heap.size (.slice (some ⟨g, 0, none⟩) n cap) (l0_1.set p ⟨l0_1[p].f0, T⟩)) := Lib.hid (own_setCell (own_setCell HST.out (p := ⟨w.heap.size + 1, 0, none⟩) (by simp [Value.ownBlock]; omega) _) (p := ⟨w.heap.size + 1, 1, none⟩) (by simp [Value.ownBlock]; omega) _)
          clear hb0 HST
          go_wp2
          refine bodyPost_ret (results_row_tmp rfl _ _ (w.heap.size + 1) _ _ _ _ rfl H3.out Try.underlying26 rfl (by rw [im_info]; rfl)) rfl ?_
          exact ⟨_, rfl, by rw [HPU.out]; exact ownC_R H5.out, H4.out⟩
        | false =>
          have hpu : putL l0_1 a1 a2 = l0_1.take p ++ ⟨a1, T⟩ :: l0_1.drop p := by unfold putL; rw [if_neg (by rw [hhit]; decide), ← HP.out, HT.out]
          have HPU := Lib.hid hpu
          clear hpu
          have hvb : Blk (w4.alloc (.cells #[.int .i64 a1, .string T] 67)) w4.heap.size 67 (encC ⟨a1, T⟩).toArray := Blk.new w4 _ _
          have hin := insert_any w3.heap.size v l0_1 ⟨a1, T⟩ p w4.heap.size (w4.alloc (.cells #[.int .i64 a1, .string T] 67)) HLE.out (by rw [← HN.out]; exact hple) (HOWN3.out.alloc _) hvb (fun e => by have := own_lt HOWN.out _ e; omega) (by simp; omega)
          have HIN := Lib.hid hin
          have M0 := Lib.hid (L0.out.alloc (.cells #[.int .i64 a1, .string T] 67))
          have M1 := Lib.hid (L1.out.alloc (.cells #[.int .i64 a1, .string T] 67))
          have M2 := Lib.hid (L2.out.alloc L2.out.size (.cells #[.int .i64 a1, .string T] 67))
          obtain ⟨A5, c5, rfl⟩ := own_slice HOWN.out
          clear hvb hin L0 L1 L2 HOWN HNE0 HNE1 c0
          go_wp2_with fail
          refine HIN.out.mono ?_
          rintro e w6 ⟨⟨v6, rfl, hown6⟩, hb6⟩
          have M0 := Lib.hid (M0.out.below hb6 (by omega))
          have M1 := Lib.hid (M1.out.below hb6 (by omega))
          have M2 := Lib.hid (M2.out.trans (hb6.mono hwlt))
          have HST := Lib.hid hown6
          obtain ⟨A6, c6, rfl⟩ := own_slice hown6
          have hob : ∀ k, (Value.slice A6 (l0_1.take p ++ ⟨a1, T⟩ :: l0_1.drop p).length c6).ownBlock = some k → w3.heap.size ≤ k := fun k hk => own_base hown6 k hk
          have HOB := Lib.hid hob
          clear hown6 hb6 hob
          obtain ⟨m, hm⟩ : ∃ m, m = (l0_1.take p ++ (⟨a1, T⟩ : SC) :: l0_1.drop p).length := ⟨_, rfl⟩
          have HM := Lib.hid hm
          rw [← hm]
          rw [← hm] at HOB
          clear hm
          have e0 := M0.out.cell 0
          rw [show (#[Value.int IntKind.i64 a0_0, Value.slice A0_1 n c0_1] : Array Value)[0]? = some (.int .i64 a0_0) from rfl] at e0
          have q0 := M1.out.cell 0
          have q1 := M1.out.cell 1
          have f0 := M1.out.frozen 0
          have f1 := M1.out.frozen 1
          rw [show (#[Value.int IntKind.i64 0, Value.slice none 0 0] : Array Value)[0]? = some (.int .i64 0) from rfl] at q0
          rw [show (#[Value.int IntKind.i64 0, Value.slice none 0 0] : Array Value)[1]? = some (.slice none 0 0) from rfl] at q1
          have H3 := Lib.hid ((M1.out.set_ 0 (.int .i64 a0_0)).set_ 1 (.slice A6 m c6))
          have H4 := Lib.hid ((M2.out.setCell (p := ⟨w.heap.size + 1, 0, none⟩) (by simp) (.int .i64 a0_0)).setCell (p := ⟨w.heap.size + 1, 1, none⟩) (by simp) (.slice A6 m c6))
          have H5 : Hid (ownC ((w6.setCell ⟨w.heap.size + 1, 0, none⟩ (.int .i64 a0_0)).setCell ⟨w.heap.size + 1, 1, none⟩ (.slice A6 m c6)) w3.heap.size (.slice A6 m c6) (l0_1.take p ++ ⟨a1, T⟩ :: l0_1.drop p)) := by
            have h1 := HST.out
            rw [← HM.out] at h1
            exact Lib.hid (own_setCell (own_setCell h1 (p := ⟨w.heap.size + 1, 0, none⟩) (fun e => by have := HOB.out _ e.symm; simp at this; omega) _) (p := ⟨w.heap.size + 1, 1, none⟩) (fun e => by have := HOB.out _ e.symm; simp at this; omega) _)
          clear HST HOB
          go_wp2
          refine bodyPost_ret (results_row_tmp rfl _ _ (w.heap.size + 1) _ _ _ _ rfl H3.out Try.underlying26 rfl (by rw [im_info]; rfl)) rfl ?_
          exact ⟨_, rfl, by rw [HPU.out]; exact ownC_R (own_weaken H5.out hwlt), H4.out⟩
    · rw [if_pos h16] at h
      obtain ⟨rfl, rfl, rfl⟩ : (0 : Int) = r1 ∧ ([] : List SC) = r2 ∧ (1 : Int) = r3 := by simpa using h
      have hne : ((a2.size : Int) != 16) = true := by rw [bne_iff_ne]; omega
      clear h h16 hr0_1
      go_enter Try.func19, Try.ntmps19
      go_wp2_with fail
      refine (HH.out _).mono ?_
      rintro e w1 ⟨rfl, hb1⟩
      have H1 := Lib.hid (HBR.out.below hb1 HBR.out.lt)
      have H2 := Lib.hid (HBEL.out.trans (hb1.mono HBEL.out.size))
      clear hb1
      have c0 := H1.out.cell 0
      have c1 := H1.out.cell 1
      have f0 := H1.out.frozen 0
      have f1 := H1.out.frozen 1
      rw [show (#[Value.int IntKind.i64 0, Value.slice none 0 0] : Array Value)[0]? = some (.int .i64 0) from rfl] at c0
      rw [show (#[Value.int IntKind.i64 0, Value.slice none 0 0] : Array Value)[1]? = some (.slice none 0 0) from rfl] at c1
      have H3 := Lib.hid ((H1.out.set_ 0 (.int .i64 0)).set_ 1 (.slice none 0 0))
      have H4 := Lib.hid ((H2.out.setCell (p := ⟨w.heap.size + 1, 0, none⟩) (by simp) (.int .i64 0)).setCell (p := ⟨w.heap.size + 1, 1, none⟩) (by simp) (.slice none 0 0))
      go_wp2
      refine bodyPost_ret (results_row_tmp rfl _ _ (w.heap.size + 1) _ _ _ _ rfl H3.out Try.underlying26 rfl (by rw [im_info]; rfl)) rfl ?_
      exact ⟨_, rfl, ownC_R (own_nil _ _ _ _), H4.out⟩
end Go.Proofs.Ytbeloaccgmgocaa.Pr
