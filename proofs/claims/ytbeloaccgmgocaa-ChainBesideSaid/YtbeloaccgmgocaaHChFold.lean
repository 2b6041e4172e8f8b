/- The contract of chain.Fold. Conditions: as of chain.Read. It calls the printed contract of cell.Over, with rounds enough for images of 64 clusters. -/
import Derived.Test.YtbeloaccgmgocaaHCh
import Derived.Test.YtbeloaccgmgocaaPrx2
import Derived.Test.YtbeloaccgmgocaaPrx1
section
namespace Go.Proofs.Ytbeloaccgmgocaa.Pr
open Go.RowKit Go.Proofs.YtbeloaccgmgocaaW.PrintWords Go.Proofs.YtbeloaccgmgocaaW.PrintLast Go.Proofs.Ytbeloaccgmgocaa
set_option linter.unusedVariables false
def encFo (x : SC) : List Value := [.int .i64 x.f0, .string x.f1]
theorem encFo_len (x : SC) : (encFo x).length = 2 := rfl
theorem encFo_mk (w : World) (base : Nat) (ok : Nat → Prop) (x : SC) : kC.M w base ok x (encFo x) := k67_mkM w base ok x
theorem encFo_open (w : World) (base : Nat) (ok : Nat → Prop) (x : SC) (cs : List Value) (h : kC.M w base ok x cs) : cs = encFo x := k67_openM h
abbrev ownFo (w : World) (base : Nat) (v : Value) (l : List SC) : Prop := w.ownsRow base 67 2 v l.length (flatE encFo l)
theorem ownFo_R {w : World} {base : Nat} {v : Value} {l : List SC} (h : ownFo w base v l) : Kd.R kC 67 w base (fun _ => True) v l := R_of_own (d := kC) encFo_len encFo_mk h (fun _ _ => trivial)
theorem R_ownFo {w : World} {base : Nat} {ok : Nat → Prop} {v : Value} {l : List SC} (h : Kd.R kC 67 w base ok v l) : ownFo w base v l := own_of_R (d := kC) encFo_len encFo_open h
theorem heap_kC : Kd.Heap kC := by unfold kC k67; exact Kd.heap_iso _ (Kd.heap_pair (Kd.heap_int _) Kd.heap_string)
theorem own_setFo {w : World} {base n : Nat} {e : TypeId} {size : Nat} {v : Value} {xs : List Value} (h : w.ownsRow base e size v n xs) {p : Addr} (hp : p.block < base) (u : Value) : (w.setCell p u).ownsRow base e size v n xs :=
  own_setCell h (fun e => by have := own_base h _ e.symm; omega) u
theorem V_of_C {w : World} {A : Option Addr} {n c : Nat} {l : List SC} (hn : n = l.length) (hc : n ≤ c) (h : Kd.C kC w A n l) : Kd.V kC 67 w w.heap.size (fun k => k < w.heap.size) (.slice A l.length c) l := by
  subst hn
  exact Kd.V_mk hc (Kd.C_F heap_kC h)

/-- what cell.Over makes, whatever rounds it takes -/
noncomputable def overX (c : Int) (l : List SC) (c' : Int) (l' : List SC) : Option (Int × List SC) := open Classical in if h : ∃ r, ∃ k, cell_Over.f k c l c' l' = some r then some h.choose else none
theorem overX_spec {c : Int} {l : List SC} {c' : Int} {l' : List SC} {r : Int × List SC} (h : overX c l c' l' = some r) : ∃ k, cell_Over.f k c l c' l' = some r := by
  unfold overX at h
  split at h
  · rename_i hh
    rw [← Option.some.inj h]
    exact hh.choose_spec
  · cases h
theorem over_up {c : Int} {l : List SC} {c' : Int} {l' : List SC} {r : Int × List SC} {k : Nat} (h : cell_Over.f k c l c' l' = some r) (d : Nat) : cell_Over.f (k + d) c l c' l' = some r := by
  induction d with
  | zero => exact h
  | succ d ih => exact cell_Over.mono c l c' l' (k + d) r ih
theorem overX_of {c : Int} {l : List SC} {c' : Int} {l' : List SC} {r : Int × List SC} {k : Nat} (h : cell_Over.f k c l c' l' = some r) : overX c l c' l' = some r := by
  unfold overX
  have hh : ∃ r, ∃ k, cell_Over.f k c l c' l' = some r := ⟨r, k, h⟩
  rw [dif_pos hh]
  obtain ⟨k', h'⟩ := hh.choose_spec
  have a := over_up h k'
  have b := over_up h' k
  rw [Nat.add_comm] at b
  rw [a] at b
  exact b.symm
/-- images laid over one another, the first uppermost -/
noncomputable def foldO : List SL → Int → List SC → Option (Int × List SC)
  | [], c, cs => some (c, cs)
  | x :: r, c, cs => (overX c cs x.f2.f0 x.f2.f1).bind fun y => foldO r y.1 y.2
theorem foldO_drop (p : List SL) (j : Nat) (c : Int) (cs : List SC) (h : j < p.length) : foldO (p.drop j) c cs = (overX c cs p[j].f2.f0 p[j].f2.f1).bind fun y => foldO (p.drop (j + 1)) y.1 y.2 := by
  rw [List.drop_eq_getElem_cons h, foldO]
set_option maxRecDepth 100000 in
set_option maxHeartbeats 1600000 in
theorem fold_any (A : Option Addr) (cap : Nat) (l : List SL) (a : Int) (q : Nat) (r1 : Int) (r2 : List SC) (w : World) (hl : l.length ≤ 900000) (hr : LinksAt w A l) (hsz : sizedL l = true) (h0 : (wholeL l a).2 = 0) (x : SL) (hx : (wholeL l a).1[q]? = some x)
    (hf : foldO ((wholeL l a).1.take (q + 1)) (cl0 (wholeL l a).1) [] = some (r1, r2)) :
    Calls Try.prog 14 #[.slice A l.length cap, .int .i64 a, .int .i64 ((q + 1 : Nat) : Int)] w fun e w' => ∃ v : Value, e = .returned (.tuple #[.agg #[.int .i64 r1, v], .int .i64 x.f1, .int .i64 0]) ∧ ownFo w' w.heap.size v r2 ∧ Below w.heap.size w w' := by
  have hbel : Below w.heap.size w (w.alloc (.cells #[.int .i64 0, .slice none 0 0] 26)) := (Below.refl _ _).alloc (Nat.le_refl _) _
  have hwh := whole_any A cap l a (w.alloc (.cells #[.int .i64 0, .slice none 0 0] 26)) hl (hr.below hbel) hsz
  obtain ⟨hne, hps, hpl, hall, hc1, hc64⟩ := whole_parts l a hl hsz h0
  obtain ⟨⟨p, er⟩, hpe⟩ : ∃ x, wholeL l a = x := ⟨_, rfl⟩
  rw [hpe] at hwh h0 hx hf hne hps hpl
  simp only at hwh h0 hx hf hne hps hpl
  have hq : q < p.length := (List.getElem?_eq_some_iff.1 hx).1
  obtain ⟨y, hy⟩ : ∃ y, y = x.f1 := ⟨_, rfl⟩
  rw [← hy]
  subst h0
  obtain ⟨n, hn⟩ : ∃ n, n = l.length := ⟨_, rfl⟩
  rw [← hn] at hwh ⊢
  obtain ⟨k, hk⟩ : ∃ k, k = p.length := ⟨_, rfl⟩
  rw [← hk] at hwh hpl
  have hqk : q < k := by rw [hk]; exact hq
  have hle1 : ((q + 1 : Nat) : Int) ≤ (k : Int) := by omega
  have hnlt : ¬ ((k : Int) < ((q + 1 : Nat) : Int)) := by omega
  have hsub : IntKind.i64.wrap (((q + 1 : Nat) : Int) - 1) = (q : Int) := by rw [IntKind.wrap_i64] <;> omega
  have HP := Lib.hid hwh
  have HF := Lib.hid hf
  have HK := Lib.hid hk
  have HNE := Lib.hid hne
  have HPS := Lib.hid hps
  have HY := Lib.hid (show p[q]? = some x ∧ y = x.f1 from ⟨hx, hy⟩)
  have HBEL := Lib.hid hbel
  have hR := Lib.hid (Blk.new w 26 #[.int .i64 0, .slice none 0 0])
  clear hwh hf hk hn hpe hr hsz hne hps hall hc1 hc64 hx hy hq hbel hsub hle1 hnlt
  go_enter Try.func14, Try.ntmps14
  go_wp2_with fail
  refine HP.out.mono ?_
  rintro e w1 ⟨A', c', rfl, hle, hla, hb1⟩
  obtain ⟨b, off, rfl, hblt, hcl⟩ := head_at hla HNE.out
  have hbne : b ≠ w.heap.size := fun e => by
    have h2 := (hR.out.below hb1 hR.out.lt).cell (off + 2)
    rw [← e, hcl] at h2
    simp at h2
  obtain ⟨c0, hc0⟩ : ∃ c0, c0 = cl0 p := ⟨_, rfl⟩
  rw [← hc0] at hcl HF
  have HLA := Lib.hid hla
  have HR1 := Lib.hid (hR.out.below hb1 hR.out.lt)
  have HB1 := Lib.hid (HBEL.out.trans (hb1.mono HBEL.out.size))
  have hlt1 : w.heap.size < w1.heap.size := HR1.out.lt
  clear hla hb1 hc0 hR HBEL
  go_wp2_with fail
  have HG0 := Lib.hid (Blk.new w1 26 #[.int .i64 c0, .slice none 0 0])
  have HR2 := Lib.hid (HR1.out.alloc (.cells #[.int .i64 c0, .slice none 0 0] 26))
  have HBL := Lib.hid ((Below.refl w1.heap.size w1).alloc (Nat.le_refl _) (.cells #[.int .i64 c0, .slice none 0 0] 26))
  go_loopw [45] (fun v45 wr => ∃ (j : Nat) (c : Int) (cs : List SC) (A : Option Addr) (n cap : Nat), j ≤ q + 1 ∧ v45 = .int .i64 j ∧ Hid (n = cs.length) ∧ Hid (foldO ((p.take (q + 1)).drop j) c cs = some (r1, r2)) ∧ Hid (Blk wr w.heap.size 26 #[.int .i64 0, .slice none 0 0]) ∧ Hid (Blk wr w1.heap.size 26 #[.int .i64 c, .slice A n cap]) ∧ Hid (wr.ownsRow (w1.heap.size + 1) 67 2 (.slice A n cap) n (flatE encFo cs)) ∧ Hid (Below w1.heap.size w1 wr)) (fun v45 _ => q + 1 - (intOf v45).toNat)
  case atStart => exact ⟨0, c0, [], none, 0, 0, by omega, rfl, Lib.hid rfl, by rw [List.drop_zero]; exact HF, HR2, HG0, Lib.hid (own_nil _ _ _ _), HBL⟩
  case round =>
    clear HR2 HG0 HBL HF
    obtain ⟨j, c, cs, A, n, cap, hj, rfl, hn, hfo, hrr, hgg, ho, hbl⟩ := hrel
    by_cases hlt : j < q + 1
    · have hjk : j < k := by omega
      have hjl : j < p.length := by rw [← HK.out]; exact hjk
      obtain ⟨bb, off2, he, _, hcell⟩ := HLA.out (by omega)
      have he' : (⟨b, off, none⟩ : Addr) = ⟨bb, off2, none⟩ := Option.some.inj he
      injection he' with hb' hoff'
      subst hb'
      subst hoff'
      obtain ⟨B, cap2, hq0, hq1, hq2, hq3, hq4, hq5⟩ := hcell j hjl
      have hfo2 := hfo.out
      rw [foldO_drop (p.take (q + 1)) j c cs (by rw [List.length_take]; omega), List.getElem_take] at hfo2
      obtain ⟨z, hz⟩ : ∃ z, z = p[j]'hjl := ⟨_, rfl⟩
      rw [← hz] at hq0 hq1 hq2 hq3 hq4 hq5 hfo2
      obtain ⟨⟨rc, rcs⟩, hov, hrest⟩ := Option.bind_eq_some_iff.1 hfo2
      dsimp only at hrest
      have d0 := (hbl.out.cell (p := ⟨b, off + j * 4, none⟩) hblt).trans hq0
      have d1 := (hbl.out.cell (p := ⟨b, off + j * 4 + 1, none⟩) hblt).trans hq1
      have d2 := (hbl.out.cell (p := ⟨b, off + j * 4 + 2, none⟩) hblt).trans hq2
      have d3 := (hbl.out.cell (p := ⟨b, off + j * 4 + 3, none⟩) hblt).trans hq3
      have hcc := Kd.C_below hq5 (show Below w1.heap.size w1 wr from hbl.out)
      obtain ⟨y0, hy0⟩ : ∃ y, y = z.f0 := ⟨_, rfl⟩
      obtain ⟨y1, hy1⟩ : ∃ y, y = z.f1 := ⟨_, rfl⟩
      obtain ⟨y2, hy2⟩ : ∃ y, y = z.f2.f0 := ⟨_, rfl⟩
      obtain ⟨m, hm⟩ : ∃ y, y = z.f2.f1.length := ⟨_, rfl⟩
      rw [← hy0] at d0
      rw [← hy1] at d1
      rw [← hy2] at d2 hov
      rw [← hm] at d3 hq4 hcc
      have HM := Lib.hid hm
      have HOV := Lib.hid hov
      have HREST := Lib.hid hrest
      have hszl := hbl.out.size
      have HCC := Lib.hid (Kd.C_below hcc ((Below.refl wr.heap.size wr).alloc (Nat.le_refl _) (.cells #[.int .i64 y0, .int .i64 y1, .int .i64 y2, .slice B m cap2] 32)))
      have HL2 := Lib.hid (Blk.new wr 32 #[.int .i64 y0, .int .i64 y1, .int .i64 y2, .slice B m cap2])
      have HRR := Lib.hid (hrr.out.alloc (.cells #[.int .i64 y0, .int .i64 y1, .int .i64 y2, .slice B m cap2] 32))
      have HGG := Lib.hid (hgg.out.alloc (.cells #[.int .i64 y0, .int .i64 y1, .int .i64 y2, .slice B m cap2] 32))
      have HOO := Lib.hid (ho.out.alloc (.cells #[.int .i64 y0, .int .i64 y1, .int .i64 y2, .slice B m cap2] 32))
      have HBB := Lib.hid (hbl.out.alloc hbl.out.size (.cells #[.int .i64 y0, .int .i64 y1, .int .i64 y2, .slice B m cap2] 32))
      clear hcell hq0 hq1 hq2 hq3 hq5 hfo2 hov hrest hcc hz hy0 hy1 hy2 hm he hfo
      go_upto_region 10 with fail
      clear d0 d1 d2 d3 hrr hgg ho
      revert HCC HL2 HRR HGG HOO HBB
      obtain ⟨gx, hgx⟩ : ∃ gx, gx = wr.heap.size := ⟨_, rfl⟩
      rw [← hgx]
      generalize (wr.alloc (.cells #[.int .i64 y0, .int .i64 y1, .int .i64 y2, .slice B m cap2] 32)) = w2
      intro HCC HL2 HRR HGG HOO HBB
      clear hgx
      have e0 := HGG.out.cell 0
      have e1 := HGG.out.cell 1
      have e2 := HL2.out.cell 2
      have e3 := HL2.out.cell 3
      rw [show (#[Value.int IntKind.i64 c, .slice A n cap] : Array Value)[0]? = some (.int .i64 c) from rfl] at e0
      rw [show (#[Value.int IntKind.i64 c, .slice A n cap] : Array Value)[1]? = some (.slice A n cap) from rfl] at e1
      rw [show (#[Value.int IntKind.i64 y0, .int .i64 y1, .int .i64 y2, .slice B m cap2] : Array Value)[2]? = some (.int .i64 y2) from rfl] at e2
      rw [show (#[Value.int IntKind.i64 y0, .int .i64 y1, .int .i64 y2, .slice B m cap2] : Array Value)[3]? = some (.slice B m cap2) from rfl] at e3
      have hv0 : Kd.V kC 67 w2 w2.heap.size (fun _ => True) (.slice A cs.length cap) cs := Kd.R_V (ownFo_R (w := w2) (base := w1.heap.size + 1) (v := .slice A cs.length cap) (by show World.ownsRow _ _ _ _ _ _ _; rw [← hn.out]; exact HOO.out))
      have hv1 := V_of_C HM.out hq4 HCC.out
      obtain ⟨kk, hov⟩ := overX_spec HOV.out
      have hcall := cell_Over.calls kk c (fun _ => True) A cap cs y2 _ B cap2 z.f2.f1 rc rcs w2 hv0 hv1 hov
      rw [← HM.out, ← hn.out] at hcall
      have HCALL := Lib.hid hcall
      clear hcall hv0 hv1 HCC HOV hov
      go_wp2_with fail
      refine HCALL.out.mono ?_
      rintro e w3 ⟨v1, rfl, hR3, hb3⟩
      have hown := R_ownFo hR3
      obtain ⟨A4, c4, rfl⟩ := own_formCh hown
      have hg2 : w1.heap.size < w2.heap.size := HGG.out.lt
      have hr2 : w.heap.size < w2.heap.size := HRR.out.lt
      have HG3 := Lib.hid (HGG.out.below hb3 hg2)
      have HR3 := Lib.hid (HRR.out.below hb3 hr2)
      have HB3 := Lib.hid (HBB.out.trans (hb3.mono HBB.out.size))
      have HO3 : Hid (w3.ownsRow w2.heap.size 67 2 (.slice A4 rcs.length c4) rcs.length (flatE encFo rcs)) := Lib.hid hown
      obtain ⟨n4, hn4⟩ : ∃ n4, n4 = rcs.length := ⟨_, rfl⟩
      rw [← hn4] at HO3
      have HN4 := Lib.hid hn4
      rw [← hn4]
      clear hR3 hb3 hown HOO HGG HRR HBB HL2 hn4 e0 e1 e2 e3 HCALL
      have e0 := HG3.out.cell 0
      have e1 := HG3.out.cell 1
      have f0 := HG3.out.frozen 0
      have f1 := HG3.out.frozen 1
      rw [show (#[Value.int IntKind.i64 c, .slice A n cap] : Array Value)[0]? = some (.int .i64 c) from rfl] at e0
      rw [show (#[Value.int IntKind.i64 c, .slice A n cap] : Array Value)[1]? = some (.slice A n cap) from rfl] at e1
      go_wp2
      go_roundw
      case rel =>
        refine ⟨j + 1, rc, rcs, A4, n4, c4, by omega, by go_num, HN4, HREST, Lib.hid ((HR3.out.far (by simp; omega) _).far (by simp; omega) _), Lib.hid ((HG3.out.set_ 0 _).set_ 1 _), Lib.hid ?_, Lib.hid ((HB3.out.setCell (Nat.le_refl _) _).setCell (Nat.le_refl _) _)⟩
        refine own_weaken (base := w2.heap.size) ?_ (by omega)
        exact own_setFo (own_setFo HO3.out (p := ⟨w1.heap.size, 0, none⟩) hg2 _) (p := ⟨w1.heap.size, 1, none⟩) hg2 _
      case measure => simp [intOf]; omega
    · obtain rfl : j = q + 1 := by omega
      have hd0 : (p.take (q + 1)).drop (q + 1) = [] := List.drop_of_length_le (by rw [List.length_take]; omega)
      have hend := hfo.out
      rw [hd0, foldO] at hend
      obtain ⟨rfl, rfl⟩ : c = r1 ∧ cs = r2 := by have := Option.some.inj hend; exact ⟨congrArg Prod.fst this, congrArg Prod.snd this⟩
      have hql : q < p.length := by rw [← HK.out]; exact hqk
      obtain ⟨bb, off2, he, _, hcell⟩ := HLA.out (by omega)
      have he' : (⟨b, off, none⟩ : Addr) = ⟨bb, off2, none⟩ := Option.some.inj he
      injection he' with hb' hoff'
      subst hb'
      subst hoff'
      obtain ⟨B, cap2, _, hq1, _, _, _, _⟩ := hcell q hql
      have hz : p[q] = x := by have := HY.out.1; rw [List.getElem?_eq_getElem hql] at this; exact Option.some.inj this
      rw [hz, ← HY.out.2] at hq1
      have d1 := (hbl.out.cell (p := ⟨b, off + q * 4 + 1, none⟩) hblt).trans hq1
      have e0 := hgg.out.cell 0
      have e1 := hgg.out.cell 1
      rw [show (#[Value.int IntKind.i64 c, .slice A n cap] : Array Value)[0]? = some (.int .i64 c) from rfl] at e0
      rw [show (#[Value.int IntKind.i64 c, .slice A n cap] : Array Value)[1]? = some (.slice A n cap) from rfl] at e1
      have s0 := hrr.out.cell 0
      have s1 := hrr.out.cell 1
      have f0 := hrr.out.frozen 0
      have f1 := hrr.out.frozen 1
      rw [show (#[Value.int IntKind.i64 0, .slice none 0 0] : Array Value)[0]? = some (.int .i64 0) from rfl] at s0
      rw [show (#[Value.int IntKind.i64 0, .slice none 0 0] : Array Value)[1]? = some (.slice none 0 0) from rfl] at s1
      have hgl : w1.heap.size < wr.heap.size := hgg.out.lt
      clear hcell hq1 hz he hd0 hend hfo
      have d1a : ((wr.setCell ⟨w.heap.size, 0, none⟩ (.int .i64 c)).setCell ⟨w.heap.size, 1, none⟩ (.slice A n cap)).cell? ⟨b, off + q * 4 + 1, none⟩ = some (.int .i64 y) := by
        rw [World.cell?_setCell_far _ _ _ _ (Ne.symm hbne), World.cell?_setCell_far _ _ _ _ (Ne.symm hbne)]
        exact d1
      go_wp2_with fail
      have hwq : IntKind.i64.wrap (q : Int) = (q : Int) := by rw [IntKind.wrap_i64] <;> omega
      go_region
      go_wp2_with fail
      refine bodyPost_ret (results_ctt rfl _ _ w.heap.size _ _ _ _ rfl ((hrr.out.set_ 0 (.int .i64 c)).set_ 1 (.slice A n cap)) Try.underlying26 rfl (by rw [im_info]; rfl)) rfl ?_
      refine ⟨.slice A n cap, rfl, ?_, ?_⟩
      · show World.ownsRow _ _ _ _ _ _ _
        rw [← hn.out]
        refine own_weaken (base := w1.heap.size + 1) ?_ (by omega)
        exact (own_setFo (own_setFo ho.out (p := ⟨w.heap.size, 0, none⟩) (by simp; omega) _) (p := ⟨w.heap.size, 1, none⟩) (by simp; omega) _).drew
      · exact (((HB1.out.trans (hbl.out.mono (Nat.le_of_lt hlt1))).setCell (p := ⟨w.heap.size, 0, none⟩) (Nat.le_refl _) _).setCell (p := ⟨w.heap.size, 1, none⟩) (Nat.le_refl _) _).drew
set_option maxRecDepth 100000 in
theorem fold_err (A : Option Addr) (cap : Nat) (l : List SL) (a m : Int) (w : World) (hl : l.length ≤ 900000) (hr : LinksAt w A l) (hsz : sizedL l = true) (er : Int) (her : (wholeL l a).2 = er) (hbad : er ≠ 0 ∨ m < 1 ∨ ((wholeL l a).1.length : Int) < m) :
    Calls Try.prog 14 #[.slice A l.length cap, .int .i64 a, .int .i64 m] w fun e w' => e = .returned (.tuple #[.agg #[.int .i64 0, .slice none 0 0], .int .i64 0, .int .i64 (if er ≠ 0 then er else 1)]) ∧ Below w.heap.size w w' := by
  have hbel : Below w.heap.size w (w.alloc (.cells #[.int .i64 0, .slice none 0 0] 26)) := (Below.refl _ _).alloc (Nat.le_refl _) _
  have hwh := whole_any A cap l a (w.alloc (.cells #[.int .i64 0, .slice none 0 0] 26)) hl (hr.below hbel) hsz
  obtain ⟨⟨p, er'⟩, hpe⟩ : ∃ x, wholeL l a = x := ⟨_, rfl⟩
  rw [hpe] at hwh her hbad
  simp only at hwh her hbad
  subst her
  obtain ⟨n, hn⟩ : ∃ n, n = l.length := ⟨_, rfl⟩
  rw [← hn] at hwh ⊢
  obtain ⟨k, hk⟩ : ∃ k, k = p.length := ⟨_, rfl⟩
  rw [← hk] at hwh hbad
  have HP := Lib.hid hwh
  have HBEL := Lib.hid hbel
  have hR := Lib.hid (Blk.new w 26 #[.int .i64 0, .slice none 0 0])
  clear hwh hk hn hpe hr hsz hbel
  have ways : Hid (er' ≠ 0) ∨ er' = 0 ∧ Hid (m < 1) ∨ er' = 0 ∧ Hid (¬ m < 1) ∧ Hid ((k : Int) < m) := by
    by_cases h1 : er' = 0
    · by_cases h2 : m < 1
      · exact .inr (.inl ⟨h1, Lib.hid h2⟩)
      · exact .inr (.inr ⟨h1, Lib.hid h2, Lib.hid (by rcases hbad with h | h | h; exact absurd h1 h; exact absurd h h2; exact h)⟩)
    · exact .inl (Lib.hid h1)
  clear hbad
  rcases ways with h | ⟨rfl, h⟩ | ⟨rfl, h, h'⟩
  · have hne := h.out
    have heb : (er' != 0) = true := by simpa using hne
    rw [if_pos hne]
    clear h hne
    go_enter Try.func14, Try.ntmps14
    go_wp2_with fail
    refine HP.out.mono ?_
    rintro e w1 ⟨A', c', rfl, hle, hla, hb1⟩
    have HR1 := Lib.hid (hR.out.below hb1 hR.out.lt)
    have HB1 := Lib.hid (HBEL.out.trans (hb1.mono HBEL.out.size))
    clear hla hb1 hR HBEL
    have s0 := HR1.out.cell 0
    have s1 := HR1.out.cell 1
    have f0 := HR1.out.frozen 0
    have f1 := HR1.out.frozen 1
    rw [show (#[Value.int IntKind.i64 0, .slice none 0 0] : Array Value)[0]? = some (.int .i64 0) from rfl] at s0
    rw [show (#[Value.int IntKind.i64 0, .slice none 0 0] : Array Value)[1]? = some (.slice none 0 0) from rfl] at s1
    go_wp2_with fail
    refine bodyPost_ret (results_ctt rfl _ _ w.heap.size _ _ _ _ rfl ((HR1.out.set_ 0 (.int .i64 0)).set_ 1 (.slice none 0 0)) Try.underlying26 rfl (by rw [im_info]; rfl)) rfl ?_
    exact ⟨rfl, (HB1.out.setCell (p := ⟨w.heap.size, 0, none⟩) (Nat.le_refl _) _).setCell (p := ⟨w.heap.size, 1, none⟩) (Nat.le_refl _) _⟩
  · rw [if_neg (by decide)]
    go_enter Try.func14, Try.ntmps14
    go_wp2_with fail
    refine HP.out.mono ?_
    rintro e w1 ⟨A', c', rfl, hle, hla, hb1⟩
    have HR1 := Lib.hid (hR.out.below hb1 hR.out.lt)
    have HB1 := Lib.hid (HBEL.out.trans (hb1.mono HBEL.out.size))
    clear hla hb1 hR HBEL
    have s0 := HR1.out.cell 0
    have s1 := HR1.out.cell 1
    have f0 := HR1.out.frozen 0
    have f1 := HR1.out.frozen 1
    rw [show (#[Value.int IntKind.i64 0, .slice none 0 0] : Array Value)[0]? = some (.int .i64 0) from rfl] at s0
    rw [show (#[Value.int IntKind.i64 0, .slice none 0 0] : Array Value)[1]? = some (.slice none 0 0) from rfl] at s1
    have hm := h.out
    go_wp2_with fail
    refine bodyPost_ret (results_ctt rfl _ _ w.heap.size _ _ _ _ rfl ((HR1.out.set_ 0 (.int .i64 0)).set_ 1 (.slice none 0 0)) Try.underlying26 rfl (by rw [im_info]; rfl)) rfl ?_
    exact ⟨rfl, (HB1.out.setCell (p := ⟨w.heap.size, 0, none⟩) (Nat.le_refl _) _).setCell (p := ⟨w.heap.size, 1, none⟩) (Nat.le_refl _) _⟩
  · rw [if_neg (by decide)]
    go_enter Try.func14, Try.ntmps14
    go_wp2_with fail
    refine HP.out.mono ?_
    rintro e w1 ⟨A', c', rfl, hle, hla, hb1⟩
    have HR1 := Lib.hid (hR.out.below hb1 hR.out.lt)
    have HB1 := Lib.hid (HBEL.out.trans (hb1.mono HBEL.out.size))
    clear hla hb1 hR HBEL
    have s0 := HR1.out.cell 0
    have s1 := HR1.out.cell 1
    have f0 := HR1.out.frozen 0
    have f1 := HR1.out.frozen 1
    rw [show (#[Value.int IntKind.i64 0, .slice none 0 0] : Array Value)[0]? = some (.int .i64 0) from rfl] at s0
    rw [show (#[Value.int IntKind.i64 0, .slice none 0 0] : Array Value)[1]? = some (.slice none 0 0) from rfl] at s1
    have hm1 := h.out
    have hm2 := h'.out
    go_wp2_with fail
    any_goals (exfalso; omega)
    refine bodyPost_ret (results_ctt rfl _ _ w.heap.size _ _ _ _ rfl ((HR1.out.set_ 0 (.int .i64 0)).set_ 1 (.slice none 0 0)) Try.underlying26 rfl (by rw [im_info]; rfl)) rfl ?_
    exact ⟨rfl, (HB1.out.setCell (p := ⟨w.heap.size, 0, none⟩) (Nat.le_refl _) _).setCell (p := ⟨w.heap.size, 1, none⟩) (Nat.le_refl _) _⟩
noncomputable def foldL (l : List SL) (a m : Int) : Option (Int × List SC × Int × Int) :=
  if (wholeL l a).2 ≠ 0 then some (0, [], 0, (wholeL l a).2)
  else if m < 1 ∨ ((wholeL l a).1.length : Int) < m then some (0, [], 0, 1)
  else (wholeL l a).1[(m - 1).toNat]?.bind fun x => (foldO ((wholeL l a).1.take ((m - 1).toNat + 1)) (cl0 (wholeL l a).1) []).map fun y => (y.1, y.2, x.f1, 0)
noncomputable def chain_Fold.f (l0 : List SL) (a1 : Int) (a2 : Int) : Option (Int × List SC × Int × Int) := if l0.length ≤ 900000 ∧ sizedL l0 = true then foldL l0 a1 a2 else none
theorem chain_Fold.calls (A0 : Option Addr) (c0 : Nat) (l0 : List SL) (a1 : Int) (a2 : Int) (r1 : Int) (r2 : List SC) (r3 : Int) (r4 : Int) (w : World) (hr0 : Kd.C kL w A0 l0.length l0) (hc0 : l0.length ≤ c0) (h : chain_Fold.f l0 a1 a2 = some (r1, r2, r3, r4)) :
    Calls Try.prog 14 #[.slice A0 l0.length c0, .int .i64 a1, .int .i64 a2] w fun e w' => ∃ v1_ : Value, e = .returned (.tuple #[.agg #[.int .i64 r1, v1_], .int .i64 r3, .int .i64 r4]) ∧ Kd.R kC 67 w' w.heap.size (fun _ => True) v1_ r2 ∧ Below w.heap.size w w' := by
  unfold chain_Fold.f at h
  by_cases hh : l0.length ≤ 900000 ∧ sizedL l0 = true
  · rw [if_pos hh] at h
    have hla := linksAt_of_C hr0
    unfold foldL at h
    by_cases he : (wholeL l0 a1).2 ≠ 0
    · rw [if_pos he] at h
      have h := Option.some.inj h
      simp only [Prod.mk.injEq] at h
      obtain ⟨rfl, rfl, rfl, rfl⟩ := h
      refine (fold_err A0 c0 l0 a1 a2 w hh.1 hla hh.2 _ rfl (.inl he)).mono ?_
      rintro e w' ⟨rfl, hb⟩
      exact ⟨.slice none 0 0, by rw [if_pos he], ownFo_R (own_nil _ _ _ _), hb⟩
    · rw [if_neg he] at h
      have he0 : (wholeL l0 a1).2 = 0 := Classical.not_not.1 he
      by_cases hm : a2 < 1 ∨ ((wholeL l0 a1).1.length : Int) < a2
      · rw [if_pos hm] at h
        have h := Option.some.inj h
        simp only [Prod.mk.injEq] at h
        obtain ⟨rfl, rfl, rfl, rfl⟩ := h
        refine (fold_err A0 c0 l0 a1 a2 w hh.1 hla hh.2 0 he0 (.inr hm)).mono ?_
        rintro e w' ⟨rfl, hb⟩
        exact ⟨.slice none 0 0, by rw [if_neg (by decide)], ownFo_R (own_nil _ _ _ _), hb⟩
      · rw [if_neg hm] at h
        obtain ⟨x, hx, h2⟩ := Option.bind_eq_some_iff.1 h
        obtain ⟨⟨y1, y2⟩, hy, h3⟩ := Option.map_eq_some_iff.1 h2
        simp only [Prod.mk.injEq] at h3
        obtain ⟨rfl, rfl, rfl, rfl⟩ := h3
        have := fold_any A0 c0 l0 a1 (a2 - 1).toNat y1 y2 w hh.1 hla hh.2 he0 x hx hy
        rw [show (((a2 - 1).toNat + 1 : Nat) : Int) = a2 by omega] at this
        refine this.mono ?_
        rintro e w' ⟨v, he, ho, hb⟩
        exact ⟨v, he, ownFo_R ho, hb⟩
  · rw [if_neg hh] at h; cases h
end Go.Proofs.Ytbeloaccgmgocaa.Pr
end
section
namespace Go.Proofs.Ytbeloaccgmgocaa.Pr
open Go.RowKit Go.Proofs.YtbeloaccgmgocaaW.PrintWords Go.Proofs.YtbeloaccgmgocaaW.PrintLast Go.Proofs.Ytbeloaccgmgocaa
set_option linter.unusedVariables false
def sh3 : List SL := [⟨1, 0, ⟨2, []⟩⟩, ⟨2, 1, ⟨2, []⟩⟩, ⟨3, 2, ⟨2, []⟩⟩]
def sp3 : List SL := [⟨3, 2, ⟨2, []⟩⟩, ⟨2, 1, ⟨2, []⟩⟩, ⟨1, 0, ⟨2, []⟩⟩]
theorem sh_path : pathP sh3 3 = (sp3, 0) := by rfl
theorem sh_ids : idsL sh3 3 = ([3, 2, 1], 0) := by unfold idsL; rw [sh_path]; rfl
theorem sh_whole : wholeL sh3 3 = (sp3, 0) := by unfold wholeL; rw [sh_path]; rfl
theorem sh_sized : sizedL sh3 = true := by decide
theorem sh_right : cell_Right.f 2 [] = some true := by rfl
theorem sh_over (k : Nat) : cell_Over.f (k + 5) 2 [] 2 [] = some (2, []) := by
  unfold cell_Over.f
  rw [sh_right]
  rfl
theorem sh_fold : foldO (sp3.take 2) 2 [] = some (2, []) := by
  show foldO [⟨3, 2, ⟨2, []⟩⟩, ⟨2, 1, ⟨2, []⟩⟩] 2 [] = _
  rw [foldO, overX_of (sh_over 0), Option.bind_some, foldO, overX_of (sh_over 0), Option.bind_some, foldO]
theorem sh_same : rootcellarlaw11_sameInts.f 9 [3, 2, 1] [3, 2, 1] = some true := by
  unfold rootcellarlaw11_sameInts.f
  simp [rootcellarlaw11_sameInts.l0, rd, wrap64]
abbrev b12 : Array Value := #[.int .i64 1, .int .i64 0, .int .i64 2, .slice none 0 0, .int .i64 2, .int .i64 1, .int .i64 2, .slice none 0 0, .int .i64 3, .int .i64 2, .int .i64 2, .slice none 0 0]
theorem sh_links {w : World} {g : Nat} (h : Blk w g 32 b12) : LinksAt w (some ⟨g, 0, none⟩) sh3 := by
  intro _
  refine ⟨g, 0, rfl, h.lt, fun i hi => ⟨none, 0, ?_⟩⟩
  have hi3 : i < 3 := hi
  match i, hi3 with
  | 0, _ => exact ⟨h.cell 0, h.cell 1, h.cell 2, h.cell 3, Nat.le_refl _, Kd.C_nil _ _⟩
  | 1, _ => exact ⟨h.cell 4, h.cell 5, h.cell 6, h.cell 7, Nat.le_refl _, Kd.C_nil _ _⟩
  | 2, _ => exact ⟨h.cell 8, h.cell 9, h.cell 10, h.cell 11, Nat.le_refl _, Kd.C_nil _ _⟩
set_option maxRecDepth 100000 in
set_option maxHeartbeats 1600000 in
theorem shown11_any (w : World) : Calls Try.prog 9 #[] w fun e w' => e = .returned (.bool true) ∧ Below w.heap.size w w' := by
  have hnew := fun w => new_any 2 w
  rw [show newR 2 = (2, 0) from rfl] at hnew
  dsimp only at hnew
  have HNEW := Lib.hid hnew
  clear hnew
  go_enter Try.func9, Try.ntmps9
  go_wp2_with fail
  refine (HNEW.out _).mono ?_
  rintro e w1 ⟨rfl, hb1⟩
  have HB1 := Lib.hid hb1
  clear hb1
  go_wp2_with fail
  have hk := Blk.new (w1.alloc (.cells #[.int .i64 2, .slice none 0 0] 26)) 32 b12
  rw [show (w1.alloc (.cells #[.int .i64 2, .slice none 0 0] 26)).heap.size = w1.heap.size + 1 by simp] at hk
  have HK := Lib.hid hk
  have HB2 := Lib.hid ((HB1.out.alloc HB1.out.size (.cells #[.int .i64 2, .slice none 0 0] 26)).alloc (by have := HB1.out.size; simp; omega) (.cells b12 32))
  clear hk HB1
  revert HK HB2
  generalize ((w1.alloc (.cells #[.int .i64 2, .slice none 0 0] 26)).alloc (.cells b12 32)) = w2
  generalize w1.heap.size + 1 = g
  intro HK HB2
  have hids : Calls Try.prog 12 #[.slice (some ⟨g, 0, none⟩) 3 3, .int .i64 3] w2 fun e w' => ∃ v : Value, e = .returned (.tuple #[v, .int .i64 0]) ∧ w'.ownsRow w2.heap.size 3 1 v 3 (nums .i64 [3, 2, 1]) ∧ Below w2.heap.size w2 w' := by
    have := ids_any (some ⟨g, 0, none⟩) 3 sh3 3 w2 (by decide) (sh_links HK.out) sh_sized
    rw [sh_ids] at this
    exact this
  refine hids.mono ?_
  rintro e w3 ⟨v, rfl, ho, hb3⟩
  obtain ⟨A3, c3, rfl⟩ := own_formCh ho
  have HK3 := Lib.hid (HK.out.below hb3 HK.out.lt)
  have HB3 := Lib.hid (HB2.out.trans (hb3.mono HB2.out.size))
  have HO3 := Lib.hid ho
  clear ho hb3 hids HK HB2 HNEW
  go_wp2_with fail
  have hfold : Calls Try.prog 14 #[.slice (some ⟨g, 0, none⟩) 3 3, .int .i64 3, .int .i64 2] w3 fun e w' => ∃ v : Value, e = .returned (.tuple #[.agg #[.int .i64 2, v], .int .i64 1, .int .i64 0]) ∧ ownFo w' w3.heap.size v [] ∧ Below w3.heap.size w3 w' :=
    fold_any (some ⟨g, 0, none⟩) 3 sh3 3 1 2 [] w3 (by decide) (sh_links HK3.out) sh_sized (by rw [sh_whole]) ⟨2, 1, ⟨2, []⟩⟩ (by rw [sh_whole]; rfl) (by rw [sh_whole]; exact sh_fold)
  refine hfold.mono ?_
  rintro e w4 ⟨v, rfl, ho4, hb4⟩
  obtain ⟨A4, c4, rfl⟩ := own_formCh ho4
  have HO4 := Lib.hid (pw_own_below HO3.out hb4)
  have HB4 := Lib.hid (HB3.out.trans (hb4.mono HB3.out.size))
  clear hfold ho4 hb4 HK3 HO3 HB3
  go_wp2_with fail
  have ho2 := own_lit (w4.alloc (.cells #[.int .i64 2, .slice A4 0 c4] 26)) w4.heap.size 3 .i64 [3, 2, 1] (by simp) (by decide)
  rw [show (w4.alloc (.cells #[.int .i64 2, .slice A4 0 c4] 26)).heap.size = w4.heap.size + 1 by simp] at ho2
  have HN2 : Hid (World.ownsRow ((w4.alloc (.cells #[.int .i64 2, .slice A4 0 c4] 26)).alloc (.cells #[.int .i64 3, .int .i64 2, .int .i64 1] 3)) w4.heap.size 3 1 (.slice (some ⟨w4.heap.size + 1, 0, none⟩) 3 3) 3 (nums .i64 [3, 2, 1])) := Lib.hid ho2
  have HN1 := Lib.hid ((HO4.out.alloc (.cells #[.int .i64 2, .slice A4 0 c4] 26)).alloc (.cells #[.int .i64 3, .int .i64 2, .int .i64 1] 3))
  have HB5 := Lib.hid ((HB4.out.alloc HB4.out.size (.cells #[.int .i64 2, .slice A4 0 c4] 26)).alloc (by have := HB4.out.size; simp; omega) (.cells #[.int .i64 3, .int .i64 2, .int .i64 1] 3))
  clear ho2 HO4 HB4
  revert HN2 HN1 HB5
  generalize ((w4.alloc (.cells #[.int .i64 2, .slice A4 0 c4] 26)).alloc (.cells #[.int .i64 3, .int .i64 2, .int .i64 1] 3)) = w5
  intro HN2 HN1 HB5
  obtain ⟨B1, d1, he1, hl1, hC1⟩ := Kd.R_reads (Kd.R_of_own (ok := fun _ => True) (xs := [3, 2, 1]) (enc := fun x => Value.int .i64 x) (h1 := fun _ => rfl) HN1.out (fun _ _ => trivial))
  obtain ⟨B2, d2, he2, hl2, hC2⟩ := Kd.R_reads (Kd.R_of_own (ok := fun _ => True) (xs := [3, 2, 1]) (enc := fun x => Value.int .i64 x) (h1 := fun _ => rfl) HN2.out (fun _ _ => trivial))
  injection he1 with a1 a2 a3
  injection he2 with a4 a5 a6
  rw [← a1] at hC1
  rw [← a4] at hC2
  rw [← a3] at hl1
  rw [← a6] at hl2
  have hsame := rootcellarlaw11_sameInts.calls 9 A3 c3 [3, 2, 1] (some ⟨w4.heap.size + 1, 0, none⟩) 3 [3, 2, 1] true w5 hC1 hl1 hC2 hl2 sh_same
  have HSAME := Lib.hid hsame
  clear hsame hC1 hC2 hl1 hl2 a1 a2 a3 a4 a5 a6 HN1 HN2
  refine (show Calls Try.prog 17 #[.slice A3 3 c3, .slice (some ⟨w4.heap.size + 1, 0, none⟩) 3 3] w5 _ from HSAME.out).mono ?_
  rintro e w6 ⟨rfl, hd⟩
  have HB6 := Lib.hid (HB5.out.trans (hd.below.mono HB5.out.size))
  clear hd HSAME HB5
  go_wp2_with fail
  go_ret
  exact ⟨rfl, HB6.out⟩
def rootcellarlaw11_shown.f : Option (Bool) := some true
theorem rootcellarlaw11_shown.calls (r : Bool) (w : World) (h : rootcellarlaw11_shown.f = some r) :
    Calls Try.prog 9 #[] w fun e w' => e = .returned (.bool r) ∧ Below w.heap.size w w' := by
  obtain rfl := (Option.some.inj h)
  exact shown11_any w
end Go.Proofs.Ytbeloaccgmgocaa.Pr
end
