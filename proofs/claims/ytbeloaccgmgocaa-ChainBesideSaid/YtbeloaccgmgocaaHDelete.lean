/- slices.IndexFunc and slices.DeleteFunc at cells, by a cell's place that the closure holds. Condition: the row is the call's own. -/
import Derived.Test.YtbeloaccgmgocaaHPut
namespace Go.Proofs.Ytbeloaccgmgocaa.Pr
open Go.RowKit Go.Proofs.YtbeloaccgmgocaaW.PrintWords Go.Proofs.YtbeloaccgmgocaaW.PrintLast Go.Proofs.Ytbeloaccgmgocaa
set_option linter.unusedVariables false
def other (a : Int) (x : SC) : Bool := !(x.f0 == a)
set_option maxRecDepth 100000 in
theorem del_any (x : SC) (a : Int) (c : Nat) (w : World) (hc : w.cell? ⟨c, 0, none⟩ = some (.int .i64 a)) :
    Calls Try.prog 43 #[.agg #[.int .i64 x.f0, .string x.f1], .pointer (some ⟨c, 0, none⟩)] w fun e w' => e = .returned (.bool (x.f0 == a)) ∧ Below w.heap.size w w' := by
  obtain ⟨x0, x1⟩ := x
  have hlt := block_lt_of_cell hc
  go_enter Try.func43, Try.ntmps43
  go_wp2
  all_goals (go_ret; exact ⟨ret_bool (by first | rfl | simp_all), (Below.refl _ _).alloc (Nat.le_refl _) _⟩)
/-- the first place at which the predicate holds, from i on -/
theorem idx_none (l : List SC) (a : Int) (h : ∀ x ∈ l, (x.f0 == a) = false) : l.findIdx? (fun x => x.f0 == a) = none := by
  rw [List.findIdx?_eq_none_iff]; exact h
def idxI (l : List SC) (a : Int) : Int := match l.findIdx? (fun x => x.f0 == a) with | none => -1 | some i => (i : Int)
set_option maxRecDepth 100000 in
set_option maxHeartbeats 1600000 in
theorem indexf_any (A : Option Addr) (cap : Nat) (l : List SC) (a : Int) (c : Nat) (w : World) (hl : l.length ≤ 1000000) (hr : CellsAt w A l) (hc : w.cell? ⟨c, 0, none⟩ = some (.int .i64 a)) :
    Calls Try.prog 59 #[.slice A l.length cap, .func (.func 43) #[] #[.pointer (some ⟨c, 0, none⟩)]] w fun e w' => e = .returned (.int .i64 (idxI l a)) ∧ Below w.heap.size w w' := by
  obtain ⟨n, hn⟩ : ∃ n, l.length = n := ⟨_, rfl⟩
  have HR := Lib.hid hr
  have HN := Lib.hid hn
  have HC := Lib.hid hc
  have hclt := block_lt_of_cell hc
  rw [hn] at hl
  rw [hn]
  clear hr hn hc
  go_enter Try.func59, Try.ntmps59
  go_wp2_with fail
  go_loopw [8] (fun vj wr => ∃ (j : Nat), j ≤ n ∧ vj = .int .i64 j ∧ Hid (∀ i (h : i < l.length), i < j → (l[i].f0 == a) = false) ∧ Hid (Below w.heap.size w wr)) (fun vj _ => n - (intOf vj).toNat)
  case atStart => exact ⟨0, by omega, rfl, Lib.hid (fun i _ h => by omega), Lib.hid (Below.refl _ _)⟩
  case round =>
    obtain ⟨j, hjn, rfl, hp, hb⟩ := hrel
    by_cases hlt : j < n
    · obtain ⟨b, off, rfl, hblt, hcell⟩ := HR.out (by rw [HN.out]; omega)
      have hjl : j < l.length := by rw [HN.out]; exact hlt
      obtain ⟨hc0, hc1⟩ := hcell j hjl
      obtain ⟨x, hx⟩ : ∃ x, l[j]'hjl = x := ⟨_, rfl⟩
      rw [hx] at hc0 hc1
      have d0 := (hb.out.cell (p := ⟨b, off + j * 2, none⟩) hblt).trans hc0
      have d1 := (hb.out.cell (p := ⟨b, off + j * 2 + 1, none⟩) hblt).trans hc1
      have HX := Lib.hid hx
      have hcl := del_any x a c wr ((hb.out.cell (p := ⟨c, 0, none⟩) hclt).trans HC.out)
      obtain ⟨x0, x1⟩ := x
      obtain ⟨q, hq⟩ : ∃ q, q = (x0 == a) := ⟨_, rfl⟩
      dsimp only at hcl d0 d1
      rw [← hq] at hcl
      have HCL := Lib.hid hcl
      have HQ := Lib.hid hq
      clear hcell hc0 hc1 hx hcl hq
      go_wp2_with fail
      refine HCL.out.mono ?_
      rintro e w2 ⟨rfl, hb2⟩
      have HB2 := Lib.hid (hb.out.trans (hb2.mono hb.out.size))
      clear hb2
      go_wp2
      all_goals first
        | (go_ret
           refine ⟨?_, HB2.out⟩
           have hq1 : (x0 == a) = true := by rw [← HQ.out]; assumption
           unfold idxI
           have : l.findIdx? (fun x => x.f0 == a) = some j := by
             rw [List.findIdx?_eq_some_iff_getElem]
             refine ⟨hjl, by rw [HX.out]; exact hq1, fun i hi => by rw [hp.out i (by omega) hi]; decide⟩
           rw [this]; rfl)
        | (have hq0 : (x0 == a) = false := by rw [← HQ.out]; assumption
           go_roundw
           case rel =>
             refine ⟨j + 1, by omega, by go_num, Lib.hid (fun i h hi => ?_), HB2⟩
             by_cases e : i = j
             · subst e; rw [HX.out]; exact hq0
             · exact hp.out i h (by omega)
           case measure => simp [intOf]; omega)
    · go_wp2
      go_ret
      refine ⟨?_, hb.out⟩
      unfold idxI
      rw [idx_none l a (fun x hx => by
        obtain ⟨i, hi, rfl⟩ := List.getElem_of_mem hx
        exact hp.out i hi (by rw [← HN.out] at hlt; omega))]
      rfl
theorem wpList_clear_run {P : Program} (w : World) {ops : Array Oper} {rest : List Oper} {o : Oper} {a : Act} {Q : Exit → Act → World → Prop} (hgd : o.guard = none) (d : Operand) (t : TypeId)
    (ho : o.op = .call { callee := .builtin .clear, args := #[d], argTypes := #[t] }) (v : Value) (hd : a.eval d = v) {v' : Value} {w' : World}
    (hr : (Builtin.clear_ #[t] o.type #[v]).run P w = .ok v' w') (h : wpList P ops Q rest (a.put o.dst v') w') : wpList P ops Q (o :: rest) a w :=
  wpList_plain hgd fun _ hK => by
    unfold Oper.wp execOp
    simp only [ho, resolve, invoke, builtin, Sem.run_bind, Sem.run_pure, Result.andThen_ok, List.map_toArray, List.map_cons, List.map_nil, hd, hr]
    exact hK _ _ h
theorem run_clear_rowK {P : Program} (w : World) (t e ty : TypeId) (z : Value) (ht : P.underlying t = some (.slice e)) (hv : ∀ w, (zeroValue e).run P w = .ok z w) (g o n c : Nat) (cur : Array Value) (te : TypeId) (hn : 0 < n)
    (hg : w.heap[g]? = some (.cells cur te (0, 0))) (h1 : ∀ v ∈ (Builtin.zeroCells z.cells n).toList, v.oneCell' = true) (hfit : o + (Builtin.zeroCells z.cells n).toList.length ≤ cur.size) :
    (Builtin.clear_ #[t] ty #[.slice (some ⟨g, o, none⟩) n c]).run P w = .ok (.tuple #[]) (w.setRow g (cur.toList.take o ++ (Builtin.zeroCells z.cells n).toList ++ cur.toList.drop (o + (Builtin.zeroCells z.cells n).toList.length)).toArray) := by
  obtain ⟨m, rfl⟩ : ∃ m, n = m + 1 := ⟨n - 1, by omega⟩
  have hst := run_storeCells_at P g o te (Builtin.zeroCells z.cells (m + 1)).toList 0 cur w hg (by simpa using hfit) h1
  simp only [Nat.add_zero] at hst
  simp [Builtin.clear_, run_underlying ht, hv, hst]
theorem flat_put (l : List SC) (p : Nat) (h : p < l.length) (x : SC) : ((flatE encC l).set (p * 2) (.int .i64 x.f0)).set (p * 2 + 1) (.string x.f1) = flatE encC (l.set p x) := by
  induction l generalizing p with
  | nil => simp at h
  | cons y l ih =>
    cases p with
    | zero => simp [flatE_cons, encC]
    | succ p =>
      have := ih p (by simpa using h)
      rw [show (p + 1) * 2 + 1 = (p * 2 + 1) + 1 + 1 by omega, show (p + 1) * 2 = (p * 2) + 1 + 1 by omega]
      simp only [flatE_cons, encC, List.cons_append, List.nil_append, List.set_cons_succ]
      rw [this]
theorem own_store {w : World} {B g cap : Nat} {l : List SC} (h : ownC w B (.slice (some ⟨g, 0, none⟩) l.length cap) l) (p : Nat) (hp : p < l.length) (x : SC) :
    ownC ((w.setCell ⟨g, p * 2, none⟩ (.int .i64 x.f0)).setCell ⟨g, p * 2 + 1, none⟩ (.string x.f1)) B (.slice (some ⟨g, 0, none⟩) l.length cap) (l.set p x) := by
  rcases h.2 with ⟨h1, _⟩ | ⟨g', cap', cur, hv, hB, hg, hnc, hm, hcs, ht⟩
  · cases h1
  · injection hv with e1 _ e3
    injection e1 with e1
    injection e1 with e1
    subst e1 e3
    refine ⟨by rw [flatE_length encC_len], .inr ⟨g, cap, (cur.setIfInBounds (p * 2) (.int .i64 x.f0)).setIfInBounds (p * 2 + 1) (.string x.f1), by rw [List.length_set], hB, ?_, by rw [List.length_set]; exact hnc, hm, by simpa using hcs, ?_⟩⟩
    · simp [World.setCell, Array.getElem?_modify, hg]
    · rw [List.length_set, Array.toList_setIfInBounds, Array.toList_setIfInBounds, List.take_set, List.take_set, ht, flat_put l p hp x]
theorem ownC_cells {w : World} {B g cap : Nat} {l : List SC} (h : ownC w B (.slice (some ⟨g, 0, none⟩) l.length cap) l) (p : Nat) (hp : p < l.length) :
    w.cell? ⟨g, p * 2, none⟩ = some (.int .i64 l[p].f0) ∧ w.cell? ⟨g, p * 2 + 1, none⟩ = some (.string l[p].f1) ∧ w.frozen? ⟨g, p * 2, none⟩ = false ∧ w.frozen? ⟨g, p * 2 + 1, none⟩ = false := by
  have c0 := h.cells (g := g) rfl (p * 2) (.int .i64 l[p].f0) (by have := flatE_get encC_len l p hp 0 (by omega); rw [Nat.add_zero] at this; rw [this]; rfl)
  have c1 := h.cells (g := g) rfl (p * 2 + 1) (.string l[p].f1) (by rw [flatE_get encC_len l p hp 1 (by omega)]; rfl)
  rw [Addr.add_lit, Nat.zero_add] at c0 c1
  rcases h.2 with ⟨h1, _⟩ | ⟨g', cap', cur, hv, hB, hg, _⟩
  · cases h1
  · injection hv with e1 _ e3
    injection e1 with e1
    injection e1 with e1
    subst e1
    exact ⟨c0, c1, by simp [World.frozen?, hg], by simp [World.frozen?, hg]⟩
theorem ownC_base {w : World} {B g n cap : Nat} {l : List SC} (h : ownC w B (.slice (some ⟨g, 0, none⟩) n cap) l) : B ≤ g ∧ g < w.heap.size := ⟨own_base h g rfl, own_lt h g rfl⟩
theorem ownC_block {w : World} {B g n cap : Nat} {l : List SC} (h : ownC w B (.slice (some ⟨g, 0, none⟩) n cap) l) (hn : l.length = n) : ∃ cur : Array Value, B ≤ g ∧ w.heap[g]? = some (.cells cur 67 (0, 0)) ∧ n ≤ cap ∧ cap ≤ maxLen ∧ cur.size = cap * 2 ∧ cur.toList.take (n * 2) = flatE encC l := by
  subst hn
  rcases h.2 with ⟨h0, _⟩ | ⟨g', cap', cur, hv, hBg, hg, hnc, hm, hcs, ht⟩
  · cases h0
  · injection hv with e1 _ e3
    injection e1 with e1
    injection e1 with e1
    subst e1 e3
    exact ⟨cur, hBg, hg, hnc, hm, hcs, ht⟩
theorem zeroC : ∀ w : World, (zeroValue 67).run Try.prog w = .ok (.agg #[.int .i64 0, .string ⟨#[]⟩]) w := fun w => Try.zeroValue67 w
theorem zeros_len (n : Nat) : (Builtin.zeroCells (Value.agg #[.int .i64 0, .string ⟨#[]⟩]).cells n).toList.length = n * 2 := by simp [Builtin.zeroCells, Value.cells]
theorem zeros_one (n : Nat) : ∀ v ∈ (Builtin.zeroCells (Value.agg #[.int .i64 0, .string ⟨#[]⟩]).cells n).toList, v.oneCell' = true := by
  intro v hv
  simp only [Builtin.zeroCells, Value.cells, Array.toList_map, List.mem_map] at hv
  obtain ⟨i, _, rfl⟩ := hv
  have h2 : i % 2 = 0 ∨ i % 2 = 1 := by omega
  rcases h2 with h | h <;> simp [h, Value.oneCell']
set_option maxRecDepth 100000 in
set_option maxHeartbeats 4000000 in
theorem deletef_any (B : Nat) (v : Value) (l : List SC) (a : Int) (c : Nat) (w : World) (hl : l.length ≤ 1000000) (hown : ownC w B v l) (hc : w.cell? ⟨c, 0, none⟩ = some (.int .i64 a)) (hcB : c < B) (hB : B ≤ w.heap.size) :
    Calls Try.prog 42 #[v, .func (.func 43) #[] #[.pointer (some ⟨c, 0, none⟩)]] w fun e w' => (∃ v', e = .returned v' ∧ ownC w' B v' (l.filter (other a))) ∧ Below B w w' := by
  have hread : ∃ A cap, v = .slice A l.length cap ∧ CellsAt w A l := by
    obtain ⟨A, c', e, h1, h2⟩ := Kd.R_reads (ownC_R hown)
    exact ⟨A, c', e, cellsAt_of_C h2⟩
  obtain ⟨A, cap, rfl, hat⟩ := hread
  have hix := indexf_any A cap l a c w hl hat hc
  have HIX := Lib.hid hix
  have HO := Lib.hid hown
  have HC := Lib.hid hc
  clear hix hown hc
  obtain ⟨n, hn⟩ : ∃ n, n = l.length := ⟨_, rfl⟩
  have HN := Lib.hid hn
  rw [← hn] at hl HIX HO ⊢
  clear hn
  cases hi : l.findIdx? (fun x => x.f0 == a) with
  | none =>
    have hid : idxI l a = -1 := by unfold idxI; rw [hi]
    have hf : l.filter (other a) = l := by
      rw [List.findIdx?_eq_none_iff] at hi
      rw [List.filter_eq_self]
      intro x hx
      have := hi x hx
      unfold other; rw [this]; rfl
    rw [hid] at HIX
    have HF := Lib.hid hf
    clear hi hid hf hat
    go_enter Try.func42, Try.ntmps42
    go_wp2_with fail
    refine HIX.out.mono ?_
    rintro e w1 ⟨rfl, hb1⟩
    have H1 := Lib.hid hb1
    clear hb1
    go_wp2
    go_ret
    exact ⟨⟨_, rfl, by rw [HF.out]; have := pw_own_below HO.out H1.out; exact this⟩, H1.out.mono hB⟩
  | some i0 =>
    have hid : idxI l a = (i0 : Int) := by unfold idxI; rw [hi]
    rw [List.findIdx?_eq_some_iff_getElem] at hi
    obtain ⟨hi0, hia, hib⟩ := hi
    have hst : l.take i0 = (l.take (i0 + 1)).filter (other a) := by
      rw [List.take_succ_eq_append_getElem hi0, List.filter_append]
      have h1 : (l.take i0).filter (other a) = l.take i0 := by
        rw [List.filter_eq_self]
        intro x hx
        obtain ⟨j, hj, rfl⟩ := List.getElem_of_mem hx
        rw [List.getElem_take]
        have := hib j (by rw [List.length_take] at hj; omega)
        unfold other
        simpa using this
      have h2 : ([l[i0]] : List SC).filter (other a) = [] := by
        have : other a l[i0] = false := by unfold other; rw [hia]; rfl
        simp [this]
      rw [h1, h2, List.append_nil]
    rw [hid] at HIX
    have HST := Lib.hid hst
    have hin : i0 < n := by rw [HN.out]; exact hi0
    obtain ⟨g, rfl⟩ : ∃ g, A = some ⟨g, 0, none⟩ := by
      rcases HO.out.2 with ⟨_, h0⟩ | ⟨g, _, _, hv, _⟩
      · rw [← HN.out] at h0; omega
      · injection hv with e1; exact ⟨g, e1⟩
    have hcapm : cap ≤ maxLen := by
      rcases HO.out.2 with ⟨_, h0⟩ | ⟨g', cap', _, hv, _, _, _, hm, _⟩
      · rw [← HN.out] at h0; omega
      · injection hv with _ _ e3; omega
    have hncap : n ≤ cap := by exact own_le HO.out
    unfold maxLen at hcapm
    have hne1 : ((i0 : Int) == -1) = false := by rw [beq_eq_false_iff_ne]; omega
    clear hid hst hia hib hat hi0
    go_enter Try.func42, Try.ntmps42
    go_wp2_with fail
    refine HIX.out.mono ?_
    rintro e w1 ⟨rfl, hb1⟩
    have H1 := Lib.hid (hb1.mono hB)
    have HO1 : Hid (ownC w1 B (.slice (some ⟨g, 0, none⟩) n cap) l) := Lib.hid (pw_own_below HO.out hb1)
    have hsz1 := hb1.size
    clear hb1 HIX
    go_wp2_with fail
    go_loopw [5, 6, 7] (fun vi vj _ wr => ∃ (i j : Nat) (L : List SC), i < j ∧ j ≤ n ∧ vi = .int .i64 i ∧ vj = .int .i64 j ∧ Hid (L.length = n ∧ L.take i = (l.take j).filter (other a) ∧ L.drop j = l.drop j) ∧ Hid (ownC wr B (.slice (some ⟨g, 0, none⟩) n cap) L) ∧ Hid (Below B w wr)) (fun _ vj _ _ => n - (intOf vj).toNat)
    case atStart => exact ⟨i0, i0 + 1, l, by omega, by omega, rfl, by go_num, Lib.hid ⟨HN.out.symm, HST.out, rfl⟩, HO1, H1⟩
    case round =>
      obtain ⟨i, j, L, hij, hjn, rfl, rfl, hL, hO, hBw⟩ := hrel
      by_cases hlt : j < n
      · have hjl : j < l.length := by rw [← HN.out]; exact hlt
        have hjL : j < L.length := by rw [hL.out.1]; exact hlt
        have hiL : i < L.length := by rw [hL.out.1]; omega
        have hOL : ownC wr B (.slice (some ⟨g, 0, none⟩) L.length cap) L := by rw [hL.out.1]; exact hO.out
        have hxj : L[j] = l[j] := by
          have h1 : (L.drop j)[0]? = (l.drop j)[0]? := by rw [hL.out.2.2]
          simpa [hjL, hjl] using h1
        obtain ⟨d0, d1, _, _⟩ := ownC_cells hOL j hjL
        rw [hxj] at d0 d1
        obtain ⟨x, hx⟩ : ∃ x, l[j] = x := ⟨_, rfl⟩
        rw [hx] at d0 d1 hxj
        have hBr := hBw.out.size
        have hcr : wr.cell? ⟨c, 0, none⟩ = some (.int .i64 a) := (hBw.out.cell (p := ⟨c, 0, none⟩) hcB).trans HC.out
        have hcl := del_any x a c (wr.alloc (.cells #[.int .i64 x.f0, .string x.f1] 67)) (((Below.refl wr.heap.size wr).alloc (Nat.le_refl _) _).cell (p := ⟨c, 0, none⟩) (show c < wr.heap.size by omega) |>.trans hcr)
        have hbv := Blk.new wr 67 #[.int .i64 x.f0, .string x.f1]
        have hgl := ownC_base hOL
        have HX := Lib.hid hx
        have HOL := Lib.hid hOL
        have HBV := Lib.hid hbv
        obtain ⟨x0, x1⟩ := x
        obtain ⟨q, hq⟩ : ∃ q, q = (x0 == a) := ⟨_, rfl⟩
        dsimp only at hcl d0 d1
        rw [← hq] at hcl
        have HCL := Lib.hid hcl
        have HQ := Lib.hid hq
        clear hx hcl hq hOL hbv hxj hcr
        go_wp2_with fail
        refine HCL.out.mono ?_
        rintro e w2 ⟨rfl, hb2⟩
        have HV2 := Lib.hid (HBV.out.below hb2 (by simp))
        have HO2 : Hid (ownC w2 B (.slice (some ⟨g, 0, none⟩) L.length cap) L) := Lib.hid (pw_own_below (HOL.out.alloc _) hb2)
        have HB2 := Lib.hid ((hBw.out.alloc (Nat.le_trans hB hBr) (.cells #[.int .i64 x0, .string x1] 67)).trans (hb2.mono (by simp; omega)))
        clear hb2 d0 d1 HCL HBV HOL
        cases q with
        | true =>
          have hnx : other a ⟨x0, x1⟩ = false := by unfold other; show (!(x0 == a)) = false; rw [← HQ.out]; rfl
          have HNX := Lib.hid hnx
          clear hnx
          go_wp2
          go_roundw
          case rel =>
            refine ⟨i, j + 1, L, by omega, by omega, rfl, by go_num, Lib.hid ⟨hL.out.1, ?_, ?_⟩, by have := HO2; rw [hL.out.1] at this; exact this, HB2⟩
            · rw [List.take_succ_eq_append_getElem hjl, List.filter_append, HX.out, hL.out.2.1]
              simp [HNX.out]
            · rw [← List.drop_drop (i := 1) (j := j), ← List.drop_drop (i := 1) (j := j), hL.out.2.2]
          case measure => simp [intOf]; omega
        | false =>
          have hnx : other a ⟨x0, x1⟩ = true := by unfold other; show (!(x0 == a)) = true; rw [← HQ.out]; rfl
          have HNX := Lib.hid hnx
          obtain ⟨k0, k1, kf0, kf1⟩ := ownC_cells HO2.out i hiL
          have v0 := HV2.out.cell 0
          have v1 := HV2.out.cell 1
          rw [show (#[Value.int IntKind.i64 x0, Value.string x1] : Array Value)[0]? = some (.int .i64 x0) from rfl] at v0
          rw [show (#[Value.int IntKind.i64 x0, Value.string x1] : Array Value)[1]? = some (.string x1) from rfl] at v1
          obtain ⟨o0, o1, ho⟩ : ∃ o0 o1, L[i] = ⟨o0, o1⟩ := ⟨_, _, rfl⟩
          rw [ho] at k0 k1
          dsimp only at k0 k1
          have hst := own_store HO2.out i hiL ⟨x0, x1⟩
          have HST2 := Lib.hid hst
          clear hnx hst ho
          go_wp2
          go_roundw
          case rel =>
            refine ⟨i + 1, j + 1, L.set i ⟨x0, x1⟩, by omega, by omega, by go_num, by go_num, Lib.hid ⟨by rw [List.length_set]; exact hL.out.1, ?_, ?_⟩, by have := HST2; rw [hL.out.1] at this; exact this, ?_⟩
            · rw [List.take_succ_eq_append_getElem (by rw [List.length_set]; exact hiL), List.take_set_of_le (Nat.le_refl _), hL.out.2.1, List.take_succ_eq_append_getElem hjl, List.filter_append, HX.out, List.getElem_set_self]
              simp [HNX.out]
            · rw [List.drop_set_of_lt (by omega), ← List.drop_drop (i := 1) (j := j), ← List.drop_drop (i := 1) (j := j), hL.out.2.2]
            · exact Lib.hid ((HB2.out.setCell (p := ⟨g, i * 2, none⟩) hgl.1 _).setCell (p := ⟨g, i * 2 + 1, none⟩) hgl.1 _)
          case measure => simp [intOf]; omega
      · obtain rfl : j = n := by omega
        have hfin : L.take i = l.filter (other a) := by rw [hL.out.2.1, List.take_of_length_le (by rw [← HN.out]; exact Nat.le_refl _)]
        have hLn := hL.out.1
        obtain ⟨cur, hBg, hg, hnc, hm, hcs, ht⟩ := ownC_block hO.out hLn
        have hzl := zeros_len (j - i)
        have hclr : ∀ ty c', (Builtin.clear_ #[24] ty #[.slice (some ⟨g, i * 2, none⟩) (j - i) c']).run Try.prog wr = .ok (.tuple #[]) (wr.setRow g (cur.toList.take (i * 2) ++ (Builtin.zeroCells (Value.agg #[.int .i64 0, .string ⟨#[]⟩]).cells (j - i)).toList ++ cur.toList.drop (i * 2 + (Builtin.zeroCells (Value.agg #[.int .i64 0, .string ⟨#[]⟩]).cells (j - i)).toList.length)).toArray) := fun ty c' =>
          run_clear_rowK wr 24 67 ty _ Try.underlying24 zeroC g (i * 2) (j - i) c' cur 67 (by omega) hg (zeros_one _) (by rw [hzl, hcs]; omega)
        obtain ⟨R, hR⟩ : ∃ R, R = cur.toList.take (i * 2) ++ (Builtin.zeroCells (Value.agg #[.int .i64 0, .string ⟨#[]⟩]).cells (j - i)).toList ++ cur.toList.drop (i * 2 + (Builtin.zeroCells (Value.agg #[.int .i64 0, .string ⟨#[]⟩]).cells (j - i)).toList.length) := ⟨_, rfl⟩
        rw [← hR] at hclr
        have hfl : (l.filter (other a)).length = i := by rw [← hfin, List.length_take, hLn]; omega
        have hres : ownC (wr.setRow g R.toArray) B (.slice (some ⟨g, 0, none⟩) i cap) (l.filter (other a)) ∧ Below B w (wr.setRow g R.toArray) := by
          have hcl : cur.toList.length = cap * 2 := by rw [Array.length_toList, hcs]
          refine ⟨⟨by rw [flatE_length encC_len], .inr ⟨g, cap, R.toArray, by rw [hfl], hBg, setRow_heap wr g cur R.toArray _ _ hg, by rw [hfl]; omega, by unfold maxLen; omega, ?_, ?_⟩⟩, below_setRow' hBw.out hBg _⟩
          · rw [List.size_toArray, hR]; simp only [List.length_append, List.length_take, List.length_drop, hzl, hcl]; omega
          · show List.take _ R = _
            rw [hfl, hR, List.append_assoc, List.take_left' (by rw [List.length_take, hcl]; omega), ← hfin, flatE_take encC_len, ← ht, List.take_take]
            congr 1; omega
        have HRES := Lib.hid hres
        have hci : ¬ (cap = i) := by omega
        clear hres hR hfl hg ht hcs hfin hL hO hBw hLn hzl hm
        go_wp2_with (at_builtin; refine wpList_clear_run _ rfl _ 24 rfl _ rfl (hclr _ _) ?_)
        go_ret
        exact ⟨⟨_, rfl, HRES.out.1⟩, HRES.out.2⟩
end Go.Proofs.Ytbeloaccgmgocaa.Pr
