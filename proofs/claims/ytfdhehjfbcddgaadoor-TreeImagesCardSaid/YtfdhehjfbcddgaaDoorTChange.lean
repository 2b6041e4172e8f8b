/- (tree.Tree).change: what is done to a node that is not the root. Conditions: the nodes are not more than a million; the search finds what is there. -/
import Derived.Test.YtfdhehjfbcddgaaDoorTMove
import Derived.Test.YtfdhehjfbcddgaaDoorTMake
section
namespace Go.Proofs.YtfdhehjfbcddgaaDoor.Pr
open Go.RowKit Go.Proofs.YtfdhehjfbcddgaaDoorW.PrintWords Go.Proofs.YtfdhehjfbcddgaaDoorW.PrintLast Go.Proofs.YtfdhehjfbcddgaaDoor
set_option linter.unusedVariables false
set_option maxRecDepth 100000 in
theorem change1_any (x : Nd) (a : Int) (c : Nat) (w : World) (hc : w.cell? ⟨c, 1, none⟩ = some (.int .i64 a)) :
    Calls Tryd.prog 70 #[valN x, .pointer (some ⟨c, 0, none⟩)] w fun e w' => e = .returned (.bool (x.id == a)) ∧ Below w.heap.size w w' := by
  have hlt := block_lt_of_cell hc
  unfold valN
  go_enter Tryd.func70, Tryd.ntmps70
  go_wp2
  all_goals (go_ret; exact ⟨ret_bool (by first | rfl | simp_all), by first | exact (Below.refl _ _).alloc (Nat.le_refl _) _ | exact Below.refl _ _⟩)
set_option maxRecDepth 100000 in
set_option maxHeartbeats 1600000 in
theorem indexD_any (A : Option Addr) (cap : Nat) (l : List Nd) (a : Int) (c : Nat) (w : World) (hl : l.length ≤ 1000000) (hr : NodesAt w A l) (hc : w.cell? ⟨c, 1, none⟩ = some (.int .i64 a)) :
    Calls Tryd.prog 38 #[.slice A l.length cap, .func (.func 70) #[] #[.pointer (some ⟨c, 0, none⟩)]] w fun e w' => e = .returned (.int .i64 (idxN l a)) ∧ Below w.heap.size w w' := by
  obtain ⟨n, hn⟩ : ∃ n, l.length = n := ⟨_, rfl⟩
  have HR := Lib.hid hr
  have HN := Lib.hid hn
  have HC := Lib.hid hc
  have hclt := block_lt_of_cell hc
  rw [hn] at hl
  rw [hn]
  clear hr hn hc
  go_enter Tryd.func38, Tryd.ntmps38
  go_wp2_with fail
  go_loopw [8] (fun vj wr => ∃ (j : Nat), j ≤ n ∧ vj = .int .i64 j ∧ Hid (∀ i (h : i < l.length), i < j → (l[i].id == a) = false) ∧ Hid (Below w.heap.size w wr)) (fun vj _ => n - (intOf vj).toNat)
  case atStart => exact ⟨0, by omega, rfl, Lib.hid (fun i _ h => by omega), Lib.hid (Below.refl _ _)⟩
  case round =>
    obtain ⟨j, hjn, rfl, hp, hb⟩ := hrel
    by_cases hlt : j < n
    · obtain ⟨b, off, rfl, ⟨cs, fr, ho⟩, hcell⟩ := HR.out (by rw [HN.out]; omega)
      have hblt := obj_lt ho
      have hjl : j < l.length := by rw [HN.out]; exact hlt
      obtain ⟨hc0, hc1, hc2, hc3, hc4, hc5⟩ := nodes_get hcell j hjl
      obtain ⟨x, hx⟩ : ∃ x, l[j]'hjl = x := ⟨_, rfl⟩
      rw [hx] at hc0 hc1 hc2 hc3 hc4 hc5
      have hcl := change1_any x a c wr ((hb.out.cell (p := ⟨c, 1, none⟩) hclt).trans HC.out)
      unfold valN at hcl
      obtain ⟨y0, y1, y2, y3, y4, y5⟩ := x
      dsimp only at hc0 hc1 hc2 hc3 hc4 hc5 hcl
      have d0 := (hb.out.cell (p := ⟨b, off + j * 6, none⟩) hblt).trans hc0
      have d1 := (hb.out.cell (p := ⟨b, off + j * 6 + 1, none⟩) hblt).trans hc1
      have d2 := (hb.out.cell (p := ⟨b, off + j * 6 + 2, none⟩) hblt).trans hc2
      have d3 := (hb.out.cell (p := ⟨b, off + j * 6 + 3, none⟩) hblt).trans hc3
      have d4 := (hb.out.cell (p := ⟨b, off + j * 6 + 4, none⟩) hblt).trans hc4
      have d5 := (hb.out.cell (p := ⟨b, off + j * 6 + 5, none⟩) hblt).trans hc5
      have HX := Lib.hid hx
      obtain ⟨q, hq⟩ : ∃ q, q = (y0 == a) := ⟨_, rfl⟩
      rw [← hq] at hcl
      have HCL := Lib.hid hcl
      have HQ := Lib.hid hq
      clear hcell hc0 hc1 hc2 hc3 hc4 hc5 hx hcl hq ho
      go_wp2_with fail
      refine HCL.out.mono ?_
      rintro e w2 ⟨rfl, hb2⟩
      have HB2 := Lib.hid (hb.out.trans (hb2.mono hb.out.size))
      clear hb2
      cases q with
      | true =>
        go_wp2
        go_ret
        refine ⟨?_, HB2.out⟩
        unfold idxN
        have : l.findIdx? (fun x => x.id == a) = some j := by
          rw [List.findIdx?_eq_some_iff_getElem]
          exact ⟨hjl, by rw [HX.out]; exact HQ.out.symm, fun i hi => by rw [hp.out i (by omega) hi]; decide⟩
        rw [this]; rfl
      | false =>
        go_wp2
        go_roundw
        case rel =>
          refine ⟨j + 1, by omega, by go_num, Lib.hid (fun i h hi => ?_), HB2⟩
          by_cases e : i = j
          · subst e; rw [HX.out]; exact HQ.out.symm
          · exact hp.out i h (by omega)
        case measure => simp [intOf]; omega
    · go_wp2
      go_ret
      refine ⟨?_, hb.out⟩
      unfold idxN
      have : l.findIdx? (fun x => x.id == a) = none := by
        rw [List.findIdx?_eq_none_iff]
        intro x hx
        obtain ⟨i, hi, rfl⟩ := List.getElem_of_mem hx
        exact hp.out i hi (by rw [← HN.out] at hlt; omega)
      rw [this]; rfl
theorem wpList_clear_run {P : Program} (w : World) {ops : Array Oper} {rest : List Oper} {o : Oper} {a : Act} {Q : Exit → Act → World → Prop} (hgd : o.guard = none) (d : Operand) (t : TypeId)
    (ho : o.op = .call { callee := .builtin .clear, args := #[d], argTypes := #[t] }) (v : Value) (hd : a.eval d = v) {v' : Value} {w' : World}
    (hr : (Builtin.clear_ #[t] o.type #[v]).run P w = .ok v' w') (h : wpList P ops Q rest (a.put o.dst v') w') : wpList P ops Q (o :: rest) a w :=
  wpList_plain hgd fun _ hK => by
    unfold Oper.wp execOp
    simp only [ho, resolve, invoke, builtin, Sem.run_bind, Sem.run_pure, Result.andThen_ok, List.map_toArray, List.map_cons, List.map_nil, hd, hr]
    exact hK _ _ h
theorem run_clear_rowK {P : Program} (w : World) (t e ty : TypeId) (z : Value) (ht : P.underlying t = some (.slice e)) (hv : ∀ w, (zeroValue e).run P w = .ok z w) (g o n c : Nat) (cur : Array Value) (te : TypeId) (hn : 0 < n)
    (hg : w.heap[g]? = some (.cells cur te (0, 0))) (h1 : ∀ v ∈ (Builtin.zeroCells z.cells n).toList, v.oneCell' = true) (hfit : o + (Builtin.zeroCells z.cells n).toList.length ≤ cur.size) :
    (Builtin.clear_ #[t] ty #[.slice (some ⟨g, o, none⟩) n c]).run P w = .ok (.tuple #[]) (w.setRow g (cur.toList.take o ++ (Builtin.zeroCells z.cells n).toList ++ cur.toList.drop (o + (Builtin.zeroCells z.cells n).toList.length)).toArray) := by
  obtain ⟨m, rfl⟩ : ∃ m, n = m + 1 := ⟨n - 1, by omega⟩
  have hst := run_storeCells_at P g o te (Builtin.zeroCells z.cells (m + 1)).toList 0 cur w hg (by simpa using hfit) h1
  simp only [Nat.add_zero] at hst
  simp [Builtin.clear_, run_underlying ht, hv, hst]
abbrev ownN (w : World) (B : Nat) (v : Value) (l : List Nd) : Prop := w.ownsRow B 42 6 v l.length (flatE encN l)
theorem ownN_store {w : World} {B g cap : Nat} {l : List Nd} (h : ownN w B (.slice (some ⟨g, 0, none⟩) l.length cap) l) (p : Nat) (hp : p < l.length) (x : Nd) :
    ownN ((((((w.setCell ⟨g, p * 6, none⟩ (.int .i64 x.id)).setCell ⟨g, p * 6 + 1, none⟩ (.int .i64 x.par)).setCell ⟨g, p * 6 + 2, none⟩ (.string x.name)).setCell ⟨g, p * 6 + 3, none⟩ (.int .u64 x.time)).setCell ⟨g, p * 6 + 4, none⟩ (.bool x.ghost)).setCell ⟨g, p * 6 + 5, none⟩ (.bool x.pin)) B (.slice (some ⟨g, 0, none⟩) l.length cap) (l.set p x) := by
  have ho := ((((((h.stored (p * 6) (.int .i64 x.id)).1.stored (p * 6 + 1) (.int .i64 x.par)).1.stored (p * 6 + 2) (.string x.name)).1.stored (p * 6 + 3) (.int .u64 x.time)).1.stored (p * 6 + 4) (.bool x.ghost)).1.stored (p * 6 + 5) (.bool x.pin)).1
  rw [set_node hp] at ho
  unfold ownN
  rw [List.length_set]
  exact ho
theorem ownN_cells {w : World} {B g cap : Nat} {l : List Nd} (h : ownN w B (.slice (some ⟨g, 0, none⟩) l.length cap) l) (p : Nat) (hp : p < l.length) :
    (w.cell? ⟨g, p * 6, none⟩ = some (.int .i64 l[p].id) ∧ w.cell? ⟨g, p * 6 + 1, none⟩ = some (.int .i64 l[p].par) ∧ w.cell? ⟨g, p * 6 + 2, none⟩ = some (.string l[p].name) ∧ w.cell? ⟨g, p * 6 + 3, none⟩ = some (.int .u64 l[p].time) ∧ w.cell? ⟨g, p * 6 + 4, none⟩ = some (.bool l[p].ghost) ∧ w.cell? ⟨g, p * 6 + 5, none⟩ = some (.bool l[p].pin)) ∧ (∀ j, w.frozen? ⟨g, j, none⟩ = false) := by
  have gt := fun (j : Nat) (hj : j < 6) => (h.cellAt (p * 6 + j) (by omega)).trans (flatE_get encN_len l p hp j hj)
  exact ⟨⟨(gt 0 (by decide)).trans rfl, (gt 1 (by decide)).trans rfl, (gt 2 (by decide)).trans rfl, (gt 3 (by decide)).trans rfl, (gt 4 (by decide)).trans rfl, (gt 5 (by decide)).trans rfl⟩, fun j => h.frozenAt j⟩
theorem ownN_block {w : World} {B g n cap : Nat} {l : List Nd} (h : ownN w B (.slice (some ⟨g, 0, none⟩) n cap) l) (hn : l.length = n) : ∃ cur : Array Value, B ≤ g ∧ g < w.heap.size ∧ w.heap[g]? = some (.cells cur 42 (0, 0)) ∧ n ≤ cap ∧ cap ≤ maxLen ∧ cur.size = cap * 6 ∧ cur.toList.take (n * 6) = flatE encN l := by
  subst hn
  rcases h.2 with ⟨h0, _⟩ | ⟨g', cap', cur, hv, hBg, hg, hnc, hm, hcs, ht⟩
  · cases h0
  · injection hv with e1 _ e3
    injection e1 with e1
    injection e1 with e1
    subst e1 e3
    exact ⟨cur, hBg, obj_lt hg, hg, hnc, hm, hcs, ht⟩
theorem zeroNd : ∀ w : World, (zeroValue 42).run Tryd.prog w = .ok (.agg #[.int .i64 0, .int .i64 0, .string ⟨#[]⟩, .int .u64 0, .bool false, .bool false]) w := fun w => Tryd.zeroValue42 w
theorem zerosN_len (n : Nat) : (Builtin.zeroCells (Value.agg #[.int .i64 0, .int .i64 0, .string ⟨#[]⟩, .int .u64 0, .bool false, .bool false]).cells n).toList.length = n * 6 := by simp [Builtin.zeroCells, Value.cells]
theorem zerosN_one (n : Nat) : ∀ v ∈ (Builtin.zeroCells (Value.agg #[.int .i64 0, .int .i64 0, .string ⟨#[]⟩, .int .u64 0, .bool false, .bool false]).cells n).toList, v.oneCell' = true := by
  intro v hv
  simp only [Builtin.zeroCells, Value.cells, Array.toList_map, List.mem_map] at hv
  obtain ⟨i, _, rfl⟩ := hv
  have h2 : i % 6 = 0 ∨ i % 6 = 1 ∨ i % 6 = 2 ∨ i % 6 = 3 ∨ i % 6 = 4 ∨ i % 6 = 5 := by omega
  rcases h2 with h | h | h | h | h | h <;> simp [h, Value.oneCell']
theorem nodesOwn {w : World} {B g cap n : Nat} {l : List Nd} (h : w.ownsRow B 42 6 (.slice (some ⟨g, 0, none⟩) n cap) l.length (flatE encN l)) : NodesAt w (some ⟨g, 0, none⟩) l := nodes_of_own (n := n) h
set_option maxRecDepth 100000 in
set_option maxHeartbeats 4000000 in
theorem tdelete_any (B : Nat) (v : Value) (l : List Nd) (a : Int) (c : Nat) (w : World) (hl : l.length ≤ 1000000) (hown : ownN w B v l) (hc : w.cell? ⟨c, 1, none⟩ = some (.int .i64 a)) (hcB : c < B) (hB : B ≤ w.heap.size) :
    Calls Tryd.prog 69 #[v, .func (.func 70) #[] #[.pointer (some ⟨c, 0, none⟩)]] w fun e w' => (∃ v', e = .returned v' ∧ ownN w' B v' (l.filter (otherN a))) ∧ Below B w w' := by
  obtain ⟨A, cap, rfl⟩ := own_formT hown
  have hat : NodesAt w A l := nodes_of_own hown
  have hix := indexD_any A cap l a c w hl hat hc
  have HIX := Lib.hid hix
  have HO := Lib.hid hown
  have HC := Lib.hid hc
  clear hix hown hc
  obtain ⟨n, hn⟩ : ∃ n, n = l.length := ⟨_, rfl⟩
  have HN := Lib.hid hn
  rw [← hn] at hl HIX
  have HOn : Hid (ownN w B (.slice A n cap) l) := Lib.hid (by rw [hn]; exact HO.out)
  rw [← hn]
  clear hn HO
  cases hi : l.findIdx? (fun x => x.id == a) with
  | none =>
    have hid : idxN l a = -1 := by unfold idxN; rw [hi]
    have hf : l.filter (otherN a) = l := by
      rw [List.findIdx?_eq_none_iff] at hi
      rw [List.filter_eq_self]
      intro x hx
      have := hi x hx
      unfold otherN; rw [this]; rfl
    rw [hid] at HIX
    have HF := Lib.hid hf
    clear hi hid hf hat
    go_enter Tryd.func69, Tryd.ntmps69
    go_wp2_with fail
    refine HIX.out.mono ?_
    rintro e w1 ⟨rfl, hb1⟩
    have H1 := Lib.hid hb1
    clear hb1
    go_wp2
    go_ret
    exact ⟨⟨_, rfl, by rw [HF.out]; have := pw_own_below HOn.out H1.out; exact this⟩, H1.out.mono hB⟩
  | some i0 =>
    have hid : idxN l a = (i0 : Int) := by unfold idxN; rw [hi]
    rw [List.findIdx?_eq_some_iff_getElem] at hi
    obtain ⟨hi0, hia, hib⟩ := hi
    have hst : l.take i0 = (l.take (i0 + 1)).filter (otherN a) := by
      rw [List.take_succ_eq_append_getElem hi0, List.filter_append]
      have h1 : (l.take i0).filter (otherN a) = l.take i0 := by
        rw [List.filter_eq_self]
        intro x hx
        obtain ⟨j, hj, rfl⟩ := List.getElem_of_mem hx
        rw [List.getElem_take]
        have := hib j (by rw [List.length_take] at hj; omega)
        unfold otherN
        simpa using this
      have h2 : ([l[i0]] : List Nd).filter (otherN a) = [] := by
        have : otherN a l[i0] = false := by unfold otherN; rw [hia]; rfl
        simp [this]
      rw [h1, h2, List.append_nil]
    rw [hid] at HIX
    have HST := Lib.hid hst
    have hin : i0 < n := by rw [HN.out]; exact hi0
    obtain ⟨g, rfl⟩ : ∃ g, A = some ⟨g, 0, none⟩ := by
      rcases HOn.out.2 with ⟨hv, _⟩ | ⟨g, _, _, hv, _⟩
      · injection hv with e1 e2 e3; omega
      · injection hv with e1; exact ⟨g, e1⟩
    obtain ⟨hncap, hcapm⟩ : n ≤ cap ∧ cap ≤ maxLen := by
      obtain ⟨_, _, _, _, h1, h2, _, _⟩ := ownN_block HOn.out HN.out.symm
      exact ⟨h1, h2⟩
    unfold maxLen at hcapm
    have hne1 : ((i0 : Int) == -1) = false := by rw [beq_eq_false_iff_ne]; omega
    clear hid hst hia hib hat hi0
    go_enter Tryd.func69, Tryd.ntmps69
    go_wp2_with fail
    refine HIX.out.mono ?_
    rintro e w1 ⟨rfl, hb1⟩
    have H1 := Lib.hid (hb1.mono hB)
    have HO1 : Hid (ownN w1 B (.slice (some ⟨g, 0, none⟩) n cap) l) := Lib.hid (pw_own_below HOn.out hb1)
    have hsz1 := hb1.size
    clear hb1 HIX
    go_wp2_with fail
    go_loopw [5, 6, 7] (fun vi vj _ wr => ∃ (i j : Nat) (L : List Nd), i < j ∧ j ≤ n ∧ vi = .int .i64 i ∧ vj = .int .i64 j ∧ Hid (L.length = n ∧ L.take i = (l.take j).filter (otherN a) ∧ L.drop j = l.drop j) ∧ Hid (ownN wr B (.slice (some ⟨g, 0, none⟩) n cap) L) ∧ Hid (Below B w wr)) (fun _ vj _ _ => n - (intOf vj).toNat)
    case atStart => exact ⟨i0, i0 + 1, l, by omega, by omega, rfl, by go_num, Lib.hid ⟨HN.out.symm, HST.out, rfl⟩, HO1, H1⟩
    case round =>
      obtain ⟨i, j, L, hij, hjn, rfl, rfl, hL, hO, hBw⟩ := hrel
      by_cases hlt : j < n
      · have hjl : j < l.length := by rw [← HN.out]; exact hlt
        have hjL : j < L.length := by rw [hL.out.1]; exact hlt
        have hiL : i < L.length := by rw [hL.out.1]; omega
        have hOL : ownN wr B (.slice (some ⟨g, 0, none⟩) L.length cap) L := by rw [hL.out.1]; exact hO.out
        have hxj : L[j] = l[j] := by
          have h1 : (L.drop j)[0]? = (l.drop j)[0]? := by rw [hL.out.2.2]
          simpa [hjL, hjl] using h1
        obtain ⟨⟨d0, d1, d2, d3, d4, d5⟩, _⟩ := ownN_cells hOL j hjL
        rw [hxj] at d0 d1 d2 d3 d4 d5
        obtain ⟨x, hx⟩ : ∃ x, l[j] = x := ⟨_, rfl⟩
        rw [hx] at d0 d1 d2 d3 d4 d5 hxj
        have hBr := hBw.out.size
        have hcr : wr.cell? ⟨c, 1, none⟩ = some (.int .i64 a) := (hBw.out.cell (p := ⟨c, 1, none⟩) hcB).trans HC.out
        have HX := Lib.hid hx
        have HOL := Lib.hid hOL
        obtain ⟨y0, y1, y2, y3, y4, y5⟩ := x
        have hcl := change1_any ⟨y0, y1, y2, y3, y4, y5⟩ a c (wr.alloc (.cells #[.int .i64 y0, .int .i64 y1, .string y2, .int .u64 y3, .bool y4, .bool y5] 42)) (((Below.refl wr.heap.size wr).alloc (Nat.le_refl _) _).cell (p := ⟨c, 1, none⟩) (show c < wr.heap.size by omega) |>.trans hcr)
        have hbv := Blk.new wr 42 #[.int .i64 y0, .int .i64 y1, .string y2, .int .u64 y3, .bool y4, .bool y5]
        have HBV := Lib.hid hbv
        obtain ⟨q, hq⟩ : ∃ q, q = (y0 == a) := ⟨_, rfl⟩
        unfold valN at hcl
        dsimp only at hcl d0 d1 d2 d3 d4 d5
        rw [← hq] at hcl
        have HCL := Lib.hid hcl
        have HQ := Lib.hid hq
        have hgl : B ≤ g ∧ g < wr.heap.size := by
          obtain ⟨_, a1, a2, _⟩ := ownN_block HOL.out rfl
          exact ⟨a1, a2⟩
        clear hx hcl hq hOL hbv hxj hcr
        go_wp2_with fail
        refine HCL.out.mono ?_
        rintro e w2 ⟨rfl, hb2⟩
        have HV2 := Lib.hid (HBV.out.below hb2 (by simp))
        have HO2 : Hid (ownN w2 B (.slice (some ⟨g, 0, none⟩) L.length cap) L) := Lib.hid (pw_own_below (HOL.out.alloc _) hb2)
        have HB2 := Lib.hid ((hBw.out.alloc (Nat.le_trans hB hBr) (.cells #[.int .i64 y0, .int .i64 y1, .string y2, .int .u64 y3, .bool y4, .bool y5] 42)).trans (hb2.mono (by simp; omega)))
        clear hb2 d0 d1 d2 d3 d4 d5 HCL HBV HOL
        cases q with
        | true =>
          have hnx : otherN a ⟨y0, y1, y2, y3, y4, y5⟩ = false := by unfold otherN; show (!(y0 == a)) = false; rw [← HQ.out]; rfl
          have HNX := Lib.hid hnx
          clear hnx
          go_wp2
          go_roundw
          case rel =>
            refine ⟨i, j + 1, L, by omega, by omega, rfl, by go_num, Lib.hid ⟨hL.out.1, ?_, ?_⟩, by have := HO2; rw [hL.out.1] at this; exact this, HB2⟩
            · rw [List.take_succ_eq_append_getElem hjl, List.filter_append, HX.out, hL.out.2.1]
              simp [HNX.out]
            · rw [← List.drop_drop (i := 1) (j := j), ← List.drop_drop (i := 1) (j := j), hL.out.2.2]
          case measure => simp [intOf]; omega
        | false =>
          have hnx : otherN a ⟨y0, y1, y2, y3, y4, y5⟩ = true := by unfold otherN; show (!(y0 == a)) = true; rw [← HQ.out]; rfl
          have HNX := Lib.hid hnx
          obtain ⟨⟨k0, k1, k2, k3, k4, k5⟩, hfz⟩ := ownN_cells HO2.out i hiL
          have z0 := hfz (i * 6)
          have z1 := hfz (i * 6 + 1)
          have z2 := hfz (i * 6 + 2)
          have z3 := hfz (i * 6 + 3)
          have z4 := hfz (i * 6 + 4)
          have z5 := hfz (i * 6 + 5)
          have v0 : w2.cell? ⟨wr.heap.size, 0, none⟩ = some (.int .i64 y0) := (HV2.out.cell 0).trans rfl
          have v1 : w2.cell? ⟨wr.heap.size, 1, none⟩ = some (.int .i64 y1) := (HV2.out.cell 1).trans rfl
          have v2 : w2.cell? ⟨wr.heap.size, 2, none⟩ = some (.string y2) := (HV2.out.cell 2).trans rfl
          have v3 : w2.cell? ⟨wr.heap.size, 3, none⟩ = some (.int .u64 y3) := (HV2.out.cell 3).trans rfl
          have v4 : w2.cell? ⟨wr.heap.size, 4, none⟩ = some (.bool y4) := (HV2.out.cell 4).trans rfl
          have v5 : w2.cell? ⟨wr.heap.size, 5, none⟩ = some (.bool y5) := (HV2.out.cell 5).trans rfl
          obtain ⟨o0, o1, o2, o3, o4, o5, ho⟩ : ∃ o0 o1 o2 o3 o4 o5, L[i] = (⟨o0, o1, o2, o3, o4, o5⟩ : Nd) := ⟨_, _, _, _, _, _, rfl⟩
          rw [ho] at k0 k1 k2 k3 k4 k5
          dsimp only at k0 k1 k2 k3 k4 k5
          have hst := ownN_store HO2.out i hiL ⟨y0, y1, y2, y3, y4, y5⟩
          dsimp only at hst
          have HST2 := Lib.hid hst
          clear hnx hst ho hfz
          go_wp2
          go_roundw
          case rel =>
            refine ⟨i + 1, j + 1, L.set i ⟨y0, y1, y2, y3, y4, y5⟩, by omega, by omega, by go_num, by go_num, Lib.hid ⟨by rw [List.length_set]; exact hL.out.1, ?_, ?_⟩, by have := HST2; rw [hL.out.1] at this; exact this, ?_⟩
            · rw [List.take_succ_eq_append_getElem (by rw [List.length_set]; exact hiL), List.take_set_of_le (Nat.le_refl _), hL.out.2.1, List.take_succ_eq_append_getElem hjl, List.filter_append, HX.out, List.getElem_set_self]
              simp [HNX.out]
            · rw [List.drop_set_of_lt (by omega), ← List.drop_drop (i := 1) (j := j), ← List.drop_drop (i := 1) (j := j), hL.out.2.2]
            · exact Lib.hid ((((((HB2.out.setCell (p := ⟨g, i * 6, none⟩) hgl.1 _).setCell (p := ⟨g, i * 6 + 1, none⟩) hgl.1 _).setCell (p := ⟨g, i * 6 + 2, none⟩) hgl.1 _).setCell (p := ⟨g, i * 6 + 3, none⟩) hgl.1 _).setCell (p := ⟨g, i * 6 + 4, none⟩) hgl.1 _).setCell (p := ⟨g, i * 6 + 5, none⟩) hgl.1 _)
          case measure => simp [intOf]; omega
      · obtain rfl : j = n := by omega
        have hfin : L.take i = l.filter (otherN a) := by rw [hL.out.2.1, List.take_of_length_le (by rw [← HN.out]; exact Nat.le_refl _)]
        have hLn := hL.out.1
        obtain ⟨cur, hBg, _, hg, hnc, hm, hcs, ht⟩ := ownN_block hO.out hLn
        have hzl := zerosN_len (j - i)
        have hclr : ∀ ty c', (Builtin.clear_ #[25] ty #[.slice (some ⟨g, i * 6, none⟩) (j - i) c']).run Tryd.prog wr = .ok (.tuple #[]) (wr.setRow g (cur.toList.take (i * 6) ++ (Builtin.zeroCells (Value.agg #[.int .i64 0, .int .i64 0, .string ⟨#[]⟩, .int .u64 0, .bool false, .bool false]).cells (j - i)).toList ++ cur.toList.drop (i * 6 + (Builtin.zeroCells (Value.agg #[.int .i64 0, .int .i64 0, .string ⟨#[]⟩, .int .u64 0, .bool false, .bool false]).cells (j - i)).toList.length)).toArray) := fun ty c' =>
          run_clear_rowK wr 25 42 ty _ Tryd.underlying25 zeroNd g (i * 6) (j - i) c' cur 42 (by omega) hg (zerosN_one _) (by rw [hzl, hcs]; omega)
        obtain ⟨R, hR⟩ : ∃ R, R = cur.toList.take (i * 6) ++ (Builtin.zeroCells (Value.agg #[.int .i64 0, .int .i64 0, .string ⟨#[]⟩, .int .u64 0, .bool false, .bool false]).cells (j - i)).toList ++ cur.toList.drop (i * 6 + (Builtin.zeroCells (Value.agg #[.int .i64 0, .int .i64 0, .string ⟨#[]⟩, .int .u64 0, .bool false, .bool false]).cells (j - i)).toList.length) := ⟨_, rfl⟩
        rw [← hR] at hclr
        have hfl : (l.filter (otherN a)).length = i := by rw [← hfin, List.length_take, hLn]; omega
        have hres : ownN (wr.setRow g R.toArray) B (.slice (some ⟨g, 0, none⟩) i cap) (l.filter (otherN a)) ∧ Below B w (wr.setRow g R.toArray) := by
          have hcl : cur.toList.length = cap * 6 := by rw [Array.length_toList, hcs]
          refine ⟨⟨by rw [flatE_length encN_len], .inr ⟨g, cap, R.toArray, by rw [hfl], hBg, setRow_heap wr g cur R.toArray _ _ hg, by rw [hfl]; omega, by unfold maxLen; omega, ?_, ?_⟩⟩, below_setRow' hBw.out hBg _⟩
          · rw [List.size_toArray, hR]; simp only [List.length_append, List.length_take, List.length_drop, hzl, hcl]; omega
          · show List.take _ R = _
            rw [hfl, hR, List.append_assoc, List.take_left' (by rw [List.length_take, hcl]; omega), ← hfin, flatE_take encN_len, ← ht, List.take_take]
            congr 1; omega
        have HRES := Lib.hid hres
        have hci : ¬ (cap = i) := by omega
        clear hres hR hfl hg ht hcs hfin hL hO hBw hLn hzl hm
        go_wp2_with (at_builtin; refine wpList_clear_run _ rfl _ 25 rfl _ rfl (hclr _ _) ?_)
        go_ret
        exact ⟨⟨_, rfl, HRES.out.1⟩, HRES.out.2⟩
end Go.Proofs.YtfdhehjfbcddgaaDoor.Pr
end
section
namespace Go.Proofs.YtfdhehjfbcddgaaDoor.Pr
open Go.RowKit Go.Proofs.YtfdhehjfbcddgaaDoorW.PrintWords Go.Proofs.YtfdhehjfbcddgaaDoorW.PrintLast Go.Proofs.YtfdhehjfbcddgaaDoor
set_option linter.unusedVariables false
set_option maxRecDepth 100000 in
set_option maxHeartbeats 4000000 in
theorem tchange_any (A : Option Addr) (cap : Nat) (l : List Nd) (lv nx nw : Int) (kd a b sn : Int) (tx : ByteArray) (w : World) (hl : l.length ≤ 1000000) (hr : NodesAt w A l) (hp : (findN l a).2 = true → plc l a < l.length) :
    Calls Tryd.prog 43 #[.agg #[.slice A l.length cap, .int .i64 lv, .int .i64 nx, .int .u64 nw], .agg #[.int .i64 kd, .int .i64 a, .int .i64 b, .int .u64 sn, .string tx]] w fun e w' => ∃ v, e = .returned (.tuple #[v, .int .i64 (changeN ⟨l, lv, nx, nw⟩ ⟨kd, a, b, sn, tx⟩).2]) ∧ TrAt w' v (changeN ⟨l, lv, nx, nw⟩ ⟨kd, a, b, sn, tx⟩).1 ∧ Below w.heap.size w w' := by
  have hbel : Below w.heap.size w (((w.alloc (.cells #[.slice A l.length cap, .int .i64 lv, .int .i64 nx, .int .u64 nw] 28)).alloc (.cells #[.int .i64 kd, .int .i64 a, .int .i64 b, .int .u64 sn, .string tx] 62)).alloc (.cells #[.slice none 0 0, .int .i64 0, .int .i64 0, .int .u64 0] 28)) := (((Below.refl _ _).alloc (Nat.le_refl _) _).alloc (by simp) _).alloc (by simp; omega) _
  have hk0 : Blk (((w.alloc (.cells #[.slice A l.length cap, .int .i64 lv, .int .i64 nx, .int .u64 nw] 28)).alloc (.cells #[.int .i64 kd, .int .i64 a, .int .i64 b, .int .u64 sn, .string tx] 62)).alloc (.cells #[.slice none 0 0, .int .i64 0, .int .i64 0, .int .u64 0] 28)) w.heap.size 28 #[.slice A l.length cap, .int .i64 lv, .int .i64 nx, .int .u64 nw] := ((Blk.new w 28 #[.slice A l.length cap, .int .i64 lv, .int .i64 nx, .int .u64 nw]).alloc _).alloc _
  have hk1 : Blk (((w.alloc (.cells #[.slice A l.length cap, .int .i64 lv, .int .i64 nx, .int .u64 nw] 28)).alloc (.cells #[.int .i64 kd, .int .i64 a, .int .i64 b, .int .u64 sn, .string tx] 62)).alloc (.cells #[.slice none 0 0, .int .i64 0, .int .i64 0, .int .u64 0] 28)) (w.heap.size + 1) 62 #[.int .i64 kd, .int .i64 a, .int .i64 b, .int .u64 sn, .string tx] := (blk_new1 w _ _ _).alloc _
  have hk2 : Blk (((w.alloc (.cells #[.slice A l.length cap, .int .i64 lv, .int .i64 nx, .int .u64 nw] 28)).alloc (.cells #[.int .i64 kd, .int .i64 a, .int .i64 b, .int .u64 sn, .string tx] 62)).alloc (.cells #[.slice none 0 0, .int .i64 0, .int .i64 0, .int .u64 0] 28)) (w.heap.size + 1 + 1) 28 #[.slice none 0 0, .int .i64 0, .int .i64 0, .int .u64 0] := blk_new2 w _ _ _ _
  have hr0 := hr.below hbel
  have hfind := fun (b : Int) (w1 : World) (hx : NodesAt w1 A l) => find_any A cap l lv nx nw b w1 hl hx
  have hclone := fun (w1 : World) (h1 : NodesAt w1 A l) => tclone_any A cap l w1 h1 hl
  have hkids := fun (w1 : World) (h1 : NodesAt w1 A l) => kids_any A cap l lv nx nw a w1 hl h1
  have hdel := fun (B : Nat) (v : Value) (c : Nat) (w1 : World) (ho : ownN w1 B v l) (hc : w1.cell? ⟨c, 1, none⟩ = some (.int .i64 a)) (hcB : c < B) (hB : B ≤ w1.heap.size) => tdelete_any B v l a c w1 hl ho hc hcB hB
  have hgh := fun (w1 : World) (h1 : NodesAt w1 A l) (h : (findN l a).2 = true) => with_ghost_any A cap l lv nx nw a w1 hl h1 (hp h)
  have hpn := fun (c : Nat) (w1 : World) (h1 : NodesAt w1 A l) (hc : w1.cell? ⟨c, 2, none⟩ = some (.int .i64 b)) (h : (findN l a).2 = true) => with_pin_any A cap l lv nx nw a b c w1 hl h1 hc (hp h)
  have hmk : changeN ⟨l, lv, nx, nw⟩ ⟨kd, a, b, sn, tx⟩ = if (findN l a).2 = false then (zT, 4) else if a = 1 then (zT, 13) else if (kd = 3 ∧ 0 < (kidsN l lv a).length) ∨ (kd ≠ 3 ∧ (findN l a).1.ghost = true) then (zT, 7) else if kd = 3 then (⟨l.filter (otherN a), lv, nx, nw⟩, 0) else if kd = 2 then (⟨l.set (plc l a) (setGhost (l.getD (plc l a) zN)), lv, nx, nw⟩, 0) else if 1 < b then (zT, 1) else (⟨l.set (plc l a) (setPin b (l.getD (plc l a) zN)), lv, nx, nw⟩, 0) := rfl
  obtain ⟨R, hR⟩ : ∃ R, changeN ⟨l, lv, nx, nw⟩ ⟨kd, a, b, sn, tx⟩ = R := ⟨_, rfl⟩
  rw [hR] at hmk ⊢
  obtain ⟨⟨x, ob⟩, hfa⟩ : ∃ q, findN l a = q := ⟨_, rfl⟩
  rw [hfa] at hmk hgh hpn
  obtain ⟨kn, hkn⟩ : ∃ kn, kidsN l lv a = kn := ⟨_, rfl⟩
  rw [hkn] at hmk hkids
  obtain ⟨km, hkm⟩ : ∃ km, kn.length = km := ⟨_, rfl⟩
  rw [hkm] at hmk hkids
  have HF := Lib.hid hfind
  have HFA := Lib.hid hfa
  have HKI := Lib.hid hkids
  have HGH := Lib.hid hgh
  have HPN := Lib.hid hpn
  have HCL := Lib.hid hclone
  have HDL := Lib.hid hdel
  obtain ⟨n, hn⟩ : ∃ n, l.length = n := ⟨_, rfl⟩
  have HN := Lib.hid hn
  obtain ⟨x0, x1, x2, x3, x4, x5⟩ := x
  dsimp only at hmk
  have HMK := Lib.hid hmk
  have hnf := List.length_filter_le (otherN a) l
  have HNF := Lib.hid hnf
  rw [hn] at hl hbel hk0 hk1 hk2 hr0 HF HCL HKI HGH HPN ⊢
  clear hr hp hfind hclone hkids hdel hgh hpn hmk hR hfa hn hkn hkm hnf
  go_enter Tryd.func43, Tryd.ntmps43
  go_upto_region 1 with fail
  generalize (((w.alloc (.cells #[.slice A n cap, .int .i64 lv, .int .i64 nx, .int .u64 nw] 28)).alloc (.cells #[.int .i64 kd, .int .i64 a, .int .i64 b, .int .u64 sn, .string tx] 62)).alloc (.cells #[.slice none 0 0, .int .i64 0, .int .i64 0, .int .u64 0] 28)) = w0 at hbel hk0 hk1 hk2 hr0 ⊢
  have k0 := hk0
  have k1 := hk1
  have t0 : w0.cell? ⟨w.heap.size, 0, none⟩ = some (.slice A n cap) := (k0.cell 0).trans rfl
  have t1 : w0.cell? ⟨w.heap.size, 1, none⟩ = some (.int .i64 lv) := (k0.cell 1).trans rfl
  have t2 : w0.cell? ⟨w.heap.size, 2, none⟩ = some (.int .i64 nx) := (k0.cell 2).trans rfl
  have t3 : w0.cell? ⟨w.heap.size, 3, none⟩ = some (.int .u64 nw) := (k0.cell 3).trans rfl
  have s0 : w0.cell? ⟨w.heap.size + 1, 0, none⟩ = some (.int .i64 kd) := (k1.cell 0).trans rfl
  have s1 : w0.cell? ⟨w.heap.size + 1, 1, none⟩ = some (.int .i64 a) := (k1.cell 1).trans rfl
  have s2 : w0.cell? ⟨w.heap.size + 1, 2, none⟩ = some (.int .i64 b) := (k1.cell 2).trans rfl
  have s3 : w0.cell? ⟨w.heap.size + 1, 3, none⟩ = some (.int .u64 sn) := (k1.cell 3).trans rfl
  have s4 : w0.cell? ⟨w.heap.size + 1, 4, none⟩ = some (.string tx) := (k1.cell 4).trans rfl
  have HB := Lib.hid hbel
  have HK0 := Lib.hid hk0
  have HK1 := Lib.hid hk1
  have HK2 := Lib.hid hk2
  have HR := Lib.hid hr0
  clear hbel hk0 hk1 hk2 hr0 k0 k1
  have hf1 := HF.out a w0 HR.out
  rw [HFA.out] at hf1
  unfold valN at hf1
  dsimp only at hf1
  have HF1 := Lib.hid hf1
  clear hf1
  go_wp2_with fail
  refine HF1.out.mono ?_
  rintro e w1 ⟨rfl, hb1⟩
  have hbx := hb1.alloc hb1.size (.cells #[.int .i64 x0, .int .i64 x1, .string x2, .int .u64 x3, .bool x4, .bool x5] 42)
  have hx := Blk.new w1 42 #[.int .i64 x0, .int .i64 x1, .string x2, .int .u64 x3, .bool x4, .bool x5]
  clear t0 t1 t2 t3 s0 s1 s2 s3 s4 HF1 hb1
  go_upto_region 2 with fail
  generalize (w1.alloc (.cells #[.int .i64 x0, .int .i64 x1, .string x2, .int .u64 x3, .bool x4, .bool x5] 42)) = w2 at hbx hx ⊢
  have k0 := HK0.out.below hbx HK0.out.lt
  have k1 := HK1.out.below hbx HK1.out.lt
  have k2 := HK2.out.below hbx HK2.out.lt
  have t0 : w2.cell? ⟨w.heap.size, 0, none⟩ = some (.slice A n cap) := (k0.cell 0).trans rfl
  have t1 : w2.cell? ⟨w.heap.size, 1, none⟩ = some (.int .i64 lv) := (k0.cell 1).trans rfl
  have t2 : w2.cell? ⟨w.heap.size, 2, none⟩ = some (.int .i64 nx) := (k0.cell 2).trans rfl
  have t3 : w2.cell? ⟨w.heap.size, 3, none⟩ = some (.int .u64 nw) := (k0.cell 3).trans rfl
  have s0 : w2.cell? ⟨w.heap.size + 1, 0, none⟩ = some (.int .i64 kd) := (k1.cell 0).trans rfl
  have s1 : w2.cell? ⟨w.heap.size + 1, 1, none⟩ = some (.int .i64 a) := (k1.cell 1).trans rfl
  have s2 : w2.cell? ⟨w.heap.size + 1, 2, none⟩ = some (.int .i64 b) := (k1.cell 2).trans rfl
  have s3 : w2.cell? ⟨w.heap.size + 1, 3, none⟩ = some (.int .u64 sn) := (k1.cell 3).trans rfl
  have s4 : w2.cell? ⟨w.heap.size + 1, 4, none⟩ = some (.string tx) := (k1.cell 4).trans rfl
  have c0 : w2.cell? ⟨w.heap.size + 1 + 1, 0, none⟩ = some (.slice none 0 0) := (k2.cell 0).trans rfl
  have c1 : w2.cell? ⟨w.heap.size + 1 + 1, 1, none⟩ = some (.int .i64 0) := (k2.cell 1).trans rfl
  have c2 : w2.cell? ⟨w.heap.size + 1 + 1, 2, none⟩ = some (.int .i64 0) := (k2.cell 2).trans rfl
  have c3 : w2.cell? ⟨w.heap.size + 1 + 1, 3, none⟩ = some (.int .u64 0) := (k2.cell 3).trans rfl
  have f0 := k2.frozen 0
  have f1 := k2.frozen 1
  have f2 := k2.frozen 2
  have f3 := k2.frozen 3
  have g0 := k0.frozen 0
  have e4 : w2.cell? ⟨w1.heap.size, 4, none⟩ = some (.bool x4) := (hx.cell 4).trans rfl
  have hr2 := HR.out.below hbx
  have hb2 := HB.out.trans (hbx.mono HB.out.size)
  have h2lt2 := k2.lt
  clear HK0 HK1 HK2 HR HB HF HFA hx
  have HK0 := Lib.hid k0
  have HK1 := Lib.hid k1
  have HK2 := Lib.hid k2
  have HR := Lib.hid hr2
  have HB := Lib.hid hb2
  clear k0 k1 k2 hr2 hb2 hbx
  cases ob with
  | false =>
    have hR := HMK.out
    rw [if_pos rfl] at hR
    subst hR
    go_wp2_with fail
    have h3 := (((HK2.out.set_ 0 (.slice none 0 0)).set_ 1 (.int .i64 0)).set_ 2 (.int .i64 0)).set_ 3 (.int .u64 0)
    refine bodyPost_ret (results_row_tmp rfl _ _ (w.heap.size + 1 + 1) _ _ _ _ rfl h3 Tryd.underlying28 rfl (by rw [tr_info]; rfl)) rfl ?_
    refine tr_goal (R := (zT, _)) rfl (TrAt.zero _) ?_
    repeat (refine below_set ?_ (by omega))
    exact HB.out
  | true =>
    have hR := HMK.out
    rw [if_neg (by simp)] at hR
    clear HMK
    by_cases h1 : a = 1
    · rw [if_pos h1] at hR
      subst hR
      go_wp2_with fail
      have h3 := (((HK2.out.set_ 0 (.slice none 0 0)).set_ 1 (.int .i64 0)).set_ 2 (.int .i64 0)).set_ 3 (.int .u64 0)
      refine bodyPost_ret (results_row_tmp rfl _ _ (w.heap.size + 1 + 1) _ _ _ _ rfl h3 Tryd.underlying28 rfl (by rw [tr_info]; rfl)) rfl ?_
      refine tr_goal (R := (zT, _)) rfl (TrAt.zero _) ?_
      repeat (refine below_set ?_ (by omega))
      exact HB.out
    · rw [if_neg h1] at hR
      by_cases h3 : kd = 3
      · subst h3
        have HRQ := Lib.hid (show R = if 0 < km then (zT, 7) else (⟨l.filter (otherN a), lv, nx, nw⟩, 0) by rw [hR]; by_cases hkm : 0 < km <;> simp [hkm])
        clear hR
        have hki := HKI.out w2 HR.out
        have HKW := Lib.hid hki
        clear hki HKI HGH HPN
        go_wp2_with fail
        refine HKW.out.mono ?_
        rintro e w3 ⟨v3, rfl, ho3, hb3⟩
        obtain ⟨A3, cp3, rfl⟩ := own_formT ho3
        have k0 := HK0.out.below hb3 HK0.out.lt
        have k1 := HK1.out.below hb3 HK1.out.lt
        have k2 := HK2.out.below hb3 HK2.out.lt
        have hr3 := HR.out.below hb3
        have hb3' := HB.out.trans (hb3.mono HB.out.size)
        have h3lt := k2.lt
        clear t0 t1 t2 t3 s0 s1 s2 s3 s4 c0 c1 c2 c3 f0 f1 f2 f3 g0 e4 HK0 HK1 HK2 HR HB HKW hb3 ho3 h2lt2
        have t0 : w3.cell? ⟨w.heap.size, 0, none⟩ = some (.slice A n cap) := (k0.cell 0).trans rfl
        have t1 : w3.cell? ⟨w.heap.size, 1, none⟩ = some (.int .i64 lv) := (k0.cell 1).trans rfl
        have t2 : w3.cell? ⟨w.heap.size, 2, none⟩ = some (.int .i64 nx) := (k0.cell 2).trans rfl
        have t3 : w3.cell? ⟨w.heap.size, 3, none⟩ = some (.int .u64 nw) := (k0.cell 3).trans rfl
        have s0 : w3.cell? ⟨w.heap.size + 1, 0, none⟩ = some (.int .i64 3) := (k1.cell 0).trans rfl
        have s1 : w3.cell? ⟨w.heap.size + 1, 1, none⟩ = some (.int .i64 a) := (k1.cell 1).trans rfl
        have s2 : w3.cell? ⟨w.heap.size + 1, 2, none⟩ = some (.int .i64 b) := (k1.cell 2).trans rfl
        have s3 : w3.cell? ⟨w.heap.size + 1, 3, none⟩ = some (.int .u64 sn) := (k1.cell 3).trans rfl
        have s4 : w3.cell? ⟨w.heap.size + 1, 4, none⟩ = some (.string tx) := (k1.cell 4).trans rfl
        have c0 : w3.cell? ⟨w.heap.size + 1 + 1, 0, none⟩ = some (.slice none 0 0) := (k2.cell 0).trans rfl
        have c1 : w3.cell? ⟨w.heap.size + 1 + 1, 1, none⟩ = some (.int .i64 0) := (k2.cell 1).trans rfl
        have c2 : w3.cell? ⟨w.heap.size + 1 + 1, 2, none⟩ = some (.int .i64 0) := (k2.cell 2).trans rfl
        have c3 : w3.cell? ⟨w.heap.size + 1 + 1, 3, none⟩ = some (.int .u64 0) := (k2.cell 3).trans rfl
        have f0 := k2.frozen 0
        have f1 := k2.frozen 1
        have f2 := k2.frozen 2
        have f3 := k2.frozen 3
        have g0 := k0.frozen 0
        have HK0 := Lib.hid k0
        have HK1 := Lib.hid k1
        have HK2 := Lib.hid k2
        have HR := Lib.hid hr3
        have HB := Lib.hid hb3'
        clear k0 k1 k2 hr3 hb3'
        by_cases hkm : 0 < km
        · have hR := HRQ.out
          rw [if_pos hkm] at hR
          clear HRQ
          subst hR
          go_wp2_with fail
          have h3 := (((HK2.out.set_ 0 (.slice none 0 0)).set_ 1 (.int .i64 0)).set_ 2 (.int .i64 0)).set_ 3 (.int .u64 0)
          refine bodyPost_ret (results_row_tmp rfl _ _ (w.heap.size + 1 + 1) _ _ _ _ rfl h3 Tryd.underlying28 rfl (by rw [tr_info]; rfl)) rfl ?_
          refine tr_goal (R := (zT, _)) rfl (TrAt.zero _) ?_
          repeat (refine below_set ?_ (by omega))
          exact HB.out
        · have hR := HRQ.out
          rw [if_neg hkm] at hR
          have HRR := Lib.hid hR
          clear hR HRQ
          go_wp2_with fail
          refine (HCL.out _ HR.out).mono ?_
          rintro e w4 ⟨⟨v4, rfl, ho4⟩, hb4⟩
          have k0 := HK0.out.below hb4 HK0.out.lt
          have k1 := HK1.out.below hb4 HK1.out.lt
          have k2 := HK2.out.below hb4 HK2.out.lt
          have hb4' := HB.out.trans (hb4.mono HB.out.size)
          have HDW := Lib.hid (HDL.out w3.heap.size v4 (w.heap.size + 1) w4 (by unfold ownN; rw [HN.out]; exact ho4) ((k1.cell 1).trans rfl) (by omega) hb4.size)
          have s34 := hb4.size
          clear t0 t1 t2 t3 s0 s1 s2 s3 s4 c0 c1 c2 c3 f0 f1 f2 f3 g0 HK0 HK1 HK2 HR HB HCL hb4 ho4 HDL
          have HK0 := Lib.hid k0
          have HK2 := Lib.hid k2
          have HB := Lib.hid hb4'
          clear k0 k1 k2 hb4'
          go_wp2_with fail
          refine HDW.out.mono ?_
          rintro e w5 ⟨⟨v5, rfl, ho5⟩, hb5⟩
          have k0 := HK0.out.below hb5 (by omega)
          have k2 := HK2.out.below hb5 (by omega)
          have hb5' := HB.out.trans (hb5.mono (by omega))
          obtain ⟨A5, cp5, rfl⟩ := own_formT ho5
          have hn5 : NodesAt w5 A5 (l.filter (otherN a)) := nodes_of_own ho5
          have HC5 := Lib.hid (own_le ho5)
          obtain ⟨m5, hm5⟩ : ∃ m5, (l.filter (otherN a)).length = m5 := ⟨_, rfl⟩
          have HM5 := Lib.hid hm5
          rw [hm5]
          clear HK0 HK2 HB hb5 ho5 HDW hm5
          have HK0 := Lib.hid k0
          have HK2 := Lib.hid k2
          have HB := Lib.hid hb5'
          have HN5 := Lib.hid hn5
          have t0 : w5.cell? ⟨w.heap.size, 0, none⟩ = some (.slice A n cap) := (k0.cell 0).trans rfl
          have g0 := k0.frozen 0
          clear k0 k2 hb5' hn5
          go_upto_region 11 with fail
          have k0 := HK0.out.set_ 0 (.slice A5 m5 cp5)
          have k2 := HK2.out.far (p := ⟨w.heap.size, 0, none⟩) (by show w.heap.size + 1 + 1 ≠ w.heap.size; omega) (.slice A5 m5 cp5)
          have hb6 := HB.out.setCell (p := ⟨w.heap.size, 0, none⟩) (Nat.le_refl _) (.slice A5 m5 cp5)
          have hn6 := HN5.out.setB HK0.out (by decide) 0 (.slice A5 m5 cp5)
          clear t0 g0 HK0 HK2 HB HN5
          generalize (w5.setCell ⟨w.heap.size, 0, none⟩ (.slice A5 m5 cp5)) = w6 at k0 k2 hb6 hn6 ⊢
          have t0 : w6.cell? ⟨w.heap.size, 0, none⟩ = some (.slice A5 m5 cp5) := (k0.cell 0).trans rfl
          have t1 : w6.cell? ⟨w.heap.size, 1, none⟩ = some (.int .i64 lv) := (k0.cell 1).trans rfl
          have t2 : w6.cell? ⟨w.heap.size, 2, none⟩ = some (.int .i64 nx) := (k0.cell 2).trans rfl
          have t3 : w6.cell? ⟨w.heap.size, 3, none⟩ = some (.int .u64 nw) := (k0.cell 3).trans rfl
          have c0 : w6.cell? ⟨w.heap.size + 1 + 1, 0, none⟩ = some (.slice none 0 0) := (k2.cell 0).trans rfl
          have c1 : w6.cell? ⟨w.heap.size + 1 + 1, 1, none⟩ = some (.int .i64 0) := (k2.cell 1).trans rfl
          have c2 : w6.cell? ⟨w.heap.size + 1 + 1, 2, none⟩ = some (.int .i64 0) := (k2.cell 2).trans rfl
          have c3 : w6.cell? ⟨w.heap.size + 1 + 1, 3, none⟩ = some (.int .u64 0) := (k2.cell 3).trans rfl
          have f0 := k2.frozen 0
          have f1 := k2.frozen 1
          have f2 := k2.frozen 2
          have f3 := k2.frozen 3
          have HK26 := Lib.hid k2
          have HB6 := Lib.hid hb6
          have HN6 := Lib.hid hn6
          clear k0 k2 hb6 hn6
          go_wp2_with fail
          have h3 := (((HK26.out.set_ 0 (.slice A5 m5 cp5)).set_ 1 (.int .i64 lv)).set_ 2 (.int .i64 nx)).set_ 3 (.int .u64 nw)
          refine bodyPost_ret (results_row_tmp rfl _ _ (w.heap.size + 1 + 1) _ _ _ _ rfl h3 Tryd.underlying28 rfl (by rw [tr_info]; rfl)) rfl ?_
          refine tr_goal (congrArg Prod.snd HRR.out).symm ?_ ?_
          · rw [HRR.out]
            refine ⟨A5, cp5, ?_, HC5.out, ?_⟩
            · rw [HM5.out]; rfl
            · exact HN6.out.set4 HK26.out (by decide) _ _ _ _
          · repeat (refine below_set ?_ (by omega))
            exact HB6.out
      · cases x4 with
        | true =>
          rw [if_pos (.inr ⟨h3, rfl⟩)] at hR
          subst hR
          go_wp2_with fail
          have h3 := (((HK2.out.set_ 0 (.slice none 0 0)).set_ 1 (.int .i64 0)).set_ 2 (.int .i64 0)).set_ 3 (.int .u64 0)
          refine bodyPost_ret (results_row_tmp rfl _ _ (w.heap.size + 1 + 1) _ _ _ _ rfl h3 Tryd.underlying28 rfl (by rw [tr_info]; rfl)) rfl ?_
          refine tr_goal (R := (zT, _)) rfl (TrAt.zero _) ?_
          repeat (refine below_set ?_ (by omega))
          exact HB.out
        | false =>
          rw [if_neg (by simp [h3]), if_neg h3] at hR
          by_cases h2 : kd = 2
          · subst h2
            rw [if_pos rfl] at hR
            have HRR := Lib.hid hR
            have HWC := Lib.hid (HGH.out w2 HR.out rfl)
            clear hR HKI HGH HPN HCL HDL
            go_wp2_with fail
            refine HWC.out.mono ?_
            rintro e w5 ⟨g, cp, rfl, hcp, hn5, hb5⟩
            have HCP := Lib.hid hcp
            clear hcp
            have k2 := HK2.out.below hb5 HK2.out.lt
            have HB5 := Lib.hid (HB.out.trans (hb5.mono HB.out.size))
            clear t0 t1 t2 t3 s0 s1 s2 s3 s4 c0 c1 c2 c3 f0 f1 f2 f3 g0 e4
            have c0 : w5.cell? ⟨w.heap.size + 1 + 1, 0, none⟩ = some (.slice none 0 0) := (k2.cell 0).trans rfl
            have c1 : w5.cell? ⟨w.heap.size + 1 + 1, 1, none⟩ = some (.int .i64 0) := (k2.cell 1).trans rfl
            have c2 : w5.cell? ⟨w.heap.size + 1 + 1, 2, none⟩ = some (.int .i64 0) := (k2.cell 2).trans rfl
            have c3 : w5.cell? ⟨w.heap.size + 1 + 1, 3, none⟩ = some (.int .u64 0) := (k2.cell 3).trans rfl
            have f0 := k2.frozen 0
            have f1 := k2.frozen 1
            have f2 := k2.frozen 2
            have f3 := k2.frozen 3
            have HK25 := Lib.hid k2
            have HN5 := Lib.hid hn5
            clear k2 hb5 hn5 HB HK2 HR HWC
            go_wp2_with fail
            have h3 := (((HK25.out.set_ 0 (.slice (some ⟨g, 0, none⟩) n cp)).set_ 1 (.int .i64 lv)).set_ 2 (.int .i64 nx)).set_ 3 (.int .u64 nw)
            refine bodyPost_ret (results_row_tmp rfl _ _ (w.heap.size + 1 + 1) _ _ _ _ rfl h3 Tryd.underlying28 rfl (by rw [tr_info]; rfl)) rfl ?_
            refine tr_goal (congrArg Prod.snd HRR.out).symm ?_ ?_
            · rw [HRR.out]
              refine ⟨some ⟨g, 0, none⟩, cp, ?_, ?_, ?_⟩
              · rw [show (l.set (plc l a) (setGhost (l.getD (plc l a) zN))).length = n by rw [List.length_set, HN.out]]; rfl
              · rw [show (l.set (plc l a) (setGhost (l.getD (plc l a) zN))).length = n by rw [List.length_set, HN.out]]; exact HCP.out
              · exact HN5.out.set4 HK25.out (by decide) _ _ _ _
            · repeat (refine below_set ?_ (by omega))
              exact HB5.out
          · rw [if_neg h2] at hR
            by_cases hb1 : 1 < b
            · rw [if_pos hb1] at hR
              subst hR
              go_wp2_with fail
              have h3 := (((HK2.out.set_ 0 (.slice none 0 0)).set_ 1 (.int .i64 0)).set_ 2 (.int .i64 0)).set_ 3 (.int .u64 0)
              refine bodyPost_ret (results_row_tmp rfl _ _ (w.heap.size + 1 + 1) _ _ _ _ rfl h3 Tryd.underlying28 rfl (by rw [tr_info]; rfl)) rfl ?_
              refine tr_goal (R := (zT, _)) rfl (TrAt.zero _) ?_
              repeat (refine below_set ?_ (by omega))
              exact HB.out
            · rw [if_neg hb1] at hR
              have HRR := Lib.hid hR
              have HWC := Lib.hid (HPN.out (w.heap.size + 1) w2 HR.out s2 rfl)
              clear hR HKI HGH HPN HCL HDL
              go_wp2_with fail
              refine HWC.out.mono ?_
              rintro e w5 ⟨g, cp, rfl, hcp, hn5, hb5⟩
              have HCP := Lib.hid hcp
              clear hcp
              have k2 := HK2.out.below hb5 HK2.out.lt
              have HB5 := Lib.hid (HB.out.trans (hb5.mono HB.out.size))
              clear t0 t1 t2 t3 s0 s1 s2 s3 s4 c0 c1 c2 c3 f0 f1 f2 f3 g0 e4
              have c0 : w5.cell? ⟨w.heap.size + 1 + 1, 0, none⟩ = some (.slice none 0 0) := (k2.cell 0).trans rfl
              have c1 : w5.cell? ⟨w.heap.size + 1 + 1, 1, none⟩ = some (.int .i64 0) := (k2.cell 1).trans rfl
              have c2 : w5.cell? ⟨w.heap.size + 1 + 1, 2, none⟩ = some (.int .i64 0) := (k2.cell 2).trans rfl
              have c3 : w5.cell? ⟨w.heap.size + 1 + 1, 3, none⟩ = some (.int .u64 0) := (k2.cell 3).trans rfl
              have f0 := k2.frozen 0
              have f1 := k2.frozen 1
              have f2 := k2.frozen 2
              have f3 := k2.frozen 3
              have HK25 := Lib.hid k2
              have HN5 := Lib.hid hn5
              clear k2 hb5 hn5 HB HK2 HR HWC
              go_wp2_with fail
              have h3 := (((HK25.out.set_ 0 (.slice (some ⟨g, 0, none⟩) n cp)).set_ 1 (.int .i64 lv)).set_ 2 (.int .i64 nx)).set_ 3 (.int .u64 nw)
              refine bodyPost_ret (results_row_tmp rfl _ _ (w.heap.size + 1 + 1) _ _ _ _ rfl h3 Tryd.underlying28 rfl (by rw [tr_info]; rfl)) rfl ?_
              refine tr_goal (congrArg Prod.snd HRR.out).symm ?_ ?_
              · rw [HRR.out]
                refine ⟨some ⟨g, 0, none⟩, cp, ?_, ?_, ?_⟩
                · rw [show (l.set (plc l a) (setPin b (l.getD (plc l a) zN))).length = n by rw [List.length_set, HN.out]]; rfl
                · rw [show (l.set (plc l a) (setPin b (l.getD (plc l a) zN))).length = n by rw [List.length_set, HN.out]]; exact HCP.out
                · exact HN5.out.set4 HK25.out (by decide) _ _ _ _
              · repeat (refine below_set ?_ (by omega))
                exact HB5.out
end Go.Proofs.YtfdhehjfbcddgaaDoor.Pr
end
