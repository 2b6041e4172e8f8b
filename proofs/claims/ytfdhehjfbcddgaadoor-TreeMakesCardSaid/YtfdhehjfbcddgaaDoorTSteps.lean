/- tree.Steps: those by which a tree is made. Condition: the nodes are not more than a million. -/
import Derived.Test.YtfdhehjfbcddgaaDoorTLaw0
import Derived.Deep.LoopGhost
namespace Go.Proofs.YtfdhehjfbcddgaaDoor.Pr
open Go.RowKit Go.Proofs.YtfdhehjfbcddgaaDoorW.PrintWords Go.Proofs.YtfdhehjfbcddgaaDoorW.PrintLast Go.Proofs.YtfdhehjfbcddgaaDoor
set_option linter.unusedVariables false
def stepOf (x : Nd) : List St := if x.id = 1 then [] else ⟨1, x.id, x.par, x.time, x.name⟩ :: (if x.pin = true then [⟨5, x.id, 1, 0, ⟨#[]⟩⟩] else [])
def stepsL (l : List Nd) : List St := l.flatMap stepOf
def stepsN (t : Tr) : List St := stepsL t.l ++ [⟨6, t.lv, t.nx, 0, ⟨#[]⟩⟩, ⟨7, 0, 0, t.nw, ⟨#[]⟩⟩]
theorem stepsL_take (l : List Nd) (j : Nat) (h : j < l.length) : stepsL (l.take (j + 1)) = stepsL (l.take j) ++ stepOf l[j] := by
  unfold stepsL
  rw [List.take_succ_eq_append_getElem h, List.flatMap_append]
  simp
theorem stepOf_len (x : Nd) : (stepOf x).length ≤ 2 := by
  unfold stepOf
  split
  · exact Nat.zero_le _
  · split <;> simp
theorem stepsL_len (l : List Nd) : (stepsL l).length ≤ 2 * l.length := by
  unfold stepsL
  induction l with
  | nil => exact Nat.zero_le _
  | cons x l ih =>
    have := stepOf_len x
    rw [List.flatMap_cons, List.length_append, List.length_cons]
    omega
section
variable {P : Program} {ops : Array Oper} {rest : List Oper} {o : Oper} {a : Act} {Q : Exit → Act → World → Prop}
theorem append_two {w0 W : World} (base : Nat) (hgd : o.guard = none) (s x : Operand) (t e : TypeId) (z : Value) (size bytes : Nat)
    (ho : o.op = .call { callee := .builtin .append, args := #[s, x], argTypes := #[t, t] })
    (ht : P.underlying t = some (.slice e)) (hinfo : (P.info? e).map (fun i => (i.zero, i.size, i.bytes)) = some (some z, size, bytes)) (hz : z.cells.size = size) (hs0 : 0 < size) (hb0 : 0 < bytes)
    (v : Value) (n : Nat) (xs ys : List Value) (hs : a.eval s = v) (hx : a.eval x = .slice (some ⟨W.heap.size, 0, none⟩) 2 2) (hys : ys.length = 2 * size) (h1 : ∀ u ∈ ys, u.oneCell' = true)
    (HO : W.ownsRow base e size v n xs) (HB : Below base w0 W) (hbase : base ≤ W.heap.size) (hl : (n + 2) * bytes ≤ 140737488355328)
    (h : ∀ v1 w1, w1.ownsRow base e size v1 (n + 2) (xs ++ ys) → Below base w0 w1 → wpList P ops Q rest (a.put o.dst v1) w1) :
    wpList P ops Q (o :: rest) a (W.alloc (.cells ys.toArray e)) := by
  obtain ⟨i0, hi, hzz⟩ := Option.map_eq_some_iff.1 hinfo
  simp only [Prod.mk.injEq] at hzz
  obtain ⟨hz0, hz1, hz2⟩ := hzz
  have hlen : n + 2 ≤ 140737488355328 := Nat.le_trans (Nat.le_mul_of_pos_right _ hb0) hl
  refine wpList_append_own_at (W.alloc (.cells ys.toArray e)) hgd s x t ho base e i0 z size bytes ht hi hz0 hz1 hz2 hz hs0 v n xs hs (HO.alloc _) ⟨W.heap.size, 0, none⟩ 2 2 ys hx hys
    (by simpa using World.news_of_block (cs := ys.toArray) (t := e) (fr := (0, 0)) (heap_alloc_new W (.cells ys.toArray e))) h1 (by simp only [maxLen]; omega) hl (by simp; omega) ?_
  intro v1 w1 hown hg _ _
  exact h v1 w1 hown ((HB.alloc hbase _).grown hg (by simp; omega) (own_base HO))
end
set_option maxRecDepth 100000 in
set_option maxHeartbeats 8000000 in
theorem steps_any (A : Option Addr) (cap : Nat) (l : List Nd) (lv nx nw : Int) (w : World) (hl : l.length ≤ 1000000) (hr : NodesAt w A l) :
    Calls Tryd.prog 33 #[.agg #[.slice A l.length cap, .int .i64 lv, .int .i64 nx, .int .u64 nw]] w fun e w' => ∃ S sc, e = .returned (.slice S (stepsN ⟨l, lv, nx, nw⟩).length sc) ∧ RowAt 62 encS w' S (stepsN ⟨l, lv, nx, nw⟩) ∧ Below w.heap.size w w' := by
  have hbel : Below w.heap.size w (w.alloc (.cells #[.slice A l.length cap, .int .i64 lv, .int .i64 nx, .int .u64 nw] 28)) := (Below.refl _ _).alloc (Nat.le_refl _) _
  have hk0 := Blk.new w 28 #[.slice A l.length cap, .int .i64 lv, .int .i64 nx, .int .u64 nw]
  have hr0 := hr.below hbel
  have hsz : (w.alloc (.cells #[.slice A l.length cap, .int .i64 lv, .int .i64 nx, .int .u64 nw] 28)).heap.size = w.heap.size + 1 := by simp
  obtain ⟨n, hn⟩ : ∃ n, l.length = n := ⟨_, rfl⟩
  have HN := Lib.hid hn
  rw [hn] at hl hbel hk0 hr0 hsz ⊢
  clear hr hn
  go_enter Tryd.func33, Tryd.ntmps33
  go_upto_region 1 with fail
  generalize (w.alloc (.cells #[.slice A n cap, .int .i64 lv, .int .i64 nx, .int .u64 nw] 28)) = w0 at hbel hk0 hr0 hsz ⊢
  have t0 : w0.cell? ⟨w.heap.size, 0, none⟩ = some (.slice A n cap) := (hk0.cell 0).trans rfl
  have t1 : w0.cell? ⟨w.heap.size, 1, none⟩ = some (.int .i64 lv) := (hk0.cell 1).trans rfl
  have t2 : w0.cell? ⟨w.heap.size, 2, none⟩ = some (.int .i64 nx) := (hk0.cell 2).trans rfl
  have t3 : w0.cell? ⟨w.heap.size, 3, none⟩ = some (.int .u64 nw) := (hk0.cell 3).trans rfl
  have HB := Lib.hid hbel
  have HK := Lib.hid hk0
  have HR := Lib.hid hr0
  have hwl : w.heap.size < w0.heap.size := hk0.lt
  have HO0 := Lib.hid (show w0.ownsRow w0.heap.size 62 5 (.slice none 0 0) (stepsL (l.take 0)).length (flatE encS (stepsL (l.take 0))) from own_nil _ _ _ _)
  clear hbel hk0 hr0 hsz
  go_wp2_with fail
  go_loopg [3, 9] n (fun k v3 v9 wr => ∃ (j m : Nat) (Ai : Option Addr) (ci : Nat), j + k = n ∧ v3 = .slice Ai m ci ∧ v9 = .int .i64 (j : Int) ∧ Hid (m = (stepsL (l.take j)).length) ∧ Hid (wr.ownsRow w0.heap.size 62 5 (.slice Ai m ci) m (flatE encS (stepsL (l.take j)))) ∧ Hid (Below w0.heap.size w0 wr))
  case atStart => exact ⟨0, 0, none, 0, by omega, rfl, rfl, Lib.hid rfl, HO0, Lib.hid (Below.refl _ _)⟩
  case round =>
    clear t0 t1 t2 t3 HO0
    obtain ⟨j, m, Ai, ci, hjk, rfl, rfl, hm, ho, hb⟩ := hrel
    by_cases hlt : j < n
    · have hjl : j < l.length := by rw [HN.out]; exact hlt
      obtain ⟨b, off, hAe, ⟨cs, fr, hob⟩, hcell⟩ := HR.out (by omega)
      subst hAe
      have hblt := obj_lt hob
      obtain ⟨hc0, hc1, hc2, hc3, hc4, hc5⟩ := nodes_get hcell j hjl
      have hml : m ≤ 2 * j := by
        have h1 := stepsL_len (l.take j)
        rw [List.length_take] at h1
        have := hm.out
        omega
      have HST := Lib.hid (stepsL_take l j hjl)
      obtain ⟨x, hx⟩ : ∃ x, l[j]'hjl = x := ⟨_, rfl⟩
      rw [hx] at hc0 hc1 hc2 hc3 hc4 hc5 HST
      obtain ⟨y0, y1, y2, y3, y4, y5⟩ := x
      dsimp only at hc0 hc1 hc2 hc3 hc4 hc5 HST
      have d0 := (hb.out.cell (p := ⟨b, off + j * 6, none⟩) hblt).trans hc0
      have d1 := (hb.out.cell (p := ⟨b, off + j * 6 + 1, none⟩) hblt).trans hc1
      have d2 := (hb.out.cell (p := ⟨b, off + j * 6 + 2, none⟩) hblt).trans hc2
      have d3 := (hb.out.cell (p := ⟨b, off + j * 6 + 3, none⟩) hblt).trans hc3
      have d4 := (hb.out.cell (p := ⟨b, off + j * 6 + 4, none⟩) hblt).trans hc4
      have d5 := (hb.out.cell (p := ⟨b, off + j * 6 + 5, none⟩) hblt).trans hc5
      have HX := Lib.hid (Blk.new wr 42 #[.int .i64 y0, .int .i64 y1, .string y2, .int .u64 y3, .bool y4, .bool y5])
      have HO2 := Lib.hid (ho.out.alloc (.cells #[.int .i64 y0, .int .i64 y1, .string y2, .int .u64 y3, .bool y4, .bool y5] 42))
      have HB2 := Lib.hid (hb.out.alloc hb.out.size (.cells #[.int .i64 y0, .int .i64 y1, .string y2, .int .u64 y3, .bool y4, .bool y5] 42))
      clear hcell hc0 hc1 hc2 hc3 hc4 hc5 hx hob ho
      go_upto_region 5 with fail
      obtain ⟨g, hg⟩ : ∃ g, g = wr.heap.size := ⟨_, rfl⟩
      rw [← hg] at HX ⊢
      revert HX HO2 HB2
      generalize (wr.alloc (.cells #[.int .i64 y0, .int .i64 y1, .string y2, .int .u64 y3, .bool y4, .bool y5] 42)) = w2
      intro HO2 HB2 HX
      have x0 : w2.cell? ⟨g, 0, none⟩ = some (.int .i64 y0) := (HX.out.cell 0).trans rfl
      have x1 : w2.cell? ⟨g, 1, none⟩ = some (.int .i64 y1) := (HX.out.cell 1).trans rfl
      have x2 : w2.cell? ⟨g, 2, none⟩ = some (.string y2) := (HX.out.cell 2).trans rfl
      have x3 : w2.cell? ⟨g, 3, none⟩ = some (.int .u64 y3) := (HX.out.cell 3).trans rfl
      have x4 : w2.cell? ⟨g, 4, none⟩ = some (.bool y4) := (HX.out.cell 4).trans rfl
      have x5 : w2.cell? ⟨g, 5, none⟩ = some (.bool y5) := (HX.out.cell 5).trans rfl
      clear d0 d1 d2 d3 d4 d5 hb hg
      by_cases hi : y0 = 1
      · subst hi
        have hst := HST.out
        rw [show stepOf ⟨1, y1, y2, y3, y4, y5⟩ = [] from rfl, List.append_nil] at hst
        have HST2 := Lib.hid hst
        clear hst HST
        go_wp2_with fail
        go_roundg (gk - 1)
        case measure => omega
        case rel => exact ⟨j + 1, m, Ai, ci, by omega, rfl, by go_num, by rw [HST2.out]; exact hm, by rw [HST2.out]; exact HO2, HB2⟩
      · have hst := HST.out
        have hib : (y0 == 1) = false := by rw [beq_eq_false_iff_ne]; exact hi
        rw [show stepOf ⟨y0, y1, y2, y3, y4, y5⟩ = ⟨1, y0, y1, y3, y2⟩ :: (if y5 = true then [⟨5, y0, 1, 0, ⟨#[]⟩⟩] else []) by unfold stepOf; rw [if_neg hi]] at hst
        have HST2 := Lib.hid hst
        have HKL := Lib.hid (show (m + 1) * 48 ≤ 140737488355328 by omega)
        obtain ⟨X, hX⟩ : ∃ X, X = stepsL (l.take j) := ⟨_, rfl⟩
        rw [← hX] at HO2 HST2 hm
        have HSW := Lib.hid HB2.out.size
        clear hX hst HST
        go_wp2_with (at_builtin; refine print_append_cells (w0 := w0) w0.heap.size rfl _ _ 31 62 _ 5 48 rfl Tryd.underlying31 infoS rfl (by decide) (by decide) (.slice Ai m ci) m (flatE encS X) [.int .i64 1, .int .i64 y0, .int .i64 y1, .int .u64 y3, .string y2] rfl rfl rfl (by intro u hu; simp at hu; rcases hu with rfl | rfl | rfl | rfl | rfl <;> rfl) HO2.out HB2.out HSW.out HKL.out ?_)
        intro v1 w3 hown hb3 hgr _
        obtain ⟨g1, c1, e1, _⟩ := own_formS hown
        subst e1
        have hx3 : Blk w3 g 42 #[.int .i64 y0, .int .i64 y1, .string y2, .int .u64 y3, .bool y4, .bool y5] := (hgr.block g HX.out.lt (own_neT HO2.out HX.out (by decide))).trans HX.out
        have HO3 := Lib.hid (show w3.ownsRow w0.heap.size 62 5 (.slice (some ⟨g1, 0, none⟩) (m + 1) c1) (m + 1) (flatE encS (X ++ [⟨1, y0, y1, y3, y2⟩])) by rw [flatE_append]; exact hown)
        have HB3 := Lib.hid hb3
        clear hown hb3 hgr x0 x1 x2 x3 x4 x5 HO2 HB2 HSW HKL
        have x0 : w3.cell? ⟨g, 0, none⟩ = some (.int .i64 y0) := (hx3.cell 0).trans rfl
        have x1 : w3.cell? ⟨g, 1, none⟩ = some (.int .i64 y1) := (hx3.cell 1).trans rfl
        have x2 : w3.cell? ⟨g, 2, none⟩ = some (.string y2) := (hx3.cell 2).trans rfl
        have x3 : w3.cell? ⟨g, 3, none⟩ = some (.int .u64 y3) := (hx3.cell 3).trans rfl
        have x4 : w3.cell? ⟨g, 4, none⟩ = some (.bool y4) := (hx3.cell 4).trans rfl
        have x5 : w3.cell? ⟨g, 5, none⟩ = some (.bool y5) := (hx3.cell 5).trans rfl
        have HX3 := Lib.hid hx3
        clear hx3 HX
        cases y5 with
        | false =>
          have hst := HST2.out
          rw [if_neg (by decide)] at hst
          have HST3 := Lib.hid hst
          clear hst HST2
          go_wp2_with fail
          go_roundg (gk - 1)
          case measure => omega
          case rel => exact ⟨j + 1, m + 1, some ⟨g1, 0, none⟩, c1, by omega, rfl, by go_num, Lib.hid (by rw [HST3.out, List.length_append, hm.out]; rfl), by rw [HST3.out]; exact HO3, HB3⟩
        | true =>
          have hst := HST2.out
          rw [if_pos rfl] at hst
          have HST3 := Lib.hid (show stepsL (l.take (j + 1)) = (X ++ [⟨1, y0, y1, y3, y2⟩]) ++ [⟨5, y0, 1, 0, ⟨#[]⟩⟩] by rw [hst, List.append_assoc]; rfl)
          have HKL := Lib.hid (show (m + 1 + 1) * 48 ≤ 140737488355328 by omega)
          have HSW := Lib.hid HB3.out.size
          obtain ⟨m1, hm1⟩ : ∃ m1, m1 = m + 1 := ⟨_, rfl⟩
          obtain ⟨X1, hX1⟩ : ∃ X1, X1 = X ++ [(⟨1, y0, y1, y3, y2⟩ : St)] := ⟨_, rfl⟩
          have HX1 := Lib.hid (show X1.length = m1 by rw [hX1, hm1, List.length_append, hm.out]; rfl)
          rw [← hX1] at HO3 HST3
          rw [← hm1] at HO3 HKL ⊢
          clear hst HST2 hX1 hm1 hm
          go_wp2_with (at_builtin; refine print_append_cells (w0 := w0) w0.heap.size rfl _ _ 31 62 _ 5 48 rfl Tryd.underlying31 infoS rfl (by decide) (by decide) (.slice (some ⟨g1, 0, none⟩) m1 c1) m1 (flatE encS X1) [.int .i64 5, .int .i64 y0, .int .i64 1, .int .u64 0, .string ⟨#[]⟩] rfl rfl rfl (by intro u hu; simp at hu; rcases hu with rfl | rfl | rfl | rfl | rfl <;> rfl) HO3.out HB3.out HSW.out HKL.out ?_)
          intro v2 w4 hown hb4 _ _
          obtain ⟨g2, c2, e2, _⟩ := own_formS hown
          subst e2
          have HO4 := Lib.hid (show w4.ownsRow w0.heap.size 62 5 (.slice (some ⟨g2, 0, none⟩) (m1 + 1) c2) (m1 + 1) (flatE encS (X1 ++ [⟨5, y0, 1, 0, ⟨#[]⟩⟩])) by rw [flatE_append]; exact hown)
          have HB4 := Lib.hid hb4
          clear hown hb4 x0 x1 x2 x3 x4 x5 HO3 HB3 HSW HKL HX3
          go_wp2_with fail
          go_roundg (gk - 1)
          case measure => omega
          case rel => exact ⟨j + 1, m1 + 1, some ⟨g2, 0, none⟩, c2, by omega, rfl, by go_num, Lib.hid (by rw [HST3.out, List.length_append, HX1.out]; rfl), by rw [HST3.out]; exact HO4, HB4⟩
    · obtain rfl : j = n := by omega
      have htk : l.take j = l := List.take_of_length_le (by rw [HN.out]; exact Nat.le_refl _)
      rw [htk] at ho hm
      have k0 := HK.out.below hb.out HK.out.lt
      have t0 : wr.cell? ⟨w.heap.size, 0, none⟩ = some (.slice A j cap) := (k0.cell 0).trans rfl
      have t1 : wr.cell? ⟨w.heap.size, 1, none⟩ = some (.int .i64 lv) := (k0.cell 1).trans rfl
      have t2 : wr.cell? ⟨w.heap.size, 2, none⟩ = some (.int .i64 nx) := (k0.cell 2).trans rfl
      have t3 : wr.cell? ⟨w.heap.size, 3, none⟩ = some (.int .u64 nw) := (k0.cell 3).trans rfl
      have hml : m ≤ 2 * j := by
        have h1 := stepsL_len l
        have := hm.out
        have := HN.out
        omega
      have HSN := Lib.hid (show stepsN ⟨l, lv, nx, nw⟩ = stepsL l ++ [⟨6, lv, nx, 0, ⟨#[]⟩⟩, ⟨7, 0, 0, nw, ⟨#[]⟩⟩] from rfl)
      obtain ⟨X, hX⟩ : ∃ X, X = stepsL l := ⟨_, rfl⟩
      rw [← hX] at ho hm HSN
      have HKL := Lib.hid (show (m + 2) * 48 ≤ 140737488355328 by omega)
      have HSW := Lib.hid hb.out.size
      clear htk k0 hX hlt
      go_wp2_with (at_builtin; refine append_two (w0 := w0) w0.heap.size rfl _ _ 31 62 _ 5 48 rfl Tryd.underlying31 infoS rfl (by decide) (by decide) (.slice Ai m ci) m (flatE encS X) [.int .i64 6, .int .i64 lv, .int .i64 nx, .int .u64 0, .string ⟨#[]⟩, .int .i64 7, .int .i64 0, .int .i64 0, .int .u64 nw, .string ⟨#[]⟩] rfl rfl rfl (by intro u hu; simp only [List.mem_cons, List.not_mem_nil, or_false] at hu; rcases hu with rfl | rfl | rfl | rfl | rfl | rfl | rfl | rfl | rfl | rfl <;> rfl) ho.out hb.out HSW.out HKL.out ?_)
      intro v1 w3 hown hb3
      obtain ⟨g1, c1, e1, _⟩ := own_formS (n := m + 1) hown
      subst e1
      have hlen : (stepsN ⟨l, lv, nx, nw⟩).length = m + 2 := by rw [HSN.out, List.length_append, hm.out]; rfl
      have hrow : RowAt 62 encS w3 (some ⟨g1, 0, none⟩) (stepsN ⟨l, lv, nx, nw⟩) := rowAt_own (n := m + 2) (cap := c1) encS_len (by rw [hlen, HSN.out, flatE_append]; exact hown)
      have HRW := Lib.hid hrow
      have HLN := Lib.hid hlen
      have HBW := Lib.hid (HB.out.trans (hb3.mono HB.out.size))
      clear hown hb3 hrow hlen
      go_wp2_with fail
      go_ret
      exact ⟨some ⟨g1, 0, none⟩, c1, by rw [HLN.out]; rfl, HRW.out, HBW.out⟩
end Go.Proofs.YtfdhehjfbcddgaaDoor.Pr
